import Derived.Test.YtdlpdgdccoeklaaDoorKoExtLib
import Derived.Test.YtdlpdgdccoeklaaDoorKoDtTxt
import Derived.WalkKit
import Derived.Laws.RangeString
import Derived.Laws.RangeAny
/- Contract of date.number: digits alone, so many of them; below 0 otherwise. -/
namespace Go.Proofs.YtdlpdgdccoeklaaDoor.Ext
open Go.RowKit Go.Proofs.YtdlpdgdccoeklaaDoorW.PrintWords
open Go.Proofs.YtdlpdgdccoeklaaDoor.Dt (numF isDig dv isDig_iff)
def date_number.f (s : ByteArray) (size : Int) : Option Int :=
  if (s.size : Int) ≠ size then some (-1) else if s.size ≤ 9 then some ((numF 0 s.data.toList).getD (-1)) else none
theorem drop_at (s : ByteArray) (p : Nat) (h : p < s.size) : s.data.toList.drop p = s[p] :: s.data.toList.drop (p + 1) := by
  rw [List.drop_eq_getElem_cons (by simpa using h)]; rfl
theorem iter_below (w : World) (s : ByteArray) (p : Nat) : Below w.heap.size w (w.iter s p) := (Below.refl _ w).alloc (Nat.le_refl _) _
def tenp (p : Nat) : Int := 10 ^ p
theorem tenp_succ (p : Nat) : tenp (p + 1) = 10 * tenp p := by unfold tenp; rw [Int.pow_succ]; omega
theorem tenp_le : ∀ p : Nat, p ≤ 9 → 1 ≤ tenp p ∧ tenp p ≤ 1000000000 := by
  intro p h
  have : p = 0 ∨ p = 1 ∨ p = 2 ∨ p = 3 ∨ p = 4 ∨ p = 5 ∨ p = 6 ∨ p = 7 ∨ p = 8 ∨ p = 9 := by omega
  rcases this with rfl | rfl | rfl | rfl | rfl | rfl | rfl | rfl | rfl | rfl <;> decide
set_option maxHeartbeats 1000000 in
theorem date_number.calls (s : ByteArray) (size r : Int) (w : World) (h : date_number.f s size = some r) :
    Calls Tryd.prog 40 #[.string s, .int .i64 size] w fun e w' => e = .returned (.int .i64 r) ∧ Below w.heap.size w w' := by
  unfold date_number.f at h
  by_cases hne : (s.size : Int) ≠ size
  · rw [if_pos hne] at h
    obtain rfl := Option.some.inj h
    have c0 : ((s.size : Int) != size) = true := bne_iff_ne.2 hne
    clear h
    go_enter Tryd.func40, Tryd.ntmps40
    go_wp2
    go_ret
    exact ⟨rfl, Below.refl _ _⟩
  · have he : (s.size : Int) = size := by omega
    subst he
    rw [if_neg (by simp)] at h
    split at h
    · rename_i h9
      have hr := Option.some.inj h
      clear h hne
      have HR : Hid ((numF 0 s.data.toList).getD (-1) = r) := hr
      clear hr
      go_enter Tryd.func40, Tryd.ntmps40
      go_wp2
      go_loopw [5] (fun n wr => ∃ (p : Nat) (acc : Int), wr = w.iter s p ∧ n = .int .i64 acc ∧ p ≤ s.size ∧ 0 ≤ acc ∧ acc < tenp p ∧ Hid ((numF acc (s.data.toList.drop p)).getD (-1) = r)) (fun _ wr => s.size - wr.iterPos w.heap.size)
      case atStart => exact ⟨0, 0, rfl, rfl, Nat.zero_le _, Int.le_refl _, by decide, HR⟩
      case round =>
        obtain ⟨p, acc, rfl, rfl, hp, ha0, ha1, HC⟩ := hrel
        by_cases hlt : p < s.size
        · have hten := tenp_le p (by omega)
          have hten1 := tenp_succ p
          have HT : Hid (tenp (p + 1) = 10 * tenp p) := hten1
          clear hten1
          have HD : Hid (s.data.toList.drop p = s[p] :: s.data.toList.drop (p + 1)) := drop_at s p hlt
          by_cases hasc : (s[p]'hlt).toNat < 128
          · have hnx : ∀ ty, (Instr.next (.pointer (some ⟨w.heap.size, 0, none⟩)) true ty).run Tryd.prog (w.iter s p) = _ := fun ty => run_next_ascii w s p ty hlt hasc
            by_cases hdg : 48 ≤ ((s[p]'hlt).toNat : Int) ∧ ((s[p]'hlt).toNat : Int) ≤ 57
            · obtain ⟨hd1, hd2⟩ := hdg
              go_wp2
              go_roundw
              case rel =>
                refine ⟨p + 1, 10 * acc + (((s[p]'hlt).toNat : Int) - 48), rfl, by first | rfl | go_num, by omega, by omega, ?_, ?_⟩
                · rw [HT.out]; omega
                · have h1 := HC.out
                  rw [HD.out] at h1
                  have h2 : isDig (s[p]'hlt) = true := (isDig_iff _).2 ⟨by omega, by omega⟩
                  simp only [numF, h2, if_true] at h1
                  exact h1
              case measure => simp; omega
            · have hret : r = -1 := by
                have h1 := HC.out
                rw [HD.out] at h1
                have h2 : isDig (s[p]'hlt) = false := by
                  cases hb : isDig (s[p]'hlt) with
                  | false => rfl
                  | true => exact absurd ((isDig_iff _).1 hb) (by omega)
                simp only [numF, h2, Bool.false_eq_true, if_false, Option.getD_none] at h1
                exact h1.symm
              subst hret
              by_cases hd1 : ((s[p]'hlt).toNat : Int) < 48
              · clear hdg
                go_wp2
                go_ret
                exact ⟨rfl, iter_below _ _ _⟩
              · have hd2 : (57 : Int) < ((s[p]'hlt).toNat : Int) := by omega
                have hd3 : (48 : Int) ≤ ((s[p]'hlt).toNat : Int) := by omega
                clear hdg hd1
                go_wp2
                go_ret
                exact ⟨rfl, iter_below _ _ _⟩
          · have hnx : ∀ ty, (Instr.next (.pointer (some ⟨w.heap.size, 0, none⟩)) true ty).run Tryd.prog (w.iter s p) = _ := fun ty => run_next_any w s p ty hlt
            have hhi := (decode_high s p hlt (by omega)).1
            have hret : r = -1 := by
              have h1 := HC.out
              rw [HD.out] at h1
              have h2 : isDig (s[p]'hlt) = false := by
                cases hb : isDig (s[p]'hlt) with
                | false => rfl
                | true => exact absurd ((isDig_iff _).1 hb) (by omega)
              simp only [numF, h2, Bool.false_eq_true, if_false, Option.getD_none] at h1
              exact h1.symm
            subst hret
            generalize Utf8.decode s p = dd at hnx hhi
            have hd2 : (57 : Int) < (dd.1 : Int) := by omega
            have hd3 : (48 : Int) ≤ (dd.1 : Int) := by omega
            go_wp2
            go_ret
            exact ⟨rfl, iter_below _ _ _⟩
        · have hnx : ∀ ty, (Instr.next (.pointer (some ⟨w.heap.size, 0, none⟩)) true ty).run Tryd.prog (w.iter s p) = _ := fun ty => run_next_end w s p ty hlt
          have hret : acc = r := by
            have h1 := HC.out
            rw [List.drop_of_length_le (by simp; omega)] at h1
            simpa [numF] using h1
          subst hret
          go_wp2
          go_ret
          exact ⟨rfl, iter_below _ _ _⟩
    · cases h
end Go.Proofs.YtdlpdgdccoeklaaDoor.Ext
