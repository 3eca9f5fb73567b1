import Derived.Test.YtpnofnmecjagcaaDoorProg
import Derived.Test.YtpnofnmecjagcaaDoorKkWWords
import Derived.WalkKit
import Derived.Laws.RangeString
import Derived.Laws.RangeAny
import Derived.Lib.Hide
import Derived.IntWalk
import Derived.Lib.Fields
/- Contract of url.label: small letters, digits and hyphens alone, 1 to 63 of them, no hyphen at either end. -/
namespace Go.Proofs.YtpnofnmecjagcaaDoor.Ext
open Go.RowKit Go.Proofs.YtpnofnmecjagcaaDoorW.PrintWords
theorem drop_at (s : ByteArray) (p : Nat) (h : p < s.size) : s.data.toList.drop p = s[p] :: s.data.toList.drop (p + 1) := by
  rw [List.drop_eq_getElem_cons (by simpa using h)]; rfl
theorem iter_below (w : World) (s : ByteArray) (p : Nat) : Below w.heap.size w (w.iter s p) := (Below.refl _ w).alloc (Nat.le_refl _) _
/-- A sign of a name's part. -/
def lab (c : UInt8) : Bool := c.toNat == 45 || (decide (48 ≤ c.toNat) && decide (c.toNat ≤ 57)) || (decide (97 ≤ c.toNat) && decide (c.toNat ≤ 122))
theorem lab_iff (c : UInt8) : lab c = true ↔ c.toNat = 45 ∨ (48 ≤ c.toNat ∧ c.toNat ≤ 57) ∨ (97 ≤ c.toNat ∧ c.toNat ≤ 122) := by
  unfold lab; simp; omega
def url_label.f (s : ByteArray) : Option Bool :=
  if s.size ≤ 140737488351232 then some (s.data.toList.all lab && (decide (1 ≤ s.size) && decide (s.size ≤ 63) && !(s.data.toList.getD 0 0 == 45) && !(s.data.toList.getD (s.size - 1) 0 == 45))) else none
theorem all_step {s : ByteArray} {p : Nat} (h : p < s.size) (hl : lab s[p] = true) : (s.data.toList.drop p).all lab = (s.data.toList.drop (p + 1)).all lab := by
  rw [drop_at s p h, List.all_cons, hl, Bool.true_and]
theorem all_no {s : ByteArray} {p : Nat} (h : p < s.size) (hl : lab s[p] = false) : (s.data.toList.drop p).all lab = false := by
  rw [drop_at s p h, List.all_cons, hl, Bool.false_and]
theorem getD_at (s : ByteArray) (p : Nat) (h : p < s.size) : s.data.toList.getD p 0 = s[p] := by
  rw [List.getD_eq_getElem?_getD, List.getElem?_eq_getElem (by simpa using h)]; rfl
set_option maxHeartbeats 2000000 in
theorem url_label.calls (s : ByteArray) (r : Bool) (w : World) (h : url_label.f s = some r) :
    Calls Tryd.prog 62 #[.string s] w fun e w' => e = .returned (.bool r) ∧ Below w.heap.size w w' := by
  unfold url_label.f at h
  split at h
  case isFalse => cases h
  rename_i hs
  have hr : (s.data.toList.all lab && (decide (1 ≤ s.size) && decide (s.size ≤ 63) && !(s.data.toList.getD 0 0 == 45) && !(s.data.toList.getD (s.size - 1) 0 == 45))) = r := Option.some.inj h
  clear h
  obtain ⟨T, hT⟩ : ∃ T, (decide (1 ≤ s.size) && decide (s.size ≤ 63) && !(s.data.toList.getD 0 0 == 45) && !(s.data.toList.getD (s.size - 1) 0 == 45)) = T := ⟨_, rfl⟩
  rw [hT] at hr
  have HT := Lib.hid hT
  have HR := Lib.hid hr
  clear hT hr
  go_enter Tryd.func62, Tryd.ntmps62
  go_wp2
  go_loopw [] (fun wr => ∃ (p : Nat), wr = w.iter s p ∧ p ≤ s.size ∧ Hid (((s.data.toList.drop p).all lab && T) = r)) (fun wr => s.size - wr.iterPos w.heap.size)
  case atStart => exact ⟨0, rfl, Nat.zero_le _, HR⟩
  case round =>
    obtain ⟨p, rfl, hp, HC⟩ := hrel
    by_cases hlt : p < s.size
    · by_cases hasc : (s[p]'hlt).toNat < 128
      · have hnx : ∀ ty, (Instr.next (.pointer (some ⟨w.heap.size, 0, none⟩)) true ty).run Tryd.prog (w.iter s p) = _ := fun ty => run_next_ascii w s p ty hlt hasc
        cases hl : lab (s[p]'hlt) with
        | true =>
          have HS := Lib.hid (all_step hlt hl)
          have h1 := (lab_iff _).1 hl
          clear hl
          rcases h1 with h1 | ⟨h1, h2⟩ | ⟨h1, h2⟩
          · have e1 : (((s[p]'hlt).toNat : Int) != 45) = false := by rw [h1]; rfl
            clear h1
            go_wp2
            go_roundw
            case rel => exact ⟨p + 1, rfl, by omega, Lib.hid (by rw [← HS.out]; exact HC.out)⟩
            case measure => simp; omega
          · have h1' : (48 : Int) ≤ ((s[p]'hlt).toNat : Int) := by omega
            have h2' : ((s[p]'hlt).toNat : Int) ≤ 57 := by omega
            have e1 : (((s[p]'hlt).toNat : Int) != 45) = true := bne_iff_ne.2 (by omega)
            clear h1 h2
            go_wp2
            go_roundw
            case rel => exact ⟨p + 1, rfl, by omega, Lib.hid (by rw [← HS.out]; exact HC.out)⟩
            case measure => simp; omega
          · have h1' : (97 : Int) ≤ ((s[p]'hlt).toNat : Int) := by omega
            have h0' : (48 : Int) ≤ ((s[p]'hlt).toNat : Int) := by omega
            have h3' : (57 : Int) < ((s[p]'hlt).toNat : Int) := by omega
            have h2' : ((s[p]'hlt).toNat : Int) ≤ 122 := by omega
            have e1 : (((s[p]'hlt).toNat : Int) != 45) = true := bne_iff_ne.2 (by omega)
            clear h1 h2
            go_wp2
            go_roundw
            case rel => exact ⟨p + 1, rfl, by omega, Lib.hid (by rw [← HS.out]; exact HC.out)⟩
            case measure => simp; omega
        | false =>
          have hret : r = false := by rw [← HC.out, all_no hlt hl, Bool.false_and]
          subst hret
          have h1 : ¬ _ := fun h => Bool.false_ne_true (hl.symm.trans ((lab_iff _).2 h))
          have e1 : (((s[p]'hlt).toNat : Int) != 45) = true := bne_iff_ne.2 (by omega)
          clear hl
          by_cases c1 : (s[p]'hlt).toNat < 48
          · have c1' : ((s[p]'hlt).toNat : Int) < 48 := by omega
            have c2' : ((s[p]'hlt).toNat : Int) < 97 := by omega
            clear c1 h1
            go_wp2
            go_ret
            exact ⟨rfl, iter_below _ _ _⟩
          · by_cases c2 : (s[p]'hlt).toNat < 97
            · have c1' : (48 : Int) ≤ ((s[p]'hlt).toNat : Int) := by omega
              have c3' : (57 : Int) < ((s[p]'hlt).toNat : Int) := by omega
              have c2' : ((s[p]'hlt).toNat : Int) < 97 := by omega
              clear c1 c2 h1
              go_wp2
              go_ret
              exact ⟨rfl, iter_below _ _ _⟩
            · have c1' : (48 : Int) ≤ ((s[p]'hlt).toNat : Int) := by omega
              have c3' : (57 : Int) < ((s[p]'hlt).toNat : Int) := by omega
              have c2' : (97 : Int) ≤ ((s[p]'hlt).toNat : Int) := by omega
              have c4' : (122 : Int) < ((s[p]'hlt).toNat : Int) := by omega
              clear c1 c2 h1
              go_wp2
              go_ret
              exact ⟨rfl, iter_below _ _ _⟩
      · have hnx : ∀ ty, (Instr.next (.pointer (some ⟨w.heap.size, 0, none⟩)) true ty).run Tryd.prog (w.iter s p) = _ := fun ty => run_next_any w s p ty hlt
        have hhi := (decode_high s p hlt (by omega)).1
        have hret : r = false := by
          rw [← HC.out, all_no hlt (by cases hb : lab (s[p]'hlt) with
            | false => rfl
            | true => exact absurd ((lab_iff _).1 hb) (by omega)), Bool.false_and]
        subst hret
        generalize Utf8.decode s p = dd at hnx hhi
        have c1' : (48 : Int) ≤ (dd.1 : Int) := by omega
        have c3' : (57 : Int) < (dd.1 : Int) := by omega
        have c2' : (97 : Int) ≤ (dd.1 : Int) := by omega
        have c4' : (122 : Int) < (dd.1 : Int) := by omega
        have e1 : ((dd.1 : Int) != 45) = true := bne_iff_ne.2 (by omega)
        go_wp2
        go_ret
        exact ⟨rfl, iter_below _ _ _⟩
    · have hnx : ∀ ty, (Instr.next (.pointer (some ⟨w.heap.size, 0, none⟩)) true ty).run Tryd.prog (w.iter s p) = _ := fun ty => run_next_end w s p ty hlt
      have hret : T = r := by
        have h1 := HC.out
        rw [List.drop_of_length_le (by simp; omega)] at h1
        simpa using h1
      subst hret
      have hT := HT.out
      clear HT HC HR
      by_cases z : s.size = 0
      · have zs : s.toList = [] := by
          rw [Lib.toList_data]; exact List.length_eq_zero_iff.1 (by simpa using z)
        have : T = false := by rw [← hT, z]; rfl
        subst this
        clear hT z
        go_wp2
        go_ret
        exact ⟨rfl, iter_below _ _ _⟩
      · have zs : (!s.toList.isEmpty) = true := by
          rw [Lib.toList_data]
          cases hh : s.data.toList with
          | nil => exact absurd (by have := congrArg List.length hh; simpa using this) z
          | cons _ _ => rfl
        by_cases z63 : s.size ≤ 63
        · have z63' : (s.size : Int) ≤ 63 := by omega
          have zl : 0 < s.size := by omega
          have zm : s.size - 1 < s.size := by omega
          rw [getD_at s 0 zl, getD_at s (s.size - 1) zm, decide_eq_true (show 1 ≤ s.size by omega), decide_eq_true z63, Bool.true_and, Bool.true_and] at hT
          have hlast : IntKind.i64.wrap ((s.size : Int) - 1) = ((s.size - 1 : Nat) : Int) := by rw [IntWalk.i64_in _ (by omega)]; omega
          have hb0 : (s[0] == 45) = decide (s[0].toNat = 45) := by rw [Bool.eq_iff_iff]; simp [← UInt8.toNat_inj]
          have hb1 : (s[s.size - 1] == 45) = decide (s[s.size - 1].toNat = 45) := by rw [Bool.eq_iff_iff]; simp [← UInt8.toNat_inj]
          rw [hb0, hb1] at hT
          clear hb0 hb1
          by_cases e0 : s[0].toNat = 45
          · have : T = false := by rw [← hT, decide_eq_true e0]; rfl
            subst this
            clear hT
            have e0' : ((s[0].toNat : Int) != 45) = false := by rw [e0]; rfl
            clear e0 z63 z
            go_wp2
            go_ret
            exact ⟨rfl, iter_below _ _ _⟩
          · have e0' : ((s[0].toNat : Int) != 45) = true := bne_iff_ne.2 (by omega)
            rw [decide_eq_false e0] at hT
            clear e0
            by_cases e1 : s[s.size - 1].toNat = 45
            · have : T = false := by rw [← hT, decide_eq_true e1]; rfl
              subst this
              clear hT
              have e1' : ((s[s.size - 1].toNat : Int) != 45) = false := by rw [e1]; rfl
              clear e1 z63 z
              go_wp2
              go_ret
              exact ⟨rfl, iter_below _ _ _⟩
            · have e1' : ((s[s.size - 1].toNat : Int) != 45) = true := bne_iff_ne.2 (by omega)
              have : T = true := by rw [← hT, decide_eq_false e1]; rfl
              subst this
              clear hT e1 z63 z
              go_wp2
              go_ret
              exact ⟨rfl, iter_below _ _ _⟩
        · have z63' : (63 : Int) < (s.size : Int) := by omega
          have : T = false := by rw [← hT, decide_eq_false z63]; simp
          subst this
          clear hT z z63
          go_wp2
          go_ret
          exact ⟨rfl, iter_below _ _ _⟩
end Go.Proofs.YtpnofnmecjagcaaDoor.Ext
