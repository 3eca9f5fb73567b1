import Derived.Test.YtdlpdgdccoeklaaDoorKoDtFunE
import Derived.Test.YtdlpdgdccoeklaaDoorKoExtDateO
/- The statement DateOther: its walk, whatever the input. -/
namespace Go.Proofs.YtdlpdgdccoeklaaDoor.Dt
open Go.RowKit Go.Proofs.YtdlpdgdccoeklaaDoor.Ext Go.Proofs.YtdlpdgdccoeklaaDoorW.PrintWords Go.Proofs.YtdlpdgdccoeklaaDoorW.PrintLast Go.Proofs.YtdlpdgdccoeklaaDoorW.PrintMore Go.Proofs.YtdlpdgdccoeklaaDoor.XA Go.Proofs.YtdlpdgdccoeklaaDoor.XB
theorem wfu8 {n : Int} (h : (Lit.int .u8 n).wf = true) : 0 ≤ n ∧ n ≤ 255 := by
  simp [Lit.wf, IntKind.min, IntKind.max, IntKind.signed, IntKind.bits] at h
  omega
theorem dateOther.walk (_P : True) (y m d t at_ c : Int) (w : World) (hG : Gl w) (_w0 : (Lit.int .i64 y).wf = true) (_w1 : (Lit.int .i64 m).wf = true) (_w2 : (Lit.int .i64 d).wf = true) (w3 : (Lit.int .i64 t).wf = true) (w4 : (Lit.int .u8 at_).wf = true) (w5 : (Lit.int .u8 c).wf = true) :
    Calls Tryd.prog 5 #[.int .i64 y, .int .i64 m, .int .i64 d, .int .i64 t, .int .u8 at_, .int .u8 c] w fun e w' => e = .returned (.bool true) ∧ Below w.heap.size w w' := by
  have h3 := wf64 w3
  have h4 := wfu8 w4
  have h5 := wfu8 w5
  have hA : Hid (decorumlaw03_awake.f 20002 = some true) := awake_some 20002 (by decide)
  rcases moment_some y m d t h3 20002 (by decide) with ⟨x, hx, ex, hmo⟩ | ⟨a, b, e, hmo⟩
  · obtain ⟨fb, hfi, tx⟩ := first_text x hx
    subst ex
    have hz : fb.size = 29 := tl_size tx (first_length _)
    have hat : IntKind.i64.wrap at_ = at_ := by rw [i64_w]; exact wrap_in (by omega)
    have hq : Int.tmod at_ 29 = at_ % 29 := Int.tmod_eq_emod_of_nonneg h4.1
    have hi0 : 0 ≤ at_ % 29 := by omega
    have hi1 : at_ % 29 < 29 := by omega
    have hlt : (at_ % 29).toNat < fb.size := by omega
    by_cases hs : ((fb[(at_ % 29).toNat]'hlt).toNat : Int) = c
    · exact other_same y m d t at_ c 20002 _ _ _ _ fb (at_ % 29) hz hat hq hi0 hi1 hmo hfi hs w hG hA
    · obtain ⟨yr, hy, hyr, _⟩ := exists_clamp_year 0
      have hsz : (setB fb (at_ % 29) c).size = 29 := by
        show (fb.data.toList.set _ _).length = 29
        rw [List.length_set]; exact hz
      have hP := parse_some (setB fb (at_ % 29) c) (by omega) 0 yr hy 20002 (by decide)
      have ht : tl (setB fb (at_ % 29) c) = (Mom.first ⟨y, m, d, t⟩).set (at_ % 29).toNat (UInt8.ofNat c.toNat) := by
        rw [← tx]
        exact tl_mk _
      rw [ht] at hP
      cases hp : prs ((Mom.first ⟨y, m, d, t⟩).set (at_ % 29).toNat (UInt8.ofNat c.toNat)) yr with
      | none =>
        rw [hp] at hP
        exact other_refused y m d t at_ c 20002 _ _ _ _ fb (at_ % 29) hz hat hq hi0 hi1 hmo hfi (beq_eq_false_iff_ne.2 hs) h5 0 hP w hG hA
      | some n =>
        rw [hp] at hP
        have hne := prs_other hx (by omega) (i := (at_ % 29).toNat) (c := UInt8.ofNat c.toNat) (by omega) (fun hg => by
          apply hs
          have hg2 : (tl fb)[(at_ % 29).toNat]? = some (fb[(at_ % 29).toNat]'hlt) := List.getElem?_eq_getElem hlt
          rw [tx, hg] at hg2
          have := Option.some.inj hg2
          rw [← this]
          simp
          omega) hp
        exact other_another y m d t at_ c 20002 _ _ _ _ fb (at_ % 29) hz hat hq hi0 hi1 hmo hfi (beq_eq_false_iff_ne.2 hs) h5 n hP (bne_iff_ne.2 hne.1) (decide_eq_true (by omega)) w hG hA
  · exact other_none y m d t at_ c 20002 _ _ _ _ hmo w hG hA
end Go.Proofs.YtdlpdgdccoeklaaDoor.Dt
