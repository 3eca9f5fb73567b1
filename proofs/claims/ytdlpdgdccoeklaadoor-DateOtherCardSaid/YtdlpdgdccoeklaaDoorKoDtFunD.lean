import Derived.Test.YtdlpdgdccoeklaaDoorKoDtFunC
/- The fixed facts, and the statements DateWrites and DateThree. -/
namespace Go.Proofs.YtdlpdgdccoeklaaDoor.Dt
open Go.RowKit Go.Proofs.YtdlpdgdccoeklaaDoor.Ext Go.Proofs.YtdlpdgdccoeklaaDoorW.PrintWords Go.Proofs.YtdlpdgdccoeklaaDoorW.PrintMore Go.Proofs.YtdlpdgdccoeklaaDoor.XA Go.Proofs.YtdlpdgdccoeklaaDoor.XB
theorem wf64 {n : Int} (h : (Lit.int .i64 n).wf = true) : -9223372036854775808 ≤ n ∧ n ≤ 9223372036854775807 := by
  simp [Lit.wf, IntKind.min, IntKind.max, IntKind.signed, IntKind.bits] at h
  omega
def nov : Mom := ⟨1994, 11, 6, 31777⟩
theorem nov_ok : nov.ok := by unfold Mom.ok okDay nov; decide
theorem nov_sec : nov.sec = 784111777 := by decide
theorem parse_first {x : Mom} (hx : x.ok) {s : ByteArray} (e : tl s = x.first) (now : Int) (k : Nat) (hk : 20001 < k) : date_Parse.f k s now = some (x.sec, true) := by
  obtain ⟨yr, hy, _⟩ := exists_clamp_year now
  have hz : s.size = 29 := tl_size e (first_length x)
  rw [parse_some s (by omega) now yr hy k hk, e, prs_first hx yr]
  rfl
theorem parse_third {x : Mom} (hx : x.ok) {s : ByteArray} (e : tl s = x.third) (now : Int) (k : Nat) (hk : 20001 < k) : date_Parse.f k s now = some (x.sec, true) := by
  obtain ⟨yr, hy, _⟩ := exists_clamp_year now
  have hz : s.size = 24 := tl_size e (third_length x)
  rw [parse_some s (by omega) now yr hy k hk, e, prs_third hx yr]
  rfl
theorem awake_some (k : Nat) (hk : 20001 < k) : decorumlaw03_awake.f k = some true := by
  unfold decorumlaw03_awake.f
  have e1 := parse_first nov_ok (s := ⟨#[83, 117, 110, 44, 32, 48, 54, 32, 78, 111, 118, 32, 49, 57, 57, 52, 32, 48, 56, 58, 52, 57, 58, 51, 55, 32, 71, 77, 84]⟩) (by decide) 0 k hk
  have e3 := parse_third nov_ok (s := ⟨#[83, 117, 110, 32, 78, 111, 118, 32, 32, 54, 32, 48, 56, 58, 52, 57, 58, 51, 55, 32, 49, 57, 57, 52]⟩) (by decide) 0 k hk
  have e2 : date_Parse.f k ⟨#[83, 117, 110, 100, 97, 121, 44, 32, 48, 54, 45, 78, 111, 118, 45, 57, 52, 32, 48, 56, 58, 52, 57, 58, 51, 55, 32, 71, 77, 84]⟩ 800000000 = some (nov.sec, true) := by
    have hy : InYear (clamp 800000000 / 86400) 1995 := by unfold InYear; decide
    rw [parse_some _ (by decide) 800000000 1995 hy k hk]
    have e : tl (⟨#[83, 117, 110, 100, 97, 121, 44, 32, 48, 54, 45, 78, 111, 118, 45, 57, 52, 32, 48, 56, 58, 52, 57, 58, 51, 55, 32, 71, 77, 84]⟩ : ByteArray) = nov.second := by decide
    rw [e, prs_second nov_ok (by decide)]
    rfl
  rw [e1, e2, e3]
  simp only [Option.bind_some]
  rcases format_some 784111777 (by decide) with ⟨_, _, x, hx, ex, b, hb, t⟩ | ⟨h, _⟩
  · have exn : x = nov := Mom.sec_inj hx nov_ok (by rw [ex, nov_sec])
    subst exn
    rw [hb]
    simp only [Option.bind_some, if_true]
    rw [nov_sec]
    simp only [if_true]
    rw [toList_tl, t, if_pos (by decide)]
    rfl
  · omega
end Go.Proofs.YtdlpdgdccoeklaaDoor.Dt
