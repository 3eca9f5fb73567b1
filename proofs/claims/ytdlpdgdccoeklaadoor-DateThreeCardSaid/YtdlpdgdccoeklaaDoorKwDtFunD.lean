import Derived.Test.YtdlpdgdccoeklaaDoorKwDtFunC
/- The fixed facts, and the statements DateWrites and DateThree. -/
namespace Go.Proofs.YtdlpdgdccoeklaaDoor.Dt
open Go.RowKit Go.Proofs.YtdlpdgdccoeklaaDoor.Ext Go.Proofs.YtdlpdgdccoeklaaDoorW.PrintWords Go.Proofs.YtdlpdgdccoeklaaDoorW.PrintMore Go.Proofs.YtdlpdgdccoeklaaDoor.XA Go.Proofs.YtdlpdgdccoeklaaDoor.XB
theorem wf64 {n : Int} (h : (Lit.int .i64 n).wf = true) : -9223372036854775808 ≤ n ∧ n ≤ 9223372036854775807 := by
  simp [Lit.wf, IntKind.min, IntKind.max, IntKind.signed, IntKind.bits] at h
  omega
theorem wfu32 {n : Int} (h : (Lit.int .u32 n).wf = true) : 0 ≤ n ∧ n ≤ 4294967295 := by
  simp [Lit.wf, IntKind.min, IntKind.max, IntKind.signed, IntKind.bits] at h
  omega
def nov : Mom := ⟨1994, 11, 6, 31777⟩
theorem nov_ok : nov.ok := by unfold Mom.ok okDay nov; decide
theorem nov_sec : nov.sec = 784111777 := by decide
theorem parse_first {x : Mom} (hx : x.ok) {s : ByteArray} (e : tl s = x.first) (now : Int) (k : Nat) (hk : 20001 < k) : date_Parse.f k s now = some (x.sec, true) := by
  obtain ⟨yr, hy, _⟩ := exists_clamp_year now
  have hz : s.size = 29 := tl_size e (first_length x)
  rw [parse_some s (by omega) now yr hy k hk, e, prs_first hx yr]
  rfl
theorem parse_third {x : Mom} (hx : x.ok) {s : ByteArray} (e : tl s = x.third) (now : Int) (k : Nat) (hk : 20001 < k) : date_Parse.f k s now = some (x.sec, true) := by
  obtain ⟨yr, hy, _⟩ := exists_clamp_year now
  have hz : s.size = 24 := tl_size e (third_length x)
  rw [parse_some s (by omega) now yr hy k hk, e, prs_third hx yr]
  rfl
theorem awake_some (k : Nat) (hk : 20001 < k) : decorumlaw03_awake.f k = some true := by
  unfold decorumlaw03_awake.f
  have e1 := parse_first nov_ok (s := ⟨#[83, 117, 110, 44, 32, 48, 54, 32, 78, 111, 118, 32, 49, 57, 57, 52, 32, 48, 56, 58, 52, 57, 58, 51, 55, 32, 71, 77, 84]⟩) (by decide) 0 k hk
  have e3 := parse_third nov_ok (s := ⟨#[83, 117, 110, 32, 78, 111, 118, 32, 32, 54, 32, 48, 56, 58, 52, 57, 58, 51, 55, 32, 49, 57, 57, 52]⟩) (by decide) 0 k hk
  have e2 : date_Parse.f k ⟨#[83, 117, 110, 100, 97, 121, 44, 32, 48, 54, 45, 78, 111, 118, 45, 57, 52, 32, 48, 56, 58, 52, 57, 58, 51, 55, 32, 71, 77, 84]⟩ 800000000 = some (nov.sec, true) := by
    have hy : InYear (clamp 800000000 / 86400) 1995 := by unfold InYear; decide
    rw [parse_some _ (by decide) 800000000 1995 hy k hk]
    have e : tl (⟨#[83, 117, 110, 100, 97, 121, 44, 32, 48, 54, 45, 78, 111, 118, 45, 57, 52, 32, 48, 56, 58, 52, 57, 58, 51, 55, 32, 71, 77, 84]⟩ : ByteArray) = nov.second := by decide
    rw [e, prs_second nov_ok (by decide)]
    rfl
  rw [e1, e2, e3]
  simp only [Option.bind_some]
  rcases format_some 784111777 (by decide) with ⟨_, _, x, hx, ex, b, hb, t⟩ | ⟨h, _⟩
  · have exn : x = nov := Mom.sec_inj hx nov_ok (by rw [ex, nov_sec])
    subst exn
    rw [hb]
    simp only [Option.bind_some, if_true]
    rw [nov_sec]
    simp only [if_true]
    rw [toList_tl, t, if_pos (by decide)]
    rfl
  · omega
theorem dateWrites : decorumlaw03_DateWrites.Pure := by
  intro a0 a1 w0 w1
  have h0 := wf64 w0
  refine ⟨20002, ?_⟩
  unfold decorumlaw03_DateWrites.f
  rw [awake_some 20002 (by decide)]
  rcases format_some a0 h0 with ⟨_, _, x, hx, ex, b, hb, t⟩ | ⟨h, hb⟩
  · rw [hb]
    simp only [Option.bind_some, if_true]
    rw [parse_first hx t a1 20002 (by decide)]
    simp only [Option.bind_some, if_true]
    have hz : b.size = 29 := tl_size t (first_length x)
    rw [if_pos ex, hz]
    rfl
  · rw [hb]
    simp only [Option.bind_some, Bool.false_eq_true, if_false, if_true]
    rw [if_pos (by rw [toList_tl])]
    by_cases hlo : a0 < -62167219200
    · rw [if_pos hlo]
    · rw [if_neg hlo, decide_eq_true (by omega)]
theorem dateThree : decorumlaw03_DateThree.Pure := by
  intro a0 a1 w0 w1
  have h0 := wfu32 w0
  have h1 := wfu32 w1
  refine ⟨20002, ?_⟩
  unfold decorumlaw03_DateThree.f
  rw [awake_some 20002 (by decide), wrap_in (n := a0) (by omega), wrap_in (n := a1) (by omega)]
  rcases format_some a0 (by omega) with ⟨_, _, x, hx, ex, b, hb, t⟩ | ⟨h, _⟩
  · rcases format_some a1 (by omega) with ⟨_, _, z, hz, ez, c, hc, u⟩ | ⟨h, _⟩
    · rw [hb, hc]
      simp only [Option.bind_some]
      rw [parse_first hx t a0 20002 (by decide), parse_first hz u a1 20002 (by decide)]
      simp only [Option.bind_some, if_true]
      rw [ex, ez, if_pos (by simp), toList_tl, toList_tl, t, u]
      congr 1
      rw [beq_iff_eq, Bool.eq_iff_iff, beq_iff_eq, beq_iff_eq]
      constructor
      · intro h
        have := first_inj hx hz h
        subst this
        omega
      · intro h
        have : x = z := Mom.sec_inj hx hz (by omega)
        rw [this]
    · omega
  · omega
end Go.Proofs.YtdlpdgdccoeklaaDoor.Dt
