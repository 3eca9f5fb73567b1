import Derived.Test.YtdlpdgdccoeklaaDoorKoDtFunD
/- What the reference's calendar and its moments' texts compute. -/
namespace Go.Proofs.YtdlpdgdccoeklaaDoor.Dt
set_option linter.unusedSimpArgs false
open Go.RowKit Go.Proofs.YtdlpdgdccoeklaaDoor.Ext Go.Proofs.YtdlpdgdccoeklaaDoorW.PrintWords Go.Proofs.YtdlpdgdccoeklaaDoorW.PrintMore Go.Proofs.YtdlpdgdccoeklaaDoor.XA Go.Proofs.YtdlpdgdccoeklaaDoor.XB
theorem rleap_some (y : Int) : decorumref01_Leap.f y = some (leap y) := by
  have h := leap_iff y
  have t4 := tmod_zero y 4
  have t100 := tmod_zero y 100
  have t400 := tmod_zero y 400
  unfold decorumref01_Leap.f
  by_cases h4 : y.tmod 400 = 0
  · rw [if_pos h4]
    congr 1
    exact (h.2 ⟨by omega, by omega⟩).symm
  · rw [if_neg h4]
    by_cases h1 : y.tmod 4 = 0
    · rw [if_pos h1]
      congr 1
      rw [Bool.eq_iff_iff, h, bne_iff_ne]
      omega
    · rw [if_neg h1]
      congr 1
      have : ¬ leap y = true := fun e => by have := h.1 e; omega
      exact (Bool.eq_false_iff.2 this).symm
theorem rlength_some (y m : Int) (k : Nat) (hk : 1 ≤ k) : decorumref01_Length.f k y m = some (len y m) := by
  obtain ⟨k, rfl⟩ : ∃ j, k = j + 1 := ⟨k - 1, by omega⟩
  unfold decorumref01_Length.f
  simp only [Option.bind_some]
  by_cases h1 : m < 1
  · rw [if_pos h1]
    simp only [decorumref01_Length.j0, if_true]
    congr 1
    unfold len
    rw [if_neg (by omega), if_neg (by omega), if_neg (by omega)]
  · rw [if_neg h1]
    by_cases h12 : m > 12
    · rw [decide_eq_true h12]
      simp only [decorumref01_Length.j0, if_true]
      congr 1
      unfold len
      rw [if_neg (by omega), if_neg (by omega), if_neg (by omega)]
    · rw [decide_eq_false h12]
      simp only [decorumref01_Length.j0, Bool.false_eq_true, if_false, rleap_some, Option.bind_some]
      rcases twelve (m := m) (by omega) (by omega) with rfl | rfl | rfl | rfl | rfl | rfl | rfl | rfl | rfl | rfl | rfl | rfl
      all_goals first | rfl | skip
      unfold len lp
      cases leap y <;> rfl
theorem rdays_l2 (y m d : Int) (hm : m ≤ 12) (hd : 1 ≤ d ∧ d ≤ 31) (n : Int) (hn : -10000000 ≤ n ∧ n ≤ 10000000) : ∀ (j k : Nat) (i : Int), 1 ≤ i → i ≤ m → m - i = j → j + 1 < k →
    decorumref01_Days.l2 k y m d (n + cum y i) i = some (n + cum y m + d - 1, true) := by
  intro j
  induction j with
  | zero =>
    intro k i h1 h2 hj hk
    obtain ⟨k, rfl⟩ : ∃ q, k = q + 1 := ⟨k - 1, by omega⟩
    obtain rfl : i = m := by omega
    have := cum_bound y i
    simp only [decorumref01_Days.l2]
    rw [if_neg (by omega), wrap_in (n := n + cum y i + d) (by omega), wrap_in (by omega)]
  | succ j ih =>
    intro k i h1 h2 hj hk
    obtain ⟨k, rfl⟩ : ∃ q, k = q + 1 := ⟨k - 1, by omega⟩
    have hs := cum_succ y i h1 (by omega)
    have := cum_bound y i
    have := len_lo y i
    simp only [decorumref01_Days.l2]
    rw [if_pos (by omega), rlength_some y i k (by omega)]
    simp only [Option.bind_some]
    rw [wrap_in (n := n + cum y i + len y i) (by omega), wrap_in (n := i + 1) (by omega), show n + cum y i + len y i = n + cum y (i + 1) by omega]
    exact ih k (i + 1) (by omega) (by omega) (by omega) (by omega)
theorem rdays_up (y m d : Int) (hy : 0 ≤ y ∧ y ≤ 9999) : ∀ (j k : Nat) (x : Int), 1970 ≤ x → x ≤ y → y - x = j → j + 30 < k → ∃ k', k' + (j + 1) = k ∧
    decorumref01_Days.l0 k y m d (before x - 719528) x = decorumref01_Days.l1 k' y m d (before y - 719528) y := by
  intro j
  induction j with
  | zero =>
    intro k x h1 h2 hj hk
    obtain ⟨k, rfl⟩ : ∃ q, k = q + 1 := ⟨k - 1, by omega⟩
    obtain rfl : x = y := by omega
    refine ⟨k, by omega, ?_⟩
    simp only [decorumref01_Days.l0]
    rw [if_neg (by omega)]
  | succ j ih =>
    intro k x h1 h2 hj hk
    obtain ⟨k, rfl⟩ : ∃ q, k = q + 1 := ⟨k - 1, by omega⟩
    have hs := before_succ x (by omega)
    have hb := before_bound x (by omega) (by omega)
    obtain ⟨k', hk', e⟩ := ih k (x + 1) (by omega) (by omega) (by omega) (by omega)
    refine ⟨k', by omega, ?_⟩
    rw [← e]
    simp only [decorumref01_Days.l0]
    rw [if_pos (by omega), rleap_some]
    simp only [Option.bind_some]
    unfold lp at hs
    cases hl : leap x with
    | true =>
      rw [hl] at hs
      simp only [if_true] at hs ⊢
      rw [wrap_in (n := before x - 719528 + 365) (by omega), wrap_in (n := before x - 719528 + 365 + 1) (by omega), wrap_in (n := x + 1) (by omega), show before x - 719528 + 365 + 1 = before (x + 1) - 719528 by omega]
    | false =>
      rw [hl] at hs
      simp only [Bool.false_eq_true, if_false] at hs ⊢
      rw [wrap_in (n := before x - 719528 + 365) (by omega), wrap_in (n := x + 1) (by omega), show before x - 719528 + 365 = before (x + 1) - 719528 by omega]
/-- The second loop: the days between a year and 1970 are taken off. -/
theorem rdays_down (y m d v : Int) (hv : -1000000 ≤ v ∧ v ≤ 10000000) : ∀ (j k : Nat) (x : Int), 0 ≤ x → x ≤ 1970 → 1970 - x = j → j + 30 < k → ∃ k', k' + (j + 1) = k ∧
    decorumref01_Days.l1 k y m d (v + (719528 - before x)) x = decorumref01_Days.l2 k' y m d v 1 := by
  intro j
  induction j with
  | zero =>
    intro k x h1 h2 hj hk
    obtain ⟨k, rfl⟩ : ∃ q, k = q + 1 := ⟨k - 1, by omega⟩
    obtain rfl : x = 1970 := by omega
    refine ⟨k, by omega, ?_⟩
    simp only [decorumref01_Days.l1]
    rw [if_neg (by omega), before_1970, Int.sub_self, Int.add_zero]
  | succ j ih =>
    intro k x h1 h2 hj hk
    obtain ⟨k, rfl⟩ : ∃ q, k = q + 1 := ⟨k - 1, by omega⟩
    have hs := before_succ x (by omega)
    have hb := before_bound x (by omega) (by omega)
    have hm := before_mono (a := x + 1) (b := 1970) (by omega) (by omega)
    rw [before_1970] at hm
    have hlp := lp_01 x
    obtain ⟨k', hk', e⟩ := ih k (x + 1) (by omega) (by omega) (by omega) (by omega)
    refine ⟨k', by omega, ?_⟩
    rw [← e]
    simp only [decorumref01_Days.l1]
    rw [if_pos (by omega), rleap_some]
    simp only [Option.bind_some]
    unfold lp at hs
    cases hl : leap x with
    | true =>
      rw [hl] at hs
      simp only [if_true] at hs ⊢
      rw [wrap_in (n := v + (719528 - before x) - 365) (by omega), wrap_in (n := v + (719528 - before x) - 365 - 1) (by omega), wrap_in (n := x + 1) (by omega), show v + (719528 - before x) - 365 - 1 = v + (719528 - before (x + 1)) by omega]
    | false =>
      rw [hl] at hs
      simp only [Bool.false_eq_true, if_false] at hs ⊢
      rw [wrap_in (n := v + (719528 - before x) - 365) (by omega), wrap_in (n := x + 1) (by omega), show v + (719528 - before x) - 365 = v + (719528 - before (x + 1)) by omega]
theorem rdays_some (y m d : Int) (k : Nat) (hk : 10200 < k) : decorumref01_Days.f k y m d = some (if okDay y m d then (dayNo y m d, true) else (0, false)) := by
  obtain ⟨k, rfl⟩ : ∃ j, k = j + 1 := ⟨k - 1, by omega⟩
  have no : ∀ b : Bool, b = true → decorumref01_Days.j0 (k + 1) y m d b = some (0, false) := fun b hb => by subst hb; simp [decorumref01_Days.j0]
  unfold decorumref01_Days.f
  by_cases h1 : y < 0
  · rw [if_pos h1, no _ rfl, if_neg (by unfold okDay; omega)]
  rw [if_neg h1]
  by_cases h2 : y > 9999
  · rw [if_pos h2, no _ rfl, if_neg (by unfold okDay; omega)]
  rw [if_neg h2]
  by_cases h3 : d < 1
  · rw [if_pos h3, no _ rfl, if_neg (by unfold okDay; omega)]
  rw [if_neg h3, rlength_some y m _ (by omega)]
  simp only [Option.bind_some]
  by_cases h4 : d > len y m
  · rw [no _ (decide_eq_true h4), if_neg (by unfold okDay; omega)]
  · have hok : okDay y m d := ⟨by omega, by omega, by omega, by omega⟩
    have hmm := hok.month
    have hd31 := len_lo y m
    have hb := before_bound y (by omega) (by omega)
    rw [decide_eq_false h4, if_pos hok]
    simp only [decorumref01_Days.j0, Bool.false_eq_true, if_false]
    have key : ∀ k', 14 < k' → decorumref01_Days.l2 k' y m d (before y - 719528) 1 = some (dayNo y m d, true) := by
      intro k' hk'
      have := rdays_l2 y m d hmm.2 (by omega) (before y - 719528) (by omega) (m - 1).toNat k' 1 (by omega) hmm.1 (by omega) (by omega)
      rw [cum_one, Int.add_zero] at this
      rw [this]
      unfold dayNo
      congr 2
    have z : (0 : Int) = before 1970 - 719528 := by rw [before_1970]; rfl
    by_cases hy : 1970 ≤ y
    · obtain ⟨k1, hk1, e1⟩ := rdays_up y m d (by omega) (y - 1970).toNat k 1970 (by decide) hy (by omega) (by omega)
      obtain ⟨k2, rfl⟩ : ∃ q, k1 = q + 1 := ⟨k1 - 1, by omega⟩
      rw [z, e1]
      simp only [decorumref01_Days.l1]
      rw [if_neg (by omega)]
      exact key k2 (by omega)
    · obtain ⟨k1, rfl⟩ : ∃ q, k = q + 1 := ⟨k - 1, by omega⟩
      simp only [decorumref01_Days.l0]
      rw [if_neg (by omega)]
      obtain ⟨k2, hk2, e2⟩ := rdays_down y m d (before y - 719528) (by omega) (1970 - y).toNat k1 y (by omega) (by omega) (by omega) (by omega)
      rw [show before y - 719528 + (719528 - before y) = 0 by omega] at e2
      rw [e2]
      exact key k2 (by omega)
/-- Moment.Sec: of any numbers. -/
theorem sec_some (y m d h i s : Int) (k : Nat) (hk : 10200 < k) :
    decorumref03_Moment_Sec.f k y m d h i s = some (if okDay y m d ∧ 0 ≤ h ∧ h ≤ 23 ∧ 0 ≤ i ∧ i ≤ 59 ∧ 0 ≤ s ∧ s ≤ 59 then (dayNo y m d * 86400 + h * 3600 + i * 60 + s, true) else (0, false)) := by
  unfold decorumref03_Moment_Sec.f
  rw [rdays_some y m d k hk]
  simp only [Option.bind_some]
  by_cases hok : okDay y m d
  · have hb := dayNo_bound hok
    rw [if_pos hok]
    simp only [if_true]
    by_cases c1 : h < 0
    · rw [if_pos c1, if_neg (by omega)]
    rw [if_neg c1]
    by_cases c2 : h > 23
    · rw [if_pos c2, if_neg (by omega)]
    rw [if_neg c2]
    by_cases c3 : i < 0
    · rw [if_pos c3, if_neg (by omega)]
    rw [if_neg c3]
    by_cases c4 : i > 59
    · rw [if_pos c4, if_neg (by omega)]
    rw [if_neg c4]
    by_cases c5 : s < 0
    · rw [if_pos c5, if_neg (by omega)]
    rw [if_neg c5]
    by_cases c6 : s > 59
    · rw [if_pos c6, if_neg (by omega)]
    rw [if_neg c6, if_pos ⟨hok, by omega⟩, wrap_in (n := dayNo y m d * 86400) (by omega), wrap_in (n := h * 3600) (by omega), wrap_in (n := i * 60) (by omega), wrap_in (n := dayNo y m d * 86400 + h * 3600) (by omega), wrap_in (n := dayNo y m d * 86400 + h * 3600 + i * 60) (by omega), wrap_in (by omega)]
  · rw [if_neg hok, if_neg (by simp)]
    congr 1
    exact (if_neg (fun hh => hok hh.1)).symm
/-- What the law takes a moment from: a year, a month, a day and the seconds of a day. -/
theorem moment_some (y m d t : Int) (ht : -9223372036854775808 ≤ t ∧ t ≤ 9223372036854775807) (k : Nat) (hk : 10200 < k) :
    (∃ x : Mom, x.ok ∧ x = ⟨y, m, d, t⟩ ∧ decorumlaw03_moment.f k y m d t = some (y, m, d, t / 3600, t / 60 % 60, t % 60, x.sec, true)) ∨ ∃ a b c, decorumlaw03_moment.f k y m d t = some (y, m, d, a, b, c, 0, false) := by
  unfold decorumlaw03_moment.f
  by_cases h0 : t < 0
  · right
    rw [if_pos h0]
    exact ⟨_, _, _, rfl⟩
  · rw [if_neg h0]
    have t1 : Int.tdiv t 3600 = t / 3600 := Int.tdiv_eq_ediv_of_nonneg (by omega)
    have t2 : Int.tdiv t 60 = t / 60 := Int.tdiv_eq_ediv_of_nonneg (by omega)
    have t3 : Int.tmod (t / 60) 60 = t / 60 % 60 := Int.tmod_eq_emod_of_nonneg (by omega)
    have t4 : Int.tmod t 60 = t % 60 := Int.tmod_eq_emod_of_nonneg (by omega)
    rw [t1, t2, t4, wrap_in (n := t / 3600) (by omega), wrap_in (n := t / 60) (by omega), t3, sec_some _ _ _ _ _ _ k hk]
    simp only [Option.bind_some]
    by_cases hc : okDay y m d ∧ 0 ≤ t / 3600 ∧ t / 3600 ≤ 23 ∧ 0 ≤ t / 60 % 60 ∧ t / 60 % 60 ≤ 59 ∧ 0 ≤ t % 60 ∧ t % 60 ≤ 59
    · left
      refine ⟨⟨y, m, d, t⟩, ⟨hc.1, by show 0 ≤ t; omega, by show t < 86400; omega⟩, rfl, ?_⟩
      rw [if_pos hc]
      have e : dayNo y m d * 86400 + t / 3600 * 3600 + t / 60 % 60 * 60 + t % 60 = Mom.sec ⟨y, m, d, t⟩ := by unfold Mom.sec; simp only; omega
      rw [e]
    · right
      rw [if_neg hc]
      exact ⟨_, _, _, rfl⟩
theorem strOfNums_one (n : Int) : tl (strOfNums [n]) = [UInt8.ofNat n.toNat] := by simp [strOfNums, tl]
theorem pad_byte (n : Int) (h : 0 ≤ n) : tl (strOfNums [wrap64 (48 + Int.tmod n 10) % 256]) = [dg n] := by
  rw [strOfNums_one, Int.tmod_eq_emod_of_nonneg h, wrap_in (by omega)]
  unfold dg
  congr 2
  omega
theorem pad_step (k : Nat) (n sz i : Int) (s : ByteArray) (hn : 0 ≤ n ∧ n ≤ 9999) (hi : 0 ≤ i ∧ i < sz ∧ sz ≤ 10) (hs : s.size ≤ 100) :
    ∃ s', tl s' = dg n :: tl s ∧ decorumref03_pad.l0 (k + 1) n sz s i = decorumref03_pad.l0 k (n / 10) sz s' (i + 1) := by
  refine ⟨strOfNums [wrap64 (48 + Int.tmod n 10) % 256] ++ s, by rw [tl_append, pad_byte n hn.1]; rfl, ?_⟩
  have hz : (strOfNums [wrap64 (48 + Int.tmod n 10) % 256]).size = 1 := tl_size (pad_byte n hn.1) rfl
  simp only [decorumref03_pad.l0, Option.bind_some]
  rw [if_pos (by omega), hz, if_pos (by omega), Int.tdiv_eq_ediv_of_nonneg hn.1, wrap_in (n := n / 10) (by omega), wrap_in (n := i + 1) (by omega)]
theorem pad_end (k : Nat) (n sz : Int) (s : ByteArray) : decorumref03_pad.l0 (k + 1) n sz s sz = some s := by
  simp only [decorumref03_pad.l0]
  rw [if_neg (by omega)]
theorem pad2_some (n : Int) (h : 0 ≤ n ∧ n ≤ 99) (k : Nat) (hk : 10 ≤ k) : ∃ b, decorumref03_pad.f k n 2 = some b ∧ tl b = p2 n := by
  obtain ⟨k, rfl⟩ : ∃ q, k = q + 10 := ⟨k - 10, by omega⟩
  unfold decorumref03_pad.f
  obtain ⟨s1, a1, e1⟩ := pad_step (k + 9) n 2 0 ⟨#[]⟩ (by omega) (by omega) (by decide)
  have z1 : s1.size = 1 := tl_size a1 rfl
  obtain ⟨s2, a2, e2⟩ := pad_step (k + 8) (n / 10) 2 (0 + 1) s1 (by omega) (by omega) (by omega)
  refine ⟨s2, ?_, by rw [a2, a1]; rfl⟩
  rw [e1, e2]
  exact pad_end (k + 7) _ 2 s2
theorem pad4_some (n : Int) (h : 0 ≤ n ∧ n ≤ 9999) (k : Nat) (hk : 10 ≤ k) : ∃ b, decorumref03_pad.f k n 4 = some b ∧ tl b = p4 n := by
  obtain ⟨k, rfl⟩ : ∃ q, k = q + 10 := ⟨k - 10, by omega⟩
  unfold decorumref03_pad.f
  obtain ⟨s1, a1, e1⟩ := pad_step (k + 9) n 4 0 ⟨#[]⟩ (by omega) (by omega) (by decide)
  have z1 : s1.size = 1 := tl_size a1 rfl
  obtain ⟨s2, a2, e2⟩ := pad_step (k + 8) (n / 10) 4 (0 + 1) s1 (by omega) (by omega) (by omega)
  have z2 : s2.size = 2 := tl_size (a2.trans (by rw [a1])) rfl
  obtain ⟨s3, a3, e3⟩ := pad_step (k + 7) (n / 10 / 10) 4 (0 + 1 + 1) s2 (by omega) (by omega) (by omega)
  have z3 : s3.size = 3 := tl_size (a3.trans (by rw [a2, a1])) rfl
  obtain ⟨s4, a4, e4⟩ := pad_step (k + 6) (n / 10 / 10 / 10) 4 (0 + 1 + 1 + 1) s3 (by omega) (by omega) (by omega)
  refine ⟨s4, ?_, ?_⟩
  · rw [e1, e2, e3, e4]
    exact pad_end (k + 5) _ 4 s4
  · rw [a4, a3, a2, a1]
    unfold p4
    rw [show n / 1000 = n / 10 / 10 / 10 by omega, show n / 100 = n / 10 / 10 by omega]
theorem rclock_some (y m d t : Int) (ht : 0 ≤ t ∧ t < 86400) (k : Nat) (hk : 10 ≤ k) : ∃ b, decorumref03_Moment_clock.f k y m d (t / 3600) (t / 60 % 60) (t % 60) = some b ∧ tl b = clockT t := by
  obtain ⟨b1, e1, a1⟩ := pad2_some (t / 3600) (by omega) k hk
  obtain ⟨b2, e2, a2⟩ := pad2_some (t / 60 % 60) (by omega) k hk
  obtain ⟨b3, e3, a3⟩ := pad2_some (t % 60) (by omega) k hk
  have z1 : b1.size = 2 := tl_size a1 rfl
  have z2 : b2.size = 2 := tl_size a2 rfl
  have z3 : b3.size = 2 := tl_size a3 rfl
  have zc : (⟨#[58]⟩ : ByteArray).size = 1 := rfl
  unfold decorumref03_Moment_clock.f
  rw [e1, e2, e3]
  simp only [Option.bind_some]
  rw [if_pos (by omega), if_pos (by simp only [ByteArray.size_append]; omega), if_pos (by simp only [ByteArray.size_append]; omega), if_pos (by simp only [ByteArray.size_append]; omega)]
  refine ⟨_, rfl, ?_⟩
  simp only [tl_append, a1, a2, a3]
  unfold clockT
  simp [tl]
theorem rday_some (x : Mom) (hx : x.ok) (h i s : Int) (k : Nat) (hk : 10200 < k) : decorumref03_Moment_day.f k x.y x.m x.d h i s = some ⟨(dayName x.w).toArray⟩ := by
  have hb := dayNo_bound hx.1
  have hw := Mom.w_bound x
  have names : ∀ w : Int, 0 ≤ w → w ≤ 6 → (decorumref03_days.f.bind fun t => if 0 ≤ w then (if w < (t.length : Int) then some (rdOf ByteArray.empty t w) else none) else none) = some ⟨(dayName w).toArray⟩ := by
    intro w h0 h6
    rcases six h0 h6 with rfl | rfl | rfl | rfl | rfl | rfl | rfl <;> rfl
  unfold decorumref03_Moment_day.f
  rw [rdays_some _ _ _ k hk, if_pos hx.1]
  simp only [Option.bind_some]
  rw [wrap_in (n := dayNo x.y x.m x.d + 3) (by omega)]
  have hq := tmod_if (dayNo x.y x.m x.d + 3) 7
  by_cases hn : Int.tmod (dayNo x.y x.m x.d + 3) 7 < 0
  · have e : wrap64 (Int.tmod (dayNo x.y x.m x.d + 3) 7 + 7) = x.w := by
      rw [wrap_in (by split at hq <;> omega)]
      unfold Mom.w wday
      split at hq <;> omega
    rw [if_pos hn, e]
    exact names _ hw.1 hw.2
  · have e : Int.tmod (dayNo x.y x.m x.d + 3) 7 = x.w := by
      unfold Mom.w wday
      split at hq <;> omega
    rw [if_neg hn, e]
    exact names _ hw.1 hw.2
theorem mnOf_some (m : Int) (h : 1 ≤ m ∧ m ≤ 12) : mnOf m = ⟨(monName m).toArray⟩ := by
  rcases twelve h.1 h.2 with rfl | rfl | rfl | rfl | rfl | rfl | rfl | rfl | rfl | rfl | rfl | rfl <;> rfl
theorem first_text (x : Mom) (hx : x.ok) : ∃ b, decorumref03_Moment_First.f x.y x.m x.d (x.t / 3600) (x.t / 60 % 60) (x.t % 60) = some b ∧ tl b = x.first := by
  have hm := hx.1.month
  have hd := hx.1.d31
  have hy := hx.1.1
  have hy' := hx.1.2.1
  obtain ⟨dd, e1, a1⟩ := pad2_some x.d (by omega) 100 (by decide)
  obtain ⟨yy, e2, a2⟩ := pad4_some x.y (by omega) 100 (by decide)
  obtain ⟨cc, e3, a3⟩ := rclock_some x.y x.m x.d x.t hx.2 100 (by decide)
  have hl := day_len x.w
  have z0 : (⟨(dayName x.w).toArray⟩ : ByteArray).size = (dayName x.w).length := by simp [ByteArray.size]
  have z1 : (⟨(monName x.m).toArray⟩ : ByteArray).size = 3 := tl_size (tl_mk _) (mon_length _)
  unfold decorumref03_Moment_First.f
  rw [rday_some x hx _ _ _ 20000 (by decide), e1, e2, e3]
  simp only [Option.bind_some]
  rw [mnOf_some x.m hm, if_pos ⟨by omega, by omega, z1, by omega, tl_size a1 rfl, tl_size a2 rfl, tl_size a3 rfl⟩]
  refine ⟨_, rfl, ?_⟩
  simp only [tl_append, tl_extract, tl_mk, a1, a2, a3]
  unfold Mom.first d3
  simp [tl, gmt]
end Go.Proofs.YtdlpdgdccoeklaaDoor.Dt
