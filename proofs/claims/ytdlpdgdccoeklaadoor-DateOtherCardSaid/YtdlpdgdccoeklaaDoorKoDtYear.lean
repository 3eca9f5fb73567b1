import Derived.Test.YtdlpdgdccoeklaaDoorKoDtPrs
/- Plain facts: the year in which a day lies; the greatest year with two given last digits that is at most 50 years after another. No program in this text. -/
namespace Go.Proofs.YtdlpdgdccoeklaaDoor.Dt
/-- Day number n (from the first one of 1970 on) lies in year y. -/
def InYear (n y : Int) : Prop := 0 ≤ y ∧ before y ≤ n + 719528 ∧ n + 719528 < before (y + 1)
theorem InYear.unique {n y z : Int} (h : InYear n y) (k : InYear n z) : y = z := by
  obtain ⟨h0, h1, h2⟩ := h
  obtain ⟨k0, k1, k2⟩ := k
  rcases Int.lt_trichotomy y z with hl | hl | hl
  · have := before_lt h0 hl; omega
  · exact hl
  · have := before_lt k0 hl; omega
theorem InYear.le {n y k : Int} (h : InYear n y) (hk : n + 719528 < before (k + 1)) (h0 : 0 ≤ k) : y ≤ k := by
  obtain ⟨h0, h1, h2⟩ := h
  apply Classical.byContradiction
  intro hl
  have := before_lt (a := k) (b := y) (by omega) (by omega)
  omega
theorem InYear.ge {n y k : Int} (h : InYear n y) (hk : before k ≤ n + 719528) : k ≤ y := by
  obtain ⟨h0, h1, h2⟩ := h
  apply Classical.byContradiction
  intro hl
  have := before_lt (a := y) (b := k) (by omega) (by omega)
  omega
theorem exists_year {n : Int} (h0 : 0 ≤ n + 719528) : ∀ k : Nat, n + 719528 < before (k : Int) → ∃ y, InYear n y
  | 0, h => by simp [before] at h; omega
  | k + 1, h => by
    by_cases hk : before (k : Int) ≤ n + 719528
    · exact ⟨k, by omega, hk, by simpa using h⟩
    · exact exists_year h0 k (by omega)
/-- Seconds from 0 to the greatest that a reading takes: their year. -/
theorem year_of_now {now : Int} (h0 : 0 ≤ now) (h1 : now ≤ 220752000000) : ∃ y, InYear (now / 86400) y ∧ 1970 ≤ y ∧ y ≤ 9900 := by
  have e1 : before ((9901 : Nat) : Int) = 3616266 := by decide
  have e2 : before (9900 + 1) = 3616266 := by decide
  obtain ⟨y, hy⟩ := exists_year (n := now / 86400) (by omega) 9901 (by rw [e1]; omega)
  exact ⟨y, hy, hy.ge (by rw [before_1970]; omega), hy.le (by rw [e2]; omega) (by omega)⟩
end Go.Proofs.YtdlpdgdccoeklaaDoor.Dt
