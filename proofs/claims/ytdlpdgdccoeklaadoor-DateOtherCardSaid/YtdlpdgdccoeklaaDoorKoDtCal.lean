/- Plain facts on the calendar: days before a year, days before a month, the number of a day, and that a day's number tells its year, month and day. No program in this text. -/
namespace Go.Proofs.YtdlpdgdccoeklaaDoor.Dt
def leap (y : Int) : Bool := decide (y % 4 = 0) && (decide (y % 100 ≠ 0) || decide (y % 400 = 0))
def lp (y : Int) : Int := if leap y then 1 else 0
theorem lp_01 (y : Int) : 0 ≤ lp y ∧ lp y ≤ 1 := by unfold lp; split <;> omega
theorem leap_iff (y : Int) : leap y = true ↔ y % 4 = 0 ∧ (y % 100 ≠ 0 ∨ y % 400 = 0) := by
  unfold leap; simp
/-- How many days a month has. -/
def len (y m : Int) : Int :=
  if m = 2 then 28 + lp y else if m = 4 ∨ m = 6 ∨ m = 9 ∨ m = 11 then 30 else if 1 ≤ m ∧ m ≤ 12 then 31 else 0
theorem len_lo (y m : Int) : 0 ≤ len y m ∧ len y m ≤ 31 := by
  have := lp_01 y
  unfold len
  repeat' split
  all_goals omega
/-- How many days are ahead of a year, from year 0 on. -/
def before (y : Int) : Int := if y = 0 then 0 else 365 * y + (y - 1) / 4 - (y - 1) / 100 + (y - 1) / 400 + 1
theorem before_succ (y : Int) (h : 0 ≤ y) : before (y + 1) = before y + 365 + lp y := by
  have hl := leap_iff y
  unfold before lp
  by_cases h0 : y = 0
  · subst h0; simp [leap]
  · rw [if_neg h0, if_neg (by omega)]
    by_cases hb : leap y = true
    · rw [if_pos hb]
      have := hl.1 hb
      omega
    · rw [if_neg hb]
      have hn : ¬ (y % 4 = 0 ∧ (y % 100 ≠ 0 ∨ y % 400 = 0)) := fun h => hb (hl.2 h)
      omega
theorem before_lt {a b : Int} (h0 : 0 ≤ a) (h : a < b) : before (a + 1) ≤ before b := by
  obtain ⟨k, rfl⟩ : ∃ k : Nat, b = a + 1 + k := ⟨(b - a - 1).toNat, by omega⟩
  clear h
  induction k with
  | zero => simp
  | succ k ih =>
    have := before_succ (a + 1 + k) (by omega)
    have := lp_01 (a + 1 + k)
    have e : a + 1 + ((k + 1 : Nat) : Int) = a + 1 + k + 1 := by omega
    rw [e]; omega
theorem before_mono {a b : Int} (h0 : 0 ≤ a) (h : a ≤ b) : before a ≤ before b := by
  by_cases e : a = b
  · rw [e]; exact Int.le_refl _
  · have := before_lt (a := a) (b := b) h0 (by omega)
    have := before_succ a h0
    have := lp_01 a
    omega
theorem before_bound (y : Int) (h0 : 0 ≤ y) (h1 : y ≤ 10000) : 0 ≤ before y ∧ before y ≤ 3652425 := by
  unfold before; split <;> omega
/-- How many days are ahead of a month in its year. -/
def cum (y m : Int) : Int :=
  if m ≤ 1 then 0 else if m = 2 then 31 else if m = 3 then 59 + lp y else if m = 4 then 90 + lp y else if m = 5 then 120 + lp y
  else if m = 6 then 151 + lp y else if m = 7 then 181 + lp y else if m = 8 then 212 + lp y else if m = 9 then 243 + lp y
  else if m = 10 then 273 + lp y else if m = 11 then 304 + lp y else if m = 12 then 334 + lp y else 365 + lp y
theorem cum_one (y : Int) : cum y 1 = 0 := rfl
theorem cum_succ (y m : Int) (h1 : 1 ≤ m) (h2 : m ≤ 12) : cum y (m + 1) = cum y m + len y m := by
  have h : m = 1 ∨ m = 2 ∨ m = 3 ∨ m = 4 ∨ m = 5 ∨ m = 6 ∨ m = 7 ∨ m = 8 ∨ m = 9 ∨ m = 10 ∨ m = 11 ∨ m = 12 := by omega
  rcases h with rfl | rfl | rfl | rfl | rfl | rfl | rfl | rfl | rfl | rfl | rfl | rfl <;> simp [cum, len] <;> omega
theorem cum_13 (y : Int) : cum y 13 = 365 + lp y := rfl
theorem cum_bound (y m : Int) : 0 ≤ cum y m ∧ cum y m ≤ 366 := by
  have := lp_01 y
  unfold cum
  by_cases h : m ≤ 1
  · rw [if_pos h]; omega
  rw [if_neg h]
  have k : m = 2 ∨ m = 3 ∨ m = 4 ∨ m = 5 ∨ m = 6 ∨ m = 7 ∨ m = 8 ∨ m = 9 ∨ m = 10 ∨ m = 11 ∨ m = 12 ∨ 13 ≤ m := by omega
  rcases k with rfl | rfl | rfl | rfl | rfl | rfl | rfl | rfl | rfl | rfl | rfl | k
  · simp
  iterate 10 (· simp; omega)
  · have e : ∀ c : Int, 2 ≤ c → c ≤ 12 → ¬ m = c := fun c _ _ => by omega
    rw [if_neg (e 2 (by omega) (by omega)), if_neg (e 3 (by omega) (by omega)), if_neg (e 4 (by omega) (by omega)), if_neg (e 5 (by omega) (by omega)), if_neg (e 6 (by omega) (by omega)), if_neg (e 7 (by omega) (by omega)), if_neg (e 8 (by omega) (by omega)), if_neg (e 9 (by omega) (by omega)), if_neg (e 10 (by omega) (by omega)), if_neg (e 11 (by omega) (by omega)), if_neg (e 12 (by omega) (by omega))]
    omega
theorem cum_lt {y a b : Int} (h0 : 1 ≤ a) (h : a < b) (h1 : b ≤ 13) : cum y (a + 1) ≤ cum y b := by
  obtain ⟨k, rfl⟩ : ∃ k : Nat, b = a + 1 + k := ⟨(b - a - 1).toNat, by omega⟩
  clear h
  induction k with
  | zero => simp
  | succ k ih =>
    have e : a + 1 + ((k + 1 : Nat) : Int) = a + 1 + k + 1 := by omega
    have := cum_succ y (a + 1 + k) (by omega) (by omega)
    have := len_lo y (a + 1 + k)
    have := ih (by omega)
    rw [e]; omega
/-- The number of a day, from the first one of 1970 on. -/
def dayNo (y m d : Int) : Int := before y - 719528 + cum y m + d - 1
def okDay (y m d : Int) : Prop := 0 ≤ y ∧ y ≤ 9999 ∧ 1 ≤ d ∧ d ≤ len y m
instance (y m d : Int) : Decidable (okDay y m d) := by unfold okDay; infer_instance
theorem okDay.month {y m d : Int} (h : okDay y m d) : 1 ≤ m ∧ m ≤ 12 := by
  obtain ⟨_, _, h1, h2⟩ := h
  unfold len at h2
  split at h2
  · omega
  · split at h2
    · omega
    · split at h2 <;> omega
theorem before_1970 : before 1970 = 719528 := by decide
theorem before_10000 : before 10000 = 3652425 := by decide
/-- A day lies in its year. -/
theorem dayNo_year {y m d : Int} (h : okDay y m d) : before y ≤ dayNo y m d + 719528 ∧ dayNo y m d + 719528 < before (y + 1) := by
  obtain ⟨hm1, hm2⟩ := h.month
  obtain ⟨h0, h9, h1, h2⟩ := h
  have a := cum_succ y m hm1 hm2
  have b := cum_bound y m
  have c : cum y (m + 1) ≤ 365 + lp y := by
    by_cases e : m = 12
    · subst e; exact Int.le_of_eq (cum_13 y)
    · have := cum_lt (y := y) (a := m) (b := 13) hm1 (by omega) (by omega)
      rw [cum_13] at this; exact this
  have e := before_succ y h0
  unfold dayNo
  omega
theorem dayNo_bound {y m d : Int} (h : okDay y m d) : -719528 ≤ dayNo y m d ∧ dayNo y m d ≤ 2932896 := by
  have a := dayNo_year h
  have b := before_bound y h.1 (by have := h.2.1; omega)
  have c := before_mono (a := y + 1) (b := 10000) (by have := h.1; omega) (by have := h.2.1; omega)
  rw [before_10000] at c
  omega
theorem dayNo_inj {y m d y' m' d' : Int} (h : okDay y m d) (h' : okDay y' m' d') (e : dayNo y m d = dayNo y' m' d') : y = y' ∧ m = m' ∧ d = d' := by
  have a := dayNo_year h
  have b := dayNo_year h'
  have ey : y = y' := by
    rcases Int.lt_trichotomy y y' with hl | hl | hl
    · have := before_lt h.1 hl; omega
    · exact hl
    · have := before_lt h'.1 hl; omega
  subst ey
  obtain ⟨hm1, hm2⟩ := h.month
  obtain ⟨hn1, hn2⟩ := h'.month
  obtain ⟨_, _, hd1, hd2⟩ := h
  obtain ⟨_, _, he1, he2⟩ := h'
  unfold dayNo at e
  have em : m = m' := by
    rcases Int.lt_trichotomy m m' with hl | hl | hl
    · have := cum_lt (y := y) hm1 hl (by omega)
      have := cum_succ y m hm1 hm2
      omega
    · exact hl
    · have := cum_lt (y := y) hn1 hl (by omega)
      have := cum_succ y m' hn1 hn2
      omega
  subst em
  exact ⟨rfl, rfl, by omega⟩
/-- A moment of a day: year, month, day, second of the day. -/
structure Mom where
  y : Int
  m : Int
  d : Int
  t : Int
def Mom.ok (x : Mom) : Prop := okDay x.y x.m x.d ∧ 0 ≤ x.t ∧ x.t < 86400
def Mom.sec (x : Mom) : Int := dayNo x.y x.m x.d * 86400 + x.t
theorem Mom.sec_inj {x z : Mom} (h : x.ok) (k : z.ok) (e : x.sec = z.sec) : x = z := by
  obtain ⟨h1, h2, h3⟩ := h
  obtain ⟨k1, k2, k3⟩ := k
  unfold Mom.sec at e
  have ed : dayNo x.y x.m x.d = dayNo z.y z.m z.d := by omega
  obtain ⟨a, b, c⟩ := dayNo_inj h1 k1 ed
  cases x; cases z
  simp only at a b c e
  subst a b c
  simp only [Mom.mk.injEq, true_and]
  simp only at ed e
  omega
end Go.Proofs.YtdlpdgdccoeklaaDoor.Dt
