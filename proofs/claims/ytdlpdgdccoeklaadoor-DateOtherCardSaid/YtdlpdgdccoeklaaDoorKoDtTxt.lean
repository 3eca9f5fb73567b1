import Derived.Test.YtdlpdgdccoeklaaDoorKoDtCal
/- Plain facts on the three texts of a moment: digits, names, words between separators; that the program's reading by words and the reference's reading by places accept the same texts with the same seconds. No program in this text. -/
namespace Go.Proofs.YtdlpdgdccoeklaaDoor.Dt
abbrev Txt := List UInt8
/-! ### Digits -/
def dg (n : Int) : UInt8 := UInt8.ofNat (48 + (n % 10).toNat)
def isDig (c : UInt8) : Bool := decide (48 ≤ c.toNat) && decide (c.toNat ≤ 57)
def dv (c : UInt8) : Int := (c.toNat : Int) - 48
theorem dg_toNat (n : Int) : ((dg n).toNat : Int) = 48 + n % 10 := by
  have h : (48 + (n % 10).toNat) < 256 := by omega
  unfold dg
  rw [UInt8.toNat_ofNat']
  rw [Nat.mod_eq_of_lt (by simpa using h)]
  omega
theorem isDig_dg (n : Int) : isDig (dg n) = true := by
  have := dg_toNat n
  unfold isDig
  simp only [Bool.and_eq_true, decide_eq_true_eq]
  omega
theorem dv_dg (n : Int) : dv (dg n) = n % 10 := by
  have := dg_toNat n
  unfold dv; omega
theorem isDig_iff (c : UInt8) : isDig c = true ↔ 48 ≤ c.toNat ∧ c.toNat ≤ 57 := by unfold isDig; simp
theorem dg_of {c : UInt8} {n : Int} (h : isDig c = true) (e : n % 10 = dv c) : dg n = c := by
  have := dg_toNat n
  have := (isDig_iff c).1 h
  unfold dv at e
  apply UInt8.toNat_inj.1
  omega
theorem dg_ne {c : UInt8} (n : Int) (h : isDig c = false) : dg n ≠ c := fun e => by rw [← e, isDig_dg] at h; cases h
/-- The number of digits alone; none: there is something else. -/
def numF : Int → Txt → Option Int
  | acc, [] => some acc
  | acc, c :: l => if isDig c then numF (10 * acc + dv c) l else none
def number (s : Txt) (size : Nat) : Int := if s.length ≠ size then -1 else (numF 0 s).getD (-1)
def rnum (s : Txt) : Int := if s = [] then -1 else (numF 0 s).getD (-1)
theorem number_one {s : Txt} {n : Int} (h : number s 1 = n) (h0 : 0 ≤ n) : s = [dg n] ∧ n ≤ 9 := by
  unfold number at h
  split at h
  · omega
  · rename_i hl
    match s, hl with
    | [a], _ =>
      by_cases ha : isDig a = true
      · simp only [numF, ha, if_true, Option.getD_some] at h
        have := (isDig_iff a).1 ha
        have e : n = dv a := by omega
        unfold dv at e
        exact ⟨by rw [dg_of ha (by unfold dv; omega)], by omega⟩
      · simp only [numF, ha, if_neg, Bool.false_eq_true, not_false_iff, Option.getD_none] at h; omega
    | [], h | _ :: _ :: _, h => simp at h
theorem number_two {s : Txt} {n : Int} (h : number s 2 = n) (h0 : 0 ≤ n) : s = [dg (n / 10), dg n] ∧ n ≤ 99 := by
  unfold number at h
  split at h
  · omega
  · rename_i hl
    match s, hl with
    | [a, b], _ =>
      by_cases ha : isDig a = true
      · by_cases hb : isDig b = true
        · simp only [numF, ha, hb, if_true, Option.getD_some] at h
          have := (isDig_iff a).1 ha
          have := (isDig_iff b).1 hb
          have e : n = 10 * dv a + dv b := by omega
          unfold dv at e
          exact ⟨by rw [dg_of ha (by unfold dv; omega), dg_of hb (by unfold dv; omega)], by omega⟩
        · simp only [numF, ha, hb, if_true, if_neg, Bool.false_eq_true, not_false_iff, Option.getD_none] at h; omega
      · simp only [numF, ha, if_neg, Bool.false_eq_true, not_false_iff, Option.getD_none] at h; omega
    | [], h | [_], h | _ :: _ :: _ :: _, h => simp at h
theorem number_four {s : Txt} {n : Int} (h : number s 4 = n) (h0 : 0 ≤ n) : s = [dg (n / 1000), dg (n / 100), dg (n / 10), dg n] ∧ n ≤ 9999 := by
  unfold number at h
  split at h
  · omega
  · rename_i hl
    match s, hl with
    | [a, b, c, d], _ =>
      by_cases ha : isDig a = true
      · by_cases hb : isDig b = true
        · by_cases hc : isDig c = true
          · by_cases hd : isDig d = true
            · simp only [numF, ha, hb, hc, hd, if_true, Option.getD_some] at h
              have := (isDig_iff a).1 ha
              have := (isDig_iff b).1 hb
              have := (isDig_iff c).1 hc
              have := (isDig_iff d).1 hd
              have e : n = 1000 * dv a + 100 * dv b + 10 * dv c + dv d := by omega
              unfold dv at e
              exact ⟨by rw [dg_of ha (by unfold dv; omega), dg_of hb (by unfold dv; omega), dg_of hc (by unfold dv; omega), dg_of hd (by unfold dv; omega)], by omega⟩
            · simp only [numF, ha, hb, hc, hd, if_true, if_neg, Bool.false_eq_true, not_false_iff, Option.getD_none] at h; omega
          · simp only [numF, ha, hb, hc, if_true, if_neg, Bool.false_eq_true, not_false_iff, Option.getD_none] at h; omega
        · simp only [numF, ha, hb, if_true, if_neg, Bool.false_eq_true, not_false_iff, Option.getD_none] at h; omega
      · simp only [numF, ha, if_neg, Bool.false_eq_true, not_false_iff, Option.getD_none] at h; omega
    | [], h | [_], h | [_, _], h | [_, _, _], h | _ :: _ :: _ :: _ :: _ :: _, h => simp at h
theorem numF_one (n : Int) (h0 : 0 ≤ n) (h : n ≤ 9) : numF 0 [dg n] = some n := by
  simp only [numF, isDig_dg, if_true, dv_dg]; congr 1; omega
theorem numF_two (n : Int) (h0 : 0 ≤ n) (h : n ≤ 99) : numF 0 [dg (n / 10), dg n] = some n := by
  simp only [numF, isDig_dg, if_true, dv_dg]; congr 1; omega
theorem numF_four (n : Int) (h0 : 0 ≤ n) (h : n ≤ 9999) : numF 0 [dg (n / 1000), dg (n / 100), dg (n / 10), dg n] = some n := by
  simp only [numF, isDig_dg, if_true, dv_dg]; congr 1; omega
/-! ### Names -/
def dayName (w : Int) : Txt :=
  if w = 0 then [77, 111, 110, 100, 97, 121] else if w = 1 then [84, 117, 101, 115, 100, 97, 121] else if w = 2 then [87, 101, 100, 110, 101, 115, 100, 97, 121]
  else if w = 3 then [84, 104, 117, 114, 115, 100, 97, 121] else if w = 4 then [70, 114, 105, 100, 97, 121] else if w = 5 then [83, 97, 116, 117, 114, 100, 97, 121]
  else [83, 117, 110, 100, 97, 121]
def monName (m : Int) : Txt :=
  if m = 1 then [74, 97, 110] else if m = 2 then [70, 101, 98] else if m = 3 then [77, 97, 114] else if m = 4 then [65, 112, 114] else if m = 5 then [77, 97, 121]
  else if m = 6 then [74, 117, 110] else if m = 7 then [74, 117, 108] else if m = 8 then [65, 117, 103] else if m = 9 then [83, 101, 112] else if m = 10 then [79, 99, 116]
  else if m = 11 then [78, 111, 118] else [68, 101, 99]
def d3 (w : Int) : Txt := (dayName w).take 3
def longs : List Txt := [dayName 0, dayName 1, dayName 2, dayName 3, dayName 4, dayName 5, dayName 6]
def shorts : List Txt := [d3 0, d3 1, d3 2, d3 3, d3 4, d3 5, d3 6]
def mons : List Txt := [monName 1, monName 2, monName 3, monName 4, monName 5, monName 6, monName 7, monName 8, monName 9, monName 10, monName 11, monName 12]
/-- The place of a text among some; below 0: nowhere. -/
def idx : List Txt → Txt → Int
  | [], _ => -1
  | x :: r, w => if x = w then 0 else if idx r w < 0 then -1 else idx r w + 1
theorem idx_ge (l : List Txt) (w : Txt) : -1 ≤ idx l w := by
  induction l with
  | nil => simp [idx]
  | cons x r ih =>
    unfold idx
    split
    · omega
    · split <;> omega
theorem idx_get {l : List Txt} {w : Txt} {k : Nat} (h : idx l w = (k : Int)) : l[k]? = some w := by
  induction l generalizing k with
  | nil => simp [idx] at h
  | cons x r ih =>
    unfold idx at h
    split at h
    · rename_i e; subst e
      obtain rfl : k = 0 := by omega
      rfl
    · split at h
      · exfalso; omega
      · obtain ⟨j, rfl⟩ : ∃ j, k = j + 1 := ⟨k - 1, by omega⟩
        rw [List.getElem?_cons_succ]
        exact ih (by omega)
theorem idx_long {t : Txt} {w : Int} (h : idx longs t = w) (h0 : 0 ≤ w) : w ≤ 6 ∧ t = dayName w := by
  obtain ⟨k, rfl⟩ : ∃ k : Nat, w = k := ⟨w.toNat, by omega⟩
  have g := idx_get h
  match k, g with
  | 0, g | 1, g | 2, g | 3, g | 4, g | 5, g | 6, g => simp [longs] at g; exact ⟨by omega, g.symm⟩
  | k + 7, g => simp [longs] at g
theorem idx_short {t : Txt} {w : Int} (h : idx shorts t = w) (h0 : 0 ≤ w) : w ≤ 6 ∧ t = d3 w := by
  obtain ⟨k, rfl⟩ : ∃ k : Nat, w = k := ⟨w.toNat, by omega⟩
  have g := idx_get h
  match k, g with
  | 0, g | 1, g | 2, g | 3, g | 4, g | 5, g | 6, g => simp [shorts] at g; exact ⟨by omega, g.symm⟩
  | k + 7, g => simp [shorts] at g
theorem idx_mon {t : Txt} {m : Int} (h : 1 + idx mons t = m) (h0 : 1 ≤ m) : m ≤ 12 ∧ t = monName m := by
  obtain ⟨k, rfl⟩ : ∃ k : Nat, m = (k : Int) + 1 := ⟨(m - 1).toNat, by omega⟩
  have g := idx_get (l := mons) (w := t) (k := k) (by omega)
  match k, g with
  | 0, g | 1, g | 2, g | 3, g | 4, g | 5, g | 6, g | 7, g | 8, g | 9, g | 10, g | 11, g => simp [mons] at g; exact ⟨by omega, g.symm⟩
  | k + 12, g => simp [mons] at g
theorem six {w : Int} (h0 : 0 ≤ w) (h : w ≤ 6) : w = 0 ∨ w = 1 ∨ w = 2 ∨ w = 3 ∨ w = 4 ∨ w = 5 ∨ w = 6 := by omega
theorem twelve {m : Int} (h0 : 1 ≤ m) (h : m ≤ 12) : m = 1 ∨ m = 2 ∨ m = 3 ∨ m = 4 ∨ m = 5 ∨ m = 6 ∨ m = 7 ∨ m = 8 ∨ m = 9 ∨ m = 10 ∨ m = 11 ∨ m = 12 := by omega
theorem idx_longs {w : Int} (h0 : 0 ≤ w) (h : w ≤ 6) : idx longs (dayName w) = w := by
  rcases six h0 h with rfl | rfl | rfl | rfl | rfl | rfl | rfl <;> decide
theorem idx_shorts {w : Int} (h0 : 0 ≤ w) (h : w ≤ 6) : idx shorts (d3 w) = w := by
  rcases six h0 h with rfl | rfl | rfl | rfl | rfl | rfl | rfl <;> decide
theorem idx_mons {m : Int} (h0 : 1 ≤ m) (h : m ≤ 12) : 1 + idx mons (monName m) = m := by
  rcases twelve h0 h with rfl | rfl | rfl | rfl | rfl | rfl | rfl | rfl | rfl | rfl | rfl | rfl <;> decide
theorem d3_form (w : Int) : ∃ a b c, d3 w = [a, b, c] ∧ a ≠ 32 ∧ b ≠ 32 ∧ c ≠ 32 ∧ a ≠ 44 ∧ b ≠ 44 ∧ c ≠ 44 := by
  unfold d3 dayName
  repeat' split
  all_goals exact ⟨_, _, _, rfl, by decide, by decide, by decide, by decide, by decide, by decide⟩
def form3 : Txt → Bool
  | [a, b, c] => a ≠ 32 && b ≠ 32 && c ≠ 32 && a ≠ 45 && b ≠ 45 && c ≠ 45
  | _ => false
theorem mon_form3 (m : Int) : form3 (monName m) = true := by
  have h : m = 1 ∨ m = 2 ∨ m = 3 ∨ m = 4 ∨ m = 5 ∨ m = 6 ∨ m = 7 ∨ m = 8 ∨ m = 9 ∨ m = 10 ∨ m = 11 ∨ (m ≠ 1 ∧ m ≠ 2 ∧ m ≠ 3 ∧ m ≠ 4 ∧ m ≠ 5 ∧ m ≠ 6 ∧ m ≠ 7 ∧ m ≠ 8 ∧ m ≠ 9 ∧ m ≠ 10 ∧ m ≠ 11) := by omega
  rcases h with rfl | rfl | rfl | rfl | rfl | rfl | rfl | rfl | rfl | rfl | rfl | h
  iterate 11 (· decide)
  · have e : monName m = [68, 101, 99] := by simp [monName, h]
    rw [e]; decide
theorem mon_form (m : Int) : ∃ a b c, monName m = [a, b, c] ∧ a ≠ 32 ∧ b ≠ 32 ∧ c ≠ 32 ∧ a ≠ 45 ∧ b ≠ 45 ∧ c ≠ 45 := by
  have h := mon_form3 m
  match e : monName m, h with
  | [a, b, c], h =>
    simp only [form3, Bool.and_eq_true, decide_eq_true_eq] at h
    exact ⟨a, b, c, rfl, h.1.1.1.1.1, h.1.1.1.1.2, h.1.1.1.2, h.1.1.2, h.1.2, h.2⟩
  | [], h | [_], h | [_, _], h | _ :: _ :: _ :: _ :: _, h => simp [form3] at h
theorem day_len (w : Int) : 6 ≤ (dayName w).length ∧ (dayName w).length ≤ 9 := by
  unfold dayName
  repeat' split
  all_goals decide
theorem day_plain (w : Int) : ∀ c ∈ dayName w, c ≠ 32 ∧ c ≠ 44 := by
  unfold dayName
  repeat' split
  all_goals decide
/-! ### Words -/
/-- The words of a text between separators. -/
def spl (c : UInt8) : Txt → List Txt
  | [] => [[]]
  | b :: l => if b = c then [] :: spl c l else match spl c l with
    | [] => [[b]]
    | x :: r => (b :: x) :: r
theorem spl_ne (c : UInt8) (s : Txt) : spl c s ≠ [] := by
  cases s with
  | nil => simp [spl]
  | cons b l =>
    unfold spl
    split
    · simp
    · split <;> simp
theorem spl_none {c : UInt8} : ∀ {x : Txt}, (∀ b ∈ x, b ≠ c) → spl c x = [x]
  | [], _ => rfl
  | b :: l, h => by
    unfold spl
    rw [if_neg (h b (by simp)), spl_none (x := l) fun a ha => h a (by simp [ha])]
theorem spl_app {c : UInt8} : ∀ {x : Txt} (y : Txt), (∀ b ∈ x, b ≠ c) → spl c (x ++ c :: y) = x :: spl c y
  | [], y, _ => by simp [spl]
  | b :: l, y, h => by
    rw [List.cons_append, spl.eq_2, if_neg (h b (by simp)), spl_app (x := l) y fun a ha => h a (by simp [ha])]
/-- Words put together again. -/
def unspl (c : UInt8) : List Txt → Txt
  | [] => []
  | [x] => x
  | x :: y :: r => x ++ c :: unspl c (y :: r)
theorem unspl_spl (c : UInt8) : ∀ s : Txt, unspl c (spl c s) = s
  | [] => rfl
  | b :: l => by
    have ih := unspl_spl c l
    unfold spl
    split
    · rename_i hb
      subst hb
      cases e : spl b l with
      | nil => exact absurd e (spl_ne b l)
      | cons x r => rw [e] at ih; show [] ++ b :: unspl b (x :: r) = _; rw [ih]; rfl
    · cases e : spl c l with
      | nil => exact absurd e (spl_ne c l)
      | cons x r =>
        rw [e] at ih
        cases r with
        | nil => show b :: x = _; rw [← ih]; rfl
        | cons y r => show (b :: x) ++ c :: unspl c (y :: r) = _; rw [List.cons_append]; congr 1
/-! ### The three texts -/
def wday (n : Int) : Int := (n + 3) % 7
def Mom.w (x : Mom) : Int := wday (dayNo x.y x.m x.d)
theorem Mom.w_bound (x : Mom) : 0 ≤ x.w ∧ x.w ≤ 6 := by unfold Mom.w wday; omega
def p2 (n : Int) : Txt := [dg (n / 10), dg n]
def p4 (n : Int) : Txt := [dg (n / 1000), dg (n / 100), dg (n / 10), dg n]
def clockT (t : Int) : Txt := p2 (t / 3600) ++ 58 :: p2 (t / 60 % 60) ++ 58 :: p2 (t % 60)
def gmt : Txt := [71, 77, 84]
def Mom.first (x : Mom) : Txt := d3 x.w ++ 44 :: 32 :: p2 x.d ++ 32 :: monName x.m ++ 32 :: p4 x.y ++ 32 :: clockT x.t ++ 32 :: gmt
def Mom.second (x : Mom) : Txt := dayName x.w ++ 44 :: 32 :: p2 x.d ++ 45 :: monName x.m ++ 45 :: p2 (x.y % 100) ++ 32 :: clockT x.t ++ 32 :: gmt
def dayT (d : Int) : Txt := if d < 10 then [32, dg d] else p2 d
def Mom.third (x : Mom) : Txt := d3 x.w ++ 32 :: monName x.m ++ 32 :: dayT x.d ++ 32 :: clockT x.t ++ 32 :: p4 x.y
theorem d3_length (w : Int) : (d3 w).length = 3 := by obtain ⟨a, b, c, e, _⟩ := d3_form w; rw [e]; rfl
theorem mon_length (w : Int) : (monName w).length = 3 := by obtain ⟨a, b, c, e, _⟩ := mon_form w; rw [e]; rfl
theorem dayT_length (d : Int) : (dayT d).length = 2 := by unfold dayT; split <;> rfl
theorem first_length (x : Mom) : x.first.length = 29 := by
  simp [Mom.first, d3_length, mon_length, p2, p4, clockT, gmt]
theorem third_length (x : Mom) : x.third.length = 24 := by
  simp [Mom.third, d3_length, mon_length, p2, p4, clockT, dayT_length]
theorem second_length (x : Mom) : 30 ≤ x.second.length ∧ x.second.length ≤ 33 := by
  have := day_len x.w
  simp [Mom.second, mon_length, p2, clockT, gmt]
  omega
end Go.Proofs.YtdlpdgdccoeklaaDoor.Dt
