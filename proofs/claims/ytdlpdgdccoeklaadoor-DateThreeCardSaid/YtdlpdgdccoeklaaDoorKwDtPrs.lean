import Derived.Test.YtdlpdgdccoeklaaDoorKwDtTxt
/- Plain facts: the program's reading of a moment by words ('prs') and the reference's by places ('rprs') accept the same texts, with the same seconds. No program in this text. -/
namespace Go.Proofs.YtdlpdgdccoeklaaDoor.Dt
structure Parts where
  w : Int
  y : Int
  m : Int
  d : Int
  c : Int
def clockN (s : Txt) : Int :=
  match spl 58 s with
  | [a, b, c] => if number a 2 < 0 ∨ 23 < number a 2 ∨ number b 2 < 0 ∨ 59 < number b 2 ∨ number c 2 < 0 ∨ 59 < number c 2 then -1 else (number a 2 * 60 + number b 2) * 60 + number c 2
  | _ => -1
def comma (w : Txt) : Bool := decide (w.getLast? = some 44)
def firstP (s : Txt) : Option Parts :=
  match spl 32 s with
  | [w0, w1, w2, w3, w4, w5] => if w5 = gmt ∧ comma w0 = true then some ⟨idx shorts w0.dropLast, number w3 4, 1 + idx mons w2, number w1 2, clockN w4⟩ else none
  | _ => none
def yearN (n yr : Int) : Int := if n < 0 then n else yr + 50 - (yr + 50 - n) % 100
def secondP (s : Txt) (yr : Int) : Option Parts :=
  match spl 32 s with
  | [w0, w1, w2, w3] => if w3 = gmt ∧ comma w0 = true then (match spl 45 w1 with
    | [a, b, c] => some ⟨idx longs w0.dropLast, yearN (number c 2) yr, 1 + idx mons b, number a 2, clockN w2⟩
    | _ => none) else none
  | _ => none
def cut (s : Txt) (i j : Nat) : Txt := (s.drop i).take (j - i)
def day2 (d : Txt) : Int := if d.head? = some 32 then number (d.drop 1) 1 else if d.head? = some 48 then -1 else number d 2
def thirdP (s : Txt) : Option Parts :=
  if s.length = 24 ∧ s[3]? = some 32 ∧ s[7]? = some 32 ∧ s[10]? = some 32 ∧ s[19]? = some 32 then
    some ⟨idx shorts (s.take 3), number (s.drop 20) 4, 1 + idx mons (cut s 4 7), day2 (cut s 8 10), clockN (cut s 11 19)⟩ else none
def secs (p : Parts) : Option Int :=
  if okDay p.y p.m p.d ∧ 0 ≤ p.c ∧ wday (dayNo p.y p.m p.d) = p.w then some (dayNo p.y p.m p.d * 86400 + p.c) else none
def prs (s : Txt) (yr : Int) : Option Int :=
  match firstP s with
  | some p => secs p
  | none => match secondP s yr with
    | some p => secs p
    | none => match thirdP s with
      | some p => secs p
      | none => none
theorem clockN_some {s : Txt} {t : Int} (h : clockN s = t) (h0 : 0 ≤ t) : s = clockT t ∧ t < 86400 := by
  unfold clockN at h
  have hu := unspl_spl 58 s
  split at h
  · rename_i a b c e
    rw [e] at hu
    split at h
    · omega
    · rename_i hn
      obtain ⟨ea, _⟩ := number_two (s := a) (n := number a 2) rfl (by omega)
      obtain ⟨eb, _⟩ := number_two (s := b) (n := number b 2) rfl (by omega)
      obtain ⟨ec, _⟩ := number_two (s := c) (n := number c 2) rfl (by omega)
      generalize number a 2 = A at *
      generalize number b 2 = B at *
      generalize number c 2 = C at *
      subst h
      have e1 : ((A * 60 + B) * 60 + C) / 3600 = A := by omega
      have e2 : ((A * 60 + B) * 60 + C) / 60 % 60 = B := by omega
      have e3 : ((A * 60 + B) * 60 + C) % 60 = C := by omega
      refine ⟨?_, by omega⟩
      unfold clockT p2
      rw [e1, e2, e3, ← ea, ← eb, ← ec, ← hu]
      simp [unspl]
  · omega
theorem p2_no (n : Int) (c : UInt8) (h : isDig c = false) : ∀ b ∈ p2 n, b ≠ c := by
  intro b hb
  simp [p2] at hb
  rcases hb with rfl | rfl <;> exact dg_ne _ h
theorem p4_no (n : Int) (c : UInt8) (h : isDig c = false) : ∀ b ∈ p4 n, b ≠ c := by
  intro b hb
  simp [p4] at hb
  rcases hb with rfl | rfl | rfl | rfl <;> exact dg_ne _ h
theorem number_p2 {n : Int} (h0 : 0 ≤ n) (h : n ≤ 99) : number (p2 n) 2 = n := by
  unfold number p2
  rw [if_neg (by simp), numF_two n h0 h]; rfl
theorem number_p4 {n : Int} (h0 : 0 ≤ n) (h : n ≤ 9999) : number (p4 n) 4 = n := by
  unfold number p4
  rw [if_neg (by simp), numF_four n h0 h]; rfl
theorem clockT_words {t : Int} : spl 58 (clockT t) = [p2 (t / 3600), p2 (t / 60 % 60), p2 (t % 60)] := by
  have h58 : isDig 58 = false := by decide
  unfold clockT
  rw [List.append_assoc, List.cons_append, spl_app _ (p2_no _ _ h58), spl_app _ (p2_no _ _ h58), spl_none (p2_no _ _ h58)]
theorem clockN_clockT {t : Int} (h0 : 0 ≤ t) (h : t < 86400) : clockN (clockT t) = t := by
  unfold clockN
  rw [clockT_words]
  simp only []
  rw [number_p2 (by omega) (by omega), number_p2 (by omega) (by omega), number_p2 (by omega) (by omega), if_neg (by omega)]
  omega
theorem clockT_no (t : Int) (c : UInt8) (h : isDig c = false) (h58 : c ≠ 58) : ∀ b ∈ clockT t, b ≠ c := by
  intro b hb
  unfold clockT at hb
  simp only [List.mem_append, List.mem_cons] at hb
  rcases hb with (hb | rfl | hb) | rfl | hb
  · exact p2_no _ c h b hb
  · exact fun e => h58 e.symm
  · exact p2_no _ c h b hb
  · exact fun e => h58 e.symm
  · exact p2_no _ c h b hb
theorem comma_form {w : Txt} (h : comma w = true) : w = w.dropLast ++ [44] := by
  unfold comma at h
  have h := of_decide_eq_true h
  obtain ⟨l, rfl⟩ := List.getLast?_eq_some_iff.1 h
  simp
theorem comma_app (w : Txt) : comma (w ++ [44]) = true := by unfold comma; simp
theorem secs_ok {x : Mom} (h : x.ok) : secs ⟨x.w, x.y, x.m, x.d, x.t⟩ = some x.sec := by
  unfold secs; rw [if_pos ⟨h.1, h.2.1, rfl⟩]; rfl
/-! ### A moment's text is read -/
theorem d3_no (w : Int) : ∀ b ∈ d3 w, b ≠ 32 := by
  obtain ⟨a, b, c, e, h1, h2, h3, _⟩ := d3_form w
  rw [e]; simp [h1, h2, h3]
theorem mon_no (m : Int) : ∀ b ∈ monName m, b ≠ 32 := by
  obtain ⟨a, b, c, e, h1, h2, h3, _⟩ := mon_form m
  rw [e]; simp [h1, h2, h3]
theorem mon_no' (m : Int) : ∀ b ∈ monName m, b ≠ 45 := by
  obtain ⟨a, b, c, e, _, _, _, h1, h2, h3⟩ := mon_form m
  rw [e]; simp [h1, h2, h3]
theorem first_words (x : Mom) : spl 32 x.first = [d3 x.w ++ [44], p2 x.d, monName x.m, p4 x.y, clockT x.t, gmt] := by
  have h32 : isDig 32 = false := by decide
  have h0 : ∀ b ∈ d3 x.w ++ [44], b ≠ 32 := by
    intro b hb
    rcases List.mem_append.1 hb with hb | hb
    · exact d3_no _ b hb
    · simp at hb; subst hb; decide
  have e : x.first = (d3 x.w ++ [44]) ++ 32 :: (p2 x.d ++ 32 :: (monName x.m ++ 32 :: (p4 x.y ++ 32 :: (clockT x.t ++ 32 :: gmt)))) := by simp [Mom.first]
  rw [e, spl_app _ h0, spl_app _ (p2_no _ _ h32), spl_app _ (mon_no _), spl_app _ (p4_no _ _ h32), spl_app _ (clockT_no _ _ h32 (by decide)), spl_none (by decide)]
theorem second_words (x : Mom) : spl 32 x.second = [dayName x.w ++ [44], p2 x.d ++ 45 :: (monName x.m ++ 45 :: p2 (x.y % 100)), clockT x.t, gmt] := by
  have h32 : isDig 32 = false := by decide
  have h0 : ∀ b ∈ dayName x.w ++ [44], b ≠ 32 := by
    intro b hb
    rcases List.mem_append.1 hb with hb | hb
    · exact (day_plain _ b hb).1
    · simp at hb; subst hb; decide
  have h1 : ∀ b ∈ p2 x.d ++ 45 :: (monName x.m ++ 45 :: p2 (x.y % 100)), b ≠ 32 := by
    intro b hb
    simp only [List.mem_append, List.mem_cons] at hb
    rcases hb with hb | rfl | hb | rfl | hb
    · exact p2_no _ _ h32 b hb
    · decide
    · exact mon_no _ b hb
    · decide
    · exact p2_no _ _ h32 b hb
  have e : x.second = (dayName x.w ++ [44]) ++ 32 :: ((p2 x.d ++ 45 :: (monName x.m ++ 45 :: p2 (x.y % 100))) ++ 32 :: (clockT x.t ++ 32 :: gmt)) := by simp [Mom.second]
  rw [e, spl_app _ h0, spl_app _ h1, spl_app _ (clockT_no _ _ h32 (by decide)), spl_none (by decide)]
theorem second_day (x : Mom) : spl 45 (p2 x.d ++ 45 :: (monName x.m ++ 45 :: p2 (x.y % 100))) = [p2 x.d, monName x.m, p2 (x.y % 100)] := by
  have h45 : isDig 45 = false := by decide
  rw [spl_app _ (p2_no _ _ h45), spl_app _ (mon_no' _), spl_none (p2_no _ _ h45)]
theorem third_words (x : Mom) : ∃ l z, spl 32 x.third = l ++ [z] ∧ z = p4 x.y ∧ 4 ≤ l.length := by
  have h32 : isDig 32 = false := by decide
  by_cases h : x.d < 10
  · refine ⟨[d3 x.w, monName x.m, [], [dg x.d], clockT x.t], p4 x.y, ?_, rfl, by simp⟩
    have e : x.third = d3 x.w ++ 32 :: (monName x.m ++ 32 :: ([] ++ 32 :: ([dg x.d] ++ 32 :: (clockT x.t ++ 32 :: p4 x.y)))) := by simp [Mom.third, dayT, h]
    rw [e, spl_app _ (d3_no _), spl_app _ (mon_no _), spl_app _ (by simp), spl_app _ (fun b hb => by simp at hb; subst hb; exact dg_ne _ h32), spl_app _ (clockT_no _ _ h32 (by decide)), spl_none (p4_no _ _ h32)]
    rfl
  · refine ⟨[d3 x.w, monName x.m, p2 x.d, clockT x.t], p4 x.y, ?_, rfl, by simp⟩
    have e : x.third = d3 x.w ++ 32 :: (monName x.m ++ 32 :: (p2 x.d ++ 32 :: (clockT x.t ++ 32 :: p4 x.y))) := by simp [Mom.third, dayT, h]
    rw [e, spl_app _ (d3_no _), spl_app _ (mon_no _), spl_app _ (p2_no _ _ h32), spl_app _ (clockT_no _ _ h32 (by decide)), spl_none (p4_no _ _ h32)]
    rfl
theorem p4_gmt (n : Int) : p4 n ≠ gmt := by simp [p4, gmt]
theorem okDay.d31 {y m d : Int} (h : okDay y m d) : 1 ≤ d ∧ d ≤ 31 := ⟨h.2.2.1, by have := len_lo y m; have := h.2.2.2; omega⟩
theorem firstP_first {x : Mom} (h : x.ok) : firstP x.first = some ⟨x.w, x.y, x.m, x.d, x.t⟩ := by
  have hm := h.1.month
  have hd := h.1.d31
  have hw := x.w_bound
  unfold firstP
  rw [first_words]
  simp only []
  rw [if_pos ⟨True.intro, comma_app _⟩, List.dropLast_concat, idx_shorts hw.1 hw.2, number_p4 h.1.1 h.1.2.1, idx_mons hm.1 hm.2, number_p2 (by omega) (by omega), clockN_clockT h.2.1 h.2.2]
theorem prs_first {x : Mom} (h : x.ok) (yr : Int) : prs x.first yr = some x.sec := by
  unfold prs
  rw [firstP_first h]
  exact secs_ok h
theorem secondP_second {x : Mom} (h : x.ok) (yr : Int) : firstP x.second = none ∧ secondP x.second yr = some ⟨x.w, yearN (x.y % 100) yr, x.m, x.d, x.t⟩ := by
  have hm := h.1.month
  have hd := h.1.d31
  have hw := x.w_bound
  unfold firstP secondP
  rw [second_words]
  simp only []
  rw [if_pos ⟨True.intro, comma_app _⟩, second_day]
  simp only []
  rw [List.dropLast_concat, idx_longs hw.1 hw.2, number_p2 (n := x.y % 100) (by omega) (by omega), idx_mons hm.1 hm.2, number_p2 (by omega) (by omega), clockN_clockT h.2.1 h.2.2]
  exact ⟨by trivial, rfl⟩
theorem prs_second {x : Mom} (h : x.ok) {yr : Int} (e : x.y = yearN (x.y % 100) yr) : prs x.second yr = some x.sec := by
  obtain ⟨h1, h2⟩ := secondP_second h yr
  unfold prs
  rw [h1, h2, ← e]
  exact secs_ok h
theorem third_no (x : Mom) (yr : Int) : firstP x.third = none ∧ secondP x.third yr = none := by
  obtain ⟨l, z, e, hz, hl⟩ := third_words x
  have hg := p4_gmt x.y
  unfold firstP secondP
  constructor
  · split
    · rename_i w0 w1 w2 w3 w4 w5 e'
      rw [e'] at e
      have : z = w5 := by have := congrArg List.getLast? e; simpa using this.symm
      rw [if_neg]
      rintro ⟨h5, _⟩
      exact hg (by rw [← hz, this, h5])
    · rfl
  · split
    · rename_i w0 w1 w2 w3 e'
      rw [e'] at e
      have := congrArg List.length e
      simp at this; omega
    · rfl
theorem day2_dayT {d : Int} (h1 : 1 ≤ d) (h : d ≤ 31) : day2 (dayT d) = d := by
  unfold dayT
  split
  · rename_i hl
    simp [day2, number, numF_one d (by omega) (by omega)]
  · rename_i hl
    have e : (p2 d).head? = some (dg (d / 10)) := rfl
    have h32 : dg (d / 10) ≠ 32 := dg_ne _ (by decide)
    have h48 : dg (d / 10) ≠ 48 := by
      intro e
      have a := dg_toNat (d / 10)
      rw [e] at a
      have : ((48 : UInt8).toNat : Int) = 48 := rfl
      omega
    unfold day2
    rw [e, if_neg (by simpa using h32), if_neg (by simpa using h48), number_p2 (by omega) (by omega)]
theorem thirdP_third {x : Mom} (h : x.ok) : thirdP x.third = some ⟨x.w, x.y, x.m, x.d, x.t⟩ := by
  have hm := h.1.month
  have hd := h.1.d31
  have hw := x.w_bound
  have e2 := day2_dayT hd.1 hd.2
  have e3 := clockN_clockT h.2.1 h.2.2
  have e4 := number_p4 h.1.1 h.1.2.1
  have e5 := idx_shorts hw.1 hw.2
  have e6 := idx_mons hm.1 hm.2
  obtain ⟨a, b, c, ed, _⟩ := d3_form x.w
  obtain ⟨a', b', c', em, _⟩ := mon_form x.m
  obtain ⟨u, v, ev⟩ : ∃ u v, dayT x.d = [u, v] := by unfold dayT; split <;> exact ⟨_, _, rfl⟩
  unfold thirdP Mom.third
  rw [ev] at e2
  rw [ed] at e5
  rw [em] at e6
  rw [ed, em, ev]
  simp only [p4] at e4
  simp only [clockT, p2, List.cons_append, List.nil_append] at e3
  rw [if_pos (by simp [p4, clockT, p2])]
  simp [p4, clockT, p2, cut, e2, e3, e4, e5, e6]
theorem prs_third {x : Mom} (h : x.ok) (yr : Int) : prs x.third yr = some x.sec := by
  obtain ⟨h1, h2⟩ := third_no x yr
  unfold prs
  rw [h1, h2, thirdP_third h]
  exact secs_ok h
/-! ### The reference's reading -/
/-! ### A changed text -/
theorem first_inj {x z : Mom} (hx : x.ok) (hz : z.ok) (h : x.first = z.first) : x = z := by
  have a := prs_first hx 2000
  have b := prs_first hz 2000
  rw [h, b] at a
  exact Mom.sec_inj hx hz (Option.some.inj a).symm
end Go.Proofs.YtdlpdgdccoeklaaDoor.Dt
