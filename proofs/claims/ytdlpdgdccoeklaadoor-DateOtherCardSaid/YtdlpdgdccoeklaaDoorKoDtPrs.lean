import Derived.Test.YtdlpdgdccoeklaaDoorKoDtTxt
/- Plain facts: the program's reading of a moment by words ('prs') and the reference's by places ('rprs') accept the same texts, with the same seconds. No program in this text. -/
namespace Go.Proofs.YtdlpdgdccoeklaaDoor.Dt
structure Parts where
  w : Int
  y : Int
  m : Int
  d : Int
  c : Int
def clockN (s : Txt) : Int :=
  match spl 58 s with
  | [a, b, c] => if number a 2 < 0 ∨ 23 < number a 2 ∨ number b 2 < 0 ∨ 59 < number b 2 ∨ number c 2 < 0 ∨ 59 < number c 2 then -1 else (number a 2 * 60 + number b 2) * 60 + number c 2
  | _ => -1
def comma (w : Txt) : Bool := decide (w.getLast? = some 44)
def firstP (s : Txt) : Option Parts :=
  match spl 32 s with
  | [w0, w1, w2, w3, w4, w5] => if w5 = gmt ∧ comma w0 = true then some ⟨idx shorts w0.dropLast, number w3 4, 1 + idx mons w2, number w1 2, clockN w4⟩ else none
  | _ => none
def yearN (n yr : Int) : Int := if n < 0 then n else yr + 50 - (yr + 50 - n) % 100
def secondP (s : Txt) (yr : Int) : Option Parts :=
  match spl 32 s with
  | [w0, w1, w2, w3] => if w3 = gmt ∧ comma w0 = true then (match spl 45 w1 with
    | [a, b, c] => some ⟨idx longs w0.dropLast, yearN (number c 2) yr, 1 + idx mons b, number a 2, clockN w2⟩
    | _ => none) else none
  | _ => none
def cut (s : Txt) (i j : Nat) : Txt := (s.drop i).take (j - i)
def day2 (d : Txt) : Int := if d.head? = some 32 then number (d.drop 1) 1 else if d.head? = some 48 then -1 else number d 2
def thirdP (s : Txt) : Option Parts :=
  if s.length = 24 ∧ s[3]? = some 32 ∧ s[7]? = some 32 ∧ s[10]? = some 32 ∧ s[19]? = some 32 then
    some ⟨idx shorts (s.take 3), number (s.drop 20) 4, 1 + idx mons (cut s 4 7), day2 (cut s 8 10), clockN (cut s 11 19)⟩ else none
def secs (p : Parts) : Option Int :=
  if okDay p.y p.m p.d ∧ 0 ≤ p.c ∧ wday (dayNo p.y p.m p.d) = p.w then some (dayNo p.y p.m p.d * 86400 + p.c) else none
def prs (s : Txt) (yr : Int) : Option Int :=
  match firstP s with
  | some p => secs p
  | none => match secondP s yr with
    | some p => secs p
    | none => match thirdP s with
      | some p => secs p
      | none => none
/-- A text is a moment's, and its seconds are n. -/
def Is (s : Txt) (yr n : Int) : Prop := ∃ x : Mom, x.ok ∧ x.sec = n ∧ (s = x.first ∨ (s = x.second ∧ x.y = yearN (x.y % 100) yr) ∨ s = x.third)
theorem clockN_some {s : Txt} {t : Int} (h : clockN s = t) (h0 : 0 ≤ t) : s = clockT t ∧ t < 86400 := by
  unfold clockN at h
  have hu := unspl_spl 58 s
  split at h
  · rename_i a b c e
    rw [e] at hu
    split at h
    · omega
    · rename_i hn
      obtain ⟨ea, _⟩ := number_two (s := a) (n := number a 2) rfl (by omega)
      obtain ⟨eb, _⟩ := number_two (s := b) (n := number b 2) rfl (by omega)
      obtain ⟨ec, _⟩ := number_two (s := c) (n := number c 2) rfl (by omega)
      generalize number a 2 = A at *
      generalize number b 2 = B at *
      generalize number c 2 = C at *
      subst h
      have e1 : ((A * 60 + B) * 60 + C) / 3600 = A := by omega
      have e2 : ((A * 60 + B) * 60 + C) / 60 % 60 = B := by omega
      have e3 : ((A * 60 + B) * 60 + C) % 60 = C := by omega
      refine ⟨?_, by omega⟩
      unfold clockT p2
      rw [e1, e2, e3, ← ea, ← eb, ← ec, ← hu]
      simp [unspl]
  · omega
theorem p2_no (n : Int) (c : UInt8) (h : isDig c = false) : ∀ b ∈ p2 n, b ≠ c := by
  intro b hb
  simp [p2] at hb
  rcases hb with rfl | rfl <;> exact dg_ne _ h
theorem p4_no (n : Int) (c : UInt8) (h : isDig c = false) : ∀ b ∈ p4 n, b ≠ c := by
  intro b hb
  simp [p4] at hb
  rcases hb with rfl | rfl | rfl | rfl <;> exact dg_ne _ h
theorem number_p2 {n : Int} (h0 : 0 ≤ n) (h : n ≤ 99) : number (p2 n) 2 = n := by
  unfold number p2
  rw [if_neg (by simp), numF_two n h0 h]; rfl
theorem number_p4 {n : Int} (h0 : 0 ≤ n) (h : n ≤ 9999) : number (p4 n) 4 = n := by
  unfold number p4
  rw [if_neg (by simp), numF_four n h0 h]; rfl
theorem clockT_words {t : Int} : spl 58 (clockT t) = [p2 (t / 3600), p2 (t / 60 % 60), p2 (t % 60)] := by
  have h58 : isDig 58 = false := by decide
  unfold clockT
  rw [List.append_assoc, List.cons_append, spl_app _ (p2_no _ _ h58), spl_app _ (p2_no _ _ h58), spl_none (p2_no _ _ h58)]
theorem clockN_clockT {t : Int} (h0 : 0 ≤ t) (h : t < 86400) : clockN (clockT t) = t := by
  unfold clockN
  rw [clockT_words]
  simp only []
  rw [number_p2 (by omega) (by omega), number_p2 (by omega) (by omega), number_p2 (by omega) (by omega), if_neg (by omega)]
  omega
theorem clockT_no (t : Int) (c : UInt8) (h : isDig c = false) (h58 : c ≠ 58) : ∀ b ∈ clockT t, b ≠ c := by
  intro b hb
  unfold clockT at hb
  simp only [List.mem_append, List.mem_cons] at hb
  rcases hb with (hb | rfl | hb) | rfl | hb
  · exact p2_no _ c h b hb
  · exact fun e => h58 e.symm
  · exact p2_no _ c h b hb
  · exact fun e => h58 e.symm
  · exact p2_no _ c h b hb
theorem comma_form {w : Txt} (h : comma w = true) : w = w.dropLast ++ [44] := by
  unfold comma at h
  have h := of_decide_eq_true h
  obtain ⟨l, rfl⟩ := List.getLast?_eq_some_iff.1 h
  simp
theorem comma_app (w : Txt) : comma (w ++ [44]) = true := by unfold comma; simp
theorem yearN_same {n yr : Int} (h0 : 0 ≤ n) (h : n ≤ 99) (ha : 100 ≤ yr) : yearN n yr % 100 = n ∧ 0 ≤ yearN n yr := by
  unfold yearN; rw [if_neg (by omega)]; omega
theorem secs_some {p : Parts} {n : Int} (h : secs p = some n) (hc : p.c < 86400) : Mom.ok ⟨p.y, p.m, p.d, p.c⟩ ∧ Mom.sec ⟨p.y, p.m, p.d, p.c⟩ = n ∧ Mom.w ⟨p.y, p.m, p.d, p.c⟩ = p.w := by
  unfold secs at h
  split at h
  · rename_i hk
    exact ⟨⟨hk.1, hk.2.1, hc⟩, Option.some.inj h, hk.2.2⟩
  · cases h
theorem secs_ok {x : Mom} (h : x.ok) : secs ⟨x.w, x.y, x.m, x.d, x.t⟩ = some x.sec := by
  unfold secs; rw [if_pos ⟨h.1, h.2.1, rfl⟩]; rfl
theorem secs_c {p : Parts} {n : Int} (h : secs p = some n) : okDay p.y p.m p.d ∧ 0 ≤ p.c ∧ 0 ≤ p.w ∧ p.w ≤ 6 := by
  unfold secs at h
  split at h
  · rename_i hk
    refine ⟨hk.1, hk.2.1, ?_⟩
    rw [← hk.2.2]; unfold wday; omega
  · cases h
theorem first_is {s : Txt} {p : Parts} {n : Int} (hp : firstP s = some p) (h : secs p = some n) : ∃ x : Mom, x.ok ∧ x.sec = n ∧ s = x.first := by
  unfold firstP at hp
  have hu := unspl_spl 32 s
  split at hp
  · rename_i w0 w1 w2 w3 w4 w5 e
    rw [e] at hu
    split at hp
    · rename_i hk
      obtain ⟨h5, hc⟩ := hk
      have hp := Option.some.inj hp
      have hs := secs_c h
      obtain ⟨hd, h0, hw0, hw6⟩ := hs
      subst hp
      simp only at hd h0 hw0 hw6
      obtain ⟨e4, ht⟩ := clockN_some rfl h0
      obtain ⟨_, ew⟩ := idx_short rfl hw0
      obtain ⟨_, em⟩ := idx_mon rfl hd.month.1
      obtain ⟨ey, _⟩ := number_four rfl hd.1
      obtain ⟨ed, _⟩ := number_two (s := w1) rfl (by have := hd.2.2.1; omega)
      obtain ⟨hok, hsec, hwd⟩ := secs_some h ht
      refine ⟨_, hok, hsec, ?_⟩
      unfold Mom.first
      rw [hwd]
      have e0 := comma_form hc
      simp only
      rw [← hu, e0, ew, ← e4, ← em, show p4 (number w3 4) = w3 from ey.symm, show p2 (number w1 2) = w1 from ed.symm, ← ew, h5]
      simp [unspl]
      exact ew
    · cases hp
  · cases hp
theorem second_is {s : Txt} {p : Parts} {n yr : Int} (ha : 100 ≤ yr) (hp : secondP s yr = some p) (h : secs p = some n) : ∃ x : Mom, x.ok ∧ x.sec = n ∧ s = x.second ∧ x.y = yearN (x.y % 100) yr := by
  unfold secondP at hp
  have hu := unspl_spl 32 s
  split at hp
  · rename_i w0 w1 w2 w3 e
    rw [e] at hu
    split at hp
    · rename_i hk
      obtain ⟨h5, hc⟩ := hk
      have hv := unspl_spl 45 w1
      split at hp
      · rename_i a b c e'
        rw [e'] at hv
        have hp := Option.some.inj hp
        have hs := secs_c h
        obtain ⟨hd, h0, hw0, hw6⟩ := hs
        subst hp
        simp only at hd h0 hw0 hw6
        obtain ⟨e4, ht⟩ := clockN_some rfl h0
        obtain ⟨_, ew⟩ := idx_long rfl hw0
        obtain ⟨_, em⟩ := idx_mon rfl hd.month.1
        have hy0 : 0 ≤ number c 2 := by
          have := hd.1
          unfold yearN at this
          split at this
          · omega
          · omega
        obtain ⟨ey, hy9⟩ := number_two rfl hy0
        obtain ⟨ed, _⟩ := number_two (s := a) rfl (by have := hd.2.2.1; omega)
        obtain ⟨hok, hsec, hwd⟩ := secs_some h ht
        have hys := yearN_same hy0 hy9 ha
        refine ⟨_, hok, hsec, ?_, ?_⟩
        · unfold Mom.second
          rw [hwd]
          have e0 := comma_form hc
          simp only
          rw [hys.1, ← hu, e0, ew, ← e4, ← em, show p2 (number c 2) = c from ey.symm, show p2 (number a 2) = a from ed.symm, ← ew, h5, ← hv]
          simp [unspl]
          exact ew
        · simp only; rw [hys.1]
      · cases hp
    · cases hp
  · cases hp
theorem day2_some {a b : UInt8} {n : Int} (h : day2 [a, b] = n) (h1 : 1 ≤ n) : [a, b] = dayT n := by
  unfold day2 at h
  simp only [List.head?_cons, Option.some.injEq, List.drop_succ_cons, List.drop_zero] at h
  split at h
  · rename_i ha
    obtain ⟨e, h9⟩ := number_one h (by omega)
    unfold dayT
    rw [if_pos (by omega), ha, e]
  · split at h
    · omega
    · rename_i ha hb
      obtain ⟨e, h9⟩ := number_two h (by omega)
      unfold dayT
      rw [if_neg ?_]
      · exact e
      · intro hl
        apply hb
        have e1 : a = dg (n / 10) := (List.cons.inj e).1
        have : n / 10 = 0 := by omega
        rw [e1, this]; rfl
theorem third_is {s : Txt} {p : Parts} {n : Int} (hp : thirdP s = some p) (h : secs p = some n) : ∃ x : Mom, x.ok ∧ x.sec = n ∧ s = x.third := by
  unfold thirdP at hp
  split at hp
  · rename_i hk
    obtain ⟨hl, k3, k7, k10, k19⟩ := hk
    have hp := Option.some.inj hp
    obtain ⟨hd, h0, hw0, hw6⟩ := secs_c h
    match s, hl with
    | [a0, a1, a2, a3, a4, a5, a6, a7, a8, a9, a10, a11, a12, a13, a14, a15, a16, a17, a18, a19, a20, a21, a22, a23], _ =>
      simp only [List.getElem?_cons_succ, List.getElem?_cons_zero, Option.some.injEq] at k3 k7 k10 k19
      subst k3 k7 k10 k19
      subst hp
      simp only [cut, List.take_succ_cons, List.take_zero, List.drop_succ_cons, List.drop_zero, Nat.reduceSub] at hd h0 hw0 hw6 h
      obtain ⟨e4, ht⟩ := clockN_some rfl h0
      obtain ⟨_, ew⟩ := idx_short rfl hw0
      obtain ⟨_, em⟩ := idx_mon rfl hd.month.1
      obtain ⟨ey, _⟩ := number_four rfl hd.1
      have ed := day2_some rfl hd.2.2.1
      obtain ⟨hok, hsec, hwd⟩ := secs_some h ht
      refine ⟨_, hok, hsec, ?_⟩
      unfold Mom.third
      rw [hwd]
      simp only
      rw [← ew, ← e4, ← em, ← ed, show p4 (number [a20, a21, a22, a23] 4) = _ from ey.symm]
      rfl
  · cases hp
theorem prs_is {s : Txt} {yr n : Int} (ha : 100 ≤ yr) (h : prs s yr = some n) : Is s yr n := by
  unfold prs at h
  split at h
  · rename_i p hp
    obtain ⟨x, a, b, c⟩ := first_is hp h
    exact ⟨x, a, b, .inl c⟩
  · split at h
    · rename_i p hp
      obtain ⟨x, a, b, c⟩ := second_is ha hp h
      exact ⟨x, a, b, .inr (.inl c)⟩
    · split at h
      · rename_i p hp
        obtain ⟨x, a, b, c⟩ := third_is hp h
        exact ⟨x, a, b, .inr (.inr c)⟩
      · cases h
/-! ### A moment's text is read -/
theorem d3_no (w : Int) : ∀ b ∈ d3 w, b ≠ 32 := by
  obtain ⟨a, b, c, e, h1, h2, h3, _⟩ := d3_form w
  rw [e]; simp [h1, h2, h3]
theorem mon_no (m : Int) : ∀ b ∈ monName m, b ≠ 32 := by
  obtain ⟨a, b, c, e, h1, h2, h3, _⟩ := mon_form m
  rw [e]; simp [h1, h2, h3]
theorem mon_no' (m : Int) : ∀ b ∈ monName m, b ≠ 45 := by
  obtain ⟨a, b, c, e, _, _, _, h1, h2, h3⟩ := mon_form m
  rw [e]; simp [h1, h2, h3]
theorem first_words (x : Mom) : spl 32 x.first = [d3 x.w ++ [44], p2 x.d, monName x.m, p4 x.y, clockT x.t, gmt] := by
  have h32 : isDig 32 = false := by decide
  have h0 : ∀ b ∈ d3 x.w ++ [44], b ≠ 32 := by
    intro b hb
    rcases List.mem_append.1 hb with hb | hb
    · exact d3_no _ b hb
    · simp at hb; subst hb; decide
  have e : x.first = (d3 x.w ++ [44]) ++ 32 :: (p2 x.d ++ 32 :: (monName x.m ++ 32 :: (p4 x.y ++ 32 :: (clockT x.t ++ 32 :: gmt)))) := by simp [Mom.first]
  rw [e, spl_app _ h0, spl_app _ (p2_no _ _ h32), spl_app _ (mon_no _), spl_app _ (p4_no _ _ h32), spl_app _ (clockT_no _ _ h32 (by decide)), spl_none (by decide)]
theorem second_words (x : Mom) : spl 32 x.second = [dayName x.w ++ [44], p2 x.d ++ 45 :: (monName x.m ++ 45 :: p2 (x.y % 100)), clockT x.t, gmt] := by
  have h32 : isDig 32 = false := by decide
  have h0 : ∀ b ∈ dayName x.w ++ [44], b ≠ 32 := by
    intro b hb
    rcases List.mem_append.1 hb with hb | hb
    · exact (day_plain _ b hb).1
    · simp at hb; subst hb; decide
  have h1 : ∀ b ∈ p2 x.d ++ 45 :: (monName x.m ++ 45 :: p2 (x.y % 100)), b ≠ 32 := by
    intro b hb
    simp only [List.mem_append, List.mem_cons] at hb
    rcases hb with hb | rfl | hb | rfl | hb
    · exact p2_no _ _ h32 b hb
    · decide
    · exact mon_no _ b hb
    · decide
    · exact p2_no _ _ h32 b hb
  have e : x.second = (dayName x.w ++ [44]) ++ 32 :: ((p2 x.d ++ 45 :: (monName x.m ++ 45 :: p2 (x.y % 100))) ++ 32 :: (clockT x.t ++ 32 :: gmt)) := by simp [Mom.second]
  rw [e, spl_app _ h0, spl_app _ h1, spl_app _ (clockT_no _ _ h32 (by decide)), spl_none (by decide)]
theorem second_day (x : Mom) : spl 45 (p2 x.d ++ 45 :: (monName x.m ++ 45 :: p2 (x.y % 100))) = [p2 x.d, monName x.m, p2 (x.y % 100)] := by
  have h45 : isDig 45 = false := by decide
  rw [spl_app _ (p2_no _ _ h45), spl_app _ (mon_no' _), spl_none (p2_no _ _ h45)]
theorem third_words (x : Mom) : ∃ l z, spl 32 x.third = l ++ [z] ∧ z = p4 x.y ∧ 4 ≤ l.length := by
  have h32 : isDig 32 = false := by decide
  by_cases h : x.d < 10
  · refine ⟨[d3 x.w, monName x.m, [], [dg x.d], clockT x.t], p4 x.y, ?_, rfl, by simp⟩
    have e : x.third = d3 x.w ++ 32 :: (monName x.m ++ 32 :: ([] ++ 32 :: ([dg x.d] ++ 32 :: (clockT x.t ++ 32 :: p4 x.y)))) := by simp [Mom.third, dayT, h]
    rw [e, spl_app _ (d3_no _), spl_app _ (mon_no _), spl_app _ (by simp), spl_app _ (fun b hb => by simp at hb; subst hb; exact dg_ne _ h32), spl_app _ (clockT_no _ _ h32 (by decide)), spl_none (p4_no _ _ h32)]
    rfl
  · refine ⟨[d3 x.w, monName x.m, p2 x.d, clockT x.t], p4 x.y, ?_, rfl, by simp⟩
    have e : x.third = d3 x.w ++ 32 :: (monName x.m ++ 32 :: (p2 x.d ++ 32 :: (clockT x.t ++ 32 :: p4 x.y))) := by simp [Mom.third, dayT, h]
    rw [e, spl_app _ (d3_no _), spl_app _ (mon_no _), spl_app _ (p2_no _ _ h32), spl_app _ (clockT_no _ _ h32 (by decide)), spl_none (p4_no _ _ h32)]
    rfl
theorem p4_gmt (n : Int) : p4 n ≠ gmt := by simp [p4, gmt]
theorem okDay.d31 {y m d : Int} (h : okDay y m d) : 1 ≤ d ∧ d ≤ 31 := ⟨h.2.2.1, by have := len_lo y m; have := h.2.2.2; omega⟩
theorem firstP_first {x : Mom} (h : x.ok) : firstP x.first = some ⟨x.w, x.y, x.m, x.d, x.t⟩ := by
  have hm := h.1.month
  have hd := h.1.d31
  have hw := x.w_bound
  unfold firstP
  rw [first_words]
  simp only []
  rw [if_pos ⟨True.intro, comma_app _⟩, List.dropLast_concat, idx_shorts hw.1 hw.2, number_p4 h.1.1 h.1.2.1, idx_mons hm.1 hm.2, number_p2 (by omega) (by omega), clockN_clockT h.2.1 h.2.2]
theorem prs_first {x : Mom} (h : x.ok) (yr : Int) : prs x.first yr = some x.sec := by
  unfold prs
  rw [firstP_first h]
  exact secs_ok h
theorem secondP_second {x : Mom} (h : x.ok) (yr : Int) : firstP x.second = none ∧ secondP x.second yr = some ⟨x.w, yearN (x.y % 100) yr, x.m, x.d, x.t⟩ := by
  have hm := h.1.month
  have hd := h.1.d31
  have hw := x.w_bound
  unfold firstP secondP
  rw [second_words]
  simp only []
  rw [if_pos ⟨True.intro, comma_app _⟩, second_day]
  simp only []
  rw [List.dropLast_concat, idx_longs hw.1 hw.2, number_p2 (n := x.y % 100) (by omega) (by omega), idx_mons hm.1 hm.2, number_p2 (by omega) (by omega), clockN_clockT h.2.1 h.2.2]
  exact ⟨by trivial, rfl⟩
theorem prs_second {x : Mom} (h : x.ok) {yr : Int} (e : x.y = yearN (x.y % 100) yr) : prs x.second yr = some x.sec := by
  obtain ⟨h1, h2⟩ := secondP_second h yr
  unfold prs
  rw [h1, h2, ← e]
  exact secs_ok h
theorem third_no (x : Mom) (yr : Int) : firstP x.third = none ∧ secondP x.third yr = none := by
  obtain ⟨l, z, e, hz, hl⟩ := third_words x
  have hg := p4_gmt x.y
  unfold firstP secondP
  constructor
  · split
    · rename_i w0 w1 w2 w3 w4 w5 e'
      rw [e'] at e
      have : z = w5 := by have := congrArg List.getLast? e; simpa using this.symm
      rw [if_neg]
      rintro ⟨h5, _⟩
      exact hg (by rw [← hz, this, h5])
    · rfl
  · split
    · rename_i w0 w1 w2 w3 e'
      rw [e'] at e
      have := congrArg List.length e
      simp at this; omega
    · rfl
theorem day2_dayT {d : Int} (h1 : 1 ≤ d) (h : d ≤ 31) : day2 (dayT d) = d := by
  unfold dayT
  split
  · rename_i hl
    simp [day2, number, numF_one d (by omega) (by omega)]
  · rename_i hl
    have e : (p2 d).head? = some (dg (d / 10)) := rfl
    have h32 : dg (d / 10) ≠ 32 := dg_ne _ (by decide)
    have h48 : dg (d / 10) ≠ 48 := by
      intro e
      have a := dg_toNat (d / 10)
      rw [e] at a
      have : ((48 : UInt8).toNat : Int) = 48 := rfl
      omega
    unfold day2
    rw [e, if_neg (by simpa using h32), if_neg (by simpa using h48), number_p2 (by omega) (by omega)]
theorem thirdP_third {x : Mom} (h : x.ok) : thirdP x.third = some ⟨x.w, x.y, x.m, x.d, x.t⟩ := by
  have hm := h.1.month
  have hd := h.1.d31
  have hw := x.w_bound
  have e2 := day2_dayT hd.1 hd.2
  have e3 := clockN_clockT h.2.1 h.2.2
  have e4 := number_p4 h.1.1 h.1.2.1
  have e5 := idx_shorts hw.1 hw.2
  have e6 := idx_mons hm.1 hm.2
  obtain ⟨a, b, c, ed, _⟩ := d3_form x.w
  obtain ⟨a', b', c', em, _⟩ := mon_form x.m
  obtain ⟨u, v, ev⟩ : ∃ u v, dayT x.d = [u, v] := by unfold dayT; split <;> exact ⟨_, _, rfl⟩
  unfold thirdP Mom.third
  rw [ev] at e2
  rw [ed] at e5
  rw [em] at e6
  rw [ed, em, ev]
  simp only [p4] at e4
  simp only [clockT, p2, List.cons_append, List.nil_append] at e3
  rw [if_pos (by simp [p4, clockT, p2])]
  simp [p4, clockT, p2, cut, e2, e3, e4, e5, e6]
theorem prs_third {x : Mom} (h : x.ok) (yr : Int) : prs x.third yr = some x.sec := by
  obtain ⟨h1, h2⟩ := third_no x yr
  unfold prs
  rw [h1, h2, thirdP_third h]
  exact secs_ok h
/-! ### The reference's reading -/
def hms (s : Txt) : Option Int :=
  if 0 ≤ rnum (cut s 0 2) ∧ rnum (cut s 0 2) ≤ 23 ∧ 0 ≤ rnum (cut s 3 5) ∧ rnum (cut s 3 5) ≤ 59 ∧ 0 ≤ rnum (cut s 6 8) ∧ rnum (cut s 6 8) ≤ 59 then
    some (rnum (cut s 0 2) * 3600 + rnum (cut s 3 5) * 60 + rnum (cut s 6 8)) else none
theorem rnum_p2 {n : Int} (h0 : 0 ≤ n) (h : n ≤ 99) : rnum (p2 n) = n := by
  unfold rnum p2
  rw [if_neg (by simp), numF_two n h0 h]; rfl
theorem rnum_p4 {n : Int} (h0 : 0 ≤ n) (h : n ≤ 9999) : rnum (p4 n) = n := by
  unfold rnum p4
  rw [if_neg (by simp), numF_four n h0 h]; rfl
theorem hms_clockT {t : Int} (h0 : 0 ≤ t) (h : t < 86400) : hms (clockT t) = some t := by
  have e1 : cut (clockT t) 0 2 = p2 (t / 3600) := rfl
  have e2 : cut (clockT t) 3 5 = p2 (t / 60 % 60) := rfl
  have e3 : cut (clockT t) 6 8 = p2 (t % 60) := rfl
  unfold hms
  rw [e1, e2, e3, rnum_p2 (by omega) (by omega), rnum_p2 (by omega) (by omega), rnum_p2 (by omega) (by omega), if_pos (by omega)]
  congr 1; omega
theorem cut_first (x : Mom) : cut x.first 12 16 = p4 x.y ∧ cut x.first 8 11 = monName x.m ∧ cut x.first 5 7 = p2 x.d ∧ cut x.first 17 25 = clockT x.t := by
  obtain ⟨a, b, c, e, _⟩ := d3_form x.w
  obtain ⟨a', b', c', e', _⟩ := mon_form x.m
  unfold Mom.first
  rw [e, e']
  exact ⟨rfl, rfl, rfl, rfl⟩
/-! ### A changed text -/
/-- The first form's text behind the day of the week tells the moment. -/
theorem first_tail {x z : Mom} (hx : x.ok) (hz : z.ok) (h : x.first.drop 5 = z.first.drop 5) : x = z := by
  obtain ⟨a1, a2, a3, a4⟩ := cut_first x
  obtain ⟨b1, b2, b3, b4⟩ := cut_first z
  have e : ∀ i j, 5 ≤ i → cut x.first i j = cut z.first i j := by
    intro i j hi
    obtain ⟨k, rfl⟩ : ∃ k, i = 5 + k := ⟨i - 5, by omega⟩
    unfold cut
    rw [← List.drop_drop, ← List.drop_drop, h]
  have hx1 := hx.1.month
  have hz1 := hz.1.month
  have hx2 := hx.1.d31
  have hz2 := hz.1.d31
  have ey : x.y = z.y := by
    have := rnum_p4 hx.1.1 hx.1.2.1
    have := rnum_p4 hz.1.1 hz.1.2.1
    have hh := e 12 16 (by omega)
    rw [a1, b1] at hh
    have := congrArg rnum hh
    omega
  have em : x.m = z.m := by
    have hh := e 8 11 (by omega)
    rw [a2, b2] at hh
    have := idx_mons hx1.1 hx1.2
    have := idx_mons hz1.1 hz1.2
    rw [hh] at *
    omega
  have ed : x.d = z.d := by
    have := rnum_p2 (n := x.d) (by omega) (by omega)
    have := rnum_p2 (n := z.d) (by omega) (by omega)
    have hh := e 5 7 (by omega)
    rw [a3, b3] at hh
    have := congrArg rnum hh
    omega
  have et : x.t = z.t := by
    have hh := e 17 25 (by omega)
    rw [a4, b4] at hh
    have := hms_clockT hx.2.1 hx.2.2
    have := hms_clockT hz.2.1 hz.2.2
    rw [hh] at *
    simp_all
  cases x; cases z
  simp_all
/-- A text of as many bytes as a first form's: if it is read, it is one. -/
theorem prs_29 {s : Txt} {yr n : Int} (ha : 100 ≤ yr) (hl : s.length = 29) (h : prs s yr = some n) : ∃ x : Mom, x.ok ∧ x.sec = n ∧ s = x.first := by
  obtain ⟨x, a, b, c | ⟨c, _⟩ | c⟩ := prs_is ha h
  · exact ⟨x, a, b, c⟩
  · have := second_length x; rw [← c] at this; omega
  · have := third_length x; rw [← c] at this; omega
/-- With another byte at place i it is none, or another moment's, and not at the day of the week. -/
theorem prs_other {x : Mom} (hx : x.ok) {yr n : Int} (ha : 100 ≤ yr) {i : Nat} {c : UInt8} (hi : i < 29) (hc : x.first[i]? ≠ some c) (h : prs (x.first.set i c) yr = some n) : n ≠ x.sec ∧ 4 < i := by
  have hl := first_length x
  obtain ⟨z, hz, hs, ez⟩ := prs_29 ha (by simp [hl]) h
  have hne : x ≠ z := by
    rintro rfl
    apply hc
    rw [← ez, List.getElem?_set_self (by omega)]
  refine ⟨?_, ?_⟩
  · rintro rfl
    exact hne (Mom.sec_inj hx hz hs.symm)
  · apply Classical.byContradiction
    intro h4
    apply hne
    apply first_tail hx hz
    rw [← ez, List.drop_set, if_pos (by omega)]
end Go.Proofs.YtdlpdgdccoeklaaDoor.Dt
