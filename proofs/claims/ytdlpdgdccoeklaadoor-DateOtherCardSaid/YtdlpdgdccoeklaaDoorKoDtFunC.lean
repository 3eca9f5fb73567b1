import Derived.Test.YtdlpdgdccoeklaaDoorKoDtFunB
/- What date.Format computes; the fixed facts; the statements DateWrites and DateThree. -/
namespace Go.Proofs.YtdlpdgdccoeklaaDoor.Dt
set_option linter.unusedSimpArgs false
open Go.RowKit Go.Proofs.YtdlpdgdccoeklaaDoor.Ext Go.Proofs.YtdlpdgdccoeklaaDoorW.PrintWords Go.Proofs.YtdlpdgdccoeklaaDoorW.PrintMore Go.Proofs.YtdlpdgdccoeklaaDoor.XA Go.Proofs.YtdlpdgdccoeklaaDoor.XB
theorem dec_one (u : Nat) (h : u < 10) : Lib.decDigits u = [dg (u : Int)] := by
  rw [Lib.decDigits, dif_pos h]
  congr 1
  unfold dg
  congr 1
  omega
theorem dec_more (u : Nat) (h : 10 ≤ u) : Lib.decDigits u = Lib.decDigits (u / 10) ++ [dg (u : Int)] := by
  conv => lhs; rw [Lib.decDigits, dif_neg (by omega)]
  congr 2
theorem dgz {n : Int} (h : n % 10 = 0) : dg n = 48 := by unfold dg; rw [h]; rfl
theorem itoa_padded (n : Int) (h0 : 0 ≤ n) (h : n ≤ 99) : (Lib.itoa n).length ≤ 2 ∧ Lib.repeatL [48] (2 - (Lib.itoa n).length) ++ Lib.itoa n = p2 n := by
  obtain ⟨u, rfl⟩ : ∃ u : Nat, n = u := ⟨n.toNat, by omega⟩
  rw [show Lib.itoa (u : Int) = Lib.decDigits u by unfold Lib.itoa; rw [if_neg (by omega)]; simp]
  unfold p2
  by_cases h1 : u < 10
  · rw [dec_one u h1]
    simp only [List.length_cons, List.length_nil, Lib.repeatL, List.append_nil, List.cons_append, List.nil_append]
    rw [dgz (n := (u : Int) / 10) (by omega)]
    exact ⟨by decide, rfl⟩
  · rw [dec_more u (by omega), dec_one (u / 10) (by omega)]
    simp only [List.length_append, List.length_cons, List.length_nil, Lib.repeatL, List.nil_append, List.cons_append]
    exact ⟨by decide, by simp [Lib.repeatL]⟩
theorem itoa_padded4 (n : Int) (h0 : 0 ≤ n) (h : n ≤ 9999) : (Lib.itoa n).length ≤ 4 ∧ Lib.repeatL [48] (4 - (Lib.itoa n).length) ++ Lib.itoa n = p4 n := by
  obtain ⟨u, rfl⟩ : ∃ u : Nat, n = u := ⟨n.toNat, by omega⟩
  rw [show Lib.itoa (u : Int) = Lib.decDigits u by unfold Lib.itoa; rw [if_neg (by omega)]; simp]
  unfold p4
  have q1 : ((u / 10 : Nat) : Int) = (u : Int) / 10 := by omega
  have q2 : ((u / 10 / 10 : Nat) : Int) = (u : Int) / 100 := by omega
  have q3 : ((u / 10 / 10 / 10 : Nat) : Int) = (u : Int) / 1000 := by omega
  by_cases h1 : u < 10
  · rw [dec_one u h1]
    simp only [List.length_cons, List.length_nil, Lib.repeatL, List.append_nil, List.cons_append, List.nil_append]
    rw [dgz (n := (u : Int) / 10) (by omega), dgz (n := (u : Int) / 100) (by omega), dgz (n := (u : Int) / 1000) (by omega)]
    exact ⟨by decide, rfl⟩
  · by_cases h2 : u < 100
    · rw [dec_more u (by omega), dec_one (u / 10) (by omega), q1]
      simp only [List.length_append, List.length_cons, List.length_nil, Lib.repeatL, List.nil_append, List.cons_append]
      rw [dgz (n := (u : Int) / 100) (by omega), dgz (n := (u : Int) / 1000) (by omega)]
      exact ⟨by decide, rfl⟩
    · by_cases h3 : u < 1000
      · rw [dec_more u (by omega), dec_more (u / 10) (by omega), dec_one (u / 10 / 10) (by omega), q1, q2]
        simp only [List.length_append, List.length_cons, List.length_nil, Lib.repeatL, List.nil_append, List.cons_append]
        rw [dgz (n := (u : Int) / 1000) (by omega)]
        exact ⟨by decide, rfl⟩
      · rw [dec_more u (by omega), dec_more (u / 10) (by omega), dec_more (u / 10 / 10) (by omega), dec_one (u / 10 / 10 / 10) (by omega), q1, q2, q3]
        simp only [List.length_append, List.length_cons, List.length_nil, Lib.repeatL, List.nil_append, List.cons_append]
        exact ⟨by decide, by simp [Lib.repeatL]⟩
theorem padded_gen (n : Int) (sz : Nat) (T : Txt) (hs : sz ≤ 4) (hn : 0 ≤ n ∧ n ≤ 9999) (h : (Lib.itoa n).length ≤ sz ∧ Lib.repeatL [48] (sz - (Lib.itoa n).length) ++ Lib.itoa n = T) : ∃ b, date_padded.f n (sz : Int) = some b ∧ tl b = T := by
  refine ⟨⟨T.toArray⟩, ?_, tl_mk _⟩
  unfold date_padded.f
  rw [show strconv_Itoa.f n = some ⟨(Lib.itoa n).toArray⟩ by unfold strconv_Itoa.f; rw [if_pos (by omega)]]
  simp only [Option.bind_some]
  have e1 : (⟨(Lib.itoa n).toArray⟩ : ByteArray).size = (Lib.itoa n).length := by simp [ByteArray.size]
  have e2 : mx (wrap64 ((sz : Int) - ((⟨(Lib.itoa n).toArray⟩ : ByteArray).size : Int))) 0 = ((sz - (Lib.itoa n).length : Nat) : Int) := by
    rw [e1, wrap_in (by omega)]
    unfold mx
    split <;> omega
  rw [e2]
  have e3 : (⟨#[48]⟩ : ByteArray).size = 1 := rfl
  rw [show strings_Repeat.f ⟨#[48]⟩ ((sz - (Lib.itoa n).length : Nat) : Int) = some ⟨(Lib.repeatL [48] (sz - (Lib.itoa n).length)).toArray⟩ by
    unfold strings_Repeat.f
    rw [e3, if_pos (by omega)]
    rfl]
  simp only [Option.bind_some]
  have e4 : (⟨(Lib.repeatL [48] (sz - (Lib.itoa n).length)).toArray⟩ : ByteArray) ++ (⟨(Lib.itoa n).toArray⟩ : ByteArray) = ⟨T.toArray⟩ := by
    apply tl_inj
    rw [tl_append, tl_mk, tl_mk, tl_mk]
    exact h.2
  have e5 : (⟨(Lib.repeatL [48] (sz - (Lib.itoa n).length)).toArray⟩ : ByteArray).size + (⟨(Lib.itoa n).toArray⟩ : ByteArray).size = T.length := by
    rw [← h.2]
    simp [ByteArray.size]
  have e6 : T.length ≤ 4 + 4 := by
    rw [← h.2, List.length_append]
    have : (Lib.repeatL [48] (sz - (Lib.itoa n).length)).length = sz - (Lib.itoa n).length := by
      have : ∀ c, (Lib.repeatL [48] c).length = c := by
        intro c
        induction c with
        | zero => rfl
        | succ c ih => simp [Lib.repeatL, ih]
      exact this _
    omega
  rw [e4, e5, if_pos (by omega)]
theorem padded2 (n : Int) (h0 : 0 ≤ n) (h : n ≤ 99) : ∃ b, date_padded.f n 2 = some b ∧ tl b = p2 n := padded_gen n 2 _ (by decide) (by omega) (itoa_padded n h0 h)
theorem padded4 (n : Int) (h0 : 0 ≤ n) (h : n ≤ 9999) : ∃ b, date_padded.f n 4 = some b ∧ tl b = p4 n := padded_gen n 4 _ (by decide) (by omega) (itoa_padded4 n h0 h)
theorem tl_size {b : ByteArray} {T : Txt} {n : Nat} (h : tl b = T) (hn : T.length = n) : b.size = n := by rw [← tl_length, h, hn]
theorem rd_map (L : List Txt) (i : Int) (T : Txt) (h0 : 0 ≤ i) (h : L[i.toNat]? = some T) : rdOf ByteArray.empty (L.map fun l => (⟨l.toArray⟩ : ByteArray)) i = ⟨T.toArray⟩ := by
  obtain ⟨u, rfl⟩ : ∃ u : Nat, i = u := ⟨i.toNat, by omega⟩
  refine rdOf_get _ u _ ?_
  rw [List.getElem?_map]
  simp at h
  rw [h]; rfl
theorem shorts_at (w : Int) (h0 : 0 ≤ w) (h : w ≤ 6) : shorts[w.toNat]? = some (d3 w) := by
  rcases six h0 h with rfl | rfl | rfl | rfl | rfl | rfl | rfl <;> rfl
theorem mons_at (m : Int) (h0 : 1 ≤ m) (h : m ≤ 12) : mons[(m - 1).toNat]? = some (monName m) := by
  rcases twelve h0 h with rfl | rfl | rfl | rfl | rfl | rfl | rfl | rfl | rfl | rfl | rfl | rfl <;> rfl
/-- date.Format at a day and the seconds of it. -/
theorem formatAt_some (n r : Int) (hr : 0 ≤ r ∧ r < 86400) (h : -719528 ≤ n ∧ n ≤ 2932896) : ∃ x : Mom, x.ok ∧ x.sec = n * 86400 + r ∧ ∃ b, formatAt n r = some (b, true) ∧ tl b = x.first := by
  obtain ⟨y, m, d, e, hok, hn, _⟩ := date_some n h 20000 (by decide)
  have hm := hok.month
  have hd := hok.d31
  have hy := hok.1
  have hy' := hok.2.1
  refine ⟨⟨y, m, d, r⟩, ⟨hok, hr.1, hr.2⟩, by unfold Mom.sec; rw [hn], ?_⟩
  have hw : 0 ≤ wday n ∧ wday n ≤ 6 := by unfold wday; omega
  obtain ⟨h2, a1, b1⟩ := padded2 (r / 3600) (by omega) (by omega)
  obtain ⟨i2, a2, b2⟩ := padded2 (r / 60 % 60) (by omega) (by omega)
  obtain ⟨s2, a3, b3⟩ := padded2 (r % 60) (by omega) (by omega)
  obtain ⟨dd, a4, b4⟩ := padded2 d (by omega) (by omega)
  obtain ⟨yy, a5, b5⟩ := padded4 y (by omega) (by omega)
  have f1 : strings_Fields.f shB = some (shorts.map fun l => ⟨l.toArray⟩) := fields_short
  have f2 : strings_Fields.f mnB = some (mons.map fun l => ⟨l.toArray⟩) := fields_mon
  have g1 := rd_map shorts (wday n) _ hw.1 (shorts_at (wday n) hw.1 hw.2)
  have g2 := rd_map mons (m - 1) _ (by omega) (mons_at m hm.1 hm.2)
  have l1 : ((shorts.map fun l => (⟨l.toArray⟩ : ByteArray)).length : Int) = 7 := by rw [List.length_map]; rfl
  have l2 : ((mons.map fun l => (⟨l.toArray⟩ : ByteArray)).length : Int) = 12 := by rw [List.length_map]; rfl
  have t1 : Int.tdiv r 3600 = r / 3600 := Int.tdiv_eq_ediv_of_nonneg hr.1
  have t2 : Int.tdiv r 60 = r / 60 := Int.tdiv_eq_ediv_of_nonneg hr.1
  have t3 : Int.tmod (r / 60) 60 = r / 60 % 60 := Int.tmod_eq_emod_of_nonneg (by omega)
  have t4 : Int.tmod r 60 = r % 60 := Int.tmod_eq_emod_of_nonneg hr.1
  unfold formatAt
  rw [e]
  simp only [Option.bind_some, if_true]
  rw [weekday_some n (by omega), f1, f2, t1, t2, t4, wrap_in (n := r / 3600) (by omega), wrap_in (n := r / 60) (by omega), t3, a1, a2, a3, a4, a5]
  simp only [Option.bind_some]
  rw [wrap_in (n := m - 1) (by omega), l1, l2, g1, g2]
  have z1 : (⟨(d3 (wday n)).toArray⟩ : ByteArray).size = 3 := tl_size (tl_mk _) (d3_length _)
  have z2 : (⟨(monName m).toArray⟩ : ByteArray).size = 3 := tl_size (tl_mk _) (mon_length _)
  rw [if_pos ⟨hw.1, by omega, by omega, by omega, z1, z2, tl_size b1 rfl, tl_size b2 rfl, tl_size b3 rfl, tl_size b4 rfl, tl_size b5 rfl⟩]
  refine ⟨_, rfl, ?_⟩
  simp only [tl_append, tl_mk, b1, b2, b3, b4, b5]
  unfold Mom.first clockT Mom.w
  simp only [hn]
  simp [tl, gmt]
theorem formatAt_none (n r : Int) (h : n < -719528 ∨ 2932896 < n) : formatAt n r = some (⟨#[]⟩, false) := by
  unfold formatAt
  rw [date_none n h 20000 (by decide)]
  rfl
/-- date.Format. -/
theorem format_some (sec : Int) (hs : -9223372036854775808 ≤ sec ∧ sec ≤ 9223372036854775807) :
    (-62167219200 ≤ sec ∧ sec ≤ 253402300799 ∧ ∃ x : Mom, x.ok ∧ x.sec = sec ∧ ∃ b, date_Format.f sec = some (b, true) ∧ tl b = x.first) ∨ ((sec < -62167219200 ∨ 253402300799 < sec) ∧ date_Format.f sec = some (⟨#[]⟩, false)) := by
  have key : date_Format.f sec = formatAt (sec / 86400) (sec % 86400) := by
    unfold date_Format.f
    have hq := tmod_if sec 86400
    have hd : Int.tdiv sec 86400 = if 0 ≤ sec then sec / 86400 else -((-sec) / 86400) := by
      split
      · exact Int.tdiv_eq_ediv_of_nonneg (by omega)
      · have := Int.neg_tdiv sec 86400
        rw [← Int.tdiv_eq_ediv_of_nonneg (a := -sec) (by omega), this]; omega
    by_cases h0 : 0 ≤ sec
    · rw [if_pos h0] at hq hd
      rw [hq, hd, if_neg (by omega), wrap_in (by omega)]
    · rw [if_neg h0] at hq hd
      by_cases hz : sec % 86400 = 0
      · have e1 : (-sec) % 86400 = 0 := by omega
        have e2 : (-sec) / 86400 = -(sec / 86400) := by omega
        rw [hq, e1, if_neg (by decide), hd, e2, hz, Int.neg_neg, wrap_in (by omega)]
        rfl
      · have e1 : (-sec) % 86400 = 86400 - sec % 86400 := by omega
        have e2 : (-sec) / 86400 = -(sec / 86400) - 1 := by omega
        rw [hq, e1, if_pos (by omega), hd, e2, wrap_in (n := -(-(sec / 86400) - 1)) (by omega), wrap_in (by omega), wrap_in (by omega)]
        congr 1 <;> omega
  rw [key]
  by_cases h : -719528 ≤ sec / 86400 ∧ sec / 86400 ≤ 2932896
  · left
    obtain ⟨x, hx, e, b, hb, t⟩ := formatAt_some (sec / 86400) (sec % 86400) (by omega) h
    refine ⟨by omega, by omega, x, hx, by omega, b, hb, t⟩
  · right
    exact ⟨by omega, formatAt_none _ _ (by omega)⟩
end Go.Proofs.YtdlpdgdccoeklaaDoor.Dt
