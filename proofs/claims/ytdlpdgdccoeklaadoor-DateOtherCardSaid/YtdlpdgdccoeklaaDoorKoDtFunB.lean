import Derived.Test.YtdlpdgdccoeklaaDoorKoDtFun
import Derived.Test.YtdlpdgdccoeklaaDoorKoExtDateD
import Derived.Test.YtdlpdgdccoeklaaDoorKoXBx0
import Derived.Test.YtdlpdgdccoeklaaDoorKoXBx1
/- What date.Parse and date.Format compute, in this claim's own words. -/
namespace Go.Proofs.YtdlpdgdccoeklaaDoor.Dt
open Go.RowKit Go.Proofs.YtdlpdgdccoeklaaDoor.Ext Go.Proofs.YtdlpdgdccoeklaaDoorW.PrintWords Go.Proofs.YtdlpdgdccoeklaaDoorW.PrintMore Go.Proofs.YtdlpdgdccoeklaaDoor.XA Go.Proofs.YtdlpdgdccoeklaaDoor.XB
theorem number_range {s : Txt} (n : Nat) : -1 ≤ number s n ∧ (n = 2 → number s n ≤ 99) := by
  have h0 : ∀ (t : Txt) (a : Int), 0 ≤ a → -1 ≤ (numF a t).getD (-1) := by
    intro t
    induction t with
    | nil => intro a h; simp [numF]; omega
    | cons c t ih =>
      intro a h
      unfold numF
      split
      · rename_i hc
        have := (isDig_iff c).1 hc
        exact ih _ (by unfold dv; omega)
      · simp
  constructor
  · unfold number
    split
    · omega
    · exact h0 s 0 (by omega)
  · rintro rfl
    by_cases h : 0 ≤ number s 2
    · exact (number_two rfl h).2
    · omega
theorem year_some (n now yr : Int) (hn : n ≤ 99) (h0 : 0 ≤ now) (h1 : now ≤ 220752000000) (hy : InYear (now / 86400) yr) (k : Nat) (hk : 20000 < k) : date_year.f k n now = some (yearN n yr) := by
  unfold date_year.f yearN
  by_cases h : n < 0
  · rw [if_pos h, if_pos h]
  · rw [if_neg h, if_neg h]
    have e1 : Int.tdiv now 86400 = now / 86400 := Int.tdiv_eq_ediv_of_nonneg h0
    rw [e1, wrap_in (n := now / 86400) (by omega)]
    obtain ⟨y, m, d, e, _, _, hy2⟩ := date_some (now / 86400) (by omega) k (by omega)
    have := hy2.unique hy
    subst this
    have hb : 1970 ≤ y ∧ y ≤ 9900 := by
      obtain ⟨z, hz, h3, h4⟩ := year_of_now h0 h1
      have := hz.unique hy
      omega
    rw [e]
    simp only [Option.bind_some]
    rw [wrap_in (n := y + 50) (by omega), wrap_in (n := y + 50 - n) (by omega), Int.tmod_eq_emod_of_nonneg (by omega), wrap_in (by omega)]
theorem second_some (s : ByteArray) (h : s.size < 4294967281) (now yr : Int) (h0 : 0 ≤ now) (h1 : now ≤ 220752000000) (hy : InYear (now / 86400) yr) (k : Nat) (hk : 20001 < k) : date_second.f k s now = some (told (secondP (tl s) yr)) := by
  obtain ⟨L, hL, hm⟩ := split_some 32 s h
  obtain ⟨k, rfl⟩ : ∃ m, k = m + 1 := ⟨k - 1, by omega⟩
  unfold date_second.f
  rw [hL]
  simp only [Option.bind_some]
  unfold secondP
  rw [← hm]
  match L, hm with
  | [w0, w1, w2, w3], hm =>
    have r0 : rdOf ByteArray.empty [w0, w1, w2, w3] 0 = w0 := rfl
    have r1 : rdOf ByteArray.empty [w0, w1, w2, w3] 1 = w1 := rfl
    have r2 : rdOf ByteArray.empty [w0, w1, w2, w3] 2 = w2 := rfl
    have r3 : rdOf ByteArray.empty [w0, w1, w2, w3] 3 = w3 := rfl
    have z0 := spl_size (x := w0) hm (by simp)
    have z1 := spl_size (x := w1) hm (by simp)
    have z2 := spl_size (x := w2) hm (by simp)
    rw [if_pos (by simp), if_pos (by simp), r3, r0, hasSuffix_comma w0 (by omega), toList_tl]
    simp only [Option.bind_some, List.map_cons, List.map_nil]
    by_cases h5 : tl w3 = [71, 77, 84]
    · rw [if_pos h5, if_pos (by simp)]
      by_cases hc : comma (tl w0) = true
      · obtain ⟨t, ht, et⟩ := trimSuffix_comma w0 (by omega) hc
        rw [if_pos ⟨h5, hc⟩, hc]
        simp only [date_second.j0, Bool.not_true, Bool.false_eq_true, if_false]
        obtain ⟨D, hD, hmD⟩ := split_some 45 w1 (by omega)
        rw [r0, r1, r2, ht, if_pos (by simp), hD]
        simp only [Option.bind_some]
        rw [← hmD]
        match D, hmD with
        | [a, b, c], hmD =>
          have q0 : rdOf ByteArray.empty [a, b, c] 0 = a := rfl
          have q1 : rdOf ByteArray.empty [a, b, c] 1 = b := rfl
          have q2 : rdOf ByteArray.empty [a, b, c] 2 = c := rfl
          rw [q0, q1, q2, if_pos (by simp), if_pos (by simp), among_long' t k (by omega)]
          simp only [Option.bind_some]
          rw [number2 c]
          simp only [Option.bind_some]
          rw [if_pos (by simp), year_some _ now yr ((number_range 2).2 rfl) h0 h1 hy k (by omega)]
          simp only [Option.bind_some]
          rw [among_mon' b k (by omega), number2 a, clock_some w2 (by omega)]
          simp only [Option.bind_some]
          have hi := idx_mons_le (tl b)
          rw [if_pos (by simp), if_pos (by simp), if_pos (by simp), wrap_in (by omega), et]
          rfl
        | [], _ => rfl
        | [_], _ => rfl
        | [_, _], _ => rfl
        | _ :: _ :: _ :: _ :: _, _ =>
          rw [if_neg (by simp only [List.length_cons]; omega)]
          simp only [List.map_cons]
          rfl
      · rw [if_neg (fun hh => hc hh.2), Bool.eq_false_iff.2 hc]
        rfl
    · rw [if_neg h5, if_neg (fun hh => h5 hh.1)]
      rfl
  | [], _ => rfl
  | [_], _ => rfl
  | [_, _], _ => rfl
  | [_, _, _], _ => rfl
  | _ :: _ :: _ :: _ :: _ :: _, _ =>
    rw [if_neg (by simp only [List.length_cons]; omega)]
    simp only [List.map_cons]
    rfl
theorem bt_iff (s : ByteArray) (i : Nat) (h : i < s.size) (c : UInt8) : bt s (i : Int) = (c.toNat : Int) ↔ (tl s)[i]? = some c := by
  have e : (tl s)[i]? = some (s[i]'h) := by
    rw [List.getElem?_eq_getElem (by simpa [tl_length] using h)]
    rfl
  rw [bt_tl s i _ e, e]
  constructor
  · intro h
    have : (s[i]'‹_›) = c := UInt8.toNat_inj.1 (by omega)
    rw [this]
  · intro h
    have := Option.some.inj h
    rw [this]
theorem third_some (s : ByteArray) : date_third.f s = some (told (thirdP (tl s))) := by
  unfold date_third.f thirdP
  by_cases hs : s.size = 24
  · have b3 : bt s 3 = 32 ↔ (tl s)[3]? = some 32 := bt_iff s 3 (by omega) 32
    have b7 : bt s 7 = 32 ↔ (tl s)[7]? = some 32 := bt_iff s 7 (by omega) 32
    have b10 : bt s 10 = 32 ↔ (tl s)[10]? = some 32 := bt_iff s 10 (by omega) 32
    have b19 : bt s 19 = 32 ↔ (tl s)[19]? = some 32 := bt_iff s 19 (by omega) 32
    have b8 : bt s 8 = 32 ↔ (tl s)[8]? = some 32 := bt_iff s 8 (by omega) 32
    have b8' : bt s 8 = 48 ↔ (tl s)[8]? = some 48 := bt_iff s 8 (by omega) 48
    have hl : (tl s).length = 24 := hs
    by_cases hc : (tl s)[3]? = some 32 ∧ (tl s)[7]? = some 32 ∧ (tl s)[10]? = some 32 ∧ (tl s)[19]? = some 32
    · obtain ⟨c3, c7, c10, c19⟩ := hc
      rw [if_pos ⟨hs, b3.2 c3, b7.2 c7, b10.2 c10, b19.2 c19⟩, if_pos ⟨hl, c3, c7, c10, c19⟩]
      rw [number2, among_short' _ 100 (by omega), number4, among_mon' _ 100 (by omega), clock_some _ (by simp; omega)]
      simp only [Option.bind_some]
      have e1 : tl (s.extract 0 3) = (tl s).take 3 := by rw [tl_extract]; rfl
      have e2 : tl (s.extract 20 24) = (tl s).drop 20 := by rw [tl_extract]; exact List.take_of_length_le (by simp; omega)
      have e3 : tl (s.extract 4 7) = cut (tl s) 4 7 := by rw [tl_extract]; rfl
      have e4 : tl (s.extract 11 19) = cut (tl s) 11 19 := by rw [tl_extract]; rfl
      have e5 : tl (s.extract 8 10) = cut (tl s) 8 10 := by rw [tl_extract]; rfl
      have e6 : tl (s.extract 9 10) = (cut (tl s) 8 10).drop 1 := by
        rw [tl_extract, cut, List.drop_take, List.drop_drop]
      have hh : (cut (tl s) 8 10).head? = (tl s)[8]? := by
        rw [cut, List.head?_take, if_neg (by decide), List.head?_drop]
      rw [e1, e2, e3, e4, e5]
      have hi := idx_mons_le (cut (tl s) 4 7)
      rw [wrap_in (by omega)]
      have hn : (if bt s 8 = 32 then date_number.f (s.extract 9 10) 1 else if bt s 8 = 48 then some (-1) else some (number (cut (tl s) 8 10) 2)) = some (day2 (cut (tl s) 8 10)) := by
        unfold day2
        rw [hh]
        by_cases h8 : (tl s)[8]? = some 32
        · rw [if_pos (b8.2 h8), if_pos h8, number1, e6]
        · rw [if_neg (fun h => h8 (b8.1 h)), if_neg h8]
          by_cases h9 : (tl s)[8]? = some 48
          · rw [if_pos (b8'.2 h9), if_pos h9]
          · rw [if_neg (fun h => h9 (b8'.1 h)), if_neg h9]
      rw [hn]
      rfl
    · rw [if_neg (fun h => hc ⟨b3.1 h.2.1, b7.1 h.2.2.1, b10.1 h.2.2.2.1, b19.1 h.2.2.2.2⟩), if_neg (fun h => hc h.2)]
      rfl
  · rw [if_neg (fun h => hs h.1), if_neg (fun h => hs h.1)]
    rfl
theorem day2_range (d : Txt) : -1 ≤ day2 d ∧ day2 d ≤ 99 := by
  unfold day2
  split
  · have := (number_range (s := d.drop 1) 1).1
    refine ⟨this, ?_⟩
    by_cases h : 0 ≤ number (d.drop 1) 1
    · have := (number_one rfl h).2; omega
    · omega
  · split
    · omega
    · exact ⟨(number_range 2).1, (number_range 2).2 rfl⟩
theorem clockN_range (s : Txt) : clockN s < 86400 := by
  by_cases h : 0 ≤ clockN s
  · exact (clockN_some rfl h).2
  · omega
theorem firstP_range {s : Txt} {p : Parts} (h : firstP s = some p) : -1 ≤ p.d ∧ p.d ≤ 99 ∧ p.c < 86400 := by
  unfold firstP at h
  split at h
  · split at h
    · obtain rfl := Option.some.inj h
      exact ⟨(number_range 2).1, (number_range 2).2 rfl, clockN_range _⟩
    · cases h
  · cases h
theorem secondP_range {s : Txt} {yr : Int} {p : Parts} (h : secondP s yr = some p) : -1 ≤ p.d ∧ p.d ≤ 99 ∧ p.c < 86400 := by
  unfold secondP at h
  split at h
  · split at h
    · split at h
      · obtain rfl := Option.some.inj h
        exact ⟨(number_range 2).1, (number_range 2).2 rfl, clockN_range _⟩
      · cases h
    · cases h
  · cases h
theorem thirdP_range {s : Txt} {p : Parts} (h : thirdP s = some p) : -1 ≤ p.d ∧ p.d ≤ 99 ∧ p.c < 86400 := by
  unfold thirdP at h
  split at h
  · obtain rfl := Option.some.inj h
    exact ⟨(day2_range _).1, (day2_range _).2, clockN_range _⟩
  · cases h
/-- What a reading answers with. -/
def ans : Option Int → Int × Bool
  | some n => (n, true)
  | none => (0, false)
def clamp (now : Int) : Int := mx 0 (mn now 220752000000)
theorem clamp_range (now : Int) : 0 ≤ clamp now ∧ clamp now ≤ 220752000000 := by
  unfold clamp mx mn
  split <;> split <;> omega
theorem secsT_ans (p : Parts) : secsT p = ans (secs p) := by unfold secsT ans; rfl
/-- date.Parse. -/
theorem parse_some (s : ByteArray) (h : s.size < 4294967281) (now yr : Int) (hy : InYear (clamp now / 86400) yr) (k : Nat) (hk : 20001 < k) : date_Parse.f k s now = some (ans (prs (tl s) yr)) := by
  have hc := clamp_range now
  unfold date_Parse.f prs
  rw [first_some s h k (by omega)]
  simp only [Option.bind_some]
  cases h1 : firstP (tl s) with
  | some p =>
    have hr := firstP_range h1
    simp only [told, if_true]
    rw [seconds_some p (by omega) (by omega) k (by omega)]
    simp only [Option.bind_some, secsT_ans]
  | none =>
    simp only [told, Bool.false_eq_true, if_false]
    rw [show mx 0 (mn now 220752000000) = clamp now from rfl, second_some s h (clamp now) yr hc.1 hc.2 hy k hk]
    simp only [Option.bind_some]
    cases h2 : secondP (tl s) yr with
    | some p =>
      have hr := secondP_range h2
      simp only [told, if_true]
      rw [seconds_some p (by omega) (by omega) k (by omega)]
      simp only [Option.bind_some, secsT_ans]
    | none =>
      simp only [told, Bool.false_eq_true, if_false]
      rw [third_some]
      simp only [Option.bind_some]
      cases h3 : thirdP (tl s) with
      | some p =>
        have hr := thirdP_range h3
        simp only [told, if_true]
        rw [seconds_some p (by omega) (by omega) k (by omega)]
        simp only [Option.bind_some, secsT_ans]
      | none => simp only [told, Bool.false_eq_true, if_false, ans]
theorem exists_clamp_year (now : Int) : ∃ yr, InYear (clamp now / 86400) yr ∧ 1970 ≤ yr ∧ yr ≤ 9900 := year_of_now (clamp_range now).1 (clamp_range now).2
end Go.Proofs.YtdlpdgdccoeklaaDoor.Dt
