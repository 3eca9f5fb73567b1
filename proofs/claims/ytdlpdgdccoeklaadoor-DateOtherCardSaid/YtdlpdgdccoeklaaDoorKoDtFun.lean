import Derived.Test.YtdlpdgdccoeklaaDoorKoXAx0
import Derived.Test.YtdlpdgdccoeklaaDoorKoXAx1
import Derived.Test.YtdlpdgdccoeklaaDoorKoXAx2
import Derived.Test.YtdlpdgdccoeklaaDoorKoXAx3
import Derived.Test.YtdlpdgdccoeklaaDoorKoXAx4
import Derived.Test.YtdlpdgdccoeklaaDoorKoXAx5
import Derived.Test.YtdlpdgdccoeklaaDoorKoXAx6
import Derived.Test.YtdlpdgdccoeklaaDoorKoXAx7
import Derived.Test.YtdlpdgdccoeklaaDoorKoDtLib
import Derived.Test.YtdlpdgdccoeklaaDoorKoDtYear
/- Plain facts: what the printed functions of packages civil and date compute, in this claim's own words (calendar, words of a text). -/
namespace Go.Proofs.YtdlpdgdccoeklaaDoor.Dt
open Go.RowKit Go.Proofs.YtdlpdgdccoeklaaDoor.Ext Go.Proofs.YtdlpdgdccoeklaaDoorW.PrintWords Go.Proofs.YtdlpdgdccoeklaaDoor.XA
/-- A string's bytes as a list. -/
abbrev tl (b : ByteArray) : Txt := b.data.toList
theorem toList_tl (b : ByteArray) : b.toList = tl b := Lib.toList_data b
theorem tl_length (b : ByteArray) : (tl b).length = b.size := rfl
theorem tl_inj {a b : ByteArray} (h : tl a = tl b) : a = b := by
  cases a; cases b; simp only [tl, ByteArray.mk.injEq] at *; exact Array.toList_inj.1 h
theorem tl_extract (b : ByteArray) (i j : Nat) : tl (b.extract i j) = ((tl b).drop i).take (j - i) := Lib.extract_data b i j
theorem tl_append (a b : ByteArray) : tl (a ++ b) = tl a ++ tl b := by simp [tl]
theorem tl_mk (l : List UInt8) : tl ⟨l.toArray⟩ = l := by simp [tl]
theorem wrap_in {n : Int} (h : -9223372036854775808 ≤ n ∧ n ≤ 9223372036854775807) : wrap64 n = n := by unfold wrap64; omega
theorem bt_tl (b : ByteArray) (i : Nat) (c : UInt8) (h : (tl b)[i]? = some c) : bt b (i : Int) = (c.toNat : Int) := by
  have hi : i < b.size := by
    have := (List.getElem?_eq_some_iff.1 h).1
    simpa [tl_length] using this
  have e : (b[i]'hi) = c := by
    exact (List.getElem?_eq_some_iff.1 h).2
  unfold bt
  rw [dif_pos (by simpa using hi)]
  simp [← e]
/-! ### Library -/
theorem split_some (c : UInt8) (s : ByteArray) (h : s.size < 4294967281) : ∃ L, strings_Split.f s ⟨#[c]⟩ = some L ∧ L.map tl = spl c (tl s) := by
  refine ⟨_, ?_, splitB_spl c s⟩
  unfold strings_Split.f
  rw [if_pos ⟨h, Nat.le_refl 1⟩]
theorem hasSuffix_comma (b : ByteArray) (h : b.size ≤ 4294967281) : strings_HasSuffix.f b ⟨#[44]⟩ = some (comma (tl b)) := by
  have e1 : (⟨#[44]⟩ : ByteArray).size = 1 := rfl
  unfold strings_HasSuffix.f stringslite_HasSuffix.f
  by_cases h1 : (b.size : Int) ≥ 1
  · rw [e1, if_pos (by simpa using h1), wrap_in (by omega), if_pos (by simp; omega), if_pos (by simp; omega)]
    simp only [Option.bind_some]
    congr 1
    have e2 : ((b.size : Int) - ((1 : Nat) : Int)).toNat = (tl b).length - 1 := by rw [tl_length]; omega
    rw [toList_tl, toList_tl, tl_extract, e2]
    have hl : tl b ≠ [] := by intro e; have := tl_length b; rw [e] at this; simp at this; omega
    have e4 : (tl b).drop ((tl b).length - 1) = [(tl b).getLast hl] := by
      conv => lhs; rw [← List.dropLast_concat_getLast hl]
      rw [List.drop_append_of_le_length (by simp)]
      simp
    rw [e4]
    have e3 : tl (⟨#[44]⟩ : ByteArray) = [44] := rfl
    rw [e3]
    unfold comma
    have e5 : [(tl b).getLast hl].take (b.size - ((tl b).length - 1)) = [(tl b).getLast hl] := by
      rw [tl_length]
      exact List.take_of_length_le (by simp; omega)
    rw [e5, List.getLast?_eq_some_getLast hl, Bool.eq_iff_iff]
    simp
  · have h0 : b.size = 0 := by omega
    rw [if_neg (by rw [e1]; omega)]
    simp only [Option.bind_some]
    have hb : tl b = [] := List.length_eq_zero_iff.1 (by rw [tl_length]; exact h0)
    rw [hb]; rfl
theorem trimSuffix_comma (b : ByteArray) (h : b.size ≤ 4294967281) (hc : comma (tl b) = true) : ∃ r, strings_TrimSuffix.f b ⟨#[44]⟩ = some r ∧ tl r = (tl b).dropLast := by
  have e1 : (⟨#[44]⟩ : ByteArray).size = 1 := rfl
  have hs := hasSuffix_comma b h
  have h1 : stringslite_HasSuffix.f b ⟨#[44]⟩ = some true := by
    unfold strings_HasSuffix.f at hs
    cases e : stringslite_HasSuffix.f b ⟨#[44]⟩ with
    | none => rw [e] at hs; simp at hs
    | some x => rw [e] at hs; simp only [Option.bind_some] at hs; rw [hs, hc]
  have hb : 1 ≤ b.size := by
    have e := comma_form hc
    have := congrArg List.length e
    rw [List.length_append, tl_length] at this
    simp at this; omega
  refine ⟨b.extract 0 (b.size - 1), ?_, ?_⟩
  · unfold strings_TrimSuffix.f stringslite_TrimSuffix.f
    rw [h1]
    simp only [Option.bind_some, if_true]
    rw [e1, wrap_in (by omega), if_pos (by omega), if_pos (by omega)]
    have e2 : ((b.size : Int) - ((1 : Nat) : Int)).toNat = b.size - 1 := by omega
    rw [e2]; rfl
  · rw [tl_extract, List.drop_zero, Nat.sub_zero, List.dropLast_eq_take, tl_length]
theorem index_loop (w : ByteArray) : ∀ (r : List ByteArray) (pre : List ByteArray) (k : Nat), r.length < k → (pre ++ r).length ≤ 1000 →
    slices_Index_string_string.l0 k (pre ++ r) w ((pre ++ r).length : Int) (pre.length : Int) = some (if idx (r.map tl) (tl w) < 0 then -1 else (pre.length : Int) + idx (r.map tl) (tl w))
  | [], pre, k, hk, hl => by
    obtain ⟨k, rfl⟩ : ∃ m, k = m + 1 := ⟨k - 1, by omega⟩
    simp only [slices_Index_string_string.l0]
    rw [if_neg (by simp)]
    simp [idx]
  | x :: r, pre, k, hk, hl => by
    obtain ⟨k, rfl⟩ : ∃ m, k = m + 1 := ⟨k - 1, by omega⟩
    simp only [List.length_cons] at hk
    simp only [List.length_append, List.length_cons] at hl
    have hx : rdOf ByteArray.empty (pre ++ x :: r) (pre.length : Int) = x := by
      unfold rdOf
      rw [Int.toNat_natCast, List.getD_eq_getElem?_getD, List.getElem?_append_right (Nat.le_refl _)]
      simp
    simp only [slices_Index_string_string.l0]
    rw [if_pos (by simp; omega), if_pos (by omega), if_pos (by simp; omega), hx]
    by_cases e : w.toList = x.toList
    · have e' : tl x = tl w := by rw [← toList_tl, ← toList_tl, e]
      rw [if_pos e, List.map_cons, idx, if_pos e']
      simp
    · have e' : ¬ tl x = tl w := by rw [← toList_tl, ← toList_tl]; exact fun h => e h.symm
      rw [if_neg e, wrap_in (by omega)]
      have ih := index_loop w r (pre ++ [x]) k (by omega) (by simp; omega)
      rw [List.append_assoc, List.singleton_append] at ih
      have el : ((pre ++ [x]).length : Int) = (pre.length : Int) + 1 := by simp
      rw [el] at ih
      rw [ih, List.map_cons, idx, if_neg e']
      congr 1
      have := idx_ge (r.map tl) (tl w)
      by_cases hn : idx (r.map tl) (tl w) < 0
      · rw [if_pos hn, if_pos hn, if_pos (by decide)]
      · rw [if_neg hn, if_neg hn, if_neg (by omega)]; omega
theorem index_some (L : List ByteArray) (w : ByteArray) (k : Nat) (hk : L.length < k) (hl : L.length ≤ 1000) : slices_Index_string_string.f k L w = some (idx (L.map tl) (tl w)) := by
  have h := index_loop w L [] k hk (by simpa using hl)
  simp only [List.nil_append, List.length_nil] at h
  unfold slices_Index_string_string.f
  have := idx_ge (L.map tl) (tl w)
  rw [show ((0 : Nat) : Int) = 0 from rfl] at h
  rw [h]
  congr 1
  by_cases hn : idx (L.map tl) (tl w) < 0
  · rw [if_pos hn]; omega
  · rw [if_neg hn]; omega
def shortB : ByteArray := ⟨#[77, 111, 110, 32, 84, 117, 101, 32, 87, 101, 100, 32, 84, 104, 117, 32, 70, 114, 105, 32, 83, 97, 116, 32, 83, 117, 110]⟩
def longB : ByteArray := ⟨#[77, 111, 110, 100, 97, 121, 32, 84, 117, 101, 115, 100, 97, 121, 32, 87, 101, 100, 110, 101, 115, 100, 97, 121, 32, 84, 104, 117, 114, 115, 100, 97, 121, 32, 70, 114, 105, 100, 97, 121, 32, 83, 97, 116, 117, 114, 100, 97, 121, 32, 83, 117, 110, 100, 97, 121]⟩
def monB : ByteArray := ⟨#[74, 97, 110, 32, 70, 101, 98, 32, 77, 97, 114, 32, 65, 112, 114, 32, 77, 97, 121, 32, 74, 117, 110, 32, 74, 117, 108, 32, 65, 117, 103, 32, 83, 101, 112, 32, 79, 99, 116, 32, 78, 111, 118, 32, 68, 101, 99]⟩
theorem fields_short : strings_Fields.f shortB = some (shorts.map fun l => ⟨l.toArray⟩) := by
  unfold strings_Fields.f
  rw [if_pos ⟨by decide, by decide⟩]
  congr 1
theorem fields_long : strings_Fields.f longB = some (longs.map fun l => ⟨l.toArray⟩) := by
  unfold strings_Fields.f
  rw [if_pos ⟨by decide, by decide⟩]
  congr 1
theorem fields_mon : strings_Fields.f monB = some (mons.map fun l => ⟨l.toArray⟩) := by
  unfold strings_Fields.f
  rw [if_pos ⟨by decide, by decide⟩]
  congr 1
theorem map_mk (L : List Txt) : (L.map fun l => (⟨l.toArray⟩ : ByteArray)).map tl = L := by
  rw [List.map_map]
  conv => rhs; rw [← List.map_id L]
  apply List.map_congr_left
  intro l _
  simp [tl]
theorem among_of {B : ByteArray} {L : List Txt} (h : strings_Fields.f B = some (L.map fun l => ⟨l.toArray⟩)) (hl : L.length ≤ 20) (w : ByteArray) (k : Nat) (hk : 20 < k) : date_among.f k B w = some (idx L (tl w)) := by
  unfold date_among.f
  rw [h]
  simp only [Option.bind_some]
  rw [index_some _ _ _ (by simp; omega) (by simp; omega), map_mk]
  rfl
theorem among_short (w : ByteArray) (k : Nat) (hk : 20 < k) : date_among.f k shortB w = some (idx shorts (tl w)) := among_of fields_short (by decide) w k hk
theorem among_long (w : ByteArray) (k : Nat) (hk : 20 < k) : date_among.f k longB w = some (idx longs (tl w)) := among_of fields_long (by decide) w k hk
theorem among_mon (w : ByteArray) (k : Nat) (hk : 20 < k) : date_among.f k monB w = some (idx mons (tl w)) := among_of fields_mon (by decide) w k hk
theorem among_short' (w : ByteArray) (k : Nat) (hk : 20 < k) : date_among.f k ⟨#[77, 111, 110, 32, 84, 117, 101, 32, 87, 101, 100, 32, 84, 104, 117, 32, 70, 114, 105, 32, 83, 97, 116, 32, 83, 117, 110]⟩ w = some (idx shorts (tl w)) := among_short w k hk
theorem among_long' (w : ByteArray) (k : Nat) (hk : 20 < k) : date_among.f k ⟨#[77, 111, 110, 100, 97, 121, 32, 84, 117, 101, 115, 100, 97, 121, 32, 87, 101, 100, 110, 101, 115, 100, 97, 121, 32, 84, 104, 117, 114, 115, 100, 97, 121, 32, 70, 114, 105, 100, 97, 121, 32, 83, 97, 116, 117, 114, 100, 97, 121, 32, 83, 117, 110, 100, 97, 121]⟩ w = some (idx longs (tl w)) := among_long w k hk
theorem among_mon' (w : ByteArray) (k : Nat) (hk : 20 < k) : date_among.f k ⟨#[74, 97, 110, 32, 70, 101, 98, 32, 77, 97, 114, 32, 65, 112, 114, 32, 77, 97, 121, 32, 74, 117, 110, 32, 74, 117, 108, 32, 65, 117, 103, 32, 83, 101, 112, 32, 79, 99, 116, 32, 78, 111, 118, 32, 68, 101, 99]⟩ w = some (idx mons (tl w)) := among_mon w k hk
theorem number_some (b : ByteArray) (n : Nat) (hn : n ≤ 9) : date_number.f b (n : Int) = some (number (tl b) n) := by
  unfold date_number.f number
  by_cases h : b.size = n
  · rw [if_neg (by omega), if_pos (by omega), if_neg (by rw [tl_length]; omega)]
  · rw [if_pos (by omega), if_pos (by rw [tl_length]; omega)]
theorem number2 (b : ByteArray) : date_number.f b 2 = some (number (tl b) 2) := number_some b 2 (by decide)
theorem number4 (b : ByteArray) : date_number.f b 4 = some (number (tl b) 4) := number_some b 4 (by decide)
theorem number1 (b : ByteArray) : date_number.f b 1 = some (number (tl b) 1) := number_some b 1 (by decide)
theorem rdOf_get (L : List ByteArray) (i : Nat) (x : ByteArray) (h : L[i]? = some x) : rdOf ByteArray.empty L (i : Int) = x := by
  unfold rdOf; rw [Int.toNat_natCast, List.getD_eq_getElem?_getD, h]; rfl
/-! ### Texts -/
theorem clock_some (s : ByteArray) (h : s.size < 4294967281) : date_clock.f s = some (clockN (tl s)) := by
  obtain ⟨L, hL, hm⟩ := split_some 58 s h
  unfold date_clock.f
  rw [hL]
  simp only [Option.bind_some]
  unfold clockN
  rw [← hm]
  match L with
  | [a, b, c] =>
    have r0 : rdOf ByteArray.empty [a, b, c] 0 = a := rfl
    have r1 : rdOf ByteArray.empty [a, b, c] 1 = b := rfl
    have r2 : rdOf ByteArray.empty [a, b, c] 2 = c := rfl
    rw [if_pos (by simp), r0, r1, r2, number2, number2, number2]
    simp only [Option.bind_some, List.map_cons, List.map_nil]
    generalize number (tl a) 2 = A
    generalize number (tl b) 2 = B
    generalize number (tl c) 2 = C
    by_cases h1 : A < 0
    · rw [if_pos h1, if_pos (by omega)]
    by_cases h2 : A > 23
    · rw [if_neg h1, if_pos h2, if_pos (by omega)]
    by_cases h3 : B < 0
    · rw [if_neg h1, if_neg h2, if_pos h3, if_pos (by omega)]
    by_cases h4 : B > 59
    · rw [if_neg h1, if_neg h2, if_neg h3, if_pos h4, if_pos (by omega)]
    by_cases h5 : C < 0
    · rw [if_neg h1, if_neg h2, if_neg h3, if_neg h4, if_pos h5, if_pos (by omega)]
    by_cases h6 : C > 59
    · rw [if_neg h1, if_neg h2, if_neg h3, if_neg h4, if_neg h5, if_pos h6, if_pos (by omega)]
    · rw [if_neg h1, if_neg h2, if_neg h3, if_neg h4, if_neg h5, if_neg h6, if_neg (by omega)]
      rw [wrap_in (n := A * 60) (by omega), wrap_in (n := A * 60 + B) (by omega), wrap_in (n := (A * 60 + B) * 60) (by omega), wrap_in (by omega)]
  | [] => simp
  | [_] => simp
  | [_, _] => simp
  | _ :: _ :: _ :: _ :: _ => rw [if_neg (by simp only [List.length_cons]; omega)]; rfl
/-- A reading's parts, as the function tells them. -/
def told : Option Parts → Int × Int × Int × Int × Int × Bool
  | some p => (p.w, p.y, p.m, p.d, p.c, true)
  | none => (0, 0, 0, 0, 0, false)
theorem idx_le : ∀ (L : List Txt) (w : Txt), idx L w < L.length ∨ idx L w = -1
  | [], _ => by simp [idx]
  | x :: r, w => by
    have := idx_le r w
    unfold idx
    split
    · left; simp
    · split
      · right; rfl
      · left; simp only [List.length_cons]; omega
theorem idx_mons_le (w : Txt) : -1 ≤ idx mons w ∧ idx mons w ≤ 11 := by
  have := idx_ge mons w
  have := idx_le mons w
  have : mons.length = 12 := rfl
  omega
theorem spl_size {s x : ByteArray} {c : UInt8} {L : List ByteArray} (hm : L.map tl = spl c (tl s)) (hx : x ∈ L) : x.size ≤ s.size := by
  have h1 : tl x ∈ spl c (tl s) := by rw [← hm]; exact List.mem_map_of_mem hx
  have h2 : ∀ (t : Txt) (y : Txt), y ∈ spl c t → y.length ≤ t.length := by
    intro t
    induction t with
    | nil => intro y hy; simp [spl] at hy; simp [hy]
    | cons b l ih =>
      intro y hy
      unfold spl at hy
      split at hy
      · rcases List.mem_cons.1 hy with rfl | hy
        · simp
        · have := ih y hy; simp; omega
      · split at hy
        · simp at hy; subst hy; simp
        · rename_i z r e
          rcases List.mem_cons.1 hy with rfl | hy
          · have := ih z (by rw [e]; simp); simp; exact this
          · have := ih y (by rw [e]; simp [hy]); simp; omega
  have := h2 _ _ h1
  rwa [tl_length, tl_length] at this
theorem first_some (s : ByteArray) (h : s.size < 4294967281) (k : Nat) (hk : 21 < k) : date_first.f k s = some (told (firstP (tl s))) := by
  obtain ⟨L, hL, hm⟩ := split_some 32 s h
  obtain ⟨k, rfl⟩ : ∃ m, k = m + 1 := ⟨k - 1, by omega⟩
  unfold date_first.f
  rw [hL]
  simp only [Option.bind_some]
  unfold firstP
  rw [← hm]
  match L, hm with
  | [w0, w1, w2, w3, w4, w5], hm =>
    have r0 : rdOf ByteArray.empty [w0, w1, w2, w3, w4, w5] 0 = w0 := rfl
    have r1 : rdOf ByteArray.empty [w0, w1, w2, w3, w4, w5] 1 = w1 := rfl
    have r2 : rdOf ByteArray.empty [w0, w1, w2, w3, w4, w5] 2 = w2 := rfl
    have r3 : rdOf ByteArray.empty [w0, w1, w2, w3, w4, w5] 3 = w3 := rfl
    have r4 : rdOf ByteArray.empty [w0, w1, w2, w3, w4, w5] 4 = w4 := rfl
    have r5 : rdOf ByteArray.empty [w0, w1, w2, w3, w4, w5] 5 = w5 := rfl
    have z0 := spl_size (x := w0) hm (by simp)
    have z4 := spl_size (x := w4) hm (by simp)
    rw [if_pos (by simp), if_pos (by simp), r5, r0, hasSuffix_comma w0 (by omega), toList_tl]
    simp only [Option.bind_some, List.map_cons, List.map_nil]
    by_cases h5 : tl w5 = [71, 77, 84]
    · rw [if_pos h5, if_pos (by simp)]
      by_cases hc : comma (tl w0) = true
      · obtain ⟨t, ht, et⟩ := trimSuffix_comma w0 (by omega) hc
        rw [if_pos ⟨h5, hc⟩, hc]
        simp only [date_first.j0, Bool.not_true, Bool.false_eq_true, if_false]
        rw [r0, r1, r2, r3, r4, ht]
        simp only [Option.bind_some]
        rw [if_pos (by simp), among_short' t k (by omega), among_mon' w2 k (by omega), number4, number2, clock_some w4 (by omega)]
        simp only [Option.bind_some]
        have hi := idx_mons_le (tl w2)
        rw [if_pos (by simp), if_pos (by simp), if_pos (by simp), if_pos (by simp), wrap_in (by omega), et]
        rfl
      · rw [if_neg (fun hh => hc hh.2), Bool.eq_false_iff.2 hc]
        rfl
    · rw [if_neg h5, if_neg (fun hh => h5 hh.1)]
      rfl
  | [], _ => rfl
  | [_], _ => rfl
  | [_, _], _ => rfl
  | [_, _, _], _ => rfl
  | [_, _, _, _], _ => rfl
  | [_, _, _, _, _], _ => rfl
  | _ :: _ :: _ :: _ :: _ :: _ :: _ :: _, _ =>
    rw [if_neg (by simp only [List.length_cons]; omega)]
    simp only [List.map_cons]
    rfl
/-! ### The calendar -/
theorem tmod_zero (y c : Int) : y.tmod c = 0 ↔ y % c = 0 := by
  rw [← Int.dvd_iff_tmod_eq_zero, ← Int.dvd_iff_emod_eq_zero]
theorem tmod_if (y c : Int) : y.tmod c = if 0 ≤ y then y % c else -((-y) % c) := by
  split
  · rename_i h; exact Int.tmod_eq_emod_of_nonneg h
  · have := Int.neg_tmod y c
    rw [← Int.tmod_eq_emod_of_nonneg (by omega), this]; omega
theorem leap_some (y : Int) : civil_Leap.f y = some (leap y) := by
  have h := leap_iff y
  have t4 := tmod_zero y 4
  have t100 := tmod_zero y 100
  have t400 := tmod_zero y 400
  unfold civil_Leap.f
  by_cases h4 : y.tmod 4 = 0
  · have h4' : y % 4 = 0 := by omega
    rw [if_pos h4]
    by_cases h1 : y.tmod 100 = 0
    · have h1' : y % 100 = 0 := by omega
      rw [if_pos h1]
      congr 1
      rw [Bool.eq_iff_iff, h]
      simp; omega
    · rw [if_neg h1]
      congr 1
      exact (h.2 ⟨h4', by omega⟩).symm
  · rw [if_neg h4]
    congr 1
    have : ¬ leap y = true := fun e => by have := h.1 e; omega
    exact (Bool.eq_false_iff.2 this).symm
theorem length_some (y m : Int) (k : Nat) (hk : 1 ≤ k) : civil_Length.f k y m = some (len y m) := by
  obtain ⟨k, rfl⟩ : ∃ j, k = j + 1 := ⟨k - 1, by omega⟩
  unfold civil_Length.f len lp
  by_cases h2 : m = 2
  · rw [if_pos h2, if_pos h2, leap_some]
    simp only [Option.bind_some]
    cases leap y <;> simp
  · rw [if_neg h2, if_neg h2]
    by_cases h4 : m = 4
    · subst h4; simp [civil_Length.j0]
    by_cases h6 : m = 6
    · subst h6; simp [civil_Length.j0]
    by_cases h9 : m = 9
    · subst h9; simp [civil_Length.j0]
    by_cases h11 : m = 11
    · subst h11; simp [civil_Length.j0]
    rw [if_neg h4, if_neg h6, if_neg h9, if_neg (by omega)]
    simp only [civil_Length.j0]
    rw [if_neg (by simpa using h11)]
    by_cases h : 1 ≤ m ∧ m ≤ 12
    · have hm : m = 1 ∨ m = 3 ∨ m = 5 ∨ m = 7 ∨ m = 8 ∨ m = 10 ∨ m = 12 := by omega
      rcases hm with rfl | rfl | rfl | rfl | rfl | rfl | rfl <;> simp
    · rw [if_neg h, if_neg (by omega), if_neg (by omega), if_neg (by omega), if_neg (by omega), if_neg (by omega), if_neg (by omega), if_neg (by omega)]
theorem before_some (y : Int) (h0 : 0 ≤ y) (h1 : y ≤ 100000) : civil_before.f y = some (before y) := by
  unfold civil_before.f before
  by_cases h : y = 0
  · rw [if_pos h, if_pos h]
  · rw [if_neg h, if_neg h]
    rw [wrap_in (n := y - 1) (by omega), Int.tdiv_eq_ediv_of_nonneg (by omega), Int.tdiv_eq_ediv_of_nonneg (by omega), Int.tdiv_eq_ediv_of_nonneg (by omega)]
    rw [wrap_in (n := 365 * y) (by omega), wrap_in (n := (y - 1) / 4) (by omega), wrap_in (n := (y - 1) / 100) (by omega), wrap_in (n := (y - 1) / 400) (by omega)]
    rw [wrap_in (n := 365 * y + (y - 1) / 4) (by omega), wrap_in (n := 365 * y + (y - 1) / 4 - (y - 1) / 100) (by omega), wrap_in (n := 365 * y + (y - 1) / 4 - (y - 1) / 100 + (y - 1) / 400) (by omega), wrap_in (by omega)]
theorem before_1970' : civil_before.f 1970 = some 719528 := by rw [before_some 1970 (by decide) (by decide), before_1970]
theorem before_10000' : civil_before.f 10000 = some 3652425 := by rw [before_some 10000 (by decide) (by decide), before_10000]
theorem days_loop (y m n : Int) (hm : m ≤ 12) (hn : -10000000 ≤ n ∧ n ≤ 10000000) : ∀ (d k : Nat) (i : Int), 1 ≤ i → i ≤ m → m - i = d → d + 1 < k → civil_Days.l0 k y m (n + cum y i) i = some (n + cum y m, true) := by
  intro d
  induction d with
  | zero =>
    intro k i h1 h2 hd hk
    obtain ⟨k, rfl⟩ : ∃ j, k = j + 1 := ⟨k - 1, by omega⟩
    obtain rfl : i = m := by omega
    simp only [civil_Days.l0]
    rw [if_neg (by omega)]
  | succ d ih =>
    intro k i h1 h2 hd hk
    obtain ⟨k, rfl⟩ : ∃ j, k = j + 1 := ⟨k - 1, by omega⟩
    have hb := cum_bound y i
    have hl := len_lo y i
    simp only [civil_Days.l0]
    rw [if_pos (by omega), length_some y i k (by omega)]
    simp only [Option.bind_some]
    rw [wrap_in (n := n + cum y i + len y i) (by omega), wrap_in (n := i + 1) (by omega)]
    have := ih k (i + 1) (by omega) (by omega) (by omega) (by omega)
    rw [cum_succ y i h1 (by omega), ← Int.add_assoc] at this
    exact this
/-- civil.Days: the day's number, if there is such a day. -/
theorem days_some (y m d : Int) (hd : -100000 ≤ d ∧ d ≤ 100000) (k : Nat) (hk : 20 < k) : civil_Days.f k y m d = some (if okDay y m d then (dayNo y m d, true) else (0, false)) := by
  obtain ⟨k, rfl⟩ : ∃ j, k = j + 1 := ⟨k - 1, by omega⟩
  have no : ∀ b : Bool, b = true → civil_Days.j0 (k + 1) y m d b = some (0, false) := fun b hb => by subst hb; simp [civil_Days.j0]
  unfold civil_Days.f
  by_cases h1 : y < 0
  · rw [if_pos h1, no _ rfl, if_neg (by unfold okDay; omega)]
  rw [if_neg h1]
  by_cases h2 : y > 9999
  · rw [if_pos h2, no _ rfl, if_neg (by unfold okDay; omega)]
  rw [if_neg h2]
  by_cases h3 : d < 1
  · rw [if_pos h3, no _ rfl, if_neg (by unfold okDay; omega)]
  rw [if_neg h3, length_some y m _ (by omega)]
  simp only [Option.bind_some]
  by_cases h4 : d > len y m
  · rw [no _ (decide_eq_true h4), if_neg (by unfold okDay; omega)]
  · have hok : okDay y m d := ⟨by omega, by omega, by omega, by omega⟩
    have hmm := hok.month
    have hb := before_bound y (by omega) (by omega)
    have e : dayNo y m d = (before y - 719528 + d - 1) + cum y m := by unfold dayNo; omega
    rw [decide_eq_false h4, if_pos hok, e]
    simp only [civil_Days.j0, Bool.false_eq_true, if_false]
    rw [before_some y (by omega) (by omega), before_1970']
    simp only [Option.bind_some]
    rw [wrap_in (n := before y - 719528) (by omega), wrap_in (n := before y - 719528 + d) (by omega), wrap_in (n := before y - 719528 + d - 1) (by omega)]
    have := days_loop y m (before y - 719528 + d - 1) hmm.2 (by omega) (m - 1).toNat k 1 (by omega) hmm.1 (by omega) (by omega)
    rw [cum_one, Int.add_zero] at this
    exact this
theorem weekday_some (n : Int) (_h : -100000000 ≤ n ∧ n ≤ 100000000) : civil_Weekday.f n = some (wday n) := by
  unfold civil_Weekday.f wday
  have a1 := tmod_if n 7
  have a2 : 0 ≤ n.tmod 7 + 7 ∧ n.tmod 7 + 7 ≤ 13 := by split at a1 <;> omega
  rw [wrap_in (n := n.tmod 7 + 7) (by omega), Int.tmod_eq_emod_of_nonneg a2.1, wrap_in (by omega), Int.tmod_eq_emod_of_nonneg (by omega)]
  congr 1
  split at a1 <;> omega
/-- A reading's seconds, if there is such a moment. -/
def secsT (p : Parts) : Int × Bool :=
  match secs p with
  | some n => (n, true)
  | none => (0, false)
theorem seconds_some (p : Parts) (hd : -100000 ≤ p.d ∧ p.d ≤ 100000) (hc : p.c < 100000) (k : Nat) (hk : 20 < k) : date_parts_seconds.f k p.w p.y p.m p.d p.c = some (secsT p) := by
  unfold date_parts_seconds.f secsT secs
  rw [days_some p.y p.m p.d hd k hk]
  simp only [Option.bind_some]
  by_cases hok : okDay p.y p.m p.d
  · have hb := dayNo_bound hok
    rw [if_pos hok]
    simp only [if_true]
    by_cases h0 : p.c < 0
    · rw [if_pos h0, if_neg (fun h => by omega)]
    · rw [if_neg h0, weekday_some _ (by omega)]
      simp only [Option.bind_some]
      by_cases hw : wday (dayNo p.y p.m p.d) = p.w
      · rw [if_pos hw, if_pos ⟨hok, by omega, hw⟩, wrap_in (n := dayNo p.y p.m p.d * 86400) (by omega), wrap_in (by omega)]
      · rw [if_neg hw, if_neg (fun h => hw h.2.2)]
  · have e : ¬ (okDay p.y p.m p.d ∧ 0 ≤ p.c ∧ wday (dayNo p.y p.m p.d) = p.w) := fun h => hok h.1
    rw [if_neg hok, if_neg e]
    rfl
theorem date_year_loop (N : Int) (hN : 0 ≤ N ∧ N < 3652425) (Y : Int) (hY : InYear (N - 719528) Y) (X : Option (Int × Int × Int × Bool)) (hX : ∀ k, 18 < k → civil_Date.l1 k Y 1 (N - before Y) = X) :
    ∀ (d k : Nat) (y : Int), 0 ≤ y → y ≤ Y → Y - y = d → d + 20 < k → civil_Date.l0 k y N = X := by
  obtain ⟨hY0, hY1, hY2⟩ := hY
  have hY9 : Y ≤ 9999 := by
    apply Classical.byContradiction
    intro h
    have := before_mono (a := 10000) (b := Y) (by decide) (by omega)
    rw [before_10000] at this; omega
  intro d
  induction d with
  | zero =>
    intro k y h0 h1 hd hk
    obtain ⟨k, rfl⟩ : ∃ j, k = j + 1 := ⟨k - 1, by omega⟩
    obtain rfl : y = Y := by omega
    have hb := before_bound y h0 (by omega)
    simp only [civil_Date.l0]
    rw [wrap_in (n := y + 1) (by omega), before_some _ (by omega) (by omega)]
    simp only [Option.bind_some]
    rw [if_neg (by omega), before_some _ h0 (by omega)]
    simp only [Option.bind_some]
    rw [wrap_in (by omega)]
    exact hX k (by omega)
  | succ d ih =>
    intro k y h0 h1 hd hk
    obtain ⟨k, rfl⟩ : ∃ j, k = j + 1 := ⟨k - 1, by omega⟩
    have hb := before_mono (a := y + 1) (b := Y) (by omega) (by omega)
    simp only [civil_Date.l0]
    rw [wrap_in (n := y + 1) (by omega), before_some _ (by omega) (by omega)]
    simp only [Option.bind_some]
    rw [if_pos (by omega)]
    exact ih k (y + 1) (by omega) (by omega) (by omega) (by omega)
theorem date_month_loop (Y R : Int) (hR : 0 ≤ R ∧ R < 365 + lp Y) : ∀ (d k : Nat) (m : Int), 1 ≤ m → m ≤ 12 → cum Y m ≤ R → 12 - m = d → d + 5 < k →
    ∃ M D, civil_Date.l1 k Y m (R - cum Y m) = some (Y, M, D, true) ∧ 1 ≤ M ∧ M ≤ 12 ∧ 1 ≤ D ∧ D ≤ len Y M ∧ cum Y M + D - 1 = R := by
  have hlp := lp_01 Y
  intro d
  induction d with
  | zero =>
    intro k m h1 h2 hc hd hk
    obtain ⟨k, rfl⟩ : ∃ j, k = j + 1 := ⟨k - 1, by omega⟩
    obtain rfl : m = 12 := by omega
    have hs := cum_succ Y 12 (by decide) (by decide)
    rw [show (12 : Int) + 1 = 13 from rfl, cum_13] at hs
    refine ⟨12, R - cum Y 12 + 1, ?_, by decide, by decide, by omega, by omega, by omega⟩
    simp only [civil_Date.l1]
    rw [length_some _ _ k (by omega)]
    simp only [Option.bind_some]
    have := cum_bound Y 12
    rw [if_neg (by omega), wrap_in (by omega)]
  | succ d ih =>
    intro k m h1 h2 hc hd hk
    obtain ⟨k, rfl⟩ : ∃ j, k = j + 1 := ⟨k - 1, by omega⟩
    have hs := cum_succ Y m h1 h2
    have hb := cum_bound Y m
    have hl := len_lo Y m
    by_cases h : R - cum Y m ≥ len Y m
    · obtain ⟨M, D, e, r⟩ := ih k (m + 1) (by omega) (by omega) (by omega) (by omega) (by omega)
      refine ⟨M, D, ?_, r⟩
      simp only [civil_Date.l1]
      rw [length_some _ _ k (by omega)]
      simp only [Option.bind_some]
      rw [if_pos h, wrap_in (n := m + 1) (by omega), wrap_in (by omega)]
      rw [show R - cum Y m - len Y m = R - cum Y (m + 1) by omega]
      exact e
    · refine ⟨m, R - cum Y m + 1, ?_, h1, h2, by omega, by omega, by omega⟩
      simp only [civil_Date.l1]
      rw [length_some _ _ k (by omega)]
      simp only [Option.bind_some]
      rw [if_neg h, wrap_in (by omega)]
theorem lt_10000 {n : Int} (h : n < 3652425) : n < before ((10000 : Nat) : Int) := by
  have e1 : before ((10000 : Nat) : Int) = 3652425 := by decide
  omega
theorem w1970' : wrap64 (-719528) = -719528 := wrap_in (by omega)
theorem w10000' : wrap64 (wrap64 (3652425 - 719528) - 1) = 2932896 := by
  rw [wrap_in (n := 3652425 - 719528) (by omega), wrap_in (by omega)]; rfl
/-- civil.Date: the day with a number, if there is one. -/
theorem date_some (n : Int) (h : -719528 ≤ n ∧ n ≤ 2932896) (k : Nat) (hk : 10100 < k) : ∃ y m d, civil_Date.f k n = some (y, m, d, true) ∧ okDay y m d ∧ dayNo y m d = n ∧ InYear n y := by
  obtain ⟨k, rfl⟩ : ∃ j, k = j + 1 := ⟨k - 1, by omega⟩
  obtain ⟨Y, hY⟩ := exists_year (n := n) (by omega) 10000 (lt_10000 (by omega))
  obtain ⟨hY0, hY1, hY2⟩ := hY
  have hY9 : Y ≤ 9999 := by
    apply Classical.byContradiction
    intro h
    have := before_mono (a := 10000) (b := Y) (by decide) (by omega)
    rw [before_10000] at this; omega
  have hs := before_succ Y hY0
  have hlp := lp_01 Y
  have hg : (n + 719528) / 366 ≤ Y := by
    have h1 : n + 719528 < before (Y + 1) := hY2
    have h2 : before (Y + 1) ≤ 366 * (Y + 1) := by unfold before; split <;> omega
    omega
  obtain ⟨M, D, e, hM1, hM2, hD1, hD2, hR⟩ := date_month_loop Y (n + 719528 - before Y) (by omega) 11 (k + 1) 1 (by decide) (by decide) (by rw [cum_one]; omega) (by decide) (by omega)
  have hX : ∀ j, 18 < j → civil_Date.l1 j Y 1 (n + 719528 - before Y) = some (Y, M, D, true) := by
    intro j hj
    obtain ⟨M', D', e', a1, a2, a3, a4, a5⟩ := date_month_loop Y (n + 719528 - before Y) (by omega) 11 j 1 (by decide) (by decide) (by rw [cum_one]; omega) (by decide) (by omega)
    rw [cum_one, Int.sub_zero] at e'
    have := dayNo_inj (y := Y) (m := M) (d := D) (y' := Y) (m' := M') (d' := D') ⟨hY0, hY9, hD1, hD2⟩ ⟨hY0, hY9, a3, a4⟩ (by unfold dayNo; omega)
    obtain ⟨_, rfl, rfl⟩ := this
    exact e'
  refine ⟨Y, M, D, ?_, ⟨hY0, hY9, hD1, hD2⟩, by unfold dayNo; omega, ⟨hY0, hY1, hY2⟩⟩
  unfold civil_Date.f
  rw [before_1970', before_10000']
  simp only [Option.bind_some]
  rw [w1970', if_neg (by omega), w10000', decide_eq_false (by omega)]
  simp only [civil_Date.j0, Bool.false_eq_true, if_false]
  rw [wrap_in (n := n - -719528) (by omega), show n - -719528 = n + 719528 by omega, Int.tdiv_eq_ediv_of_nonneg (by omega), wrap_in (by omega)]
  have hbound : (Y - (n + 719528) / 366).toNat + 20 < k := by omega
  refine date_year_loop (n + 719528) (by omega) Y ⟨hY0, by omega, by omega⟩ _ hX (Y - (n + 719528) / 366).toNat k _ (by omega) hg (by omega) hbound
theorem date_none (n : Int) (h : n < -719528 ∨ 2932896 < n) (k : Nat) (hk : 1 ≤ k) : civil_Date.f k n = some (0, 0, 0, false) := by
  obtain ⟨k, rfl⟩ : ∃ j, k = j + 1 := ⟨k - 1, by omega⟩
  unfold civil_Date.f
  rw [before_1970', before_10000']
  simp only [Option.bind_some]
  rw [w1970', w10000']
  by_cases h1 : n < -719528
  · rw [if_pos h1]; simp [civil_Date.j0]
  · rw [if_neg h1, decide_eq_true (by omega)]; simp [civil_Date.j0]
end Go.Proofs.YtdlpdgdccoeklaaDoor.Dt
