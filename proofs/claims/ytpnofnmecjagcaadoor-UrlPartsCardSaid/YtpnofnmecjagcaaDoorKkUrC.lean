import Derived.Test.YtpnofnmecjagcaaDoorKkUrB
import Derived.Test.YtpnofnmecjagcaaDoorKkUrlParse
/- Plain facts for package url: Parse, as a function of lists of bytes. -/
namespace Go.Proofs.YtpnofnmecjagcaaDoor.Ur
open Go.RowKit Go.Proofs.YtpnofnmecjagcaaDoorW.PrintWords Go.Proofs.YtpnofnmecjagcaaDoorW.PrintMore Go.Proofs.YtpnofnmecjagcaaDoor.Ext Go.Proofs.YtpnofnmecjagcaaDoor.XA Go.Proofs.YtpnofnmecjagcaaDoor.XB Go.Proofs.YtpnofnmecjagcaaDoor.XC
set_option linter.unusedVariables false
set_option linter.unusedSimpArgs false
theorem normL_len : ∀ (n : Nat) (l r : List UInt8), l.length ≤ n → normL l = some r → r.length ≤ 3 * l.length
  | 0, l, r, hn, h => by
    obtain rfl := List.length_eq_zero_iff.1 (by omega : l.length = 0)
    rw [show normL [] = some [] from rfl] at h; rw [← Option.some.inj h]; simp
  | n + 1, [], r, hn, h => by rw [show normL [] = some [] from rfl] at h; rw [← Option.some.inj h]; simp
  | n + 1, c :: l, r, hn, h => by
    rw [normL_cons] at h
    rw [List.length_cons] at hn ⊢
    split at h
    · unfold normT at h
      split at h
      · rename_i a b r'
        split at h
        · obtain ⟨x, hx, rfl⟩ := Option.map_eq_some_iff.1 h
          simp only [List.length_cons] at hn
          have ih := normL_len n r' x (by omega) hx
          have := outF_len (two a b)
          rw [List.length_append]; simp only [List.length_cons]; omega
        · cases h
      · cases h
    · obtain ⟨x, hx, rfl⟩ := Option.map_eq_some_iff.1 h
      have ih := normL_len n l x (by omega) hx
      have := outP_len c
      rw [List.length_append]; omega
def headS (l : List UInt8) : List UInt8 := if 0 ≤ Lib.indexByte l 35 then l.take (Lib.indexByte l 35).toNat else l
def partsL (l : List UInt8) : Option (ByteArray × List UInt8 × Bool) :=
  match normL (Lib.cut l [63]).1, normL (Lib.cut l [63]).2.1 with
  | some p, some q => some (cleanB ⟨p.toArray⟩, q, (Lib.cut l [63]).2.2)
  | _, _ => none
theorem cut_len (l sep : List UInt8) : (Lib.cut l sep).1.length ≤ l.length ∧ (Lib.cut l sep).2.1.length ≤ l.length := by
  unfold Lib.cut
  split
  · simp only [List.length_take, List.length_drop]; omega
  · simp
theorem j0_eq (k : Nat) (hk : 1902 ≤ k) (s0 s1 s3 s4 : ByteArray) (s2 : Int) (s5 : Bool) (a : ByteArray) (h : a.size ≤ 300) : ∃ r, url_parts.j0 (k + 1) a s0 s1 s2 s3 s4 s5 = some r ∧
    (∀ p q b, partsL a.data.toList = some (p, q, b) → r = (true, s0, s1, s2, p, ⟨q.toArray⟩, b)) ∧ (partsL a.data.toList = none → r.1 = false) := by
  have hsz := Lib.size_eq a
  have hcl := cut_len a.data.toList [63]
  rw [url_parts.j0]
  unfold Ext.strings_Cut.f partsL
  rw [if_pos (by omega)]
  simp only [Option.bind_some]
  obtain ⟨C, hC⟩ : ∃ C, Lib.cut a.data.toList [63] = C := ⟨_, rfl⟩
  rw [hC] at hcl ⊢
  unfold pct_Norm.f
  rw [if_pos (by rw [sz]; omega)]
  simp only [Option.bind_some]
  rw [if_pos (by rw [sz]; omega)]
  simp only [Option.bind_some]
  cases hp : normL C.1 with
  | none =>
    simp only
    rw [clean_eq _ (by show (0 : Nat) ≤ _; omega) k hk]
    simp only [Option.bind_some, Bool.false_eq_true, if_false]
    exact ⟨_, rfl, fun p q b h => by simp at h, fun _ => rfl⟩
  | some p =>
    have hpl := normL_len _ _ _ (Nat.le_refl _) hp
    simp only
    rw [clean_eq ⟨p.toArray⟩ (by rw [sz]; omega) k hk]
    simp only [Option.bind_some, if_true]
    cases hq : normL C.2.1 with
    | none => exact ⟨_, rfl, fun p q b h => by simp at h, fun _ => rfl⟩
    | some q =>
      refine ⟨_, rfl, fun p' q' b h => ?_, fun h => by simp at h⟩
      simp only [Option.some.injEq, Prod.mk.injEq] at h
      obtain ⟨rfl, rfl, rfl⟩ := h
      rfl
theorem parts_eq (s0 s1 s3 s4 : ByteArray) (s2 : Int) (s5 : Bool) (a : ByteArray) (h : a.size ≤ 300) : ∃ r, url_parts.f 2000 s0 s1 s2 s3 s4 s5 a = some r ∧
    (∀ p q b, partsL (headS a.data.toList) = some (p, q, b) → r = (true, s0, s1, s2, p, ⟨q.toArray⟩, b)) ∧ (partsL (headS a.data.toList) = none → r.1 = false) := by
  have hsz := Lib.size_eq a
  obtain ⟨hb0, hb1⟩ := indexByte_bd 35 a.data.toList
  unfold url_parts.f strings_IndexByte.f headS
  simp only [Option.bind_some]
  rw [show (35 : Int).toNat.toUInt8 = 35 from rfl]
  by_cases h0 : Lib.indexByte a.data.toList 35 ≥ 0
  · rw [if_pos h0, if_pos h0, if_pos (by omega), if_pos h0]
    have := j0_eq 1999 (by omega) s0 s1 s3 s4 s2 s5 (a.extract 0 (Lib.indexByte a.data.toList 35).toNat) (by rw [ByteArray.size_extract]; omega)
    rw [ext_data, List.drop_zero, Nat.sub_zero] at this
    exact this
  · rw [if_neg h0, if_neg h0]
    exact j0_eq 1999 (by omega) s0 s1 s3 s4 s2 s5 a h
def endN (rest : List UInt8) : Nat := if Lib.indexAny rest [47, 63, 35] < 0 then rest.length else (Lib.indexAny rest [47, 63, 35]).toNat
abbrev U7 := ByteArray × ByteArray × Int × ByteArray × ByteArray × Bool × Int
/-- What Parse hands back. -/
def bodyS (sc rest : List UInt8) : U7 :=
  let h := hostS (usualS ⟨sc.toArray⟩) (rest.take (endN rest))
  if h.1 = true then
    (match partsL (headS (rest.drop (endN rest))) with
      | some (p, q, b) => (⟨sc.toArray⟩, ⟨h.2.1.toArray⟩, h.2.2, p, ⟨q.toArray⟩, b, 0)
      | none => zeroU 2)
  else zeroU 11
def isHttp (sc : List UInt8) : Prop := sc = [104, 116, 116, 112] ∨ sc = [104, 116, 116, 112, 115]
instance (sc : List UInt8) : Decidable (isHttp sc) := by unfold isHttp; infer_instance
def parseS (s : List UInt8) : U7 :=
  if 256 < s.length then zeroU 9 else
    if (Lib.cut s [58, 47, 47]).2.2 = true ∧ isHttp (lowL (Lib.cut s [58, 47, 47]).1) then bodyS (lowL (Lib.cut s [58, 47, 47]).1) (Lib.cut s [58, 47, 47]).2.1 else zeroU 2
theorem indexAny_bd (cs : List UInt8) : ∀ l : List UInt8, -1 ≤ Lib.indexAny l cs ∧ Lib.indexAny l cs < l.length
  | [] => by simp [Lib.indexAny]
  | b :: l => by
    have ih := indexAny_bd cs l
    simp only [Lib.indexAny, List.length_cons]
    split
    · omega
    · split <;> omega
theorem g_eq (sc rest : ByteArray) (h : rest.size ≤ 256) : url_Parse.g sc rest = some (bodyS sc.data.toList rest.data.toList) := by
  have hsz := Lib.size_eq rest
  obtain ⟨hb0, hb1⟩ := indexAny_bd [47, 63, 35] rest.data.toList
  have hsc : (⟨sc.data.toList.toArray⟩ : ByteArray) = sc := ba_ext rfl
  unfold url_Parse.g bodyS endN
  have ea : strings_IndexAny.f rest ⟨#[47, 63, 35]⟩ = some (Lib.indexAny rest.data.toList [47, 63, 35]) := by
    unfold strings_IndexAny.f
    rw [if_pos ⟨by omega, by decide, by decide, by decide⟩]
  rw [ea, hsc]
  simp only [Option.bind_some]
  obtain ⟨i, hi⟩ : ∃ i, Lib.indexAny rest.data.toList [47, 63, 35] = i := ⟨_, rfl⟩
  rw [hi] at hb0 hb1 ⊢
  obtain ⟨e, he⟩ : ∃ e, (if i < 0 then rest.data.toList.length else i.toNat) = e := ⟨_, rfl⟩
  have he2 : endOf rest i = (e : Int) := by unfold endOf; rw [← he]; split <;> omega
  have hel : e ≤ rest.size := by rw [← he]; split <;> omega
  rw [he, he2, if_pos (by omega), show ((e : Int)).toNat = e by omega]
  rw [host_eq sc _ (by rw [ByteArray.size_extract]; omega)]
  simp only [Option.bind_some]
  rw [ext_data, List.drop_zero, Nat.sub_zero]
  obtain ⟨H, hH⟩ : ∃ H, hostS (usualS sc) (rest.data.toList.take e) = H := ⟨_, rfl⟩
  rw [hH]
  by_cases hb : H.1 = true
  · rw [if_pos hb, if_pos hb]
    obtain ⟨r, hr, h1, h2⟩ := parts_eq sc ⟨H.2.1.toArray⟩ ⟨#[]⟩ ⟨#[]⟩ H.2.2 false (rest.extract e rest.size) (by rw [ByteArray.size_extract]; omega)
    rw [hr]
    simp only [Option.bind_some]
    rw [Lib.extract_to_end] at h1 h2
    cases hp : partsL (headS (rest.data.toList.drop e)) with
    | none => rw [if_neg (by rw [h2 hp]; simp)]
    | some t =>
      obtain ⟨p, q, b⟩ := t
      rw [h1 p q b hp]
      simp
  · rw [if_neg hb, if_neg hb]
theorem parse_eq (s : ByteArray) : url_Parse.f s = some (parseS s.data.toList) := by
  have hsz := Lib.size_eq s
  unfold url_Parse.f parseS
  by_cases h : 256 < s.size
  · rw [if_pos h, if_pos (by omega)]
  · rw [if_neg h, if_neg (by omega)]
    have hcl := cut_len s.data.toList [58, 47, 47]
    unfold Ext.strings_Cut.f
    rw [if_pos (by omega)]
    simp only [Option.bind_some]
    obtain ⟨C, hC⟩ : ∃ C, Lib.cut s.data.toList [58, 47, 47] = C := ⟨_, rfl⟩
    rw [hC] at hcl ⊢
    rw [low_eq _ (by rw [sz]; omega)]
    simp only [Option.bind_some]
    have et : ∀ l : List UInt8, (⟨l.toArray⟩ : ByteArray).toList = l := fun l => by rw [toList_eq]
    rw [et]
    by_cases hk : C.2.2 = true ∧ isHttp (lowL C.1)
    · rw [if_pos (show C.2.2 = true ∧ (lowL C.1 = [104, 116, 116, 112] ∨ lowL C.1 = [104, 116, 116, 112, 115]) from hk), if_pos hk, g_eq _ _ (by rw [sz]; omega)]
    · rw [if_neg (show ¬ (C.2.2 = true ∧ (lowL C.1 = [104, 116, 116, 112] ∨ lowL C.1 = [104, 116, 116, 112, 115])) from hk), if_neg hk]
end Go.Proofs.YtpnofnmecjagcaaDoor.Ur
