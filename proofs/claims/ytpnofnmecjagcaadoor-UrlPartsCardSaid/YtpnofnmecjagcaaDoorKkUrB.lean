import Derived.Test.YtpnofnmecjagcaaDoorKkUrA
/- Plain facts for package url: what Parse hands back. -/
namespace Go.Proofs.YtpnofnmecjagcaaDoor.Ur
open Go.RowKit Go.Proofs.YtpnofnmecjagcaaDoorW.PrintWords Go.Proofs.YtpnofnmecjagcaaDoorW.PrintMore Go.Proofs.YtpnofnmecjagcaaDoor.Ext Go.Proofs.YtpnofnmecjagcaaDoor.XA Go.Proofs.YtpnofnmecjagcaaDoor.XB Go.Proofs.YtpnofnmecjagcaaDoor.XC
set_option linter.unusedVariables false
set_option linter.unusedSimpArgs false
theorem sz (l : List UInt8) : (⟨l.toArray⟩ : ByteArray).size = l.length := by show l.toArray.size = _; simp
def labB (p : List UInt8) : Bool := p.all lab && (decide (1 ≤ p.length) && decide (p.length ≤ 63) && !(p.getD 0 0 == 45) && !(p.getD (p.length - 1) 0 == 45))
theorem label_eq (s : ByteArray) (h : s.size ≤ 140737488351232) : url_label.f s = some (labB s.data.toList) := by
  unfold url_label.f labB
  rw [if_pos h, Lib.size_eq]
def nameB (l : List UInt8) : Bool := (Dt.spl 46 l).all labB && decide (l.length ≤ 100)
theorem wgt_mem {p : ByteArray} : ∀ {P : List ByteArray}, p ∈ P → p.size ≤ wgt P
  | x :: P, h => by
    rcases List.mem_cons.1 h with rfl | h
    · simp only [wgt]; omega
    · have := wgt_mem h; simp only [wgt]; omega
theorem name_loop (s : ByteArray) (P : List ByteArray) (hP : wgt P ≤ 100000) : ∀ (rest : List ByteArray) (i k : Nat), P.drop i = rest → i ≤ P.length → rest.length < k →
    url_name.l0 k s P (P.length : Int) (i : Int) = some ((rest.map (·.data.toList)).all labB && decide (s.data.toList.length ≤ 100))
  | [], i, k, hd, hi, hk => by
    obtain ⟨k, rfl⟩ : ∃ m, k = m + 1 := ⟨k - 1, by omega⟩
    have : P.length ≤ i := by have := congrArg List.length hd; rw [List.length_drop] at this; simp at this; omega
    rw [url_name.l0, if_neg (by omega)]
    simp only [List.map_nil, List.all_nil, Bool.true_and]
    rw [← Lib.size_eq]
    congr 1
    rw [Bool.eq_iff_iff]; simp; omega
  | p :: r, i, k, hd, hi, hk => by
    obtain ⟨k, rfl⟩ : ∃ m, k = m + 1 := ⟨k - 1, by omega⟩
    obtain ⟨h1, h2, h3⟩ := rd_at P i p r hd
    rw [List.length_cons] at hk
    have hl := wgt_len P
    have ew : wrap64 ((i : Int) + 1) = ((i + 1 : Nat) : Int) := by rw [w64 (by omega)]; omega
    have hpm : p ∈ P := by
      have : p ∈ P.drop i := by rw [hd]; exact List.mem_cons_self
      exact List.mem_of_mem_drop this
    have hpz := wgt_mem hpm
    rw [url_name.l0, if_pos (by omega), if_pos (by omega), if_pos (by omega), h1, label_eq p (by omega), ew]
    simp only [Option.bind_some, List.map_cons, List.all_cons]
    cases hb : labB p.data.toList with
    | false => simp
    | true => simp only [if_true, Bool.true_and]; exact name_loop s P hP r (i + 1) k h3 h2 (by omega)
theorem name_eq (s : ByteArray) (h : s.size ≤ 1900) (k : Nat) (hk : 1902 ≤ k) : url_name.f k s = some (nameB s.data.toList) := by
  obtain ⟨P, h1, _, h3⟩ := split_same 46 s (by omega)
  have hw := spl_wgt 46 _ P h3
  rw [← Lib.size_eq] at hw
  have hl := wgt_len P
  unfold url_name.f nameB
  rw [h1]
  simp only [Option.bind_some]
  rw [show (0 : Int) = ((0 : Nat) : Int) from rfl, name_loop s P (by omega) P 0 k rfl (by omega) (by omega), h3]
def usualS (sc : ByteArray) : Int := if sc.toList = [104, 116, 116, 112, 115] then 443 else 80
theorem usual_eq (sc : ByteArray) : Ext.url_usual.f sc = some (usualS sc) := by
  unfold Ext.url_usual.f XA.url_usual.f usualS
  split <;> rfl
def portS (l : List UInt8) : Int := match Lib.atoiAll l with
  | .ok v => if 1 ≤ v ∧ v ≤ 65535 ∧ Lib.itoa v = l then v else 0
  | _ => 0
theorem port_eq (s : ByteArray) (h : s.size ≤ 281474976710656) : url_port.f s = some (portS s.data.toList) := by
  unfold url_port.f portS
  rw [if_pos h]
  cases Lib.atoiAll s.data.toList <;> first | rfl | (simp only; split <;> rfl)
theorem port_range (l : List UInt8) : 0 ≤ portS l ∧ portS l ≤ 65535 := by
  unfold portS
  split
  · split <;> omega
  · omega
def lowL (l : List UInt8) : List UInt8 := Lib.mapD lowU l
theorem mapGo_len : ∀ (n : Nat) (l : List UInt8), (Lib.mapGoD lowU n l).length ≤ 4 * l.length
  | 0, l => by simp [Lib.mapGoD]
  | n + 1, l => by
    rw [Lib.mapGoD]
    split
    · simp
    · rename_i hne
      have h1 : 1 ≤ (Lib.decodeL l).2 := Lib.decodeL_width l
      have h4 := Lib.runeCells_le (lowU (Lib.decodeL l).1)
      have h5 : (Lib.encodeRune (lowU (Lib.decodeL l).1)).length = (Lib.runeCells (lowU (Lib.decodeL l).1)).length := by simp [Lib.encodeRune, Lib.runeCells]
      have ih := mapGo_len n (l.drop (Lib.decodeL l).2)
      rw [List.length_drop] at ih
      have hl : 1 ≤ l.length := List.length_pos_iff.2 hne
      rw [List.length_append]
      split
      · omega
      · simp only [List.length_nil]; omega
theorem low_len (l : List UInt8) : (lowL l).length ≤ 4 * l.length := mapGo_len _ _
theorem low_eq (s : ByteArray) (h : s.size < 35184372088832) : url_lower.f s = some ⟨(lowL s.data.toList).toArray⟩ := by
  unfold url_lower.f lowL
  rw [if_pos h]
/-- Between two places. -/
theorem ext_data (s : ByteArray) (a b : Nat) : (s.extract a b).data.toList = (s.data.toList.drop a).take (b - a) := Lib.extract_data s a b
def hostS (us : Int) (l : List UInt8) : Bool × List UInt8 × Int :=
  if 0 ≤ Lib.indexByte l 58 then
    (if portS (l.drop ((Lib.indexByte l 58).toNat + 1)) = 0 then (false, [], 0) else (nameB (lowL (l.take (Lib.indexByte l 58).toNat)), lowL (l.take (Lib.indexByte l 58).toNat), portS (l.drop ((Lib.indexByte l 58).toNat + 1))))
  else (nameB (lowL l), lowL l, us)
theorem indexByte_bd (c : UInt8) : ∀ l : List UInt8, -1 ≤ Lib.indexByte l c ∧ Lib.indexByte l c < l.length
  | [] => by simp [Lib.indexByte]
  | b :: l => by
    have ih := indexByte_bd c l
    simp only [Lib.indexByte, List.length_cons]
    split
    · omega
    · split <;> omega
theorem host_eq (sc : ByteArray) (a : ByteArray) (h : a.size ≤ 300) : url_host.f 2000 sc ⟨#[]⟩ 0 ⟨#[]⟩ ⟨#[]⟩ false a =
    some ((hostS (usualS sc) a.data.toList).1, sc, ⟨(hostS (usualS sc) a.data.toList).2.1.toArray⟩, (hostS (usualS sc) a.data.toList).2.2, ⟨#[]⟩, ⟨#[]⟩, false) := by
  have hsz := Lib.size_eq a
  obtain ⟨hb0, hb1⟩ := indexByte_bd 58 a.data.toList
  unfold url_host.f strings_IndexByte.f hostS
  simp only [Option.bind_some]
  rw [usual_eq, show (58 : Int).toNat.toUInt8 = 58 from rfl]
  simp only [Option.bind_some]
  obtain ⟨i, hi⟩ : ∃ i, Lib.indexByte a.data.toList 58 = i := ⟨_, rfl⟩
  rw [hi] at hb0 hb1 ⊢
  have nm : ∀ b : ByteArray, b.size ≤ 300 → url_name.f 2000 ⟨(lowL b.data.toList).toArray⟩ = some (nameB (lowL b.data.toList)) := fun b hb => by
    have := low_len b.data.toList
    rw [← Lib.size_eq] at this
    exact name_eq _ (by rw [sz]; omega) _ (by omega)
  by_cases h0 : i ≥ 0
  · have ew : wrap64 (i + 1) = i + 1 := w64 (by omega)
    have et : (i + 1).toNat = i.toNat + 1 := by omega
    rw [if_pos h0, if_pos h0, ew, if_pos (by omega), if_pos (by omega), et, port_eq _ (by rw [ByteArray.size_extract]; omega), Lib.extract_to_end]
    simp only [Option.bind_some]
    by_cases hp : portS (List.drop (i.toNat + 1) a.data.toList) = 0
    · rw [if_pos hp, if_pos hp, hp]
    · rw [if_neg hp, if_neg hp, if_pos (by omega), if_pos (by omega), low_eq _ (by rw [ByteArray.size_extract]; omega)]
      simp only [Option.bind_some]
      rw [nm _ (by rw [ByteArray.size_extract]; omega), ext_data, List.drop_zero, Nat.sub_zero]
      rfl
  · rw [if_neg h0, if_neg h0, low_eq _ (by omega)]
    simp only [Option.bind_some]
    rw [nm _ h]
    rfl
/-! ### Clean, as the program has it -/
def cleanB (s : ByteArray) : ByteArray := finT (finL (cgo (Lib.splitB ⟨#[47]⟩ 0 (Lib.countB s ⟨#[47]⟩) s) []))
theorem clean_eq (s : ByteArray) (h : s.size ≤ 1900) (k : Nat) (hk : 1902 ≤ k) : url_Clean.f k s = some (cleanB s) := by
  obtain ⟨P, h1, h2, h3⟩ := split_same 47 s (by omega)
  have e : P = Lib.splitB ⟨#[47]⟩ 0 (Lib.countB s ⟨#[47]⟩) s := by
    unfold Ext.strings_Split.f at h1
    rw [if_pos ⟨by omega, by show 1 ≤ 1; omega⟩] at h1
    exact (Option.some.inj h1).symm
  have hw := spl_wgt 47 _ P h3
  rw [← Lib.size_eq] at hw
  have hl := wgt_len P
  have hc := cgo_wgt P []
  simp only [wgt] at hc
  unfold url_Clean.f cleanB
  rw [h1, ← e]
  simp only [Option.bind_some]
  rw [show (0 : Int) = ((0 : Nat) : Int) from rfl, prog_loop P (by omega) P 0 [] k rfl (by omega) (by omega) (by simp; omega)]
  exact finP_eq _ (by omega)
theorem finT_head (l : List UInt8) : ∃ r, (finT l).data.toList = 47 :: r ∧ ((finT l).data.toList = l ∨ r = l) := by
  unfold finT
  split
  · rename_i hh
    cases l with
    | nil => simp at hh
    | cons b l => simp at hh; subst hh; exact ⟨l, rfl, Or.inl rfl⟩
  · exact ⟨l, rfl, Or.inr rfl⟩
theorem clean_head (s : ByteArray) : ∃ r, (cleanB s).data.toList = 47 :: r := by
  obtain ⟨r, h, _⟩ := finT_head (finL (cgo (Lib.splitB ⟨#[47]⟩ 0 (Lib.countB s ⟨#[47]⟩) s) []))
  exact ⟨r, h⟩
theorem cgo_mem (l : List UInt8) : ∀ (P out : List ByteArray), (∀ p ∈ P, ∀ b ∈ p.data.toList, b ∈ l) → (∀ p ∈ out, ∀ b ∈ p.data.toList, b ∈ l) → ∀ p ∈ cgo P out, ∀ b ∈ p.data.toList, b ∈ l
  | [], out, _, h => h
  | p :: r, out, hP, h => by
    refine cgo_mem l r _ (fun q hq => hP q (List.mem_cons_of_mem _ hq)) ?_
    have he : ∀ q : ByteArray, q ∈ [(⟨#[]⟩ : ByteArray)] → ∀ b ∈ q.data.toList, b ∈ l := fun q hq b hb => by
      rw [List.mem_singleton.1 hq] at hb; simp at hb
    have ht : ∀ q ∈ out.take (out.length - 1), ∀ b ∈ q.data.toList, b ∈ l := fun q hq => h q (List.mem_of_mem_take hq)
    have hif : ∀ c : Bool, ∀ q ∈ (if c then [(⟨#[]⟩ : ByteArray)] else []), ∀ b ∈ q.data.toList, b ∈ l := fun c q hq => by
      cases c
      · simp at hq
      · exact he q (by simpa using hq)
    intro q hq
    unfold cstep at hq
    split at hq
    · rcases List.mem_append.1 hq with h1 | h1
      · split at h1
        · rcases List.mem_append.1 h1 with h2 | h2
          · exact ht q h2
          · exact he q h2
        · exact ht q h1
      · exact hif _ q h1
    · split at hq
      · rcases List.mem_append.1 hq with h1 | h1
        · exact h q h1
        · exact hif _ q h1
      · rcases List.mem_append.1 hq with h1 | h1
        · exact h q h1
        · rw [List.mem_singleton.1 h1]; exact hP p List.mem_cons_self
theorem join_mem (X : List (List UInt8)) (b : UInt8) (h : b ∈ Lib.join X [47]) : b = 47 ∨ ∃ p ∈ X, b ∈ p := by
  cases X with
  | nil => simp [Lib.join_nil] at h
  | cons x r =>
    rw [Lib.join_cons] at h
    rcases List.mem_append.1 h with h | h
    · exact Or.inr ⟨x, List.mem_cons_self, h⟩
    · unfold Lib.joinTail at h
      obtain ⟨y, hy, hb⟩ := List.mem_flatten.1 h
      obtain ⟨z, hz, rfl⟩ := List.mem_map.1 hy
      rcases List.mem_append.1 hb with h1 | h1
      · exact Or.inl (List.mem_singleton.1 h1)
      · exact Or.inr ⟨z, List.mem_cons_of_mem _ hz, h1⟩
theorem spl_mem (c : UInt8) : ∀ (l : List UInt8) (x : List UInt8), x ∈ Dt.spl c l → ∀ b ∈ x, b ∈ l
  | [], x, hx, b, hb => by simp [Dt.spl] at hx; rw [hx] at hb; simp at hb
  | a :: l, x, hx, b, hb => by
    rw [Dt.spl] at hx
    split at hx
    · rcases List.mem_cons.1 hx with rfl | hx
      · simp at hb
      · exact List.mem_cons_of_mem _ (spl_mem c l x hx b hb)
    · cases hs : Dt.spl c l with
      | nil => exact absurd hs (Dt.spl_ne c l)
      | cons y r =>
        rw [hs] at hx
        rcases List.mem_cons.1 hx with rfl | hx
        · rcases List.mem_cons.1 hb with rfl | hb
          · exact List.mem_cons_self
          · exact List.mem_cons_of_mem _ (spl_mem c l y (by rw [hs]; exact List.mem_cons_self) b hb)
        · exact List.mem_cons_of_mem _ (spl_mem c l x (by rw [hs]; exact List.mem_cons_of_mem _ hx) b hb)
theorem clean_mem (s : ByteArray) (b : UInt8) (h : b ∈ (cleanB s).data.toList) : b = 47 ∨ b ∈ s.data.toList := by
  obtain ⟨r, h1, h2⟩ := finT_head (finL (cgo (Lib.splitB ⟨#[47]⟩ 0 (Lib.countB s ⟨#[47]⟩) s) []))
  have h1' : (cleanB s).data.toList = 47 :: r := h1
  have hb : b = 47 ∨ b ∈ finL (cgo (Lib.splitB ⟨#[47]⟩ 0 (Lib.countB s ⟨#[47]⟩) s) []) := by
    rw [h1'] at h
    rcases List.mem_cons.1 h with h | h
    · exact Or.inl h
    · rcases h2 with h2 | h2
      · rw [h1] at h2; exact Or.inr (by rw [← h2]; exact List.mem_cons_of_mem _ h)
      · exact Or.inr (by rw [← h2]; exact h)
  rcases hb with hb | hb
  · exact Or.inl hb
  · rcases join_mem _ b hb with hb | ⟨p, hp, hb⟩
    · exact Or.inl hb
    · obtain ⟨q, hq, rfl⟩ := List.mem_map.1 hp
      refine Or.inr (cgo_mem s.data.toList _ [] (fun p hp b hb => ?_) (by simp) q hq b hb)
      have := Dt.splitB_spl 47 s
      exact spl_mem 47 s.data.toList p.data.toList (by rw [← this]; exact List.mem_map_of_mem hp) b hb
end Go.Proofs.YtpnofnmecjagcaaDoor.Ur
