import Derived.Test.YtpnofnmecjagcaaDoorKkDtTxt
import Derived.Lib.SplitLaws
/- Plain facts that tie the library's words (strings.Split, strings.Fields) to this claim's own words on lists of bytes. No program in this text. -/
namespace Go.Proofs.YtpnofnmecjagcaaDoor.Dt
open Go.Lib
theorem index_app {c : UInt8} {x y : Txt} (h : ∀ b ∈ x, b ≠ c) : index (x ++ c :: y) [c] = (x.length : Int) := by
  refine index_first (by simp) ?_ ?_
  · unfold occAt
    rw [List.drop_append_of_le_length (Nat.le_refl _), List.drop_length]
    simp [List.isPrefixOf]
  · intro j hj
    unfold occAt
    rw [List.drop_append_of_le_length (by omega)]
    have hne : x.drop j ≠ [] := by
      intro e
      have := congrArg List.length e
      simp at this; omega
    obtain ⟨b, r, e⟩ := List.exists_cons_of_ne_nil hne
    have hb : b ∈ x := List.mem_of_mem_drop (i := j) (by rw [e]; simp)
    rw [e]
    simp [List.isPrefixOf, Ne.symm (h b hb)]
theorem splitK_spl (c : UInt8) : ∀ (k : Nat) (s : Txt), count s [c] = k → splitK [c] 0 k s = spl c s
  | 0, s, hk => by
    rw [count_one] at hk
    have h : ∀ b ∈ s, b ≠ c := fun b hb e => by
      have := List.count_pos_iff.2 hb
      rw [e] at this; omega
    rw [spl_none h]; rfl
  | k + 1, s, hk => by
    have hc : c ∈ s := List.count_pos_iff.1 (by rw [← count_one]; omega)
    obtain ⟨x, y, rfl, hx⟩ := List.eq_append_cons_of_mem hc
    have hx' : ∀ b ∈ x, b ≠ c := fun b hb e => hx (e ▸ hb)
    have hi := index_app (y := y) hx'
    have hn : ¬ (index (x ++ c :: y) [c] == -1) = true := fun e => by have := beq_iff_eq.1 e; omega
    have hy : count y [c] = k := by
      rw [count_one] at hk ⊢
      rw [List.count_append, List.count_cons_self, List.count_eq_zero_of_not_mem hx] at hk
      omega
    rw [splitK, if_neg hn, hi, spl_app _ hx', ← splitK_spl c k y hy]
    have e1 : ((x.length : Int)).toNat = x.length := by omega
    rw [e1]
    congr 1
    · simp
    · congr 1
      rw [List.drop_append]
      simp
/-- strings.Split at a separator of one byte, as lists of bytes. -/
theorem splitB_spl (c : UInt8) (s : ByteArray) : (splitB ⟨#[c]⟩ 0 (countB s ⟨#[c]⟩) s).map (·.data.toList) = spl c s.data.toList := by
  rw [splitB_data]
  exact splitK_spl c _ _ rfl
end Go.Proofs.YtpnofnmecjagcaaDoor.Dt
