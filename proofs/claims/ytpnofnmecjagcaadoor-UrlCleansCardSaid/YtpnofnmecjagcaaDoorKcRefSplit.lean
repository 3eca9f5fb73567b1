import Derived.Test.YtpnofnmecjagcaaDoorKcXBx0
import Derived.Test.YtpnofnmecjagcaaDoorKcXBx1
import Derived.Test.YtpnofnmecjagcaaDoorKcXBx2
import Derived.RegionTactic
import Derived.ChangeAlike
import Derived.BigRegion
import Derived.IntWalk
import Derived.Lib.Hide
import Derived.Deep.LoopGhost
import Derived.Outline
import Derived.Laws.IdiomStrings
/- Contract of the reference's split: parts with a sign between. -/
namespace Go.Proofs.YtpnofnmecjagcaaDoor.Ext
open Go.RowKit Go.Proofs.YtpnofnmecjagcaaDoorW.PrintWords Go.Proofs.YtpnofnmecjagcaaDoorW.PrintMore
set_option linter.unusedVariables false
theorem info_str : (Tryd.prog.info? 9).map (fun i => (i.zero, i.size, i.bytes)) = some (some (.string ⟨#[]⟩), 1, 16) := by kernel_rfl
def splitStep (c : Int) (out : List ByteArray) (b : UInt8) : List ByteArray :=
  if (b.toNat : Int) = c then out ++ [⟨#[]⟩] else out.set ((out.length : Int) - 1).toNat (rdOf ByteArray.empty out ((out.length : Int) - 1) ++ ⟨#[b]⟩)
def splitTo (c : Int) (l : List UInt8) : List ByteArray := l.foldl (splitStep c) [⟨#[]⟩]
def decorumref04_split.f (s : ByteArray) (c : Int) : Option (List ByteArray) := if s.size ≤ 1099511627776 then some (splitTo c s.data.toList) else none
theorem splitTo_take (c : Int) (s : ByteArray) (k : Nat) (h : k < s.size) : splitTo c (s.data.toList.take (k + 1)) = splitStep c (splitTo c (s.data.toList.take k)) s[k] := by
  unfold splitTo
  rw [List.take_succ_eq_append_getElem (by simpa using h), List.foldl_append]
  rfl
theorem splitStep_len (c : Int) (out : List ByteArray) (b : UInt8) : out.length ≤ (splitStep c out b).length ∧ (splitStep c out b).length ≤ out.length + 1 := by
  unfold splitStep; split <;> simp
theorem splitTo_len (c : Int) (s : ByteArray) : ∀ k, k ≤ s.size → 1 ≤ (splitTo c (s.data.toList.take k)).length ∧ (splitTo c (s.data.toList.take k)).length ≤ k + 1
  | 0, _ => by simp [splitTo]
  | k + 1, h => by
    have ih := splitTo_len c s k (by omega)
    rw [splitTo_take c s k (by omega)]
    have := splitStep_len c (splitTo c (s.data.toList.take k)) (s[k]'(by omega))
    omega
theorem splitStep_size (c : Int) (out : List ByteArray) (b : UInt8) (m : Nat) (h : ∀ x ∈ out, x.size ≤ m) : ∀ x ∈ splitStep c out b, x.size ≤ m + 1 := by
  intro x hx
  unfold splitStep at hx
  split at hx
  · rcases List.mem_append.1 hx with h1 | h1
    · have := h x h1; omega
    · rw [List.mem_singleton.1 h1]; exact Nat.zero_le _
  · rcases List.mem_or_eq_of_mem_set hx with h1 | h1
    · have := h x h1; omega
    · rw [h1, ByteArray.size_append]
      have : (rdOf ByteArray.empty out ((out.length : Int) - 1)).size ≤ m := by
        unfold rdOf
        by_cases hl : ((out.length : Int) - 1).toNat < out.length
        · rw [List.getD_eq_getElem?_getD, List.getElem?_eq_getElem hl]
          exact h _ (List.getElem_mem hl)
        · rw [List.getD_eq_getElem?_getD, List.getElem?_eq_none (by omega)]
          exact Nat.zero_le _
      show _ + 1 ≤ _
      omega
theorem splitTo_size (c : Int) (s : ByteArray) : ∀ k, k ≤ s.size → ∀ x ∈ splitTo c (s.data.toList.take k), x.size ≤ k
  | 0, _ => by simp [splitTo]; rfl
  | k + 1, h => by
    rw [splitTo_take c s k (by omega)]
    exact splitStep_size c _ _ k (splitTo_size c s k (by omega))
theorem below_set' {B : Nat} {w W : World} {g j : Nat} {v : Value} (h : Below B w W) (hg : B ≤ g) : Below B w (W.setCell ⟨g, j, none⟩ v) := h.setCell hg _
set_option maxHeartbeats 4000000 in
set_option maxRecDepth 100000 in
theorem decorumref04_split.calls (s : ByteArray) (c : Int) (r : List ByteArray) (w : World) (h : decorumref04_split.f s c = some r) :
    Calls Tryd.prog 22 #[.string s, .int .u8 c] w fun e w' => ∃ v0_ : Value, e = .returned (v0_) ∧ Kd.R Kd.string 9 w' w.heap.size (fun _ => True) v0_ r ∧ Below w.heap.size w w' := by
  unfold decorumref04_split.f at h
  split at h
  case isFalse => cases h
  rename_i hs
  obtain rfl := Option.some.inj h
  clear h
  go_enter Tryd.func22, Tryd.ntmps22
  go_wp2
  go_loopg [5, 6] s.size (fun g s5 s6 wx => ∃ (i : Nat), i ≤ s.size ∧ s.size ≤ i + g ∧ s6 = .int .i64 i ∧ Below w.heap.size w wx ∧ w.heap.size ≤ wx.heap.size ∧ Kd.R Kd.string 9 wx w.heap.size (fun _ => True) s5 (splitTo c (s.data.toList.take i)))
  case atStart => exact ⟨0, by omega, by omega, rfl, (Below.refl _ w).alloc (Nat.le_refl _) _, by simp, row_of_lit [⟨#[]⟩] _ (by decide)⟩
  case round =>
    obtain ⟨i, hi0, hig, rfl, hbw, hsz, HO⟩ := hrel
    by_cases hi : i < s.size
    · obtain ⟨g, rfl⟩ : ∃ g, gk = g + 1 := ⟨gk - 1, by omega⟩
      have HC := Lib.hid (splitTo_take c s i hi)
      obtain ⟨hl1, hl2⟩ := splitTo_len c s i hi0
      have HZ := Lib.hid (splitTo_size c s i hi0)
      obtain ⟨out, ho⟩ : ∃ out, splitTo c (s.data.toList.take i) = out := ⟨_, rfl⟩
      rw [ho] at HC hl1 hl2 HZ HO
      clear ho
      by_cases hc : ((s[i]'hi).toNat : Int) = c
      · have hc' : (((s[i]'hi).toNat : Int) == c) = true := beq_iff_eq.2 hc
        have HN := Lib.hid (show splitTo c (s.data.toList.take (i + 1)) = out ++ [⟨#[]⟩] by rw [HC.out]; unfold splitStep; rw [if_pos hc])
        clear hc HC HZ
        have HO' := Aside0.mk HO
        clear HO
        go_wp2_with ((with_reducible refine gate_builtin (b := .append) (xs := #[.tmp 19, .tmp 20]) rfl ?_); at_builtin; refine Kd.R_append Kd.string (w0 := w) w.heap.size rfl (.tmp 19) (.tmp 20) 37 9 (.string ⟨#[]⟩) 16 rfl Tryd.underlying37 info_str rfl (by decide) (by omega) _ out (⟨#[]⟩ : ByteArray) [.string (⟨#[]⟩ : ByteArray)] (fun _ => True) (fun _ => False) rfl rfl rfl (fun _ hk => hk.elim) (fun _ _ => trivial) HO'.out hbw hsz (by omega) ?_; intro v1 w1 ho hb hg hat)
        go_roundg g
        case measure => omega
        case rel => exact ⟨i + 1, by omega, by omega, by go_num, hb, by have := hb.size; have := hg.size; omega, by rw [HN.out]; exact ho⟩
      · have hc' : (((s[i]'hi).toNat : Int) == c) = false := beq_eq_false_iff_ne.2 hc
        have HN := Lib.hid (show splitTo c (s.data.toList.take (i + 1)) = out.set ((out.length : Int) - 1).toNat (rdOf ByteArray.empty out ((out.length : Int) - 1) ++ ⟨#[s[i]]⟩) by rw [HC.out]; unfold splitStep; rw [if_neg hc])
        clear hc HC
        have hown := Kd.own_of_R HO
        obtain ⟨gg, cap, rfl, hgb, hgl⟩ := hown.form (by omega)
        obtain ⟨hcell, hfroz⟩ := Kd.R_celln ByteArray.empty HO ((out.length : Int) - 1) (by omega) (by omega)
        obtain ⟨x, hx⟩ : ∃ x, rdOf ByteArray.empty out ((out.length : Int) - 1) = x := ⟨_, rfl⟩
        have hxz : x.size ≤ i := by
          rw [← hx]
          unfold rdOf
          rw [List.getD_eq_getElem?_getD, List.getElem?_eq_getElem (by omega)]
          exact HZ.out _ (List.getElem_mem _)
        have et : ((out.length : Int) - 1).toNat = out.length - 1 := by omega
        rw [hx, et] at hcell HN
        rw [et] at hfroz
        have HS := Aside0.mk (Kd.R_putn HO ((out.length : Int) - 1) (x ++ ⟨#[s[i]'hi]⟩))
        rw [et] at HS
        clear et
        have hsub : IntKind.i64.wrap ((out.length : Int) - 1) = (out.length : Int) - 1 := by rw [IntWalk.i64_in _ (by omega)]
        have h0 : (0 : Int) ≤ (out.length : Int) - 1 := by omega
        have h1 : (out.length : Int) - 1 < (out.length : Int) := by omega
        have HO' := Aside0.mk HO
        clear HO hown HZ hx
        have hcv : (convert 29 9 (.slice (some ⟨wr.heap.size, 0, none⟩) 1 1)).run Tryd.prog (wr.alloc (.cells #[.int .u8 ((s[i]'hi).toNat : Int)] 5)).drew = .ok (.string ⟨#[s[i]'hi]⟩) (wr.alloc (.cells #[.int .u8 ((s[i]'hi).toNat : Int)] 5)).drew :=
          run_convert_bytes_back (P := Tryd.prog) _ 29 9 5 ⟨wr.heap.size, 0, none⟩ 1 [s[i]'hi] Tryd.underlying29 Tryd.underlying5 Tryd.underlying9 (fun j hj => by
            have : j = 0 := by simpa using hj
            subst this
            exact (blk_cell (blk_new wr (.cells #[.int .u8 ((s[i]'hi).toNat : Int)] 5)) 0).trans rfl)
        go_wp2
        go_region
        all_goals
          go_wp2
          go_roundg g
          case measure => omega
          case rel =>
            refine ⟨i + 1, by omega, by omega, by go_num, below_drew1 (below_alloc (below_set' hbw hgb) _), by simp [World.setCell]; omega, ?_⟩
            rw [HN.out]
            have hlen : (out.set (out.length - 1) (x ++ ⟨#[s[i]'hi]⟩)).length = out.length := by simp
            exact Kd.R_below HS.out (below_drew1 (below_alloc (Below.refl _ _) _))
    · obtain rfl : i = s.size := by omega
      rw [List.take_of_length_le (by simp)] at HO
      go_wp2
      go_ret
      exact ⟨_, rfl, HO, hbw⟩
end Go.Proofs.YtpnofnmecjagcaaDoor.Ext
