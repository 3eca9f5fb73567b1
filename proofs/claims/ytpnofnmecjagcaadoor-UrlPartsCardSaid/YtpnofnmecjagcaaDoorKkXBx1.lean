import Derived.Test.YtpnofnmecjagcaaDoorKkXBx0
-- Written by a program (wip/tools/xprint.py) out of the loaded functions: contracts of Go functions, and the functions that they compute.
namespace Go.Proofs.YtpnofnmecjagcaaDoor.XB
open Go.RowKit Go.Proofs.YtpnofnmecjagcaaDoor.Ext Go.Proofs.YtpnofnmecjagcaaDoorW.PrintWords Go.Proofs.YtpnofnmecjagcaaDoorW.PrintLast Go.Proofs.YtpnofnmecjagcaaDoorW.PrintMore
attribute [local go_sem] max2_int min2_int max_two min_two max_three min_three max_four min_four   -- for this text's walks alone
set_option linter.unusedVariables false
set_option linter.unusedSimpArgs false
/-! ### url_name: function 43 -/
def url_name.l0 : Nat → ByteArray → List ByteArray → Int → Int → Option (Bool)
  | 0, _, _, _, _ => none
  | k + 1, x0, x6, x7, x8 => if x8 < x7 then (if 0 ≤ x8 then (if x8 < (x6.length : Int) then ((Go.Proofs.YtpnofnmecjagcaaDoor.Ext.url_label.f (rdOf ByteArray.empty x6 x8)).bind fun t105 => (if t105 = true then (url_name.l0 k x0 x6 x7 (wrap64 (x8 + 1))) else (some false))) else (none)) else (none)) else (some (decide ((x0.size : Int) ≤ 100)))
def url_name.f (k : Nat) (a0 : ByteArray) : Option (Bool) := (Go.Proofs.YtpnofnmecjagcaaDoor.Ext.strings_Split.f a0 (⟨#[46]⟩ : ByteArray)).bind fun t101 => (url_name.l0 k a0 t101 (t101.length : Int) 0)
set_option maxHeartbeats 8000000 in
set_option maxRecDepth 100000 in
theorem url_name.calls (k : Nat) (a0 : ByteArray) (r : Bool) (w : World) (hG : Gl w) (h : url_name.f k a0 = some r) :
    Calls Tryd.prog 43 #[.string a0] w fun e w' => e = .returned (.bool r) ∧ Below w.heap.size w w' := by
  have HB := Aside0.mk (Below.refl w.heap.size w)
  have H : ((Go.Proofs.YtpnofnmecjagcaaDoor.Ext.strings_Split.f a0 (⟨#[46]⟩ : ByteArray)).bind fun t101 => (url_name.l0 k a0 t101 (t101.length : Int) 0)) = some r := h
  clear h
  replace H := Option.bind_eq_some_iff.mp H
  obtain ⟨t101, A20, H⟩ := H
  replace H : (url_name.l0 k a0 t101 (t101.length : Int) 0) = some r := H
  have A2 := Aside0.mk A20
  clear A20
  have H' := Aside0.mk H
  clear H
  go_enter Tryd.func43, Tryd.ntmps43
  go_wp2_with (first | ((with_reducible refine gate_callee (f := 19) rfl ?_); refine goesL_ (some 6) rfl rfl Tryd.func19 (by kernel_rfl) rfl #[.string a0, .string (⟨#[46]⟩ : ByteArray)] rfl (by (try simp only [List.map_toArray, List.map_cons, List.map_nil]); first | done | rfl | (simp only [List.length_drop, List.length_take]; rfl)) ?_; (with_reducible refine (Go.Proofs.YtpnofnmecjagcaaDoor.Ext.strings_Split.calls a0 (⟨#[46]⟩ : ByteArray) t101 _ ?side1 A2.out).mono ?_); (case side1 => exact Gl.below hG (by repeat (first | (with_reducible first | exact HB.out | apply below_alloc | apply pw_below_drewN | apply below_drew1) | exact HB.out))); rintro e w3 ⟨v102, rfl, ho0, hb⟩; refine ⟨_, rfl, ?_⟩; have n0_ := Aside0.mk (Kd.R_lower ho0 (below_size (by repeat (first | (with_reducible first | exact HB.out | apply below_alloc | apply pw_below_drewN | apply below_drew1) | exact HB.out)))); have n1_ := Aside0.mk (below_step (by repeat (first | (with_reducible first | exact HB.out | apply below_alloc | apply pw_below_drewN | apply below_drew1) | exact HB.out)) hb); clear HB; have HO103 := n0_; have HB := n1_; clear n0_ n1_; (try clear hb); (try clear hb2); (try clear hk); (try clear hi); (try clear ho0); obtain ⟨Ao4, co4, eo4⟩ := Kd.R_slice HO103.out; subst eo4))
  go_loopg [8] k (fun kq v8 w' => ∃ (x8_1 : Int), v8 = .int .i64 x8_1 ∧ Aside0 (url_name.l0 kq a0 t101 (t101.length : Int) x8_1 = some r) ∧ Aside0 (kq ≤ k) ∧ Aside0 (Kd.R Kd.string 9 w' w.heap.size (fun _ => True) (.slice Ao4 t101.length co4) t101) ∧ Aside0 (Below w.heap.size w w'))
  case atStart => exact ⟨(0), (by first | rfl | (simp; done) | (simp [*]; done)), H', ⟨Nat.le_refl _⟩, ⟨by (with_reducible repeat (first | apply Kd.R_alloc | apply Kd.R_drewN | apply Kd.R_drew)); exact HO103.out⟩, ⟨by repeat (first | (with_reducible first | exact HB.out | apply below_alloc | apply pw_below_drewN | apply below_drew1) | exact HB.out)⟩⟩
  case round =>
    clear H'
    try clear c1
    try clear p2
    try clear c4
    obtain ⟨x8_1, rfl, HA, HK1, HO_6, HB⟩ := hrel
    cases gk with
    | zero => exact absurd HA.out (by simp [url_name.l0])
    | succ k1 =>
      have H := HA.out
      clear HA
      simp only [url_name.l0] at H
      by_cases c5 : x8_1 < (t101.length : Int)
      · rw [if_pos c5] at H
        have c5b0 : decide (x8_1 < (t101.length : Int)) = true := decide_eq_true c5
        clear c5
        by_cases c6 : 0 ≤ x8_1
        · rw [if_pos c6] at H
          have c6b0 : decide (0 ≤ x8_1) = true := decide_eq_true c6
          clear c6
          by_cases c7 : x8_1 < (t101.length : Int)
          · rw [if_pos c7] at H
            have c7b0 : decide (x8_1 < (t101.length : Int)) = true := decide_eq_true c7
            clear c7
            replace H := Option.bind_eq_some_iff.mp H
            obtain ⟨t105, A80, H⟩ := H
            replace H : (if t105 = true then (url_name.l0 k1 a0 t101 (t101.length : Int) (wrap64 (x8_1 + 1))) else (some false)) = some r := H
            have A8 := Aside0.mk A80
            clear A80
            by_cases c9 : t105 = true
            · subst c9
              have H1 : (url_name.l0 k1 a0 t101 (t101.length : Int) (wrap64 (x8_1 + 1))) = some r := by rw [if_pos rfl] at H; exact H
              clear H
              have H := H1
              clear H1
              have H' := Aside0.mk H
              clear H
              have p104 : 0 ≤ (x8_1 : Int) := of_decide_eq_true (by first | (with_reducible assumption) | assumption)
              have q104 : x8_1 < (t101.length : Int) := of_decide_eq_true (by first | (with_reducible assumption) | assumption)
              obtain ⟨ad104, e104, hx104_0⟩ := Kd.at_string (Kd.R_reads' HO_6.out).2.2 x8_1 p104 q104
              cases e104
              replace p104 := eq_true p104
              replace q104 := eq_true q104
              go_wp2_with (first | ((with_reducible refine gate_callee (f := 62) rfl ?_); refine goesL_ (some 13) rfl rfl Tryd.func62 (by kernel_rfl) rfl #[.string (rdOf ByteArray.empty t101 x8_1)] rfl (by (try simp only [List.map_toArray, List.map_cons, List.map_nil]); first | done | rfl | (simp only [List.length_drop, List.length_take]; rfl)) ?_; (with_reducible refine (Go.Proofs.YtpnofnmecjagcaaDoor.Ext.url_label.calls (rdOf ByteArray.empty t101 x8_1) true _ A8.out).mono ?_); rintro e w10 ⟨rfl, hb⟩; refine ⟨_, rfl, ?_⟩; have n0_ := Aside0.mk (Kd.R_below (by (with_reducible repeat (first | apply Kd.R_alloc | apply Kd.R_drewN | apply Kd.R_drew)); exact HO_6.out) hb); have n1_ := Aside0.mk (below_step (by repeat (first | (with_reducible first | exact HB.out | apply below_alloc | apply pw_below_drewN | apply below_drew1) | exact HB.out)) hb); clear HO_6; clear HB; have HO_6 := n0_; have HB := n1_; clear n0_ n1_; (try clear hb); (try clear hb2); (try clear hk); (try clear hi)))
              go_roundg k1
              case measure => have := HK1.out; omega
              case rel => exact ⟨(wrap64 (x8_1 + 1)), (by first | rfl | (simp; done) | (simp [*]; done)), H', ⟨by have := HK1.out; omega⟩, ⟨by (with_reducible repeat (first | apply Kd.R_alloc | apply Kd.R_drewN | apply Kd.R_drew)); exact HO_6.out⟩, ⟨by repeat (first | (with_reducible first | exact HB.out | apply below_alloc | apply pw_below_drewN | apply below_drew1) | exact HB.out)⟩⟩
            · replace c9 := Bool.eq_false_iff.mpr c9
              subst c9
              have H1 : (some false) = some r := by rw [if_neg (show ¬ (false = true) by decide)] at H; exact H
              clear H
              have H := H1
              clear H1
              obtain rfl := Option.some.inj H
              have p104 : 0 ≤ (x8_1 : Int) := of_decide_eq_true (by first | (with_reducible assumption) | assumption)
              have q104 : x8_1 < (t101.length : Int) := of_decide_eq_true (by first | (with_reducible assumption) | assumption)
              obtain ⟨ad104, e104, hx104_0⟩ := Kd.at_string (Kd.R_reads' HO_6.out).2.2 x8_1 p104 q104
              cases e104
              replace p104 := eq_true p104
              replace q104 := eq_true q104
              go_wp2_with (first | ((with_reducible refine gate_callee (f := 62) rfl ?_); refine goesL_ (some 13) rfl rfl Tryd.func62 (by kernel_rfl) rfl #[.string (rdOf ByteArray.empty t101 x8_1)] rfl (by (try simp only [List.map_toArray, List.map_cons, List.map_nil]); first | done | rfl | (simp only [List.length_drop, List.length_take]; rfl)) ?_; (with_reducible refine (Go.Proofs.YtpnofnmecjagcaaDoor.Ext.url_label.calls (rdOf ByteArray.empty t101 x8_1) false _ A8.out).mono ?_); rintro e w11 ⟨rfl, hb⟩; refine ⟨_, rfl, ?_⟩; have n0_ := Aside0.mk (Kd.R_below (by (with_reducible repeat (first | apply Kd.R_alloc | apply Kd.R_drewN | apply Kd.R_drew)); exact HO_6.out) hb); have n1_ := Aside0.mk (below_step (by repeat (first | (with_reducible first | exact HB.out | apply below_alloc | apply pw_below_drewN | apply below_drew1) | exact HB.out)) hb); clear HO_6; clear HB; have HO_6 := n0_; have HB := n1_; clear n0_ n1_; (try clear hb); (try clear hb2); (try clear hk); (try clear hi)))
              go_ret
              exact ⟨by first | rfl | (simp [errW_none, errW_some] <;> rfl) | (simp [*, errW_none, errW_some] <;> rfl), by repeat (first | (with_reducible first | exact HB.out | apply below_alloc | apply pw_below_drewN | apply below_drew1) | exact HB.out)⟩
          · rw [if_neg c7] at H
            exact absurd H (by simp)
        · rw [if_neg c6] at H
          exact absurd H (by simp)
      · rw [if_neg c5] at H
        have c5b0 : decide (x8_1 < (t101.length : Int)) = false := decide_eq_false c5
        clear c5
        obtain rfl := Option.some.inj H
        go_wp2
        go_ret
        exact ⟨by first | rfl | (simp [errW_none, errW_some] <;> rfl) | (simp [*, errW_none, errW_some] <;> rfl), by repeat (first | (with_reducible first | exact HB.out | apply below_alloc | apply pw_below_drewN | apply below_drew1) | exact HB.out)⟩
/-- A state of type 23 at block g of W; what its slices lead to came in by w0. -/
def IsS23 (w0 W : World) (g : Nat) (f0 : ByteArray) (f1 : ByteArray) (f2 : Int) (f3 : ByteArray) (f4 : ByteArray) (f5 : Bool) : Prop := W.heap[g]? = some (.cells #[.string f0, .string f1, .int .i64 f2, .string f3, .string f4, .bool f5] 23 (0, 0)) ∧ w0.heap.size ≤ g
theorem IsS23.grown {w0 W : World} {g : Nat} {f0 : ByteArray} {f1 : ByteArray} {f2 : Int} {f3 : ByteArray} {f4 : ByteArray} {f5 : Bool} {W1 : World} {row : Option Nat} (h : IsS23 w0 W g f0 f1 f2 f3 f4 f5) (hw : W.grownBy W1 row) (hne : some g ≠ row) : IsS23 w0 W1 g f0 f1 f2 f3 f4 f5 := by
  obtain ⟨hb, hg⟩ := h
  exact ⟨blk_grown hb hw hne, hg⟩
theorem IsS23.kept {w0 W : World} {g : Nat} {f0 : ByteArray} {f1 : ByteArray} {f2 : Int} {f3 : ByteArray} {f4 : ByteArray} {f5 : Bool} {W1 : World} {S : Nat → Prop} (h : IsS23 w0 W g f0 f1 f2 f3 f4 f5) (hk : Kept W W1 S) (hne : ¬ S g) : IsS23 w0 W1 g f0 f1 f2 f3 f4 f5 := by
  obtain ⟨hb, hg⟩ := h
  exact ⟨blk_kept hb hk hne, hg⟩
theorem IsS23.below {w0 W : World} {g : Nat} {f0 : ByteArray} {f1 : ByteArray} {f2 : Int} {f3 : ByteArray} {f4 : ByteArray} {f5 : Bool} {W1 : World} (h : IsS23 w0 W g f0 f1 f2 f3 f4 f5) (hw : Below W.heap.size W W1) : IsS23 w0 W1 g f0 f1 f2 f3 f4 f5 := h.grown (grown_of_below hw none) (by simp)
theorem IsS23.alloc {w0 W : World} {g : Nat} {f0 : ByteArray} {f1 : ByteArray} {f2 : Int} {f3 : ByteArray} {f4 : ByteArray} {f5 : Bool} (h : IsS23 w0 W g f0 f1 f2 f3 f4 f5) (o : Obj) : IsS23 w0 (W.alloc o) g f0 f1 f2 f3 f4 f5 := h.below (below_alloc (Below.refl _ _) o)
theorem IsS23.drewN {w0 W : World} {g : Nat} {f0 : ByteArray} {f1 : ByteArray} {f2 : Int} {f3 : ByteArray} {f4 : ByteArray} {f5 : Bool} (h : IsS23 w0 W g f0 f1 f2 f3 f4 f5) (m : Nat) : IsS23 w0 (W.drewN m) g f0 f1 f2 f3 f4 f5 := h
theorem IsS23.drew {w0 W : World} {g : Nat} {f0 : ByteArray} {f1 : ByteArray} {f2 : Int} {f3 : ByteArray} {f4 : ByteArray} {f5 : Bool} (h : IsS23 w0 W g f0 f1 f2 f3 f4 f5) : IsS23 w0 W.drew g f0 f1 f2 f3 f4 f5 := h
theorem IsS23.at_ {w0 W : World} {g : Nat} {f0 : ByteArray} {f1 : ByteArray} {f2 : Int} {f3 : ByteArray} {f4 : ByteArray} {f5 : Bool} {w' : World} {m : Nat} (hq : W.drewN m = w') (h : IsS23 w0 W g f0 f1 f2 f3 f4 f5) : IsS23 w0 w' g f0 f1 f2 f3 f4 f5 := by subst hq; exact IsS23.drewN h m
theorem IsS23.apart {w0 W : World} {g : Nat} {f0 : ByteArray} {f1 : ByteArray} {f2 : Int} {f3 : ByteArray} {f4 : ByteArray} {f5 : Bool} {α : Type} {d : Kd α} {e : Nat} {base : Nat} {ok : Nat → Prop} {v : Value} {xs : List α} (h : IsS23 w0 W g f0 f1 f2 f3 f4 f5) (ho : d.R e W base ok v xs) (ht : ∀ q, q ∈ e :: d.E → q ≠ 23) : d.R e W base (fun k => ok k ∧ k ≠ g) v xs := by
  obtain ⟨hb, hg⟩ := h
  exact Kd.R_types ho hb ht
theorem IsS23.own_ne {w0 W : World} {g : Nat} {f0 : ByteArray} {f1 : ByteArray} {f2 : Int} {f3 : ByteArray} {f4 : ByteArray} {f5 : Bool} {α : Type} {d : Kd α} {e : Nat} {base : Nat} {ok : Nat → Prop} {v : Value} {xs : List α} (h : IsS23 w0 W g f0 f1 f2 f3 f4 f5) (ho : d.R e W base ok v xs) (ht : e ≠ 23) : some g ≠ v.ownBlock := by
  obtain ⟨hb, hg⟩ := h
  exact Kd.R_ne ho hb ht
theorem IsS23.ge {w0 W : World} {g : Nat} {f0 : ByteArray} {f1 : ByteArray} {f2 : Int} {f3 : ByteArray} {f4 : ByteArray} {f5 : Bool} (h : IsS23 w0 W g f0 f1 f2 f3 f4 f5) : w0.heap.size ≤ g := by
  obtain ⟨hb, hg⟩ := h
  exact hg
theorem cellS23_0 {W : World} {g : Nat} {f0 : ByteArray} {f1 : ByteArray} {f2 : Int} {f3 : ByteArray} {f4 : ByteArray} {f5 : Bool} (h : W.heap[g]? = some (.cells #[.string f0, .string f1, .int .i64 f2, .string f3, .string f4, .bool f5] 23 (0, 0))) : W.cell? ⟨g, 0, none⟩ = some (.string f0) := (blk_cell h 0).trans rfl
theorem IsS23.set_0 {w0 W : World} {g : Nat} {f0 : ByteArray} {f1 : ByteArray} {f2 : Int} {f3 : ByteArray} {f4 : ByteArray} {f5 : Bool} (h : IsS23 w0 W g f0 f1 f2 f3 f4 f5) (x : ByteArray) : IsS23 w0 (W.setCell ⟨g, 0, none⟩ (.string x)) g x f1 f2 f3 f4 f5 := by
  obtain ⟨hb, hg⟩ := h
  exact ⟨by simpa using blk_set hb 0 (.string x), hg⟩
theorem cellS23_1 {W : World} {g : Nat} {f0 : ByteArray} {f1 : ByteArray} {f2 : Int} {f3 : ByteArray} {f4 : ByteArray} {f5 : Bool} (h : W.heap[g]? = some (.cells #[.string f0, .string f1, .int .i64 f2, .string f3, .string f4, .bool f5] 23 (0, 0))) : W.cell? ⟨g, 1, none⟩ = some (.string f1) := (blk_cell h 1).trans rfl
theorem IsS23.set_1 {w0 W : World} {g : Nat} {f0 : ByteArray} {f1 : ByteArray} {f2 : Int} {f3 : ByteArray} {f4 : ByteArray} {f5 : Bool} (h : IsS23 w0 W g f0 f1 f2 f3 f4 f5) (x : ByteArray) : IsS23 w0 (W.setCell ⟨g, 1, none⟩ (.string x)) g f0 x f2 f3 f4 f5 := by
  obtain ⟨hb, hg⟩ := h
  exact ⟨by simpa using blk_set hb 1 (.string x), hg⟩
theorem cellS23_2 {W : World} {g : Nat} {f0 : ByteArray} {f1 : ByteArray} {f2 : Int} {f3 : ByteArray} {f4 : ByteArray} {f5 : Bool} (h : W.heap[g]? = some (.cells #[.string f0, .string f1, .int .i64 f2, .string f3, .string f4, .bool f5] 23 (0, 0))) : W.cell? ⟨g, 2, none⟩ = some (.int .i64 f2) := (blk_cell h 2).trans rfl
theorem IsS23.set_2 {w0 W : World} {g : Nat} {f0 : ByteArray} {f1 : ByteArray} {f2 : Int} {f3 : ByteArray} {f4 : ByteArray} {f5 : Bool} (h : IsS23 w0 W g f0 f1 f2 f3 f4 f5) (x : Int) : IsS23 w0 (W.setCell ⟨g, 2, none⟩ (.int .i64 x)) g f0 f1 x f3 f4 f5 := by
  obtain ⟨hb, hg⟩ := h
  exact ⟨by simpa using blk_set hb 2 (.int .i64 x), hg⟩
theorem cellS23_3 {W : World} {g : Nat} {f0 : ByteArray} {f1 : ByteArray} {f2 : Int} {f3 : ByteArray} {f4 : ByteArray} {f5 : Bool} (h : W.heap[g]? = some (.cells #[.string f0, .string f1, .int .i64 f2, .string f3, .string f4, .bool f5] 23 (0, 0))) : W.cell? ⟨g, 3, none⟩ = some (.string f3) := (blk_cell h 3).trans rfl
theorem IsS23.set_3 {w0 W : World} {g : Nat} {f0 : ByteArray} {f1 : ByteArray} {f2 : Int} {f3 : ByteArray} {f4 : ByteArray} {f5 : Bool} (h : IsS23 w0 W g f0 f1 f2 f3 f4 f5) (x : ByteArray) : IsS23 w0 (W.setCell ⟨g, 3, none⟩ (.string x)) g f0 f1 f2 x f4 f5 := by
  obtain ⟨hb, hg⟩ := h
  exact ⟨by simpa using blk_set hb 3 (.string x), hg⟩
theorem cellS23_4 {W : World} {g : Nat} {f0 : ByteArray} {f1 : ByteArray} {f2 : Int} {f3 : ByteArray} {f4 : ByteArray} {f5 : Bool} (h : W.heap[g]? = some (.cells #[.string f0, .string f1, .int .i64 f2, .string f3, .string f4, .bool f5] 23 (0, 0))) : W.cell? ⟨g, 4, none⟩ = some (.string f4) := (blk_cell h 4).trans rfl
theorem IsS23.set_4 {w0 W : World} {g : Nat} {f0 : ByteArray} {f1 : ByteArray} {f2 : Int} {f3 : ByteArray} {f4 : ByteArray} {f5 : Bool} (h : IsS23 w0 W g f0 f1 f2 f3 f4 f5) (x : ByteArray) : IsS23 w0 (W.setCell ⟨g, 4, none⟩ (.string x)) g f0 f1 f2 f3 x f5 := by
  obtain ⟨hb, hg⟩ := h
  exact ⟨by simpa using blk_set hb 4 (.string x), hg⟩
theorem cellS23_5 {W : World} {g : Nat} {f0 : ByteArray} {f1 : ByteArray} {f2 : Int} {f3 : ByteArray} {f4 : ByteArray} {f5 : Bool} (h : W.heap[g]? = some (.cells #[.string f0, .string f1, .int .i64 f2, .string f3, .string f4, .bool f5] 23 (0, 0))) : W.cell? ⟨g, 5, none⟩ = some (.bool f5) := (blk_cell h 5).trans rfl
theorem IsS23.set_5 {w0 W : World} {g : Nat} {f0 : ByteArray} {f1 : ByteArray} {f2 : Int} {f3 : ByteArray} {f4 : ByteArray} {f5 : Bool} (h : IsS23 w0 W g f0 f1 f2 f3 f4 f5) (x : Bool) : IsS23 w0 (W.setCell ⟨g, 5, none⟩ (.bool x)) g f0 f1 f2 f3 f4 x := by
  obtain ⟨hb, hg⟩ := h
  exact ⟨by simpa using blk_set hb 5 (.bool x), hg⟩
/-! ### url_host: function 26 -/
def url_host.f (k : Nat) (s0_0 : ByteArray) (s0_1 : ByteArray) (s0_2 : Int) (s0_3 : ByteArray) (s0_4 : ByteArray) (s0_5 : Bool) (a1 : ByteArray) : Option (Bool × ByteArray × ByteArray × Int × ByteArray × ByteArray × Bool) := (Go.Proofs.YtpnofnmecjagcaaDoor.Ext.strings_IndexByte.f a1 58).bind fun t106 => ((Go.Proofs.YtpnofnmecjagcaaDoor.Ext.url_usual.f s0_0).bind fun t107 => (if t106 ≥ 0 then (if 0 ≤ (wrap64 (t106 + 1)) then (if (wrap64 (t106 + 1)) ≤ (a1.size : Int) then ((Go.Proofs.YtpnofnmecjagcaaDoor.Ext.url_port.f (a1.extract ((wrap64 (t106 + 1)) : Int).toNat a1.size)).bind fun t108 => (if t108 = 0 then (some (false, s0_0, s0_1, t108, s0_3, s0_4, s0_5)) else (if 0 ≤ t106 then (if t106 ≤ (a1.size : Int) then ((Go.Proofs.YtpnofnmecjagcaaDoor.Ext.url_lower.f (a1.extract 0 (t106 : Int).toNat)).bind fun t109 => ((url_name.f k t109).bind fun t110 => (some (t110, s0_0, t109, t108, s0_3, s0_4, s0_5)))) else (none)) else (none)))) else (none)) else (none)) else ((Go.Proofs.YtpnofnmecjagcaaDoor.Ext.url_lower.f a1).bind fun t111 => ((url_name.f k t111).bind fun t112 => (some (t112, s0_0, t111, t107, s0_3, s0_4, s0_5))))))
set_option maxHeartbeats 8000000 in
set_option maxRecDepth 100000 in
theorem url_host.calls (k : Nat) (g : Nat) (s0_0 : ByteArray) (s0_1 : ByteArray) (s0_2 : Int) (s0_3 : ByteArray) (s0_4 : ByteArray) (s0_5 : Bool) (a1 : ByteArray) (r1 : Bool) (r2 : ByteArray) (r3 : ByteArray) (r4 : Int) (r5 : ByteArray) (r6 : ByteArray) (r7 : Bool) (w0 w : World) (hI : IsS23 w0 w g s0_0 s0_1 s0_2 s0_3 s0_4 s0_5) (hB : Below w0.heap.size w0 w) (hG : Gl w0) (h : url_host.f k s0_0 s0_1 s0_2 s0_3 s0_4 s0_5 a1 = some (r1, r2, r3, r4, r5, r6, r7)) :
    Calls Tryd.prog 26 #[.pointer (some ⟨g, 0, none⟩), .string a1] w fun e w' => e = .returned (.bool r1) ∧ IsS23 w0 w' g r2 r3 r4 r5 r6 r7 ∧ Below w0.heap.size w0 w' ∧ KeepBut w w' g none := by
  have HI0 := Aside0.mk hI
  have HK := Aside0.mk (KeepBut.refl w g none)
  have HL := Aside0.mk hB.size
  clear hI
  have HW0 := Aside0.mk hB.size
  have HB := Aside0.mk hB
  clear hB
  have H : ((Go.Proofs.YtpnofnmecjagcaaDoor.Ext.strings_IndexByte.f a1 58).bind fun t106 => ((Go.Proofs.YtpnofnmecjagcaaDoor.Ext.url_usual.f s0_0).bind fun t107 => (if t106 ≥ 0 then (if 0 ≤ (wrap64 (t106 + 1)) then (if (wrap64 (t106 + 1)) ≤ (a1.size : Int) then ((Go.Proofs.YtpnofnmecjagcaaDoor.Ext.url_port.f (a1.extract ((wrap64 (t106 + 1)) : Int).toNat a1.size)).bind fun t108 => (if t108 = 0 then (some (false, s0_0, s0_1, t108, s0_3, s0_4, s0_5)) else (if 0 ≤ t106 then (if t106 ≤ (a1.size : Int) then ((Go.Proofs.YtpnofnmecjagcaaDoor.Ext.url_lower.f (a1.extract 0 (t106 : Int).toNat)).bind fun t109 => ((url_name.f k t109).bind fun t110 => (some (t110, s0_0, t109, t108, s0_3, s0_4, s0_5)))) else (none)) else (none)))) else (none)) else (none)) else ((Go.Proofs.YtpnofnmecjagcaaDoor.Ext.url_lower.f a1).bind fun t111 => ((url_name.f k t111).bind fun t112 => (some (t112, s0_0, t111, t107, s0_3, s0_4, s0_5))))))) = some (r1, r2, r3, r4, r5, r6, r7) := h
  clear h
  replace H := Option.bind_eq_some_iff.mp H
  obtain ⟨t106, A30, H⟩ := H
  replace H : ((Go.Proofs.YtpnofnmecjagcaaDoor.Ext.url_usual.f s0_0).bind fun t107 => (if t106 ≥ 0 then (if 0 ≤ (wrap64 (t106 + 1)) then (if (wrap64 (t106 + 1)) ≤ (a1.size : Int) then ((Go.Proofs.YtpnofnmecjagcaaDoor.Ext.url_port.f (a1.extract ((wrap64 (t106 + 1)) : Int).toNat a1.size)).bind fun t108 => (if t108 = 0 then (some (false, s0_0, s0_1, t108, s0_3, s0_4, s0_5)) else (if 0 ≤ t106 then (if t106 ≤ (a1.size : Int) then ((Go.Proofs.YtpnofnmecjagcaaDoor.Ext.url_lower.f (a1.extract 0 (t106 : Int).toNat)).bind fun t109 => ((url_name.f k t109).bind fun t110 => (some (t110, s0_0, t109, t108, s0_3, s0_4, s0_5)))) else (none)) else (none)))) else (none)) else (none)) else ((Go.Proofs.YtpnofnmecjagcaaDoor.Ext.url_lower.f a1).bind fun t111 => ((url_name.f k t111).bind fun t112 => (some (t112, s0_0, t111, t107, s0_3, s0_4, s0_5)))))) = some (r1, r2, r3, r4, r5, r6, r7) := H
  have A3 := Aside0.mk A30
  clear A30
  replace H := Option.bind_eq_some_iff.mp H
  obtain ⟨t107, A40, H⟩ := H
  replace H : (if t106 ≥ 0 then (if 0 ≤ (wrap64 (t106 + 1)) then (if (wrap64 (t106 + 1)) ≤ (a1.size : Int) then ((Go.Proofs.YtpnofnmecjagcaaDoor.Ext.url_port.f (a1.extract ((wrap64 (t106 + 1)) : Int).toNat a1.size)).bind fun t108 => (if t108 = 0 then (some (false, s0_0, s0_1, t108, s0_3, s0_4, s0_5)) else (if 0 ≤ t106 then (if t106 ≤ (a1.size : Int) then ((Go.Proofs.YtpnofnmecjagcaaDoor.Ext.url_lower.f (a1.extract 0 (t106 : Int).toNat)).bind fun t109 => ((url_name.f k t109).bind fun t110 => (some (t110, s0_0, t109, t108, s0_3, s0_4, s0_5)))) else (none)) else (none)))) else (none)) else (none)) else ((Go.Proofs.YtpnofnmecjagcaaDoor.Ext.url_lower.f a1).bind fun t111 => ((url_name.f k t111).bind fun t112 => (some (t112, s0_0, t111, t107, s0_3, s0_4, s0_5))))) = some (r1, r2, r3, r4, r5, r6, r7) := H
  have A4 := Aside0.mk A40
  clear A40
  by_cases c5 : t106 ≥ 0
  · rw [if_pos c5] at H
    have c5b0 : decide (0 ≤ t106) = true := decide_eq_true c5
    clear c5
    obtain ⟨ji6, hji6⟩ : ∃ j_ : Int, (wrap64 (t106 + 1)) = j_ := ⟨_, rfl⟩
    replace H : (if 0 ≤ (ji6) then (if (ji6) ≤ (a1.size : Int) then ((Go.Proofs.YtpnofnmecjagcaaDoor.Ext.url_port.f (a1.extract ((ji6) : Int).toNat a1.size)).bind fun t108 => (if t108 = 0 then (some (false, s0_0, s0_1, t108, s0_3, s0_4, s0_5)) else (if 0 ≤ t106 then (if t106 ≤ (a1.size : Int) then ((Go.Proofs.YtpnofnmecjagcaaDoor.Ext.url_lower.f (a1.extract 0 (t106 : Int).toNat)).bind fun t109 => ((url_name.f k t109).bind fun t110 => (some (t110, s0_0, t109, t108, s0_3, s0_4, s0_5)))) else (none)) else (none)))) else (none)) else (none)) = some (r1, r2, r3, r4, r5, r6, r7) := by first | (rw [hji6] at H; exact H) | (simp only [hji6] at H ⊢; exact H)
    (try rw [hji6] at A3)
    (try rw [hji6] at A4)
    have hji6w : (IntKind.i64.wrap (t106 + 1)) = ji6 := (i64_w _).trans hji6
    by_cases c7 : 0 ≤ (ji6)
    · rw [if_pos c7] at H
      have c7b0 := eq_true c7
      have c7b1 : decide (0 ≤ (ji6)) = true := decide_eq_true c7
      clear c7
      by_cases c8 : (ji6) ≤ (a1.size : Int)
      · rw [if_pos c8] at H
        have c8b0 := eq_true c8
        have c8b1 : decide ((ji6) ≤ (a1.size : Int)) = true := decide_eq_true c8
        clear c8
        replace H := Option.bind_eq_some_iff.mp H
        obtain ⟨t108, A90, H⟩ := H
        replace H : (if t108 = 0 then (some (false, s0_0, s0_1, t108, s0_3, s0_4, s0_5)) else (if 0 ≤ t106 then (if t106 ≤ (a1.size : Int) then ((Go.Proofs.YtpnofnmecjagcaaDoor.Ext.url_lower.f (a1.extract 0 (t106 : Int).toNat)).bind fun t109 => ((url_name.f k t109).bind fun t110 => (some (t110, s0_0, t109, t108, s0_3, s0_4, s0_5)))) else (none)) else (none))) = some (r1, r2, r3, r4, r5, r6, r7) := H
        have A9 := Aside0.mk A90
        clear A90
        by_cases c10 : t108 = 0
        · rw [if_pos c10] at H
          have c10b0 : (t108 == 0) = true := beq_iff_eq.mpr c10
          have c10b1 : (t108 != 0) = false := bne_eq_false_iff_eq.mpr c10
          clear c10
          simp only [Option.some.injEq, Prod.mk.injEq] at H
          obtain ⟨rfl, rfl, rfl, rfl, rfl, rfl, rfl⟩ := H
          go_enter Tryd.func26, Tryd.ntmps26
          go_wp2_with (first | ((with_reducible refine gate_callee (f := 41) rfl ?_); refine goesL_ (some 7) rfl rfl Tryd.func41 (by kernel_rfl) rfl #[.string a1, .int .u8 58] rfl (by (try simp only [List.map_toArray, List.map_cons, List.map_nil]); first | done | rfl | (simp only [List.length_drop, List.length_take]; rfl)) ?_; (with_reducible refine (Go.Proofs.YtpnofnmecjagcaaDoor.Ext.strings_IndexByte.calls a1 58 t106 _ A3.out).mono ?_); rintro e w11 ⟨rfl, hb⟩; refine ⟨_, rfl, ?_⟩; have n0_ := Aside0.mk (IsS23.below (by repeat (first | (with_reducible first | exact HI0.out | apply IsS23.alloc | apply IsS23.drewN | apply IsS23.drew | apply IsS23.set_0 | apply IsS23.set_1 | apply IsS23.set_2 | apply IsS23.set_3 | apply IsS23.set_4 | apply IsS23.set_5) | exact HI0.out)) hb); have n1_ := Aside0.mk (KeepBut.trans (by repeat (first | (with_reducible first | exact HK.out | apply KeepBut.set_ | apply keep_drewN | apply keep_drew | apply keep_alloc) | exact HK.out)) (KeepBut.of_below hb g none) (.inl rfl)); have n2_ := Aside0.mk (below_step (by repeat (first | (with_reducible first | exact HB.out | apply below_alloc | apply pw_below_drewN | apply below_drew1 | refine below_set ?_ (IsS23.ge HI0.out)) | exact HB.out)) hb); clear HI0; clear HK; clear HB; have HI0 := n0_; have HK := n1_; have HB := n2_; clear n0_ n1_ n2_; (try clear hb); (try clear hb2); (try clear hk); (try clear hi); obtain ⟨HGz12, hgz12⟩ := HI0.out; have hcz12_0 := cellS23_0 HGz12; have hcz12_1 := cellS23_1 HGz12; have hcz12_2 := cellS23_2 HGz12; have hcz12_3 := cellS23_3 HGz12; have hcz12_4 := cellS23_4 HGz12; have hcz12_5 := cellS23_5 HGz12; have hfz12_0 := blk_frozen HGz12 0; have hfz12_1 := blk_frozen HGz12 1; have hfz12_2 := blk_frozen HGz12 2; have hfz12_3 := blk_frozen HGz12 3; have hfz12_4 := blk_frozen HGz12 4; have hfz12_5 := blk_frozen HGz12 5; clear HGz12 hgz12) | ((with_reducible refine gate_callee (f := 16) rfl ?_); refine goesL_ (some 13) rfl rfl Tryd.func16 (by kernel_rfl) rfl #[.string s0_0] rfl (by (try simp only [List.map_toArray, List.map_cons, List.map_nil]); first | done | rfl | (simp only [List.length_drop, List.length_take]; rfl)) ?_; (with_reducible refine (Go.Proofs.YtpnofnmecjagcaaDoor.Ext.url_usual.calls s0_0 t107 _ A4.out).mono ?_); rintro e w13 ⟨rfl, hb⟩; refine ⟨_, rfl, ?_⟩; have n0_ := Aside0.mk (IsS23.below (by repeat (first | (with_reducible first | exact HI0.out | apply IsS23.alloc | apply IsS23.drewN | apply IsS23.drew | apply IsS23.set_0 | apply IsS23.set_1 | apply IsS23.set_2 | apply IsS23.set_3 | apply IsS23.set_4 | apply IsS23.set_5) | exact HI0.out)) hb); have n1_ := Aside0.mk (KeepBut.trans (by repeat (first | (with_reducible first | exact HK.out | apply KeepBut.set_ | apply keep_drewN | apply keep_drew | apply keep_alloc) | exact HK.out)) (KeepBut.of_below hb g none) (.inl rfl)); have n2_ := Aside0.mk (below_step (by repeat (first | (with_reducible first | exact HB.out | apply below_alloc | apply pw_below_drewN | apply below_drew1 | refine below_set ?_ (IsS23.ge HI0.out)) | exact HB.out)) hb); clear HI0; clear HK; clear HB; have HI0 := n0_; have HK := n1_; have HB := n2_; clear n0_ n1_ n2_; (try clear hb); (try clear hb2); (try clear hk); (try clear hi); obtain ⟨HGz14, hgz14⟩ := HI0.out; have hcz14_0 := cellS23_0 HGz14; have hcz14_1 := cellS23_1 HGz14; have hcz14_2 := cellS23_2 HGz14; have hcz14_3 := cellS23_3 HGz14; have hcz14_4 := cellS23_4 HGz14; have hcz14_5 := cellS23_5 HGz14; have hfz14_0 := blk_frozen HGz14 0; have hfz14_1 := blk_frozen HGz14 1; have hfz14_2 := blk_frozen HGz14 2; have hfz14_3 := blk_frozen HGz14 3; have hfz14_4 := blk_frozen HGz14 4; have hfz14_5 := blk_frozen HGz14 5; clear HGz14 hgz14) | ((with_reducible refine gate_callee (f := 42) rfl ?_); refine goesL_ (some 23) rfl rfl Tryd.func42 (by kernel_rfl) rfl #[.string (a1.extract ((ji6) : Int).toNat a1.size)] rfl (by (try simp only [List.map_toArray, List.map_cons, List.map_nil]); first | done | (simp only [hji6]; rfl) | rfl | (simp only [List.length_drop, List.length_take]; rfl)) ?_; (with_reducible refine (Go.Proofs.YtpnofnmecjagcaaDoor.Ext.url_port.calls (a1.extract ((ji6) : Int).toNat a1.size) t108 _ ?side1 A9.out).mono ?_); (case side1 => exact Gl.below hG (by repeat (first | (with_reducible first | exact HB.out | apply below_alloc | apply pw_below_drewN | apply below_drew1 | refine below_set ?_ (IsS23.ge HI0.out)) | exact HB.out))); rintro e w15 ⟨rfl, hb⟩; refine ⟨_, rfl, ?_⟩; have n0_ := Aside0.mk (IsS23.below (show IsS23 w0 (w13.setCell ⟨g, 2, none⟩ (.int .i64 t107)) g s0_0 s0_1 t107 s0_3 s0_4 s0_5 from by repeat (first | (with_reducible first | exact HI0.out | apply IsS23.alloc | apply IsS23.drewN | apply IsS23.drew | apply IsS23.set_0 | apply IsS23.set_1 | apply IsS23.set_2 | apply IsS23.set_3 | apply IsS23.set_4 | apply IsS23.set_5) | exact HI0.out)) hb); have n1_ := Aside0.mk (KeepBut.trans (by repeat (first | (with_reducible first | exact HK.out | apply KeepBut.set_ | apply keep_drewN | apply keep_drew | apply keep_alloc) | exact HK.out)) (KeepBut.of_below hb g none) (.inl rfl)); have n2_ := Aside0.mk (below_step (by repeat (first | (with_reducible first | exact HB.out | apply below_alloc | apply pw_below_drewN | apply below_drew1 | refine below_set ?_ (IsS23.ge HI0.out)) | exact HB.out)) hb); clear HI0; clear HK; clear HB; have HI0 := n0_; have HK := n1_; have HB := n2_; clear n0_ n1_ n2_; (try clear hb); (try clear hb2); (try clear hk); (try clear hi); obtain ⟨HGz16, hgz16⟩ := HI0.out; have hcz16_0 := cellS23_0 HGz16; have hcz16_1 := cellS23_1 HGz16; have hcz16_2 := cellS23_2 HGz16; have hcz16_3 := cellS23_3 HGz16; have hcz16_4 := cellS23_4 HGz16; have hcz16_5 := cellS23_5 HGz16; have hfz16_0 := blk_frozen HGz16 0; have hfz16_1 := blk_frozen HGz16 1; have hfz16_2 := blk_frozen HGz16 2; have hfz16_3 := blk_frozen HGz16 3; have hfz16_4 := blk_frozen HGz16 4; have hfz16_5 := blk_frozen HGz16 5; clear HGz16 hgz16))
          go_ret
          exact ⟨by first | rfl | (simp [errW_none, errW_some] <;> rfl) | (simp only [← hji6]; first | rfl | (simp [errW_none, errW_some] <;> rfl)) | (simp [*, errW_none, errW_some] <;> rfl), by repeat (first | (with_reducible first | exact HI0.out | apply IsS23.alloc | apply IsS23.drewN | apply IsS23.drew | apply IsS23.set_0 | apply IsS23.set_1 | apply IsS23.set_2 | apply IsS23.set_3 | apply IsS23.set_4 | apply IsS23.set_5) | exact HI0.out), by repeat (first | (with_reducible first | exact HB.out | apply below_alloc | apply pw_below_drewN | apply below_drew1 | refine below_set ?_ (IsS23.ge HI0.out)) | exact HB.out), by repeat (first | (with_reducible first | exact HK.out | apply KeepBut.set_ | apply keep_drewN | apply keep_drew | apply keep_alloc) | exact HK.out)⟩
        · rw [if_neg c10] at H
          have c10b0 : (t108 == 0) = false := beq_eq_false_iff_ne.mpr c10
          have c10b1 : (t108 != 0) = true := bne_iff_ne.mpr c10
          by_cases c17 : 0 ≤ t106
          · rw [if_pos c17] at H
            have c17b0 := eq_true c17
            have c17b1 : decide (0 ≤ t106) = true := decide_eq_true c17
            clear c17
            by_cases c18 : t106 ≤ (a1.size : Int)
            · rw [if_pos c18] at H
              have c18b0 := eq_true c18
              have c18b1 : decide (t106 ≤ (a1.size : Int)) = true := decide_eq_true c18
              clear c18
              replace H := Option.bind_eq_some_iff.mp H
              obtain ⟨t109, A190, H⟩ := H
              replace H : ((url_name.f k t109).bind fun t110 => (some (t110, s0_0, t109, t108, s0_3, s0_4, s0_5))) = some (r1, r2, r3, r4, r5, r6, r7) := H
              have A19 := Aside0.mk A190
              clear A190
              replace H := Option.bind_eq_some_iff.mp H
              obtain ⟨t110, A200, H⟩ := H
              replace H : (some (t110, s0_0, t109, t108, s0_3, s0_4, s0_5)) = some (r1, r2, r3, r4, r5, r6, r7) := H
              have A20 := Aside0.mk A200
              clear A200
              simp only [Option.some.injEq, Prod.mk.injEq] at H
              obtain ⟨rfl, rfl, rfl, rfl, rfl, rfl, rfl⟩ := H
              go_enter Tryd.func26, Tryd.ntmps26
              go_wp2_with (first | ((with_reducible refine gate_callee (f := 41) rfl ?_); refine goesL_ (some 7) rfl rfl Tryd.func41 (by kernel_rfl) rfl #[.string a1, .int .u8 58] rfl (by (try simp only [List.map_toArray, List.map_cons, List.map_nil]); first | done | rfl | (simp only [List.length_drop, List.length_take]; rfl)) ?_; (with_reducible refine (Go.Proofs.YtpnofnmecjagcaaDoor.Ext.strings_IndexByte.calls a1 58 t106 _ A3.out).mono ?_); rintro e w21 ⟨rfl, hb⟩; refine ⟨_, rfl, ?_⟩; have n0_ := Aside0.mk (IsS23.below (by repeat (first | (with_reducible first | exact HI0.out | apply IsS23.alloc | apply IsS23.drewN | apply IsS23.drew | apply IsS23.set_0 | apply IsS23.set_1 | apply IsS23.set_2 | apply IsS23.set_3 | apply IsS23.set_4 | apply IsS23.set_5) | exact HI0.out)) hb); have n1_ := Aside0.mk (KeepBut.trans (by repeat (first | (with_reducible first | exact HK.out | apply KeepBut.set_ | apply keep_drewN | apply keep_drew | apply keep_alloc) | exact HK.out)) (KeepBut.of_below hb g none) (.inl rfl)); have n2_ := Aside0.mk (below_step (by repeat (first | (with_reducible first | exact HB.out | apply below_alloc | apply pw_below_drewN | apply below_drew1 | refine below_set ?_ (IsS23.ge HI0.out)) | exact HB.out)) hb); clear HI0; clear HK; clear HB; have HI0 := n0_; have HK := n1_; have HB := n2_; clear n0_ n1_ n2_; (try clear hb); (try clear hb2); (try clear hk); (try clear hi); obtain ⟨HGz22, hgz22⟩ := HI0.out; have hcz22_0 := cellS23_0 HGz22; have hcz22_1 := cellS23_1 HGz22; have hcz22_2 := cellS23_2 HGz22; have hcz22_3 := cellS23_3 HGz22; have hcz22_4 := cellS23_4 HGz22; have hcz22_5 := cellS23_5 HGz22; have hfz22_0 := blk_frozen HGz22 0; have hfz22_1 := blk_frozen HGz22 1; have hfz22_2 := blk_frozen HGz22 2; have hfz22_3 := blk_frozen HGz22 3; have hfz22_4 := blk_frozen HGz22 4; have hfz22_5 := blk_frozen HGz22 5; clear HGz22 hgz22) | ((with_reducible refine gate_callee (f := 16) rfl ?_); refine goesL_ (some 13) rfl rfl Tryd.func16 (by kernel_rfl) rfl #[.string s0_0] rfl (by (try simp only [List.map_toArray, List.map_cons, List.map_nil]); first | done | rfl | (simp only [List.length_drop, List.length_take]; rfl)) ?_; (with_reducible refine (Go.Proofs.YtpnofnmecjagcaaDoor.Ext.url_usual.calls s0_0 t107 _ A4.out).mono ?_); rintro e w23 ⟨rfl, hb⟩; refine ⟨_, rfl, ?_⟩; have n0_ := Aside0.mk (IsS23.below (by repeat (first | (with_reducible first | exact HI0.out | apply IsS23.alloc | apply IsS23.drewN | apply IsS23.drew | apply IsS23.set_0 | apply IsS23.set_1 | apply IsS23.set_2 | apply IsS23.set_3 | apply IsS23.set_4 | apply IsS23.set_5) | exact HI0.out)) hb); have n1_ := Aside0.mk (KeepBut.trans (by repeat (first | (with_reducible first | exact HK.out | apply KeepBut.set_ | apply keep_drewN | apply keep_drew | apply keep_alloc) | exact HK.out)) (KeepBut.of_below hb g none) (.inl rfl)); have n2_ := Aside0.mk (below_step (by repeat (first | (with_reducible first | exact HB.out | apply below_alloc | apply pw_below_drewN | apply below_drew1 | refine below_set ?_ (IsS23.ge HI0.out)) | exact HB.out)) hb); clear HI0; clear HK; clear HB; have HI0 := n0_; have HK := n1_; have HB := n2_; clear n0_ n1_ n2_; (try clear hb); (try clear hb2); (try clear hk); (try clear hi); obtain ⟨HGz24, hgz24⟩ := HI0.out; have hcz24_0 := cellS23_0 HGz24; have hcz24_1 := cellS23_1 HGz24; have hcz24_2 := cellS23_2 HGz24; have hcz24_3 := cellS23_3 HGz24; have hcz24_4 := cellS23_4 HGz24; have hcz24_5 := cellS23_5 HGz24; have hfz24_0 := blk_frozen HGz24 0; have hfz24_1 := blk_frozen HGz24 1; have hfz24_2 := blk_frozen HGz24 2; have hfz24_3 := blk_frozen HGz24 3; have hfz24_4 := blk_frozen HGz24 4; have hfz24_5 := blk_frozen HGz24 5; clear HGz24 hgz24) | ((with_reducible refine gate_callee (f := 42) rfl ?_); refine goesL_ (some 23) rfl rfl Tryd.func42 (by kernel_rfl) rfl #[.string (a1.extract ((ji6) : Int).toNat a1.size)] rfl (by (try simp only [List.map_toArray, List.map_cons, List.map_nil]); first | done | (simp only [hji6]; rfl) | rfl | (simp only [List.length_drop, List.length_take]; rfl)) ?_; (with_reducible refine (Go.Proofs.YtpnofnmecjagcaaDoor.Ext.url_port.calls (a1.extract ((ji6) : Int).toNat a1.size) t108 _ ?side1 A9.out).mono ?_); (case side1 => exact Gl.below hG (by repeat (first | (with_reducible first | exact HB.out | apply below_alloc | apply pw_below_drewN | apply below_drew1 | refine below_set ?_ (IsS23.ge HI0.out)) | exact HB.out))); rintro e w25 ⟨rfl, hb⟩; refine ⟨_, rfl, ?_⟩; have n0_ := Aside0.mk (IsS23.below (show IsS23 w0 (w23.setCell ⟨g, 2, none⟩ (.int .i64 t107)) g s0_0 s0_1 t107 s0_3 s0_4 s0_5 from by repeat (first | (with_reducible first | exact HI0.out | apply IsS23.alloc | apply IsS23.drewN | apply IsS23.drew | apply IsS23.set_0 | apply IsS23.set_1 | apply IsS23.set_2 | apply IsS23.set_3 | apply IsS23.set_4 | apply IsS23.set_5) | exact HI0.out)) hb); have n1_ := Aside0.mk (KeepBut.trans (by repeat (first | (with_reducible first | exact HK.out | apply KeepBut.set_ | apply keep_drewN | apply keep_drew | apply keep_alloc) | exact HK.out)) (KeepBut.of_below hb g none) (.inl rfl)); have n2_ := Aside0.mk (below_step (by repeat (first | (with_reducible first | exact HB.out | apply below_alloc | apply pw_below_drewN | apply below_drew1 | refine below_set ?_ (IsS23.ge HI0.out)) | exact HB.out)) hb); clear HI0; clear HK; clear HB; have HI0 := n0_; have HK := n1_; have HB := n2_; clear n0_ n1_ n2_; (try clear hb); (try clear hb2); (try clear hk); (try clear hi); obtain ⟨HGz26, hgz26⟩ := HI0.out; have hcz26_0 := cellS23_0 HGz26; have hcz26_1 := cellS23_1 HGz26; have hcz26_2 := cellS23_2 HGz26; have hcz26_3 := cellS23_3 HGz26; have hcz26_4 := cellS23_4 HGz26; have hcz26_5 := cellS23_5 HGz26; have hfz26_0 := blk_frozen HGz26 0; have hfz26_1 := blk_frozen HGz26 1; have hfz26_2 := blk_frozen HGz26 2; have hfz26_3 := blk_frozen HGz26 3; have hfz26_4 := blk_frozen HGz26 4; have hfz26_5 := blk_frozen HGz26 5; clear HGz26 hgz26) | ((with_reducible refine gate_callee (f := 24) rfl ?_); refine goesL_ (some 36) rfl rfl Tryd.func24 (by kernel_rfl) rfl #[.string (a1.extract 0 (t106 : Int).toNat)] rfl (by (try simp only [List.map_toArray, List.map_cons, List.map_nil]); first | done | rfl | (simp only [List.length_drop, List.length_take]; rfl)) ?_; (with_reducible refine (Go.Proofs.YtpnofnmecjagcaaDoor.Ext.url_lower.calls (a1.extract 0 (t106 : Int).toNat) t109 _ ?side1 A19.out).mono ?_); (case side1 => exact Gl.below hG (by repeat (first | (with_reducible first | exact HB.out | apply below_alloc | apply pw_below_drewN | apply below_drew1 | refine below_set ?_ (IsS23.ge HI0.out)) | exact HB.out))); rintro e w27 ⟨rfl, hb⟩; refine ⟨_, rfl, ?_⟩; have n0_ := Aside0.mk (IsS23.below (show IsS23 w0 (w25.setCell ⟨g, 2, none⟩ (.int .i64 t108)) g s0_0 s0_1 t108 s0_3 s0_4 s0_5 from by repeat (first | (with_reducible first | exact HI0.out | apply IsS23.alloc | apply IsS23.drewN | apply IsS23.drew | apply IsS23.set_0 | apply IsS23.set_1 | apply IsS23.set_2 | apply IsS23.set_3 | apply IsS23.set_4 | apply IsS23.set_5) | exact HI0.out)) hb); have n1_ := Aside0.mk (KeepBut.trans (by repeat (first | (with_reducible first | exact HK.out | apply KeepBut.set_ | apply keep_drewN | apply keep_drew | apply keep_alloc) | exact HK.out)) (KeepBut.of_below hb g none) (.inl rfl)); have n2_ := Aside0.mk (below_step (by repeat (first | (with_reducible first | exact HB.out | apply below_alloc | apply pw_below_drewN | apply below_drew1 | refine below_set ?_ (IsS23.ge HI0.out)) | exact HB.out)) hb); clear HI0; clear HK; clear HB; have HI0 := n0_; have HK := n1_; have HB := n2_; clear n0_ n1_ n2_; (try clear hb); (try clear hb2); (try clear hk); (try clear hi); obtain ⟨HGz28, hgz28⟩ := HI0.out; have hcz28_0 := cellS23_0 HGz28; have hcz28_1 := cellS23_1 HGz28; have hcz28_2 := cellS23_2 HGz28; have hcz28_3 := cellS23_3 HGz28; have hcz28_4 := cellS23_4 HGz28; have hcz28_5 := cellS23_5 HGz28; have hfz28_0 := blk_frozen HGz28 0; have hfz28_1 := blk_frozen HGz28 1; have hfz28_2 := blk_frozen HGz28 2; have hfz28_3 := blk_frozen HGz28 3; have hfz28_4 := blk_frozen HGz28 4; have hfz28_5 := blk_frozen HGz28 5; clear HGz28 hgz28) | ((with_reducible refine gate_callee (f := 43) rfl ?_); refine goesL_ (some 43) rfl rfl Tryd.func43 (by kernel_rfl) rfl #[.string t109] rfl (by (try simp only [List.map_toArray, List.map_cons, List.map_nil]); first | done | rfl | (simp only [List.length_drop, List.length_take]; rfl)) ?_; (with_reducible refine (url_name.calls k t109 t110 _ ?side1 A20.out).mono ?_); (case side1 => exact Gl.below hG (by repeat (first | (with_reducible first | exact HB.out | apply below_alloc | apply pw_below_drewN | apply below_drew1 | refine below_set ?_ (IsS23.ge HI0.out)) | exact HB.out))); rintro e w29 ⟨rfl, hb⟩; refine ⟨_, rfl, ?_⟩; have n0_ := Aside0.mk (IsS23.below (show IsS23 w0 (w27.setCell ⟨g, 1, none⟩ (.string t109)) g s0_0 t109 t108 s0_3 s0_4 s0_5 from by repeat (first | (with_reducible first | exact HI0.out | apply IsS23.alloc | apply IsS23.drewN | apply IsS23.drew | apply IsS23.set_0 | apply IsS23.set_1 | apply IsS23.set_2 | apply IsS23.set_3 | apply IsS23.set_4 | apply IsS23.set_5) | exact HI0.out)) hb); have n1_ := Aside0.mk (KeepBut.trans (by repeat (first | (with_reducible first | exact HK.out | apply KeepBut.set_ | apply keep_drewN | apply keep_drew | apply keep_alloc) | exact HK.out)) (KeepBut.of_below hb g none) (.inl rfl)); have n2_ := Aside0.mk (below_step (by repeat (first | (with_reducible first | exact HB.out | apply below_alloc | apply pw_below_drewN | apply below_drew1 | refine below_set ?_ (IsS23.ge HI0.out)) | exact HB.out)) hb); clear HI0; clear HK; clear HB; have HI0 := n0_; have HK := n1_; have HB := n2_; clear n0_ n1_ n2_; (try clear hb); (try clear hb2); (try clear hk); (try clear hi)))
              go_ret
              exact ⟨by first | rfl | (simp [errW_none, errW_some] <;> rfl) | (simp only [← hji6]; first | rfl | (simp [errW_none, errW_some] <;> rfl)) | (simp [*, errW_none, errW_some] <;> rfl), by repeat (first | (with_reducible first | exact HI0.out | apply IsS23.alloc | apply IsS23.drewN | apply IsS23.drew | apply IsS23.set_0 | apply IsS23.set_1 | apply IsS23.set_2 | apply IsS23.set_3 | apply IsS23.set_4 | apply IsS23.set_5) | exact HI0.out), by repeat (first | (with_reducible first | exact HB.out | apply below_alloc | apply pw_below_drewN | apply below_drew1 | refine below_set ?_ (IsS23.ge HI0.out)) | exact HB.out), by repeat (first | (with_reducible first | exact HK.out | apply KeepBut.set_ | apply keep_drewN | apply keep_drew | apply keep_alloc) | exact HK.out)⟩
            · rw [if_neg c18] at H
              exact absurd H (by simp)
          · rw [if_neg c17] at H
            exact absurd H (by simp)
      · rw [if_neg c8] at H
        exact absurd H (by simp)
    · rw [if_neg c7] at H
      exact absurd H (by simp)
  · rw [if_neg c5] at H
    have c5b0 : decide (0 ≤ t106) = false := decide_eq_false c5
    clear c5
    replace H := Option.bind_eq_some_iff.mp H
    obtain ⟨t111, A300, H⟩ := H
    replace H : ((url_name.f k t111).bind fun t112 => (some (t112, s0_0, t111, t107, s0_3, s0_4, s0_5))) = some (r1, r2, r3, r4, r5, r6, r7) := H
    have A30 := Aside0.mk A300
    clear A300
    replace H := Option.bind_eq_some_iff.mp H
    obtain ⟨t112, A310, H⟩ := H
    replace H : (some (t112, s0_0, t111, t107, s0_3, s0_4, s0_5)) = some (r1, r2, r3, r4, r5, r6, r7) := H
    have A31 := Aside0.mk A310
    clear A310
    simp only [Option.some.injEq, Prod.mk.injEq] at H
    obtain ⟨rfl, rfl, rfl, rfl, rfl, rfl, rfl⟩ := H
    go_enter Tryd.func26, Tryd.ntmps26
    go_wp2_with (first | ((with_reducible refine gate_callee (f := 41) rfl ?_); refine goesL_ (some 7) rfl rfl Tryd.func41 (by kernel_rfl) rfl #[.string a1, .int .u8 58] rfl (by (try simp only [List.map_toArray, List.map_cons, List.map_nil]); first | done | rfl | (simp only [List.length_drop, List.length_take]; rfl)) ?_; (with_reducible refine (Go.Proofs.YtpnofnmecjagcaaDoor.Ext.strings_IndexByte.calls a1 58 t106 _ A3.out).mono ?_); rintro e w32 ⟨rfl, hb⟩; refine ⟨_, rfl, ?_⟩; have n0_ := Aside0.mk (IsS23.below (by repeat (first | (with_reducible first | exact HI0.out | apply IsS23.alloc | apply IsS23.drewN | apply IsS23.drew | apply IsS23.set_0 | apply IsS23.set_1 | apply IsS23.set_2 | apply IsS23.set_3 | apply IsS23.set_4 | apply IsS23.set_5) | exact HI0.out)) hb); have n1_ := Aside0.mk (KeepBut.trans (by repeat (first | (with_reducible first | exact HK.out | apply KeepBut.set_ | apply keep_drewN | apply keep_drew | apply keep_alloc) | exact HK.out)) (KeepBut.of_below hb g none) (.inl rfl)); have n2_ := Aside0.mk (below_step (by repeat (first | (with_reducible first | exact HB.out | apply below_alloc | apply pw_below_drewN | apply below_drew1 | refine below_set ?_ (IsS23.ge HI0.out)) | exact HB.out)) hb); clear HI0; clear HK; clear HB; have HI0 := n0_; have HK := n1_; have HB := n2_; clear n0_ n1_ n2_; (try clear hb); (try clear hb2); (try clear hk); (try clear hi); obtain ⟨HGz33, hgz33⟩ := HI0.out; have hcz33_0 := cellS23_0 HGz33; have hcz33_1 := cellS23_1 HGz33; have hcz33_2 := cellS23_2 HGz33; have hcz33_3 := cellS23_3 HGz33; have hcz33_4 := cellS23_4 HGz33; have hcz33_5 := cellS23_5 HGz33; have hfz33_0 := blk_frozen HGz33 0; have hfz33_1 := blk_frozen HGz33 1; have hfz33_2 := blk_frozen HGz33 2; have hfz33_3 := blk_frozen HGz33 3; have hfz33_4 := blk_frozen HGz33 4; have hfz33_5 := blk_frozen HGz33 5; clear HGz33 hgz33) | ((with_reducible refine gate_callee (f := 16) rfl ?_); refine goesL_ (some 13) rfl rfl Tryd.func16 (by kernel_rfl) rfl #[.string s0_0] rfl (by (try simp only [List.map_toArray, List.map_cons, List.map_nil]); first | done | rfl | (simp only [List.length_drop, List.length_take]; rfl)) ?_; (with_reducible refine (Go.Proofs.YtpnofnmecjagcaaDoor.Ext.url_usual.calls s0_0 t107 _ A4.out).mono ?_); rintro e w34 ⟨rfl, hb⟩; refine ⟨_, rfl, ?_⟩; have n0_ := Aside0.mk (IsS23.below (by repeat (first | (with_reducible first | exact HI0.out | apply IsS23.alloc | apply IsS23.drewN | apply IsS23.drew | apply IsS23.set_0 | apply IsS23.set_1 | apply IsS23.set_2 | apply IsS23.set_3 | apply IsS23.set_4 | apply IsS23.set_5) | exact HI0.out)) hb); have n1_ := Aside0.mk (KeepBut.trans (by repeat (first | (with_reducible first | exact HK.out | apply KeepBut.set_ | apply keep_drewN | apply keep_drew | apply keep_alloc) | exact HK.out)) (KeepBut.of_below hb g none) (.inl rfl)); have n2_ := Aside0.mk (below_step (by repeat (first | (with_reducible first | exact HB.out | apply below_alloc | apply pw_below_drewN | apply below_drew1 | refine below_set ?_ (IsS23.ge HI0.out)) | exact HB.out)) hb); clear HI0; clear HK; clear HB; have HI0 := n0_; have HK := n1_; have HB := n2_; clear n0_ n1_ n2_; (try clear hb); (try clear hb2); (try clear hk); (try clear hi); obtain ⟨HGz35, hgz35⟩ := HI0.out; have hcz35_0 := cellS23_0 HGz35; have hcz35_1 := cellS23_1 HGz35; have hcz35_2 := cellS23_2 HGz35; have hcz35_3 := cellS23_3 HGz35; have hcz35_4 := cellS23_4 HGz35; have hcz35_5 := cellS23_5 HGz35; have hfz35_0 := blk_frozen HGz35 0; have hfz35_1 := blk_frozen HGz35 1; have hfz35_2 := blk_frozen HGz35 2; have hfz35_3 := blk_frozen HGz35 3; have hfz35_4 := blk_frozen HGz35 4; have hfz35_5 := blk_frozen HGz35 5; clear HGz35 hgz35) | ((with_reducible refine gate_callee (f := 24) rfl ?_); refine goesL_ (some 36) rfl rfl Tryd.func24 (by kernel_rfl) rfl #[.string a1] rfl (by (try simp only [List.map_toArray, List.map_cons, List.map_nil]); first | done | rfl | (simp only [List.length_drop, List.length_take]; rfl)) ?_; (with_reducible refine (Go.Proofs.YtpnofnmecjagcaaDoor.Ext.url_lower.calls a1 t111 _ ?side1 A30.out).mono ?_); (case side1 => exact Gl.below hG (by repeat (first | (with_reducible first | exact HB.out | apply below_alloc | apply pw_below_drewN | apply below_drew1 | refine below_set ?_ (IsS23.ge HI0.out)) | exact HB.out))); rintro e w36 ⟨rfl, hb⟩; refine ⟨_, rfl, ?_⟩; have n0_ := Aside0.mk (IsS23.below (show IsS23 w0 (w34.setCell ⟨g, 2, none⟩ (.int .i64 t107)) g s0_0 s0_1 t107 s0_3 s0_4 s0_5 from by repeat (first | (with_reducible first | exact HI0.out | apply IsS23.alloc | apply IsS23.drewN | apply IsS23.drew | apply IsS23.set_0 | apply IsS23.set_1 | apply IsS23.set_2 | apply IsS23.set_3 | apply IsS23.set_4 | apply IsS23.set_5) | exact HI0.out)) hb); have n1_ := Aside0.mk (KeepBut.trans (by repeat (first | (with_reducible first | exact HK.out | apply KeepBut.set_ | apply keep_drewN | apply keep_drew | apply keep_alloc) | exact HK.out)) (KeepBut.of_below hb g none) (.inl rfl)); have n2_ := Aside0.mk (below_step (by repeat (first | (with_reducible first | exact HB.out | apply below_alloc | apply pw_below_drewN | apply below_drew1 | refine below_set ?_ (IsS23.ge HI0.out)) | exact HB.out)) hb); clear HI0; clear HK; clear HB; have HI0 := n0_; have HK := n1_; have HB := n2_; clear n0_ n1_ n2_; (try clear hb); (try clear hb2); (try clear hk); (try clear hi); obtain ⟨HGz37, hgz37⟩ := HI0.out; have hcz37_0 := cellS23_0 HGz37; have hcz37_1 := cellS23_1 HGz37; have hcz37_2 := cellS23_2 HGz37; have hcz37_3 := cellS23_3 HGz37; have hcz37_4 := cellS23_4 HGz37; have hcz37_5 := cellS23_5 HGz37; have hfz37_0 := blk_frozen HGz37 0; have hfz37_1 := blk_frozen HGz37 1; have hfz37_2 := blk_frozen HGz37 2; have hfz37_3 := blk_frozen HGz37 3; have hfz37_4 := blk_frozen HGz37 4; have hfz37_5 := blk_frozen HGz37 5; clear HGz37 hgz37) | ((with_reducible refine gate_callee (f := 43) rfl ?_); refine goesL_ (some 43) rfl rfl Tryd.func43 (by kernel_rfl) rfl #[.string t111] rfl (by (try simp only [List.map_toArray, List.map_cons, List.map_nil]); first | done | rfl | (simp only [List.length_drop, List.length_take]; rfl)) ?_; (with_reducible refine (url_name.calls k t111 t112 _ ?side1 A31.out).mono ?_); (case side1 => exact Gl.below hG (by repeat (first | (with_reducible first | exact HB.out | apply below_alloc | apply pw_below_drewN | apply below_drew1 | refine below_set ?_ (IsS23.ge HI0.out)) | exact HB.out))); rintro e w38 ⟨rfl, hb⟩; refine ⟨_, rfl, ?_⟩; have n0_ := Aside0.mk (IsS23.below (show IsS23 w0 (w36.setCell ⟨g, 1, none⟩ (.string t111)) g s0_0 t111 t107 s0_3 s0_4 s0_5 from by repeat (first | (with_reducible first | exact HI0.out | apply IsS23.alloc | apply IsS23.drewN | apply IsS23.drew | apply IsS23.set_0 | apply IsS23.set_1 | apply IsS23.set_2 | apply IsS23.set_3 | apply IsS23.set_4 | apply IsS23.set_5) | exact HI0.out)) hb); have n1_ := Aside0.mk (KeepBut.trans (by repeat (first | (with_reducible first | exact HK.out | apply KeepBut.set_ | apply keep_drewN | apply keep_drew | apply keep_alloc) | exact HK.out)) (KeepBut.of_below hb g none) (.inl rfl)); have n2_ := Aside0.mk (below_step (by repeat (first | (with_reducible first | exact HB.out | apply below_alloc | apply pw_below_drewN | apply below_drew1 | refine below_set ?_ (IsS23.ge HI0.out)) | exact HB.out)) hb); clear HI0; clear HK; clear HB; have HI0 := n0_; have HK := n1_; have HB := n2_; clear n0_ n1_ n2_; (try clear hb); (try clear hb2); (try clear hk); (try clear hi)))
    go_ret
    exact ⟨by first | rfl | (simp [errW_none, errW_some] <;> rfl) | (simp [*, errW_none, errW_some] <;> rfl), by repeat (first | (with_reducible first | exact HI0.out | apply IsS23.alloc | apply IsS23.drewN | apply IsS23.drew | apply IsS23.set_0 | apply IsS23.set_1 | apply IsS23.set_2 | apply IsS23.set_3 | apply IsS23.set_4 | apply IsS23.set_5) | exact HI0.out), by repeat (first | (with_reducible first | exact HB.out | apply below_alloc | apply pw_below_drewN | apply below_drew1 | refine below_set ?_ (IsS23.ge HI0.out)) | exact HB.out), by repeat (first | (with_reducible first | exact HK.out | apply KeepBut.set_ | apply keep_drewN | apply keep_drew | apply keep_alloc) | exact HK.out)⟩
/-! ### stringslite_HasPrefix: function 33 -/
def stringslite_HasPrefix.f (a0 : ByteArray) (a1 : ByteArray) : Option (Bool) := if (a0.size : Int) ≥ (a1.size : Int) then (if 0 ≤ (a1.size : Int) then (if (a1.size : Int) ≤ (a0.size : Int) then (some ((a0.extract 0 ((a1.size : Int) : Int).toNat).toList == a1.toList)) else (none)) else (none)) else (some false)
set_option maxHeartbeats 8000000 in
set_option maxRecDepth 100000 in
theorem stringslite_HasPrefix.calls (a0 : ByteArray) (a1 : ByteArray) (r : Bool) (w : World) (h : stringslite_HasPrefix.f a0 a1 = some r) :
    Calls Tryd.prog 33 #[.string a0, .string a1] w fun e w' => e = .returned (.bool r) ∧ Drawn0 w w' := by
  have H : (if (a0.size : Int) ≥ (a1.size : Int) then (if 0 ≤ (a1.size : Int) then (if (a1.size : Int) ≤ (a0.size : Int) then (some ((a0.extract 0 ((a1.size : Int) : Int).toNat).toList == a1.toList)) else (none)) else (none)) else (some false)) = some r := h
  clear h
  by_cases c3 : (a0.size : Int) ≥ (a1.size : Int)
  · rw [if_pos c3] at H
    have c3b0 : decide ((a1.size : Int) ≤ (a0.size : Int)) = true := decide_eq_true c3
    have c3b1 : decide (a1.size ≤ a0.size) = true := decide_eq_true (Int.ofNat_le.mp c3)
    clear c3
    by_cases c4 : 0 ≤ (a1.size : Int)
    · rw [if_pos c4] at H
      have c4b0 := eq_true c4
      have c4b1 : decide (0 ≤ (a1.size : Int)) = true := decide_eq_true c4
      clear c4
      by_cases c5 : (a1.size : Int) ≤ (a0.size : Int)
      · rw [if_pos c5] at H
        have c5b0 := eq_true c5
        have c5b1 : decide ((a1.size : Int) ≤ (a0.size : Int)) = true := decide_eq_true c5
        clear c5
        obtain rfl := Option.some.inj H
        go_enter Tryd.func33, Tryd.ntmps33
        go_wp2
        go_ret
        exact ⟨by first | rfl | (simp; done) | (simp [*]; done), by repeat (first | exact Drawn0.refl _ | apply Drawn0.step)⟩
      · rw [if_neg c5] at H
        exact absurd H (by simp)
    · rw [if_neg c4] at H
      exact absurd H (by simp)
  · rw [if_neg c3] at H
    have c3b0 : decide ((a1.size : Int) ≤ (a0.size : Int)) = false := decide_eq_false c3
    have c3b1 : decide (a1.size ≤ a0.size) = false := decide_eq_false (fun h => c3 (Int.ofNat_le.mpr h))
    clear c3
    obtain rfl := Option.some.inj H
    go_enter Tryd.func33, Tryd.ntmps33
    go_wp2
    go_ret
    exact ⟨by first | rfl | (simp; done) | (simp [*]; done), by repeat (first | exact Drawn0.refl _ | apply Drawn0.step)⟩
/-! ### strings_HasPrefix: function 21 -/
def strings_HasPrefix.f (a0 : ByteArray) (a1 : ByteArray) : Option (Bool) := (stringslite_HasPrefix.f a0 a1).bind fun t113 => (some t113)
set_option maxHeartbeats 8000000 in
set_option maxRecDepth 100000 in
theorem strings_HasPrefix.calls (a0 : ByteArray) (a1 : ByteArray) (r : Bool) (w : World) (h : strings_HasPrefix.f a0 a1 = some r) :
    Calls Tryd.prog 21 #[.string a0, .string a1] w fun e w' => e = .returned (.bool r) ∧ Drawn0 w w' := by
  have H : ((stringslite_HasPrefix.f a0 a1).bind fun t113 => (some t113)) = some r := h
  clear h
  replace H := Option.bind_eq_some_iff.mp H
  obtain ⟨t113, A30, H⟩ := H
  replace H : (some t113) = some r := H
  have A3 := Aside0.mk A30
  clear A30
  obtain rfl := Option.some.inj H
  go_enter Tryd.func21, Tryd.ntmps21
  go_wp2_with (first | ((with_reducible refine gate_callee (f := 33) rfl ?_); refine goesL_ (some 7) rfl rfl Tryd.func33 (by kernel_rfl) rfl #[.string a0, .string a1] rfl (by (try simp only [List.map_toArray, List.map_cons, List.map_nil]); first | done | rfl | (simp only [List.length_drop, List.length_take]; rfl)) ?_; (with_reducible refine (stringslite_HasPrefix.calls a0 a1 t113 _ A3.out).mono ?_); rintro e w' ⟨rfl, ⟨nd, rfl⟩⟩; refine ⟨_, rfl, ?_⟩))
  go_ret
  exact ⟨by first | rfl | (simp; done) | (simp [*]; done), by repeat (first | exact Drawn0.refl _ | apply Drawn0.step)⟩
/-! ### url_Clean: function 13 -/
def url_Clean.l0 : Nat → List ByteArray → List ByteArray → List ByteArray → Int → Int → Option (ByteArray)
  | 0, _, _, _, _, _ => none
  | k + 1, x3, x4, x11, x12, x13 => if x13 < x12 then (if 0 ≤ x13 then (if x13 < (x11.length : Int) then (if (rdOf ByteArray.empty x11 x13).toList = ([46, 46] : List UInt8) then (if 0 ≤ (mx (wrap64 ((x3.length : Int) - 1)) 0) then (if (mx (wrap64 ((x3.length : Int) - 1)) 0) ≤ (x3.length : Int) then ((some (x3.take ((mx (wrap64 ((x3.length : Int) - 1)) 0) : Int).toNat : List ByteArray)).bind fun y118 => (if (y118.length : Int) = 0 then (if y118.length < 8796093022208 then ((some (y118 ++ [(⟨#[]⟩ : ByteArray)] : List ByteArray)).bind fun y121 => (if x13 = (wrap64 ((x4.length : Int) - 1)) then (if y121.length < 8796093022208 then (url_Clean.l0 k (y121 ++ [(⟨#[]⟩ : ByteArray)]) x4 x11 x12 (wrap64 (x13 + 1))) else (none)) else (url_Clean.l0 k y121 x4 x11 x12 (wrap64 (x13 + 1))))) else (none)) else (if x13 = (wrap64 ((x4.length : Int) - 1)) then (if y118.length < 8796093022208 then (url_Clean.l0 k (y118 ++ [(⟨#[]⟩ : ByteArray)]) x4 x11 x12 (wrap64 (x13 + 1))) else (none)) else (url_Clean.l0 k y118 x4 x11 x12 (wrap64 (x13 + 1)))))) else (none)) else (none)) else (if (rdOf ByteArray.empty x11 x13).toList = ([46] : List UInt8) then (if x13 = (wrap64 ((x4.length : Int) - 1)) then (if x3.length < 8796093022208 then (url_Clean.l0 k (x3 ++ [(⟨#[]⟩ : ByteArray)]) x4 x11 x12 (wrap64 (x13 + 1))) else (none)) else (url_Clean.l0 k x3 x4 x11 x12 (wrap64 (x13 + 1)))) else (if x3.length < 8796093022208 then (url_Clean.l0 k (x3 ++ [rdOf ByteArray.empty x11 x13]) x4 x11 x12 (wrap64 (x13 + 1))) else (none)))) else (none)) else (none)) else ((Go.Proofs.YtpnofnmecjagcaaDoor.Ext.strings_Join.f x3 (⟨#[47]⟩ : ByteArray)).bind fun t136 => ((strings_HasPrefix.f t136 (⟨#[47]⟩ : ByteArray)).bind fun t137 => (if t137 = true then (some t136) else (if 1 + t136.size ≤ 9223372036854775807 then (some ((⟨#[47]⟩ : ByteArray) ++ t136)) else (none)))))
def url_Clean.f (k : Nat) (a0 : ByteArray) : Option (ByteArray) := (Go.Proofs.YtpnofnmecjagcaaDoor.Ext.strings_Split.f a0 (⟨#[47]⟩ : ByteArray)).bind fun t114 => (url_Clean.l0 k ([] : List ByteArray) t114 t114 (t114.length : Int) 0)
set_option maxHeartbeats 8000000 in
set_option maxRecDepth 100000 in
theorem url_Clean.calls (k : Nat) (a0 : ByteArray) (r : ByteArray) (w : World) (hG : Gl w) (h : url_Clean.f k a0 = some r) :
    Calls Tryd.prog 13 #[.string a0] w fun e w' => e = .returned (.string r) ∧ Below w.heap.size w w' := by
  have HB := Aside0.mk (Below.refl w.heap.size w)
  have H : ((Go.Proofs.YtpnofnmecjagcaaDoor.Ext.strings_Split.f a0 (⟨#[47]⟩ : ByteArray)).bind fun t114 => (url_Clean.l0 k ([] : List ByteArray) t114 t114 (t114.length : Int) 0)) = some r := h
  clear h
  replace H := Option.bind_eq_some_iff.mp H
  obtain ⟨t114, A20, H⟩ := H
  replace H : (url_Clean.l0 k ([] : List ByteArray) t114 t114 (t114.length : Int) 0) = some r := H
  have A2 := Aside0.mk A20
  clear A20
  have H' := Aside0.mk H
  clear H
  go_enter Tryd.func13, Tryd.ntmps13
  go_wp2_with (first | ((with_reducible refine gate_callee (f := 19) rfl ?_); refine goesL_ (some 10) rfl rfl Tryd.func19 (by kernel_rfl) rfl #[.string a0, .string (⟨#[47]⟩ : ByteArray)] rfl (by (try simp only [List.map_toArray, List.map_cons, List.map_nil]); first | done | rfl | (simp only [List.length_drop, List.length_take]; rfl)) ?_; (with_reducible refine (Go.Proofs.YtpnofnmecjagcaaDoor.Ext.strings_Split.calls a0 (⟨#[47]⟩ : ByteArray) t114 _ ?side1 A2.out).mono ?_); (case side1 => exact Gl.below hG (by repeat (first | (with_reducible first | exact HB.out | apply below_alloc | apply pw_below_drewN | apply below_drew1) | exact HB.out))); rintro e w3 ⟨v115, rfl, ho0, hb⟩; refine ⟨_, rfl, ?_⟩; have n0_ := Aside0.mk (Kd.R_lower ho0 (below_size (by repeat (first | (with_reducible first | exact HB.out | apply below_alloc | apply pw_below_drewN | apply below_drew1) | exact HB.out)))); have n1_ := Aside0.mk (below_step (by repeat (first | (with_reducible first | exact HB.out | apply below_alloc | apply pw_below_drewN | apply below_drew1) | exact HB.out)) hb); clear HB; have HO116 := n0_; have HB := n1_; clear n0_ n1_; (try clear hb); (try clear hb2); (try clear hk); (try clear hi); (try clear ho0); obtain ⟨Ao4, co4, eo4⟩ := Kd.R_slice HO116.out; subst eo4))
  go_loopg [3, 13] k (fun kq v3 v13 w' => ∃ (x3_1 : List ByteArray) (x13_1 : Int), v13 = .int .i64 x13_1 ∧ Aside0 (url_Clean.l0 kq x3_1 t114 t114 (t114.length : Int) x13_1 = some r) ∧ Aside0 (kq ≤ k) ∧ Aside0 (Kd.R Kd.string 9 w' w.heap.size (fun k_ => some k_ ≠ ((.slice Ao4 t114.length co4) : Value).ownBlock ∧ some k_ ≠ ((.slice Ao4 t114.length co4) : Value).ownBlock) v3 x3_1) ∧ Aside0 (Kd.R Kd.string 9 w' w.heap.size (fun k_ => some k_ ≠ (v3 : Value).ownBlock) (.slice Ao4 t114.length co4) t114) ∧ Aside0 (Kd.R Kd.string 9 w' w.heap.size (fun k_ => some k_ ≠ (v3 : Value).ownBlock) (.slice Ao4 t114.length co4) t114) ∧ Aside0 (Below w.heap.size w w'))
  case atStart => exact ⟨(([] : List ByteArray)), (0), (by first | rfl | (simp; done) | (simp [*]; done)), H', ⟨Nat.le_refl _⟩, ⟨by first | exact Kd.R_nil _ _ _ _ _ | exact Kd.N_nil _ _ _ _ _ | exact Kd.V_nil _ _ _ _ _ | exact Kd.Q_nil _ _ _ _ _ | exact Kd.S_nil _ _ _ _ _⟩, ⟨by (with_reducible repeat (first | apply Kd.R_alloc | apply Kd.R_drewN | apply Kd.R_drew)); exact Kd.R_mono HO116.out (fun _ hk => (by simp [Value.ownBlock]))⟩, ⟨by (with_reducible repeat (first | apply Kd.R_alloc | apply Kd.R_drewN | apply Kd.R_drew)); exact Kd.R_mono HO116.out (fun _ hk => (by simp [Value.ownBlock]))⟩, ⟨by repeat (first | (with_reducible first | exact HB.out | apply below_alloc | apply pw_below_drewN | apply below_drew1) | exact HB.out)⟩⟩
  case round =>
    clear H'
    try clear c1
    try clear p2
    obtain ⟨x3_1, x13_1, rfl, HA, HK1, HO_3, HO_4, HO_11, HB⟩ := hrel
    cases gk with
    | zero => exact absurd HA.out (by simp [url_Clean.l0])
    | succ k1 =>
      have H := HA.out
      clear HA
      simp only [url_Clean.l0] at H
      by_cases c5 : x13_1 < (t114.length : Int)
      · rw [if_pos c5] at H
        have c5b0 : decide (x13_1 < (t114.length : Int)) = true := decide_eq_true c5
        clear c5
        by_cases c6 : 0 ≤ x13_1
        · rw [if_pos c6] at H
          have c6b0 : decide (0 ≤ x13_1) = true := decide_eq_true c6
          clear c6
          by_cases c7 : x13_1 < (t114.length : Int)
          · rw [if_pos c7] at H
            have c7b0 : decide (x13_1 < (t114.length : Int)) = true := decide_eq_true c7
            clear c7
            by_cases c8 : (rdOf ByteArray.empty t114 x13_1).toList = ([46, 46] : List UInt8)
            · rw [if_pos c8] at H
              have c8b0 : ((rdOf ByteArray.empty t114 x13_1).toList == ([46, 46] : List UInt8)) = true := beq_iff_eq.mpr c8
              have c8b1 : ((rdOf ByteArray.empty t114 x13_1).toList != ([46, 46] : List UInt8)) = false := bne_eq_false_iff_eq.mpr c8
              clear c8
              obtain ⟨ji9, hji9⟩ : ∃ j_ : Int, (mx (wrap64 ((x3_1.length : Int) - 1)) 0) = j_ := ⟨_, rfl⟩
              replace H : (if 0 ≤ (ji9) then (if (ji9) ≤ (x3_1.length : Int) then ((some (x3_1.take ((ji9) : Int).toNat : List ByteArray)).bind fun y118 => (if (y118.length : Int) = 0 then (if y118.length < 8796093022208 then ((some (y118 ++ [(⟨#[]⟩ : ByteArray)] : List ByteArray)).bind fun y121 => (if x13_1 = (wrap64 ((t114.length : Int) - 1)) then (if y121.length < 8796093022208 then (url_Clean.l0 k1 (y121 ++ [(⟨#[]⟩ : ByteArray)]) t114 t114 (t114.length : Int) (wrap64 (x13_1 + 1))) else (none)) else (url_Clean.l0 k1 y121 t114 t114 (t114.length : Int) (wrap64 (x13_1 + 1))))) else (none)) else (if x13_1 = (wrap64 ((t114.length : Int) - 1)) then (if y118.length < 8796093022208 then (url_Clean.l0 k1 (y118 ++ [(⟨#[]⟩ : ByteArray)]) t114 t114 (t114.length : Int) (wrap64 (x13_1 + 1))) else (none)) else (url_Clean.l0 k1 y118 t114 t114 (t114.length : Int) (wrap64 (x13_1 + 1)))))) else (none)) else (none)) = some r := by first | (rw [hji9] at H; exact H) | (simp only [hji9] at H ⊢; exact H)
              have hji9_ : (if (wrap64 ((x3_1.length : Int) - 1)) < 0 then 0 else (wrap64 ((x3_1.length : Int) - 1))) = ji9 := hji9
              by_cases c10 : 0 ≤ (ji9)
              · rw [if_pos c10] at H
                have c10b0 := eq_true c10
                have c10b1 : decide (0 ≤ (ji9)) = true := decide_eq_true c10
                clear c10
                by_cases c11 : (ji9) ≤ (x3_1.length : Int)
                · rw [if_pos c11] at H
                  have c11b0 := eq_true c11
                  have c11b1 : decide ((ji9) ≤ (x3_1.length : Int)) = true := decide_eq_true c11
                  clear c11
                  obtain ⟨y118, hy118⟩ : ∃ y_ : List ByteArray, y_ = (x3_1.take ((ji9) : Int).toNat) := ⟨_, rfl⟩
                  replace H : (if (y118.length : Int) = 0 then (if y118.length < 8796093022208 then ((some (y118 ++ [(⟨#[]⟩ : ByteArray)] : List ByteArray)).bind fun y121 => (if x13_1 = (wrap64 ((t114.length : Int) - 1)) then (if y121.length < 8796093022208 then (url_Clean.l0 k1 (y121 ++ [(⟨#[]⟩ : ByteArray)]) t114 t114 (t114.length : Int) (wrap64 (x13_1 + 1))) else (none)) else (url_Clean.l0 k1 y121 t114 t114 (t114.length : Int) (wrap64 (x13_1 + 1))))) else (none)) else (if x13_1 = (wrap64 ((t114.length : Int) - 1)) then (if y118.length < 8796093022208 then (url_Clean.l0 k1 (y118 ++ [(⟨#[]⟩ : ByteArray)]) t114 t114 (t114.length : Int) (wrap64 (x13_1 + 1))) else (none)) else (url_Clean.l0 k1 y118 t114 t114 (t114.length : Int) (wrap64 (x13_1 + 1))))) = some r := by first | (rw [hy118]; with_reducible exact H) | (have H2_ := (Option.bind_some _ _).symm.trans H; rw [hy118]; with_reducible exact H2_) | (have H2_ := (Option.bind_some _ _).symm.trans H; with_reducible exact H2_) | with_reducible exact H | (rw [hy118]; exact H) | exact H
                  have Ny118 := Aside0.mk hy118
                  clear hy118
                  by_cases c12 : (y118.length : Int) = 0
                  · rw [if_pos c12] at H
                    have c12b0 : ((y118.length : Int) == 0) = true := beq_iff_eq.mpr c12
                    have c12b1 : ((y118.length : Int) != 0) = false := bne_eq_false_iff_eq.mpr c12
                    clear c12
                    by_cases c13 : y118.length < 8796093022208
                    · rw [if_pos c13] at H
                      have LMc13 := Aside0.mk c13
                      clear c13
                      obtain ⟨y121, hy121⟩ : ∃ y_ : List ByteArray, y_ = (y118 ++ [(⟨#[]⟩ : ByteArray)]) := ⟨_, rfl⟩
                      replace H : (if x13_1 = (wrap64 ((t114.length : Int) - 1)) then (if y121.length < 8796093022208 then (url_Clean.l0 k1 (y121 ++ [(⟨#[]⟩ : ByteArray)]) t114 t114 (t114.length : Int) (wrap64 (x13_1 + 1))) else (none)) else (url_Clean.l0 k1 y121 t114 t114 (t114.length : Int) (wrap64 (x13_1 + 1)))) = some r := by first | (rw [hy121]; with_reducible exact H) | (have H2_ := (Option.bind_some _ _).symm.trans H; rw [hy121]; with_reducible exact H2_) | (have H2_ := (Option.bind_some _ _).symm.trans H; with_reducible exact H2_) | with_reducible exact H | (rw [hy121]; exact H) | exact H
                      have Ny121 := Aside0.mk hy121
                      clear hy121
                      by_cases c14 : x13_1 = (wrap64 ((t114.length : Int) - 1))
                      · rw [if_pos c14] at H
                        have c14b0 : (x13_1 == (wrap64 ((t114.length : Int) - 1))) = true := beq_iff_eq.mpr c14
                        have c14b1 : (x13_1 != (wrap64 ((t114.length : Int) - 1))) = false := bne_eq_false_iff_eq.mpr c14
                        clear c14
                        by_cases c15 : y121.length < 8796093022208
                        · rw [if_pos c15] at H
                          have LMc15 := Aside0.mk c15
                          clear c15
                          obtain ⟨y124, hy124⟩ : ∃ y_ : List ByteArray, y_ = (y121 ++ [(⟨#[]⟩ : ByteArray)]) := ⟨_, rfl⟩
                          replace H : (url_Clean.l0 k1 y124 t114 t114 (t114.length : Int) (wrap64 (x13_1 + 1))) = some r := by first | (rw [hy124]; with_reducible exact H) | (have H2_ := (Option.bind_some _ _).symm.trans H; rw [hy124]; with_reducible exact H2_) | (have H2_ := (Option.bind_some _ _).symm.trans H; with_reducible exact H2_) | with_reducible exact H | (rw [hy124]; exact H) | exact H
                          have Ny124 := Aside0.mk hy124
                          clear hy124
                          have H' := Aside0.mk H
                          clear H
                          have p117 : 0 ≤ (x13_1 : Int) := of_decide_eq_true (by first | (with_reducible assumption) | assumption)
                          have q117 : x13_1 < (t114.length : Int) := of_decide_eq_true (by first | (with_reducible assumption) | assumption)
                          obtain ⟨ad117, e117, hx117_0⟩ := Kd.at_string (Kd.R_reads' HO_11.out).2.2 x13_1 p117 q117
                          cases e117
                          replace p117 := eq_true p117
                          replace q117 := eq_true q117
                          obtain ⟨Ao16, co16, eo16⟩ := Kd.R_slice HO_3.out
                          subst eo16
                          have q17 : ((ji9) : Int) ≤ ((x3_1.length : Int) : Int) := of_decide_eq_true (by first | (with_reducible assumption) | assumption)
                          obtain ⟨i017, hi017, _, hsz17, _⟩ := info_parts info9
                          have hcut17 := cut_to (P := Tryd.prog) 37 9 .i64 Tryd.underlying37 hi017 Ao16 x3_1.length co16 (ji9) (of_decide_eq_true (by first | (with_reducible assumption) | assumption)) q17 (Kd.R_reads' HO_3.out).2.1
                          have hr17 := Kd.R_take (m := ((ji9) : Int).toNat) HO_3.out (by omega)
                          have hy17 : y118.length = ((ji9) : Int).toNat := (by rw [Ny118.out, List.length_take]; omega)
                          rw [← Ny118.out] at hr17
                          rw [← hy17] at hr17 hcut17
                          clear hy17 hi017 hsz17 HO_3
                          have hob_ : ∀ n m, (Value.slice Ao16 n co16).ownBlock = (Value.slice Ao16 m co16).ownBlock := fun n m => by cases Ao16 <;> rfl
                          (try simp only [hob_ x3_1.length y118.length] at HO_11)
                          (try simp only [hob_ x3_1.length y118.length] at HO_4)
                          clear hob_
                          have HO120 := Aside0.mk hr17
                          clear hr17
                          replace q17 := eq_true q17
                          go_wp2_with (first | ((with_reducible refine gate_builtin (b := .append) (xs := #[.tmp 35, .tmp 36]) rfl ?_); at_builtin; refine Kd.R_append Kd.string (w0 := w) w.heap.size rfl (.tmp 35) (.tmp 36) 37 9 (.string ⟨#[]⟩) 16 rfl Tryd.underlying37 info9 rfl (by decide) (by omega) (.slice Ao16 y118.length co16) y118 (⟨#[]⟩ : ByteArray) [.string (⟨#[]⟩ : ByteArray)] (fun k_ => some k_ ≠ (.slice (some ad117) t114.length co4 : Value).ownBlock ∧ some k_ ≠ (.slice (some ad117) t114.length co4 : Value).ownBlock) (fun _ => False) rfl rfl ?aP (fun _ hk => hk.elim) ?aF ?aO ?aB ?aS ?aL ?_; (case aP => exact rfl); (case aB => exact (by repeat (first | (with_reducible first | exact HB.out | apply below_alloc | apply pw_below_drewN | apply below_drew1) | exact HB.out))); (case aF => exact (fun k_ hk => ⟨Kd.fresh' (Kd.R_lt (by (with_reducible repeat (first | apply Kd.R_alloc | apply Kd.R_drewN | apply Kd.R_drew)); exact HO_4.out)) k_ hk, Kd.fresh' (Kd.R_lt (by (with_reducible repeat (first | apply Kd.R_alloc | apply Kd.R_drewN | apply Kd.R_drew)); exact HO_11.out)) k_ hk⟩)); (case aO => exact (by (with_reducible repeat (first | apply Kd.R_alloc | apply Kd.R_drewN | apply Kd.R_drew)); exact HO120.out)); (case aS => exact (below_size (by repeat (first | (with_reducible first | exact HB.out | apply below_alloc | apply pw_below_drewN | apply below_drew1) | exact HB.out)))); (case aL => have := LMc13.out; omega); intro v122 w18 ho hb hg hat; rw [← Ny121.out] at ho; have n0_ := Aside0.mk (Kd.R_after (ok := (fun _ => True)) (by (with_reducible repeat (first | apply Kd.R_alloc | apply Kd.R_drewN | apply Kd.R_drew)); exact Kd.R_mono HO_4.out (fun _ hk => ⟨trivial, hk⟩)) hg hat); have n1_ := Aside0.mk (Kd.R_after (ok := (fun _ => True)) (by (with_reducible repeat (first | apply Kd.R_alloc | apply Kd.R_drewN | apply Kd.R_drew)); exact Kd.R_mono HO_11.out (fun _ hk => ⟨trivial, hk⟩)) hg hat); have n2_ := Aside0.mk (hb); have n3_ := Aside0.mk (ho); clear HO_4; clear HO_11; clear HB; clear HO120; have HO_4 := n0_; have HO_11 := n1_; have HB := n2_; have HO123 := n3_; clear n0_ n1_ n2_ n3_; clear ho hb hg hat) | ((with_reducible refine gate_builtin (b := .append) (xs := #[.tmp 46, .tmp 47]) rfl ?_); at_builtin; refine Kd.R_append Kd.string (w0 := w) w.heap.size rfl (.tmp 46) (.tmp 47) 37 9 (.string ⟨#[]⟩) 16 rfl Tryd.underlying37 info9 rfl (by decide) (by omega) v122 y121 (⟨#[]⟩ : ByteArray) [.string (⟨#[]⟩ : ByteArray)] (fun k_ => some k_ ≠ (.slice (some ad117) t114.length co4 : Value).ownBlock ∧ some k_ ≠ (.slice (some ad117) t114.length co4 : Value).ownBlock) (fun _ => False) rfl rfl ?aP (fun _ hk => hk.elim) ?aF ?aO ?aB ?aS ?aL ?_; (case aP => exact rfl); (case aB => exact (by repeat (first | (with_reducible first | exact HB.out | apply below_alloc | apply pw_below_drewN | apply below_drew1) | exact HB.out))); (case aF => exact (fun k_ hk => ⟨Kd.fresh' (Kd.R_lt (by (with_reducible repeat (first | apply Kd.R_alloc | apply Kd.R_drewN | apply Kd.R_drew)); exact HO_4.out)) k_ hk, Kd.fresh' (Kd.R_lt (by (with_reducible repeat (first | apply Kd.R_alloc | apply Kd.R_drewN | apply Kd.R_drew)); exact HO_11.out)) k_ hk⟩)); (case aO => exact (by (with_reducible repeat (first | apply Kd.R_alloc | apply Kd.R_drewN | apply Kd.R_drew)); exact HO123.out)); (case aS => exact (below_size (by repeat (first | (with_reducible first | exact HB.out | apply below_alloc | apply pw_below_drewN | apply below_drew1) | exact HB.out)))); (case aL => have := LMc15.out; omega); intro v125 w19 ho hb hg hat; rw [← Ny124.out] at ho; have n0_ := Aside0.mk (Kd.R_after (ok := (fun _ => True)) (by (with_reducible repeat (first | apply Kd.R_alloc | apply Kd.R_drewN | apply Kd.R_drew)); exact HO_4.out) hg hat); have n1_ := Aside0.mk (Kd.R_after (ok := (fun _ => True)) (by (with_reducible repeat (first | apply Kd.R_alloc | apply Kd.R_drewN | apply Kd.R_drew)); exact HO_11.out) hg hat); have n2_ := Aside0.mk (hb); have n3_ := Aside0.mk (ho); clear HO_4; clear HO_11; clear HB; clear HO123; have HO_4 := n0_; have HO_11 := n1_; have HB := n2_; have HO126 := n3_; clear n0_ n1_ n2_ n3_; clear ho hb hg hat))
                          go_roundg k1
                          case measure => have := HK1.out; omega
                          case rel => exact ⟨(y124), (wrap64 (x13_1 + 1)), (by first | rfl | (simp; done) | (simp [*]; done)), H', ⟨by have := HK1.out; omega⟩, ⟨by (with_reducible repeat (first | apply Kd.R_alloc | apply Kd.R_drewN | apply Kd.R_drew)); exact HO126.out⟩, ⟨by (with_reducible repeat (first | apply Kd.R_alloc | apply Kd.R_drewN | apply Kd.R_drew)); exact Kd.R_mono HO_4.out (fun _ hk => hk.2)⟩, ⟨by (with_reducible repeat (first | apply Kd.R_alloc | apply Kd.R_drewN | apply Kd.R_drew)); exact Kd.R_mono HO_11.out (fun _ hk => hk.2)⟩, ⟨by repeat (first | (with_reducible first | exact HB.out | apply below_alloc | apply pw_below_drewN | apply below_drew1) | exact HB.out)⟩⟩
                        · rw [if_neg c15] at H
                          exact absurd H (by simp)
                      · rw [if_neg c14] at H
                        have c14b0 : (x13_1 == (wrap64 ((t114.length : Int) - 1))) = false := beq_eq_false_iff_ne.mpr c14
                        have c14b1 : (x13_1 != (wrap64 ((t114.length : Int) - 1))) = true := bne_iff_ne.mpr c14
                        have H' := Aside0.mk H
                        clear H
                        have p117 : 0 ≤ (x13_1 : Int) := of_decide_eq_true (by first | (with_reducible assumption) | assumption)
                        have q117 : x13_1 < (t114.length : Int) := of_decide_eq_true (by first | (with_reducible assumption) | assumption)
                        obtain ⟨ad117, e117, hx117_0⟩ := Kd.at_string (Kd.R_reads' HO_11.out).2.2 x13_1 p117 q117
                        cases e117
                        replace p117 := eq_true p117
                        replace q117 := eq_true q117
                        obtain ⟨Ao20, co20, eo20⟩ := Kd.R_slice HO_3.out
                        subst eo20
                        have q21 : ((ji9) : Int) ≤ ((x3_1.length : Int) : Int) := of_decide_eq_true (by first | (with_reducible assumption) | assumption)
                        obtain ⟨i021, hi021, _, hsz21, _⟩ := info_parts info9
                        have hcut21 := cut_to (P := Tryd.prog) 37 9 .i64 Tryd.underlying37 hi021 Ao20 x3_1.length co20 (ji9) (of_decide_eq_true (by first | (with_reducible assumption) | assumption)) q21 (Kd.R_reads' HO_3.out).2.1
                        have hr21 := Kd.R_take (m := ((ji9) : Int).toNat) HO_3.out (by omega)
                        have hy21 : y118.length = ((ji9) : Int).toNat := (by rw [Ny118.out, List.length_take]; omega)
                        rw [← Ny118.out] at hr21
                        rw [← hy21] at hr21 hcut21
                        clear hy21 hi021 hsz21 HO_3
                        have hob_ : ∀ n m, (Value.slice Ao20 n co20).ownBlock = (Value.slice Ao20 m co20).ownBlock := fun n m => by cases Ao20 <;> rfl
                        (try simp only [hob_ x3_1.length y118.length] at HO_11)
                        (try simp only [hob_ x3_1.length y118.length] at HO_4)
                        clear hob_
                        have HO120 := Aside0.mk hr21
                        clear hr21
                        replace q21 := eq_true q21
                        go_wp2_with (first | ((with_reducible refine gate_builtin (b := .append) (xs := #[.tmp 35, .tmp 36]) rfl ?_); at_builtin; refine Kd.R_append Kd.string (w0 := w) w.heap.size rfl (.tmp 35) (.tmp 36) 37 9 (.string ⟨#[]⟩) 16 rfl Tryd.underlying37 info9 rfl (by decide) (by omega) (.slice Ao20 y118.length co20) y118 (⟨#[]⟩ : ByteArray) [.string (⟨#[]⟩ : ByteArray)] (fun k_ => some k_ ≠ (.slice (some ad117) t114.length co4 : Value).ownBlock ∧ some k_ ≠ (.slice (some ad117) t114.length co4 : Value).ownBlock) (fun _ => False) rfl rfl ?aP (fun _ hk => hk.elim) ?aF ?aO ?aB ?aS ?aL ?_; (case aP => exact rfl); (case aB => exact (by repeat (first | (with_reducible first | exact HB.out | apply below_alloc | apply pw_below_drewN | apply below_drew1) | exact HB.out))); (case aF => exact (fun k_ hk => ⟨Kd.fresh' (Kd.R_lt (by (with_reducible repeat (first | apply Kd.R_alloc | apply Kd.R_drewN | apply Kd.R_drew)); exact HO_4.out)) k_ hk, Kd.fresh' (Kd.R_lt (by (with_reducible repeat (first | apply Kd.R_alloc | apply Kd.R_drewN | apply Kd.R_drew)); exact HO_11.out)) k_ hk⟩)); (case aO => exact (by (with_reducible repeat (first | apply Kd.R_alloc | apply Kd.R_drewN | apply Kd.R_drew)); exact HO120.out)); (case aS => exact (below_size (by repeat (first | (with_reducible first | exact HB.out | apply below_alloc | apply pw_below_drewN | apply below_drew1) | exact HB.out)))); (case aL => have := LMc13.out; omega); intro v122 w22 ho hb hg hat; rw [← Ny121.out] at ho; have n0_ := Aside0.mk (Kd.R_after (ok := (fun _ => True)) (by (with_reducible repeat (first | apply Kd.R_alloc | apply Kd.R_drewN | apply Kd.R_drew)); exact Kd.R_mono HO_4.out (fun _ hk => ⟨trivial, hk⟩)) hg hat); have n1_ := Aside0.mk (Kd.R_after (ok := (fun _ => True)) (by (with_reducible repeat (first | apply Kd.R_alloc | apply Kd.R_drewN | apply Kd.R_drew)); exact Kd.R_mono HO_11.out (fun _ hk => ⟨trivial, hk⟩)) hg hat); have n2_ := Aside0.mk (hb); have n3_ := Aside0.mk (ho); clear HO_4; clear HO_11; clear HB; clear HO120; have HO_4 := n0_; have HO_11 := n1_; have HB := n2_; have HO123 := n3_; clear n0_ n1_ n2_ n3_; clear ho hb hg hat))
                        go_roundg k1
                        case measure => have := HK1.out; omega
                        case rel => exact ⟨(y121), (wrap64 (x13_1 + 1)), (by first | rfl | (simp; done) | (simp [*]; done)), H', ⟨by have := HK1.out; omega⟩, ⟨by (with_reducible repeat (first | apply Kd.R_alloc | apply Kd.R_drewN | apply Kd.R_drew)); exact HO123.out⟩, ⟨by (with_reducible repeat (first | apply Kd.R_alloc | apply Kd.R_drewN | apply Kd.R_drew)); exact Kd.R_mono HO_4.out (fun _ hk => hk.2)⟩, ⟨by (with_reducible repeat (first | apply Kd.R_alloc | apply Kd.R_drewN | apply Kd.R_drew)); exact Kd.R_mono HO_11.out (fun _ hk => hk.2)⟩, ⟨by repeat (first | (with_reducible first | exact HB.out | apply below_alloc | apply pw_below_drewN | apply below_drew1) | exact HB.out)⟩⟩
                    · rw [if_neg c13] at H
                      exact absurd H (by simp)
                  · rw [if_neg c12] at H
                    have c12b0 : ((y118.length : Int) == 0) = false := beq_eq_false_iff_ne.mpr c12
                    have c12b1 : ((y118.length : Int) != 0) = true := bne_iff_ne.mpr c12
                    have c12b2 : ¬ (y118 = []) := fun h_ => c12 (by rw [h_]; rfl)
                    by_cases c23 : x13_1 = (wrap64 ((t114.length : Int) - 1))
                    · rw [if_pos c23] at H
                      have c23b0 : (x13_1 == (wrap64 ((t114.length : Int) - 1))) = true := beq_iff_eq.mpr c23
                      have c23b1 : (x13_1 != (wrap64 ((t114.length : Int) - 1))) = false := bne_eq_false_iff_eq.mpr c23
                      clear c23
                      by_cases c24 : y118.length < 8796093022208
                      · rw [if_pos c24] at H
                        have LMc24 := Aside0.mk c24
                        clear c24
                        obtain ⟨y127, hy127⟩ : ∃ y_ : List ByteArray, y_ = (y118 ++ [(⟨#[]⟩ : ByteArray)]) := ⟨_, rfl⟩
                        replace H : (url_Clean.l0 k1 y127 t114 t114 (t114.length : Int) (wrap64 (x13_1 + 1))) = some r := by first | (rw [hy127]; with_reducible exact H) | (have H2_ := (Option.bind_some _ _).symm.trans H; rw [hy127]; with_reducible exact H2_) | (have H2_ := (Option.bind_some _ _).symm.trans H; with_reducible exact H2_) | with_reducible exact H | (rw [hy127]; exact H) | exact H
                        have Ny127 := Aside0.mk hy127
                        clear hy127
                        have H' := Aside0.mk H
                        clear H
                        have p117 : 0 ≤ (x13_1 : Int) := of_decide_eq_true (by first | (with_reducible assumption) | assumption)
                        have q117 : x13_1 < (t114.length : Int) := of_decide_eq_true (by first | (with_reducible assumption) | assumption)
                        obtain ⟨ad117, e117, hx117_0⟩ := Kd.at_string (Kd.R_reads' HO_11.out).2.2 x13_1 p117 q117
                        cases e117
                        replace p117 := eq_true p117
                        replace q117 := eq_true q117
                        obtain ⟨Ao25, co25, eo25⟩ := Kd.R_slice HO_3.out
                        subst eo25
                        have q26 : ((ji9) : Int) ≤ ((x3_1.length : Int) : Int) := of_decide_eq_true (by first | (with_reducible assumption) | assumption)
                        obtain ⟨i026, hi026, _, hsz26, _⟩ := info_parts info9
                        have hcut26 := cut_to (P := Tryd.prog) 37 9 .i64 Tryd.underlying37 hi026 Ao25 x3_1.length co25 (ji9) (of_decide_eq_true (by first | (with_reducible assumption) | assumption)) q26 (Kd.R_reads' HO_3.out).2.1
                        have hr26 := Kd.R_take (m := ((ji9) : Int).toNat) HO_3.out (by omega)
                        have hy26 : y118.length = ((ji9) : Int).toNat := (by rw [Ny118.out, List.length_take]; omega)
                        rw [← Ny118.out] at hr26
                        rw [← hy26] at hr26 hcut26
                        clear hy26 hi026 hsz26 HO_3
                        have hob_ : ∀ n m, (Value.slice Ao25 n co25).ownBlock = (Value.slice Ao25 m co25).ownBlock := fun n m => by cases Ao25 <;> rfl
                        (try simp only [hob_ x3_1.length y118.length] at HO_11)
                        (try simp only [hob_ x3_1.length y118.length] at HO_4)
                        clear hob_
                        have HO120 := Aside0.mk hr26
                        clear hr26
                        replace q26 := eq_true q26
                        go_wp2_with (first | ((with_reducible refine gate_builtin (b := .append) (xs := #[.tmp 46, .tmp 47]) rfl ?_); at_builtin; refine Kd.R_append Kd.string (w0 := w) w.heap.size rfl (.tmp 46) (.tmp 47) 37 9 (.string ⟨#[]⟩) 16 rfl Tryd.underlying37 info9 rfl (by decide) (by omega) (.slice Ao25 y118.length co25) y118 (⟨#[]⟩ : ByteArray) [.string (⟨#[]⟩ : ByteArray)] (fun k_ => some k_ ≠ (.slice (some ad117) t114.length co4 : Value).ownBlock ∧ some k_ ≠ (.slice (some ad117) t114.length co4 : Value).ownBlock) (fun _ => False) rfl rfl ?aP (fun _ hk => hk.elim) ?aF ?aO ?aB ?aS ?aL ?_; (case aP => exact rfl); (case aB => exact (by repeat (first | (with_reducible first | exact HB.out | apply below_alloc | apply pw_below_drewN | apply below_drew1) | exact HB.out))); (case aF => exact (fun k_ hk => ⟨Kd.fresh' (Kd.R_lt (by (with_reducible repeat (first | apply Kd.R_alloc | apply Kd.R_drewN | apply Kd.R_drew)); exact HO_4.out)) k_ hk, Kd.fresh' (Kd.R_lt (by (with_reducible repeat (first | apply Kd.R_alloc | apply Kd.R_drewN | apply Kd.R_drew)); exact HO_11.out)) k_ hk⟩)); (case aO => exact (by (with_reducible repeat (first | apply Kd.R_alloc | apply Kd.R_drewN | apply Kd.R_drew)); exact HO120.out)); (case aS => exact (below_size (by repeat (first | (with_reducible first | exact HB.out | apply below_alloc | apply pw_below_drewN | apply below_drew1) | exact HB.out)))); (case aL => have := LMc24.out; omega); intro v128 w27 ho hb hg hat; rw [← Ny127.out] at ho; have n0_ := Aside0.mk (Kd.R_after (ok := (fun _ => True)) (by (with_reducible repeat (first | apply Kd.R_alloc | apply Kd.R_drewN | apply Kd.R_drew)); exact Kd.R_mono HO_4.out (fun _ hk => ⟨trivial, hk⟩)) hg hat); have n1_ := Aside0.mk (Kd.R_after (ok := (fun _ => True)) (by (with_reducible repeat (first | apply Kd.R_alloc | apply Kd.R_drewN | apply Kd.R_drew)); exact Kd.R_mono HO_11.out (fun _ hk => ⟨trivial, hk⟩)) hg hat); have n2_ := Aside0.mk (hb); have n3_ := Aside0.mk (ho); clear HO_4; clear HO_11; clear HB; clear HO120; have HO_4 := n0_; have HO_11 := n1_; have HB := n2_; have HO129 := n3_; clear n0_ n1_ n2_ n3_; clear ho hb hg hat))
                        go_roundg k1
                        case measure => have := HK1.out; omega
                        case rel => exact ⟨(y127), (wrap64 (x13_1 + 1)), (by first | rfl | (simp; done) | (simp [*]; done)), H', ⟨by have := HK1.out; omega⟩, ⟨by (with_reducible repeat (first | apply Kd.R_alloc | apply Kd.R_drewN | apply Kd.R_drew)); exact HO129.out⟩, ⟨by (with_reducible repeat (first | apply Kd.R_alloc | apply Kd.R_drewN | apply Kd.R_drew)); exact Kd.R_mono HO_4.out (fun _ hk => hk.2)⟩, ⟨by (with_reducible repeat (first | apply Kd.R_alloc | apply Kd.R_drewN | apply Kd.R_drew)); exact Kd.R_mono HO_11.out (fun _ hk => hk.2)⟩, ⟨by repeat (first | (with_reducible first | exact HB.out | apply below_alloc | apply pw_below_drewN | apply below_drew1) | exact HB.out)⟩⟩
                      · rw [if_neg c24] at H
                        exact absurd H (by simp)
                    · rw [if_neg c23] at H
                      have c23b0 : (x13_1 == (wrap64 ((t114.length : Int) - 1))) = false := beq_eq_false_iff_ne.mpr c23
                      have c23b1 : (x13_1 != (wrap64 ((t114.length : Int) - 1))) = true := bne_iff_ne.mpr c23
                      have H' := Aside0.mk H
                      clear H
                      have p117 : 0 ≤ (x13_1 : Int) := of_decide_eq_true (by first | (with_reducible assumption) | assumption)
                      have q117 : x13_1 < (t114.length : Int) := of_decide_eq_true (by first | (with_reducible assumption) | assumption)
                      obtain ⟨ad117, e117, hx117_0⟩ := Kd.at_string (Kd.R_reads' HO_11.out).2.2 x13_1 p117 q117
                      cases e117
                      replace p117 := eq_true p117
                      replace q117 := eq_true q117
                      obtain ⟨Ao28, co28, eo28⟩ := Kd.R_slice HO_3.out
                      subst eo28
                      have q29 : ((ji9) : Int) ≤ ((x3_1.length : Int) : Int) := of_decide_eq_true (by first | (with_reducible assumption) | assumption)
                      obtain ⟨i029, hi029, _, hsz29, _⟩ := info_parts info9
                      have hcut29 := cut_to (P := Tryd.prog) 37 9 .i64 Tryd.underlying37 hi029 Ao28 x3_1.length co28 (ji9) (of_decide_eq_true (by first | (with_reducible assumption) | assumption)) q29 (Kd.R_reads' HO_3.out).2.1
                      have hr29 := Kd.R_take (m := ((ji9) : Int).toNat) HO_3.out (by omega)
                      have hy29 : y118.length = ((ji9) : Int).toNat := (by rw [Ny118.out, List.length_take]; omega)
                      rw [← Ny118.out] at hr29
                      rw [← hy29] at hr29 hcut29
                      clear hy29 hi029 hsz29 HO_3
                      have hob_ : ∀ n m, (Value.slice Ao28 n co28).ownBlock = (Value.slice Ao28 m co28).ownBlock := fun n m => by cases Ao28 <;> rfl
                      (try simp only [hob_ x3_1.length y118.length] at HO_11)
                      (try simp only [hob_ x3_1.length y118.length] at HO_4)
                      clear hob_
                      have HO120 := Aside0.mk hr29
                      clear hr29
                      replace q29 := eq_true q29
                      go_wp2
                      go_roundg k1
                      case measure => have := HK1.out; omega
                      case rel => exact ⟨(y118), (wrap64 (x13_1 + 1)), (by first | rfl | (simp; done) | (simp [*]; done)), H', ⟨by have := HK1.out; omega⟩, ⟨by (with_reducible repeat (first | apply Kd.R_alloc | apply Kd.R_drewN | apply Kd.R_drew)); exact HO120.out⟩, ⟨by (with_reducible repeat (first | apply Kd.R_alloc | apply Kd.R_drewN | apply Kd.R_drew)); exact HO_4.out⟩, ⟨by (with_reducible repeat (first | apply Kd.R_alloc | apply Kd.R_drewN | apply Kd.R_drew)); exact HO_11.out⟩, ⟨by repeat (first | (with_reducible first | exact HB.out | apply below_alloc | apply pw_below_drewN | apply below_drew1) | exact HB.out)⟩⟩
                · rw [if_neg c11] at H
                  exact absurd H (by simp)
              · rw [if_neg c10] at H
                exact absurd H (by simp)
            · rw [if_neg c8] at H
              have c8b0 : ((rdOf ByteArray.empty t114 x13_1).toList == ([46, 46] : List UInt8)) = false := beq_eq_false_iff_ne.mpr c8
              have c8b1 : ((rdOf ByteArray.empty t114 x13_1).toList != ([46, 46] : List UInt8)) = true := bne_iff_ne.mpr c8
              by_cases c30 : (rdOf ByteArray.empty t114 x13_1).toList = ([46] : List UInt8)
              · rw [if_pos c30] at H
                have c30b0 : ((rdOf ByteArray.empty t114 x13_1).toList == ([46] : List UInt8)) = true := beq_iff_eq.mpr c30
                have c30b1 : ((rdOf ByteArray.empty t114 x13_1).toList != ([46] : List UInt8)) = false := bne_eq_false_iff_eq.mpr c30
                clear c30
                by_cases c31 : x13_1 = (wrap64 ((t114.length : Int) - 1))
                · rw [if_pos c31] at H
                  have c31b0 : (x13_1 == (wrap64 ((t114.length : Int) - 1))) = true := beq_iff_eq.mpr c31
                  have c31b1 : (x13_1 != (wrap64 ((t114.length : Int) - 1))) = false := bne_eq_false_iff_eq.mpr c31
                  clear c31
                  by_cases c32 : x3_1.length < 8796093022208
                  · rw [if_pos c32] at H
                    have LMc32 := Aside0.mk c32
                    clear c32
                    obtain ⟨y130, hy130⟩ : ∃ y_ : List ByteArray, y_ = (x3_1 ++ [(⟨#[]⟩ : ByteArray)]) := ⟨_, rfl⟩
                    replace H : (url_Clean.l0 k1 y130 t114 t114 (t114.length : Int) (wrap64 (x13_1 + 1))) = some r := by first | (rw [hy130]; with_reducible exact H) | (have H2_ := (Option.bind_some _ _).symm.trans H; rw [hy130]; with_reducible exact H2_) | (have H2_ := (Option.bind_some _ _).symm.trans H; with_reducible exact H2_) | with_reducible exact H | (rw [hy130]; exact H) | exact H
                    have Ny130 := Aside0.mk hy130
                    clear hy130
                    have H' := Aside0.mk H
                    clear H
                    have p117 : 0 ≤ (x13_1 : Int) := of_decide_eq_true (by first | (with_reducible assumption) | assumption)
                    have q117 : x13_1 < (t114.length : Int) := of_decide_eq_true (by first | (with_reducible assumption) | assumption)
                    obtain ⟨ad117, e117, hx117_0⟩ := Kd.at_string (Kd.R_reads' HO_11.out).2.2 x13_1 p117 q117
                    cases e117
                    replace p117 := eq_true p117
                    replace q117 := eq_true q117
                    go_wp2_with (first | ((with_reducible refine gate_builtin (b := .append) (xs := #[.tmp 46, .tmp 47]) rfl ?_); at_builtin; refine Kd.R_append Kd.string (w0 := w) w.heap.size rfl (.tmp 46) (.tmp 47) 37 9 (.string ⟨#[]⟩) 16 rfl Tryd.underlying37 info9 rfl (by decide) (by omega) u3 x3_1 (⟨#[]⟩ : ByteArray) [.string (⟨#[]⟩ : ByteArray)] (fun k_ => some k_ ≠ (.slice (some ad117) t114.length co4 : Value).ownBlock ∧ some k_ ≠ (.slice (some ad117) t114.length co4 : Value).ownBlock) (fun _ => False) rfl rfl ?aP (fun _ hk => hk.elim) ?aF ?aO ?aB ?aS ?aL ?_; (case aP => exact rfl); (case aB => exact (by repeat (first | (with_reducible first | exact HB.out | apply below_alloc | apply pw_below_drewN | apply below_drew1) | exact HB.out))); (case aF => exact (fun k_ hk => ⟨Kd.fresh' (Kd.R_lt (by (with_reducible repeat (first | apply Kd.R_alloc | apply Kd.R_drewN | apply Kd.R_drew)); exact HO_4.out)) k_ hk, Kd.fresh' (Kd.R_lt (by (with_reducible repeat (first | apply Kd.R_alloc | apply Kd.R_drewN | apply Kd.R_drew)); exact HO_11.out)) k_ hk⟩)); (case aO => exact (by (with_reducible repeat (first | apply Kd.R_alloc | apply Kd.R_drewN | apply Kd.R_drew)); exact HO_3.out)); (case aS => exact (below_size (by repeat (first | (with_reducible first | exact HB.out | apply below_alloc | apply pw_below_drewN | apply below_drew1) | exact HB.out)))); (case aL => have := LMc32.out; omega); intro v131 w33 ho hb hg hat; rw [← Ny130.out] at ho; have n0_ := Aside0.mk (Kd.R_after (ok := (fun _ => True)) (by (with_reducible repeat (first | apply Kd.R_alloc | apply Kd.R_drewN | apply Kd.R_drew)); exact Kd.R_mono HO_4.out (fun _ hk => ⟨trivial, hk⟩)) hg hat); have n1_ := Aside0.mk (Kd.R_after (ok := (fun _ => True)) (by (with_reducible repeat (first | apply Kd.R_alloc | apply Kd.R_drewN | apply Kd.R_drew)); exact Kd.R_mono HO_11.out (fun _ hk => ⟨trivial, hk⟩)) hg hat); have n2_ := Aside0.mk (hb); have n3_ := Aside0.mk (ho); clear HO_4; clear HO_11; clear HB; clear HO_3; have HO_4 := n0_; have HO_11 := n1_; have HB := n2_; have HO132 := n3_; clear n0_ n1_ n2_ n3_; clear ho hb hg hat))
                    go_roundg k1
                    case measure => have := HK1.out; omega
                    case rel => exact ⟨(y130), (wrap64 (x13_1 + 1)), (by first | rfl | (simp; done) | (simp [*]; done)), H', ⟨by have := HK1.out; omega⟩, ⟨by (with_reducible repeat (first | apply Kd.R_alloc | apply Kd.R_drewN | apply Kd.R_drew)); exact HO132.out⟩, ⟨by (with_reducible repeat (first | apply Kd.R_alloc | apply Kd.R_drewN | apply Kd.R_drew)); exact Kd.R_mono HO_4.out (fun _ hk => hk.2)⟩, ⟨by (with_reducible repeat (first | apply Kd.R_alloc | apply Kd.R_drewN | apply Kd.R_drew)); exact Kd.R_mono HO_11.out (fun _ hk => hk.2)⟩, ⟨by repeat (first | (with_reducible first | exact HB.out | apply below_alloc | apply pw_below_drewN | apply below_drew1) | exact HB.out)⟩⟩
                  · rw [if_neg c32] at H
                    exact absurd H (by simp)
                · rw [if_neg c31] at H
                  have c31b0 : (x13_1 == (wrap64 ((t114.length : Int) - 1))) = false := beq_eq_false_iff_ne.mpr c31
                  have c31b1 : (x13_1 != (wrap64 ((t114.length : Int) - 1))) = true := bne_iff_ne.mpr c31
                  have H' := Aside0.mk H
                  clear H
                  have p117 : 0 ≤ (x13_1 : Int) := of_decide_eq_true (by first | (with_reducible assumption) | assumption)
                  have q117 : x13_1 < (t114.length : Int) := of_decide_eq_true (by first | (with_reducible assumption) | assumption)
                  obtain ⟨ad117, e117, hx117_0⟩ := Kd.at_string (Kd.R_reads' HO_11.out).2.2 x13_1 p117 q117
                  cases e117
                  replace p117 := eq_true p117
                  replace q117 := eq_true q117
                  go_wp2
                  go_roundg k1
                  case measure => have := HK1.out; omega
                  case rel => exact ⟨(x3_1), (wrap64 (x13_1 + 1)), (by first | rfl | (simp; done) | (simp [*]; done)), H', ⟨by have := HK1.out; omega⟩, ⟨by (with_reducible repeat (first | apply Kd.R_alloc | apply Kd.R_drewN | apply Kd.R_drew)); exact HO_3.out⟩, ⟨by (with_reducible repeat (first | apply Kd.R_alloc | apply Kd.R_drewN | apply Kd.R_drew)); exact HO_4.out⟩, ⟨by (with_reducible repeat (first | apply Kd.R_alloc | apply Kd.R_drewN | apply Kd.R_drew)); exact HO_11.out⟩, ⟨by repeat (first | (with_reducible first | exact HB.out | apply below_alloc | apply pw_below_drewN | apply below_drew1) | exact HB.out)⟩⟩
              · rw [if_neg c30] at H
                have c30b0 : ((rdOf ByteArray.empty t114 x13_1).toList == ([46] : List UInt8)) = false := beq_eq_false_iff_ne.mpr c30
                have c30b1 : ((rdOf ByteArray.empty t114 x13_1).toList != ([46] : List UInt8)) = true := bne_iff_ne.mpr c30
                by_cases c34 : x3_1.length < 8796093022208
                · rw [if_pos c34] at H
                  have LMc34 := Aside0.mk c34
                  clear c34
                  obtain ⟨y133, hy133⟩ : ∃ y_ : List ByteArray, y_ = (x3_1 ++ [rdOf ByteArray.empty t114 x13_1]) := ⟨_, rfl⟩
                  replace H : (url_Clean.l0 k1 y133 t114 t114 (t114.length : Int) (wrap64 (x13_1 + 1))) = some r := by first | (rw [hy133]; with_reducible exact H) | (have H2_ := (Option.bind_some _ _).symm.trans H; rw [hy133]; with_reducible exact H2_) | (have H2_ := (Option.bind_some _ _).symm.trans H; with_reducible exact H2_) | with_reducible exact H | (rw [hy133]; exact H) | exact H
                  have Ny133 := Aside0.mk hy133
                  clear hy133
                  have H' := Aside0.mk H
                  clear H
                  have p117 : 0 ≤ (x13_1 : Int) := of_decide_eq_true (by first | (with_reducible assumption) | assumption)
                  have q117 : x13_1 < (t114.length : Int) := of_decide_eq_true (by first | (with_reducible assumption) | assumption)
                  obtain ⟨ad117, e117, hx117_0⟩ := Kd.at_string (Kd.R_reads' HO_11.out).2.2 x13_1 p117 q117
                  cases e117
                  replace p117 := eq_true p117
                  replace q117 := eq_true q117
                  go_wp2_with (first | ((with_reducible refine gate_builtin (b := .append) (xs := #[.tmp 41, .tmp 43]) rfl ?_); at_builtin; refine Kd.R_append Kd.string (w0 := w) w.heap.size rfl (.tmp 41) (.tmp 43) 37 9 (.string ⟨#[]⟩) 16 rfl Tryd.underlying37 info9 rfl (by decide) (by omega) u3 x3_1 (rdOf ByteArray.empty t114 x13_1) [.string (rdOf ByteArray.empty t114 x13_1)] (fun k_ => some k_ ≠ (.slice (some ad117) t114.length co4 : Value).ownBlock ∧ some k_ ≠ (.slice (some ad117) t114.length co4 : Value).ownBlock) (fun _ => False) rfl rfl ?aP (fun _ hk => hk.elim) ?aF ?aO ?aB ?aS ?aL ?_; (case aP => exact rfl); (case aB => exact (by repeat (first | (with_reducible first | exact HB.out | apply below_alloc | apply pw_below_drewN | apply below_drew1) | exact HB.out))); (case aF => exact (fun k_ hk => ⟨Kd.fresh' (Kd.R_lt (by (with_reducible repeat (first | apply Kd.R_alloc | apply Kd.R_drewN | apply Kd.R_drew)); exact HO_4.out)) k_ hk, Kd.fresh' (Kd.R_lt (by (with_reducible repeat (first | apply Kd.R_alloc | apply Kd.R_drewN | apply Kd.R_drew)); exact HO_11.out)) k_ hk⟩)); (case aO => exact (by (with_reducible repeat (first | apply Kd.R_alloc | apply Kd.R_drewN | apply Kd.R_drew)); exact HO_3.out)); (case aS => exact (below_size (by repeat (first | (with_reducible first | exact HB.out | apply below_alloc | apply pw_below_drewN | apply below_drew1) | exact HB.out)))); (case aL => have := LMc34.out; omega); intro v134 w35 ho hb hg hat; rw [← Ny133.out] at ho; have n0_ := Aside0.mk (Kd.R_after (ok := (fun _ => True)) (by (with_reducible repeat (first | apply Kd.R_alloc | apply Kd.R_drewN | apply Kd.R_drew)); exact Kd.R_mono HO_4.out (fun _ hk => ⟨trivial, hk⟩)) hg hat); have n1_ := Aside0.mk (Kd.R_after (ok := (fun _ => True)) (by (with_reducible repeat (first | apply Kd.R_alloc | apply Kd.R_drewN | apply Kd.R_drew)); exact Kd.R_mono HO_11.out (fun _ hk => ⟨trivial, hk⟩)) hg hat); have n2_ := Aside0.mk (hb); have n3_ := Aside0.mk (ho); clear HO_4; clear HO_11; clear HB; clear HO_3; have HO_4 := n0_; have HO_11 := n1_; have HB := n2_; have HO135 := n3_; clear n0_ n1_ n2_ n3_; clear ho hb hg hat))
                  go_roundg k1
                  case measure => have := HK1.out; omega
                  case rel => exact ⟨(y133), (wrap64 (x13_1 + 1)), (by first | rfl | (simp; done) | (simp [*]; done)), H', ⟨by have := HK1.out; omega⟩, ⟨by (with_reducible repeat (first | apply Kd.R_alloc | apply Kd.R_drewN | apply Kd.R_drew)); exact HO135.out⟩, ⟨by (with_reducible repeat (first | apply Kd.R_alloc | apply Kd.R_drewN | apply Kd.R_drew)); exact Kd.R_mono HO_4.out (fun _ hk => hk.2)⟩, ⟨by (with_reducible repeat (first | apply Kd.R_alloc | apply Kd.R_drewN | apply Kd.R_drew)); exact Kd.R_mono HO_11.out (fun _ hk => hk.2)⟩, ⟨by repeat (first | (with_reducible first | exact HB.out | apply below_alloc | apply pw_below_drewN | apply below_drew1) | exact HB.out)⟩⟩
                · rw [if_neg c34] at H
                  exact absurd H (by simp)
          · rw [if_neg c7] at H
            exact absurd H (by simp)
        · rw [if_neg c6] at H
          exact absurd H (by simp)
      · rw [if_neg c5] at H
        have c5b0 : decide (x13_1 < (t114.length : Int)) = false := decide_eq_false c5
        clear c5
        replace H := Option.bind_eq_some_iff.mp H
        obtain ⟨t136, A360, H⟩ := H
        replace H : ((strings_HasPrefix.f t136 (⟨#[47]⟩ : ByteArray)).bind fun t137 => (if t137 = true then (some t136) else (if 1 + t136.size ≤ 9223372036854775807 then (some ((⟨#[47]⟩ : ByteArray) ++ t136)) else (none)))) = some r := H
        have A36 := Aside0.mk A360
        clear A360
        replace H := Option.bind_eq_some_iff.mp H
        obtain ⟨t137, A370, H⟩ := H
        replace H : (if t137 = true then (some t136) else (if 1 + t136.size ≤ 9223372036854775807 then (some ((⟨#[47]⟩ : ByteArray) ++ t136)) else (none))) = some r := H
        have A37 := Aside0.mk A370
        clear A370
        by_cases c38 : t137 = true
        · subst c38
          have H1 : (some t136) = some r := by rw [if_pos rfl] at H; exact H
          clear H
          have H := H1
          clear H1
          obtain rfl := Option.some.inj H
          obtain ⟨Ao39, co39, eo39⟩ := Kd.R_slice HO_3.out
          subst eo39
          go_wp2_with (first | ((with_reducible refine gate_callee (f := 20) rfl ?_); refine goesL_ (some 51) rfl rfl Tryd.func20 (by kernel_rfl) rfl #[.slice Ao39 x3_1.length co39, .string (⟨#[47]⟩ : ByteArray)] rfl (by (try simp only [List.map_toArray, List.map_cons, List.map_nil]); first | done | rfl | (simp only [List.length_drop, List.length_take]; rfl)) ?_; (with_reducible refine (Go.Proofs.YtpnofnmecjagcaaDoor.Ext.strings_Join.calls _ _ x3_1 (⟨#[47]⟩ : ByteArray) t136 _ ?side1 ?side2 A36.out).mono ?_); (case side1 => repeat (first | exact (Kd.R_reads' HO_3.out).2.2 | (with_reducible refine Kd.C_alloc ?_ _) | (with_reducible refine Kd.C_drewN ?_ _) | (with_reducible refine Kd.C_drew ?_))); (case side2 => exact (Kd.R_reads' HO_3.out).2.1); rintro e w40 ⟨rfl, hb⟩; refine ⟨_, rfl, ?_⟩; have n0_ := Aside0.mk (Kd.R_below (by (with_reducible repeat (first | apply Kd.R_alloc | apply Kd.R_drewN | apply Kd.R_drew)); exact HO_3.out) hb); have n1_ := Aside0.mk (Kd.R_below (by (with_reducible repeat (first | apply Kd.R_alloc | apply Kd.R_drewN | apply Kd.R_drew)); exact HO_4.out) hb); have n2_ := Aside0.mk (Kd.R_below (by (with_reducible repeat (first | apply Kd.R_alloc | apply Kd.R_drewN | apply Kd.R_drew)); exact HO_11.out) hb); have n3_ := Aside0.mk (below_step (by repeat (first | (with_reducible first | exact HB.out | apply below_alloc | apply pw_below_drewN | apply below_drew1) | exact HB.out)) hb); clear HO_3; clear HO_4; clear HO_11; clear HB; have HO_3 := n0_; have HO_4 := n1_; have HO_11 := n2_; have HB := n3_; clear n0_ n1_ n2_ n3_; (try clear hb); (try clear hb2); (try clear hk); (try clear hi)) | ((with_reducible refine gate_callee (f := 21) rfl ?_); refine goesL_ (some 53) rfl rfl Tryd.func21 (by kernel_rfl) rfl #[.string t136, .string (⟨#[47]⟩ : ByteArray)] rfl (by (try simp only [List.map_toArray, List.map_cons, List.map_nil]); first | done | rfl | (simp only [List.length_drop, List.length_take]; rfl)) ?_; (with_reducible refine (strings_HasPrefix.calls t136 (⟨#[47]⟩ : ByteArray) true _ A37.out).mono ?_); rintro e w' ⟨rfl, ⟨nd, rfl⟩⟩; refine ⟨_, rfl, ?_⟩))
          go_ret
          exact ⟨by first | rfl | (simp [errW_none, errW_some] <;> rfl) | (simp [*, errW_none, errW_some] <;> rfl), by repeat (first | (with_reducible first | exact HB.out | apply below_alloc | apply pw_below_drewN | apply below_drew1) | exact HB.out)⟩
        · replace c38 := Bool.eq_false_iff.mpr c38
          subst c38
          have H1 : (if 1 + t136.size ≤ 9223372036854775807 then (some ((⟨#[47]⟩ : ByteArray) ++ t136)) else (none)) = some r := by rw [if_neg (show ¬ (false = true) by decide)] at H; exact H
          clear H
          have H := H1
          clear H1
          by_cases c41 : 1 + t136.size ≤ 9223372036854775807
          · rw [if_pos c41] at H
            have c41b0 := eq_true c41
            have c41b1 : decide (1 + t136.size ≤ 9223372036854775807) = true := decide_eq_true c41
            try have c41b2 : (9223372036854775807 < 1 + t136.size) = False := eq_false (Nat.not_lt.2 c41)
            obtain rfl := Option.some.inj H
            obtain ⟨Ao42, co42, eo42⟩ := Kd.R_slice HO_3.out
            subst eo42
            go_wp2_with (first | ((with_reducible refine gate_callee (f := 20) rfl ?_); refine goesL_ (some 51) rfl rfl Tryd.func20 (by kernel_rfl) rfl #[.slice Ao42 x3_1.length co42, .string (⟨#[47]⟩ : ByteArray)] rfl (by (try simp only [List.map_toArray, List.map_cons, List.map_nil]); first | done | rfl | (simp only [List.length_drop, List.length_take]; rfl)) ?_; (with_reducible refine (Go.Proofs.YtpnofnmecjagcaaDoor.Ext.strings_Join.calls _ _ x3_1 (⟨#[47]⟩ : ByteArray) t136 _ ?side1 ?side2 A36.out).mono ?_); (case side1 => repeat (first | exact (Kd.R_reads' HO_3.out).2.2 | (with_reducible refine Kd.C_alloc ?_ _) | (with_reducible refine Kd.C_drewN ?_ _) | (with_reducible refine Kd.C_drew ?_))); (case side2 => exact (Kd.R_reads' HO_3.out).2.1); rintro e w43 ⟨rfl, hb⟩; refine ⟨_, rfl, ?_⟩; have n0_ := Aside0.mk (Kd.R_below (by (with_reducible repeat (first | apply Kd.R_alloc | apply Kd.R_drewN | apply Kd.R_drew)); exact HO_3.out) hb); have n1_ := Aside0.mk (Kd.R_below (by (with_reducible repeat (first | apply Kd.R_alloc | apply Kd.R_drewN | apply Kd.R_drew)); exact HO_4.out) hb); have n2_ := Aside0.mk (Kd.R_below (by (with_reducible repeat (first | apply Kd.R_alloc | apply Kd.R_drewN | apply Kd.R_drew)); exact HO_11.out) hb); have n3_ := Aside0.mk (below_step (by repeat (first | (with_reducible first | exact HB.out | apply below_alloc | apply pw_below_drewN | apply below_drew1) | exact HB.out)) hb); clear HO_3; clear HO_4; clear HO_11; clear HB; have HO_3 := n0_; have HO_4 := n1_; have HO_11 := n2_; have HB := n3_; clear n0_ n1_ n2_ n3_; (try clear hb); (try clear hb2); (try clear hk); (try clear hi)) | ((with_reducible refine gate_callee (f := 21) rfl ?_); refine goesL_ (some 53) rfl rfl Tryd.func21 (by kernel_rfl) rfl #[.string t136, .string (⟨#[47]⟩ : ByteArray)] rfl (by (try simp only [List.map_toArray, List.map_cons, List.map_nil]); first | done | rfl | (simp only [List.length_drop, List.length_take]; rfl)) ?_; (with_reducible refine (strings_HasPrefix.calls t136 (⟨#[47]⟩ : ByteArray) false _ A37.out).mono ?_); rintro e w' ⟨rfl, ⟨nd, rfl⟩⟩; refine ⟨_, rfl, ?_⟩))
            go_ret
            exact ⟨by first | rfl | (simp [errW_none, errW_some] <;> rfl) | (simp [*, errW_none, errW_some] <;> rfl), by repeat (first | (with_reducible first | exact HB.out | apply below_alloc | apply pw_below_drewN | apply below_drew1) | exact HB.out)⟩
          · rw [if_neg c41] at H
            exact absurd H (by simp)
end Go.Proofs.YtpnofnmecjagcaaDoor.XB
