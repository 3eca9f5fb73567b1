import Derived.Test.YtpnofnmecjagcaaDoorKcXCx0
-- Written by a program (wip/tools/xprint.py) out of the loaded functions: contracts of Go functions, and the functions that they compute.
namespace Go.Proofs.YtpnofnmecjagcaaDoor.XC
open Go.RowKit Go.Proofs.YtpnofnmecjagcaaDoor.Ext Go.Proofs.YtpnofnmecjagcaaDoorW.PrintWords Go.Proofs.YtpnofnmecjagcaaDoorW.PrintLast Go.Proofs.YtpnofnmecjagcaaDoorW.PrintMore
attribute [local go_sem] max2_int min2_int max_two min_two max_three min_three max_four min_four   -- for this text's walks alone
set_option linter.unusedVariables false
set_option linter.unusedSimpArgs false
/-! ### decorumref04_Clean: function 14 -/
mutual
def decorumref04_Clean.l0 : Nat → List ByteArray → List ByteArray → Int → Option (ByteArray)
  | 0, _, _, _ => none
  | k + 1, x3, x4, x5 => if x5 < (x3.length : Int) then (if 0 ≤ x5 then (if ((rdOf ByteArray.empty x3 x5).toList = ([46, 46] : List UInt8)) then (decorumref04_Clean.j1 k x3 x4 x5 ((rdOf ByteArray.empty x3 x5).toList == ([46, 46] : List UInt8)) false) else (decorumref04_Clean.j1 k x3 x4 x5 ((rdOf ByteArray.empty x3 x5).toList == ([46, 46] : List UInt8)) ((rdOf ByteArray.empty x3 x5).toList != ([46] : List UInt8)))) else (none)) else (decorumref04_Clean.l1 k x4 (⟨#[]⟩ : ByteArray) 0)
def decorumref04_Clean.j1 : Nat → List ByteArray → List ByteArray → Int → Bool → Bool → Option (ByteArray)
  | 0, _, _, _, _, _ => none
  | k + 1, x3, x4, x5, x6, x31 => if x31 = true then (if 0 ≤ x5 then (if x5 < (x3.length : Int) then (if x4.length < 8796093022208 then (decorumref04_Clean.l0 k x3 (x4 ++ [rdOf ByteArray.empty x3 x5]) (wrap64 (x5 + 1))) else (none)) else (none)) else (none)) else (if x6 = true then (decorumref04_Clean.j2 k x3 x4 x5 x6 (decide ((x4.length : Int) > 0))) else (decorumref04_Clean.j2 k x3 x4 x5 x6 false))
def decorumref04_Clean.j2 : Nat → List ByteArray → List ByteArray → Int → Bool → Bool → Option (ByteArray)
  | 0, _, _, _, _, _ => none
  | k + 1, x3, x4, x5, x6, x44 => if x44 = true then (if 0 ≤ (wrap64 ((x4.length : Int) - 1)) then (if (wrap64 ((x4.length : Int) - 1)) ≤ (x4.length : Int) then (decorumref04_Clean.j3 k x3 (x4.take ((wrap64 ((x4.length : Int) - 1)) : Int).toNat) x5 x6) else (none)) else (none)) else (decorumref04_Clean.j3 k x3 x4 x5 x6)
def decorumref04_Clean.j3 : Nat → List ByteArray → List ByteArray → Int → Bool → Option (ByteArray)
  | 0, _, _, _, _ => none
  | k + 1, x3, x4, x5, x6 => if x6 = true then (decorumref04_Clean.j4 k x3 x4 x5 ((x4.length : Int) == 0)) else (decorumref04_Clean.j4 k x3 x4 x5 false)
def decorumref04_Clean.j4 : Nat → List ByteArray → List ByteArray → Int → Bool → Option (ByteArray)
  | 0, _, _, _, _ => none
  | k + 1, x3, x4, x5, x55 => if x55 = true then (if x4.length < 8796093022208 then ((some (x4 ++ [(⟨#[]⟩ : ByteArray)] : List ByteArray)).bind fun y160 => (if x5 = (wrap64 ((x3.length : Int) - 1)) then (if y160.length < 8796093022208 then (decorumref04_Clean.l0 k x3 (y160 ++ [(⟨#[]⟩ : ByteArray)]) (wrap64 (x5 + 1))) else (none)) else (decorumref04_Clean.l0 k x3 y160 (wrap64 (x5 + 1))))) else (none)) else (if x5 = (wrap64 ((x3.length : Int) - 1)) then (if x4.length < 8796093022208 then (decorumref04_Clean.l0 k x3 (x4 ++ [(⟨#[]⟩ : ByteArray)]) (wrap64 (x5 + 1))) else (none)) else (decorumref04_Clean.l0 k x3 x4 (wrap64 (x5 + 1))))
def decorumref04_Clean.l1 : Nat → List ByteArray → ByteArray → Int → Option (ByteArray)
  | 0, _, _, _ => none
  | k + 1, x4, x7, x8 => if x8 < (x4.length : Int) then (if x8 > 0 then (if x7.size + 1 ≤ 9223372036854775807 then (if 0 ≤ x8 then (if (x7 ++ (⟨#[47]⟩ : ByteArray)).size + (rdOf ByteArray.empty x4 x8).size ≤ 9223372036854775807 then (decorumref04_Clean.l1 k x4 ((x7 ++ (⟨#[47]⟩ : ByteArray)) ++ (rdOf ByteArray.empty x4 x8)) (wrap64 (x8 + 1))) else (none)) else (none)) else (none)) else (if 0 ≤ x8 then (if x7.size + (rdOf ByteArray.empty x4 x8).size ≤ 9223372036854775807 then (decorumref04_Clean.l1 k x4 (x7 ++ (rdOf ByteArray.empty x4 x8)) (wrap64 (x8 + 1))) else (none)) else (none))) else (if (x7.size : Int) = 0 then (if 1 + x7.size ≤ 9223372036854775807 then (some ((⟨#[47]⟩ : ByteArray) ++ x7)) else (none)) else (if 0 < (x7.size : Int) then (if (bt x7 0) = 47 then (some x7) else (if 1 + x7.size ≤ 9223372036854775807 then (some ((⟨#[47]⟩ : ByteArray) ++ x7)) else (none))) else (none)))
end
def decorumref04_Clean.f (k : Nat) (a0 : ByteArray) : Option (ByteArray) := (Go.Proofs.YtpnofnmecjagcaaDoor.Ext.decorumref04_split.f a0 47).bind fun t145 => (decorumref04_Clean.l0 k t145 (([] : List ByteArray)) 0)
set_option maxHeartbeats 8000000 in
set_option maxRecDepth 100000 in
theorem decorumref04_Clean.calls (k : Nat) (a0 : ByteArray) (r : ByteArray) (w : World) (h : decorumref04_Clean.f k a0 = some r) :
    Calls Tryd.prog 14 #[.string a0] w fun e w' => e = .returned (.string r) ∧ Below w.heap.size w w' := by
  have HB := Aside0.mk (Below.refl w.heap.size w)
  have H : ((Go.Proofs.YtpnofnmecjagcaaDoor.Ext.decorumref04_split.f a0 47).bind fun t145 => (decorumref04_Clean.l0 k t145 (([] : List ByteArray)) 0)) = some r := h
  clear h
  replace H := Option.bind_eq_some_iff.mp H
  obtain ⟨t145, A20, H⟩ := H
  replace H : (decorumref04_Clean.l0 k t145 (([] : List ByteArray)) 0) = some r := H
  have A2 := Aside0.mk A20
  clear A20
  obtain ⟨y148, hy148⟩ : ∃ y_ : List ByteArray, y_ = (([] : List ByteArray)) := ⟨_, rfl⟩
  replace H : (decorumref04_Clean.l0 k t145 y148 0) = some r := by first | (rw [hy148]; with_reducible exact H) | (have H2_ := (Option.bind_some _ _).symm.trans H; rw [hy148]; with_reducible exact H2_) | (have H2_ := (Option.bind_some _ _).symm.trans H; with_reducible exact H2_) | with_reducible exact H | (rw [hy148]; exact H) | exact H
  have Ny148 := Aside0.mk hy148
  clear hy148
  have H' := Aside0.mk H
  clear H
  go_enter Tryd.func14, Tryd.ntmps14
  go_wp2_with (first | ((with_reducible refine gate_callee (f := 22) rfl ?_); refine goesL_ (some 10) rfl rfl Tryd.func22 (by kernel_rfl) rfl #[.string a0, .int .u8 47] rfl (by (try simp only [List.map_toArray, List.map_cons, List.map_nil]); first | done | rfl | (simp only [List.length_drop, List.length_take]; rfl)) ?_; (with_reducible refine (Go.Proofs.YtpnofnmecjagcaaDoor.Ext.decorumref04_split.calls a0 47 t145 _ A2.out).mono ?_); rintro e w3 ⟨v146, rfl, ho0, hb⟩; refine ⟨_, rfl, ?_⟩; have n0_ := Aside0.mk (Kd.R_lower ho0 (below_size (by repeat (first | (with_reducible first | exact HB.out | apply below_alloc | apply pw_below_drewN | apply below_drew1) | exact HB.out)))); have n1_ := Aside0.mk (below_step (by repeat (first | (with_reducible first | exact HB.out | apply below_alloc | apply pw_below_drewN | apply below_drew1) | exact HB.out)) hb); clear HB; have HO147 := n0_; have HB := n1_; clear n0_ n1_; (try clear hb); (try clear hb2); (try clear hk); (try clear hi); (try clear ho0)) | ((with_reducible refine gate_dst (N := 11) rfl ?_); (try (refine gate_guard (by rfl) ?_; dsimp only)); refine Kd.R_lit Kd.string _ 9 ?hg (N := 11) ?hd (xs := ([] : List ByteArray)) (inner := []) (ok := fun _ => True) (okp := fun _ => True) ?hr ?hp (fun _ hk => hk) trivial (Below.refl _ _) (Nat.le_refl _) (by simp) ?_; (case hd => rfl); (case hg => rfl); (case hr => first | (go_simp; done) | (go_simp; rfl)); (case hp => exact (Reps.none _ _)); intro v149 w4 ho5 hb hg_ hnew_; clear hg_ hnew_; (first | rw [← Ny148.out] at ho5 | (simp only [Int.reduceToNat] at ho5; rw [← Ny148.out] at ho5)); have n0_ := Aside0.mk (Kd.R_elder' (by (with_reducible repeat (first | apply Kd.R_alloc | apply Kd.R_drewN | apply Kd.R_drew)); exact HO147.out) (Kd.R_base ho5) hb); have n1_ := Aside0.mk (Kd.R_lower (Kd.R_new' ho5 (Kd.R_lt (by (with_reducible repeat (first | apply Kd.R_alloc | apply Kd.R_drewN | apply Kd.R_drew)); exact HO147.out))) (below_size (by repeat (first | (with_reducible first | exact HB.out | apply below_alloc | apply pw_below_drewN | apply below_drew1) | exact HB.out)))); have n2_ := Aside0.mk (below_step (by repeat (first | (with_reducible first | exact HB.out | apply below_alloc | apply pw_below_drewN | apply below_drew1) | exact HB.out)) hb); clear HO147; clear HB; have HO147 := n0_; have HO150 := n1_; have HB := n2_; clear n0_ n1_ n2_; clear hb ho5))
  go_loopg [4, 5] k (fun kq v4 v5 w' => ∃ (x4_1 : List ByteArray) (x5_1 : Int), v5 = .int .i64 x5_1 ∧ Aside0 (decorumref04_Clean.l0 kq t145 x4_1 x5_1 = some r) ∧ Aside0 (kq ≤ k) ∧ Aside0 (Kd.R Kd.string 9 w' w.heap.size (fun k_ => some k_ ≠ (v4 : Value).ownBlock) v146 t145) ∧ Aside0 (Kd.R Kd.string 9 w' w.heap.size (fun k_ => some k_ ≠ (v146 : Value).ownBlock) v4 x4_1) ∧ Aside0 (Below w.heap.size w w'))
  case atStart => exact ⟨(y148), (0), (by first | rfl | (simp; done) | (simp [*]; done)), H', ⟨Nat.le_refl _⟩, ⟨by (with_reducible repeat (first | apply Kd.R_alloc | apply Kd.R_drewN | apply Kd.R_drew)); exact Kd.R_mono HO147.out (fun _ hk => hk.2)⟩, ⟨by (with_reducible repeat (first | apply Kd.R_alloc | apply Kd.R_drewN | apply Kd.R_drew)); exact Kd.R_mono HO150.out (fun _ hk => hk.2)⟩, ⟨by repeat (first | (with_reducible first | exact HB.out | apply below_alloc | apply pw_below_drewN | apply below_drew1) | exact HB.out)⟩⟩
  case round =>
    clear H'
    try clear c1
    try clear c2
    try clear p2
    obtain ⟨x4_1, x5_1, rfl, HA, HK1, HO_3, HO_4, HB⟩ := hrel
    cases gk with
    | zero => exact absurd HA.out (by simp [decorumref04_Clean.l0])
    | succ k1 =>
      have H := HA.out
      clear HA
      simp only [decorumref04_Clean.l0] at H
      by_cases c6 : x5_1 < (t145.length : Int)
      · rw [if_pos c6] at H
        have c6b0 : decide (x5_1 < (t145.length : Int)) = true := decide_eq_true c6
        clear c6
        by_cases c7 : 0 ≤ x5_1
        · rw [if_pos c7] at H
          have c7b0 : decide (0 ≤ x5_1) = true := decide_eq_true c7
          clear c7
          obtain ⟨up_, hgen_⟩ : ∃ b_ : Bool, ((rdOf ByteArray.empty t145 x5_1).toList == ([46, 46] : List UInt8)) = b_ := ⟨_, rfl⟩
          rw [hgen_] at H
          have HC8 := Aside0.mk H
          clear H
          obtain ⟨Ao9, co9, eo9⟩ := Kd.R_slice HO_3.out
          subst eo9
          have p151 : 0 ≤ (x5_1 : Int) := of_decide_eq_true (by first | (with_reducible assumption) | assumption)
          have q151 : x5_1 < (t145.length : Int) := of_decide_eq_true (by first | (with_reducible assumption) | assumption)
          obtain ⟨ad151, e151, hx151_0⟩ := Kd.at_string (Kd.R_reads' HO_3.out).2.2 x5_1 p151 q151
          cases e151
          replace p151 := eq_true p151
          replace q151 := eq_true q151
          go_upto_region 7 with (fail)
          go_cut [31] (fun v31 wc => ∃ (kq : Nat) (x31_7 : Bool), v31 = .bool x31_7 ∧ Aside0 (decorumref04_Clean.j1 kq t145 x4_1 x5_1 up_ x31_7 = some r) ∧ Aside0 (kq ≤ k1) ∧ Aside0 (Kd.R Kd.string 9 wc w.heap.size (fun k_ => some k_ ≠ (u4 : Value).ownBlock) (.slice (some ad151) t145.length co9) t145) ∧ Aside0 (Kd.R Kd.string 9 wc w.heap.size (fun k_ => some k_ ≠ ((.slice (some ad151) t145.length co9) : Value).ownBlock) u4 x4_1) ∧ Aside0 (Below w.heap.size w wc))
          case first =>
            have H := HC8.out
            clear HC8
            by_cases c10 : ((rdOf ByteArray.empty t145 x5_1).toList = ([46, 46] : List UInt8))
            · rw [if_pos c10] at H
              have c10b0 : up_ = true := hgen_.symm.trans (beq_iff_eq.mpr c10)
              have c10b1 : ((rdOf ByteArray.empty t145 x5_1).toList != ([46, 46] : List UInt8)) = false := bne_eq_false_iff_eq.mpr c10
              clear c10
              subst c10b0
              (first | rw [c10b0] | (simp only [i64_w, i32_w]; rw [c10b0]) | skip)
              have H' := Aside0.mk H
              clear H
              go_wp2
              go_meet
              case rel => exact ⟨_, (false), (by first | rfl | (simp; done) | (simp [*]; done)), H', ⟨by have := HK1.out; first | omega | exact Nat.le_refl _⟩, ⟨by (with_reducible repeat (first | apply Kd.R_alloc | apply Kd.R_drewN | apply Kd.R_drew)); exact HO_3.out⟩, ⟨by (with_reducible repeat (first | apply Kd.R_alloc | apply Kd.R_drewN | apply Kd.R_drew)); exact HO_4.out⟩, ⟨by repeat (first | (with_reducible first | exact HB.out | apply below_alloc | apply pw_below_drewN | apply below_drew1) | exact HB.out)⟩⟩
            · rw [if_neg c10] at H
              have c10b0 : up_ = false := hgen_.symm.trans (beq_eq_false_iff_ne.mpr c10)
              have c10b1 : ((rdOf ByteArray.empty t145 x5_1).toList != ([46, 46] : List UInt8)) = true := bne_iff_ne.mpr c10
              subst c10b0
              (first | rw [c10b0] | (simp only [i64_w, i32_w]; rw [c10b0]) | skip)
              have H' := Aside0.mk H
              clear H
              have p152 : 0 ≤ (x5_1 : Int) := of_decide_eq_true (by first | (with_reducible assumption) | assumption)
              have q152 : x5_1 < (t145.length : Int) := of_decide_eq_true (by first | (with_reducible assumption) | assumption)
              obtain ⟨ad152, e152, hx152_0⟩ := Kd.at_string (Kd.R_reads' HO_3.out).2.2 x5_1 p152 q152
              obtain rfl : ad151 = ad152 := (by injection e152)
              replace p152 := eq_true p152
              replace q152 := eq_true q152
              go_wp2
              go_meet
              case rel => exact ⟨_, (((rdOf ByteArray.empty t145 x5_1).toList != ([46] : List UInt8))), (by first | rfl | (simp; done) | (simp [*]; done)), H', ⟨by have := HK1.out; first | omega | exact Nat.le_refl _⟩, ⟨by (with_reducible repeat (first | apply Kd.R_alloc | apply Kd.R_drewN | apply Kd.R_drew)); exact HO_3.out⟩, ⟨by (with_reducible repeat (first | apply Kd.R_alloc | apply Kd.R_drewN | apply Kd.R_drew)); exact HO_4.out⟩, ⟨by repeat (first | (with_reducible first | exact HB.out | apply below_alloc | apply pw_below_drewN | apply below_drew1) | exact HB.out)⟩⟩
          case rest =>
            clear HC8
            try clear c1
            try clear p1
            try clear q1
            try clear hx1
            try clear c2
            try clear p2
            try clear c6
            try clear c6b0
            try clear c7
            try clear c7b0
            try clear c10
            try clear c10b0
            try clear c10b1
            try clear hx151_0
            try clear hx152_0
            try clear p151
            try clear p152
            try clear p2
            try clear q151
            try clear q152
            obtain ⟨kq, x31_7, rfl, HA, HJ7, HO_3, HO_4, HB⟩ := hcut
            cases kq with
            | zero => exact absurd HA.out (by simp [decorumref04_Clean.j1])
            | succ kj7 =>
              have H := HA.out
              clear HA
              simp only [decorumref04_Clean.j1] at H
              by_cases c11 : x31_7 = true
              · subst c11
                have H1 : (if 0 ≤ x5_1 then (if x5_1 < (t145.length : Int) then (if x4_1.length < 8796093022208 then (decorumref04_Clean.l0 kj7 t145 (x4_1 ++ [rdOf ByteArray.empty t145 x5_1]) (wrap64 (x5_1 + 1))) else (none)) else (none)) else (none)) = some r := by rw [if_pos rfl] at H; exact H
                clear H
                have H := H1
                clear H1
                by_cases c12 : 0 ≤ x5_1
                · rw [if_pos c12] at H
                  have c12b0 : decide (0 ≤ x5_1) = true := decide_eq_true c12
                  clear c12
                  by_cases c13 : x5_1 < (t145.length : Int)
                  · rw [if_pos c13] at H
                    have c13b0 : decide (x5_1 < (t145.length : Int)) = true := decide_eq_true c13
                    clear c13
                    by_cases c14 : x4_1.length < 8796093022208
                    · rw [if_pos c14] at H
                      have LMc14 := Aside0.mk c14
                      clear c14
                      obtain ⟨y154, hy154⟩ : ∃ y_ : List ByteArray, y_ = (x4_1 ++ [rdOf ByteArray.empty t145 x5_1]) := ⟨_, rfl⟩
                      replace H : (decorumref04_Clean.l0 kj7 t145 y154 (wrap64 (x5_1 + 1))) = some r := by first | (rw [hy154]; with_reducible exact H) | (have H2_ := (Option.bind_some _ _).symm.trans H; rw [hy154]; with_reducible exact H2_) | (have H2_ := (Option.bind_some _ _).symm.trans H; with_reducible exact H2_) | with_reducible exact H | (rw [hy154]; exact H) | exact H
                      have Ny154 := Aside0.mk hy154
                      clear hy154
                      have H' := Aside0.mk H
                      clear H
                      have p153 : 0 ≤ (x5_1 : Int) := of_decide_eq_true (by first | (with_reducible assumption) | assumption)
                      have q153 : x5_1 < (t145.length : Int) := of_decide_eq_true (by first | (with_reducible assumption) | assumption)
                      obtain ⟨ad153, e153, hx153_0⟩ := Kd.at_string (Kd.R_reads' HO_3.out).2.2 x5_1 p153 q153
                      obtain rfl : ad151 = ad153 := (by injection e153)
                      replace p153 := eq_true p153
                      replace q153 := eq_true q153
                      go_wp2_with (first | ((with_reducible refine gate_builtin (b := .append) (xs := #[.tmp 32, .tmp 37]) rfl ?_); (try (refine gate_guard (by rfl) ?_; dsimp only)); at_builtin; refine Kd.R_append Kd.string (w0 := w) w.heap.size rfl (.tmp 32) (.tmp 37) 37 9 (.string ⟨#[]⟩) 16 rfl Tryd.underlying37 info9 rfl (by decide) (by omega) u4 x4_1 (rdOf ByteArray.empty t145 x5_1) [.string (rdOf ByteArray.empty t145 x5_1)] (fun k_ => some k_ ≠ (.slice (some ad151) t145.length co9 : Value).ownBlock) (fun _ => False) rfl rfl ?aP (fun _ hk => hk.elim) ?aF ?aO ?aB ?aS ?aL ?_; (case aP => exact rfl); (case aB => exact (by repeat (first | (with_reducible first | exact HB.out | apply below_alloc | apply pw_below_drewN | apply below_drew1) | exact HB.out))); (case aF => exact (fun k_ hk => Kd.fresh' (Kd.R_lt (by (with_reducible repeat (first | apply Kd.R_alloc | apply Kd.R_drewN | apply Kd.R_drew)); exact HO_3.out)) k_ hk)); (case aO => exact (by (with_reducible repeat (first | apply Kd.R_alloc | apply Kd.R_drewN | apply Kd.R_drew)); exact HO_4.out)); (case aS => exact (below_size (by repeat (first | (with_reducible first | exact HB.out | apply below_alloc | apply pw_below_drewN | apply below_drew1) | exact HB.out)))); (case aL => have := LMc14.out; omega); intro v155 w15 ho hb hg hat; rw [← Ny154.out] at ho; have n0_ := Aside0.mk (Kd.R_after (ok := (fun _ => True)) (by (with_reducible repeat (first | apply Kd.R_alloc | apply Kd.R_drewN | apply Kd.R_drew)); exact Kd.R_mono HO_3.out (fun _ hk => ⟨trivial, hk⟩)) hg hat); have n1_ := Aside0.mk (hb); have n2_ := Aside0.mk (ho); clear HO_3; clear HB; clear HO_4; have HO_3 := n0_; have HB := n1_; have HO156 := n2_; clear n0_ n1_ n2_; clear ho hb hg hat))
                      go_roundg kj7
                      case measure => have := HK1.out; have := HJ7.out; omega
                      case rel => exact ⟨(y154), (wrap64 (x5_1 + 1)), (by first | rfl | (simp; done) | (simp [*]; done)), H', ⟨by have := HK1.out; have := HJ7.out; omega⟩, ⟨by (with_reducible repeat (first | apply Kd.R_alloc | apply Kd.R_drewN | apply Kd.R_drew)); exact Kd.R_mono HO_3.out (fun _ hk => hk.2)⟩, ⟨by (with_reducible repeat (first | apply Kd.R_alloc | apply Kd.R_drewN | apply Kd.R_drew)); exact HO156.out⟩, ⟨by repeat (first | (with_reducible first | exact HB.out | apply below_alloc | apply pw_below_drewN | apply below_drew1) | exact HB.out)⟩⟩
                    · rw [if_neg c14] at H
                      exact absurd H (by simp)
                  · rw [if_neg c13] at H
                    exact absurd H (by simp)
                · rw [if_neg c12] at H
                  exact absurd H (by simp)
              · replace c11 := Bool.eq_false_iff.mpr c11
                subst c11
                have H1 : (if up_ = true then (decorumref04_Clean.j2 kj7 t145 x4_1 x5_1 up_ (decide ((x4_1.length : Int) > 0))) else (decorumref04_Clean.j2 kj7 t145 x4_1 x5_1 up_ false)) = some r := by rw [if_neg (show ¬ (false = true) by decide)] at H; exact H
                clear H
                have H := H1
                clear H1
                have HC16 := Aside0.mk H
                clear H
                go_upto_region 9 with (fail)
                go_cut [44] (fun v44 wc => ∃ (kq : Nat) (x44_15 : Bool), v44 = .bool x44_15 ∧ Aside0 (decorumref04_Clean.j2 kq t145 x4_1 x5_1 up_ x44_15 = some r) ∧ Aside0 (kq ≤ kj7) ∧ Aside0 (Kd.R Kd.string 9 wc w.heap.size (fun k_ => some k_ ≠ (u4 : Value).ownBlock) (.slice (some ad151) t145.length co9) t145) ∧ Aside0 (Kd.R Kd.string 9 wc w.heap.size (fun k_ => some k_ ≠ ((.slice (some ad151) t145.length co9) : Value).ownBlock) u4 x4_1) ∧ Aside0 (Below w.heap.size w wc))
                case first =>
                  have H := HC16.out
                  clear HC16
                  by_cases c17 : up_ = true
                  · rw [if_pos c17] at H
                    have c17b0 : up_ = true := c17
                    (try (have c17b1 : decide ((rdOf ByteArray.empty t145 x5_1).toList = ([46, 46] : List UInt8)) = true := by simpa using c17))
                    (try (have c17b2 : up_ = true := by simpa using c17))
                    clear c17
                    subst c17b0
                    (first | rw [c17b0] | (simp only [i64_w, i32_w]; rw [c17b0]) | skip)
                    have H' := Aside0.mk H
                    clear H
                    obtain ⟨Ao18, co18, eo18⟩ := Kd.R_slice HO_4.out
                    subst eo18
                    go_wp2
                    go_meet
                    case rel => exact ⟨_, (decide ((x4_1.length : Int) > 0)), (by first | rfl | (simp; done) | (simp [*]; done)), H', ⟨by have := HK1.out; have := HJ7.out; first | omega | exact Nat.le_refl _⟩, ⟨by (with_reducible repeat (first | apply Kd.R_alloc | apply Kd.R_drewN | apply Kd.R_drew)); exact HO_3.out⟩, ⟨by (with_reducible repeat (first | apply Kd.R_alloc | apply Kd.R_drewN | apply Kd.R_drew)); exact HO_4.out⟩, ⟨by repeat (first | (with_reducible first | exact HB.out | apply below_alloc | apply pw_below_drewN | apply below_drew1) | exact HB.out)⟩⟩
                  · rw [if_neg c17] at H
                    have c17b0 : up_ = false := by simpa using c17
                    (try (have c17b1 : decide ((rdOf ByteArray.empty t145 x5_1).toList = ([46, 46] : List UInt8)) = false := by simpa using c17))
                    (try (have c17b2 : up_ = false := by simpa using c17))
                    (try (have c17b3 : ¬ ((rdOf ByteArray.empty t145 x5_1).toList = ([46, 46] : List UInt8)) := by simpa using c17))
                    clear c17
                    subst c17b0
                    (first | rw [c17b0] | (simp only [i64_w, i32_w]; rw [c17b0]) | skip)
                    have H' := Aside0.mk H
                    clear H
                    go_wp2
                    go_meet
                    case rel => exact ⟨_, (false), (by first | rfl | (simp; done) | (simp [*]; done)), H', ⟨by have := HK1.out; have := HJ7.out; first | omega | exact Nat.le_refl _⟩, ⟨by (with_reducible repeat (first | apply Kd.R_alloc | apply Kd.R_drewN | apply Kd.R_drew)); exact HO_3.out⟩, ⟨by (with_reducible repeat (first | apply Kd.R_alloc | apply Kd.R_drewN | apply Kd.R_drew)); exact HO_4.out⟩, ⟨by repeat (first | (with_reducible first | exact HB.out | apply below_alloc | apply pw_below_drewN | apply below_drew1) | exact HB.out)⟩⟩
                case rest =>
                  clear HC16
                  try clear c1
                  try clear p1
                  try clear q1
                  try clear hx1
                  try clear c2
                  try clear p2
                  try clear c6
                  try clear c6b0
                  try clear p6
                  try clear c7
                  try clear c7b0
                  try clear c10
                  try clear c10b0
                  try clear c10b1
                  try clear c11
                  try clear c12
                  try clear c12b0
                  try clear c13
                  try clear c13b0
                  try clear c14
                  try clear p15
                  try clear q15
                  try clear hx15
                  try clear c17
                  try clear c17b0
                  try clear c17b1
                  try clear c17b2
                  try clear hx151_0
                  try clear hx152_0
                  try clear hx153_0
                  try clear p1
                  try clear p151
                  try clear p152
                  try clear p153
                  try clear p2
                  try clear q1
                  try clear q151
                  try clear q152
                  try clear q153
                  obtain ⟨kq, x44_15, rfl, HA, HJ15, HO_3, HO_4, HB⟩ := hcut
                  cases kq with
                  | zero => exact absurd HA.out (by simp [decorumref04_Clean.j2])
                  | succ kj15 =>
                    have H := HA.out
                    clear HA
                    simp only [decorumref04_Clean.j2] at H
                    have HC19 := Aside0.mk H
                    clear H
                    go_upto_if 44 with (fail)
                    go_cut [4] (fun v4 wc => ∃ (kq : Nat) (x4_18 : List ByteArray), Aside0 (decorumref04_Clean.j3 kq t145 x4_18 x5_1 up_ = some r) ∧ Aside0 (kq ≤ kj15) ∧ Aside0 (Kd.R Kd.string 9 wc w.heap.size (fun k_ => some k_ ≠ (v4 : Value).ownBlock) (.slice (some ad151) t145.length co9) t145) ∧ Aside0 (Kd.R Kd.string 9 wc w.heap.size (fun k_ => some k_ ≠ ((.slice (some ad151) t145.length co9) : Value).ownBlock) v4 x4_18) ∧ Aside0 (Below w.heap.size w wc))
                    case first =>
                      have H := HC19.out
                      clear HC19
                      by_cases c20 : x44_15 = true
                      · subst c20
                        have H1 : (if 0 ≤ (wrap64 ((x4_1.length : Int) - 1)) then (if (wrap64 ((x4_1.length : Int) - 1)) ≤ (x4_1.length : Int) then (decorumref04_Clean.j3 kj15 t145 (x4_1.take ((wrap64 ((x4_1.length : Int) - 1)) : Int).toNat) x5_1 up_) else (none)) else (none)) = some r := by rw [if_pos rfl] at H; exact H
                        clear H
                        have H := H1
                        clear H1
                        obtain ⟨ji21, hji21⟩ : ∃ j_ : Int, (wrap64 ((x4_1.length : Int) - 1)) = j_ := ⟨_, rfl⟩
                        replace H : (if 0 ≤ (ji21) then (if (ji21) ≤ (x4_1.length : Int) then (decorumref04_Clean.j3 kj15 t145 (x4_1.take ((ji21) : Int).toNat) x5_1 up_) else (none)) else (none)) = some r := by first | (rw [hji21] at H; exact H) | (simp only [hji21] at H ⊢; exact H)
                        have hji21w : (IntKind.i64.wrap ((x4_1.length : Int) - 1)) = ji21 := (i64_w _).trans hji21
                        by_cases c22 : 0 ≤ (ji21)
                        · rw [if_pos c22] at H
                          have c22b0 := eq_true c22
                          have c22b1 : decide (0 ≤ (ji21)) = true := decide_eq_true c22
                          clear c22
                          by_cases c23 : (ji21) ≤ (x4_1.length : Int)
                          · rw [if_pos c23] at H
                            have c23b0 := eq_true c23
                            have c23b1 : decide ((ji21) ≤ (x4_1.length : Int)) = true := decide_eq_true c23
                            clear c23
                            obtain ⟨y157, hy157⟩ : ∃ y_ : List ByteArray, y_ = (x4_1.take ((ji21) : Int).toNat) := ⟨_, rfl⟩
                            replace H : (decorumref04_Clean.j3 kj15 t145 y157 x5_1 up_) = some r := by first | (rw [hy157]; with_reducible exact H) | (have H2_ := (Option.bind_some _ _).symm.trans H; rw [hy157]; with_reducible exact H2_) | (have H2_ := (Option.bind_some _ _).symm.trans H; with_reducible exact H2_) | with_reducible exact H | (rw [hy157]; exact H) | exact H
                            have Ny157 := Aside0.mk hy157
                            clear hy157
                            have H' := Aside0.mk H
                            clear H
                            obtain ⟨Ao24, co24, eo24⟩ := Kd.R_slice HO_4.out
                            subst eo24
                            have q25 : ((ji21) : Int) ≤ ((x4_1.length : Int) : Int) := of_decide_eq_true (by first | (with_reducible assumption) | assumption)
                            obtain ⟨i025, hi025, _, hsz25, _⟩ := info_parts info9
                            have hcut25 := cut_to (P := Tryd.prog) 37 9 .i64 Tryd.underlying37 hi025 Ao24 x4_1.length co24 (ji21) (of_decide_eq_true (by first | (with_reducible assumption) | assumption)) q25 (Kd.R_reads' HO_4.out).2.1
                            have hr25 := Kd.R_take (m := ((ji21) : Int).toNat) HO_4.out (by omega)
                            have hy25 : y157.length = ((ji21) : Int).toNat := (by rw [Ny157.out, List.length_take]; omega)
                            rw [← Ny157.out] at hr25
                            rw [← hy25] at hr25 hcut25
                            clear hy25 hi025 hsz25 HO_4
                            have hob_ : ∀ n m, (Value.slice Ao24 n co24).ownBlock = (Value.slice Ao24 m co24).ownBlock := fun n m => by cases Ao24 <;> rfl
                            (try simp only [hob_ x4_1.length y157.length] at HO_3)
                            clear hob_
                            have HO159 := Aside0.mk hr25
                            clear hr25
                            replace q25 := eq_true q25
                            go_wp2
                            go_meet
                            case rel => exact ⟨_, (y157), H', ⟨by have := HK1.out; have := HJ7.out; have := HJ15.out; first | omega | exact Nat.le_refl _⟩, ⟨by (with_reducible repeat (first | apply Kd.R_alloc | apply Kd.R_drewN | apply Kd.R_drew)); exact HO_3.out⟩, ⟨by (with_reducible repeat (first | apply Kd.R_alloc | apply Kd.R_drewN | apply Kd.R_drew)); exact HO159.out⟩, ⟨by repeat (first | (with_reducible first | exact HB.out | apply below_alloc | apply pw_below_drewN | apply below_drew1) | exact HB.out)⟩⟩
                          · rw [if_neg c23] at H
                            exact absurd H (by simp)
                        · rw [if_neg c22] at H
                          exact absurd H (by simp)
                      · replace c20 := Bool.eq_false_iff.mpr c20
                        subst c20
                        have H1 : (decorumref04_Clean.j3 kj15 t145 x4_1 x5_1 up_) = some r := by rw [if_neg (show ¬ (false = true) by decide)] at H; exact H
                        clear H
                        have H := H1
                        clear H1
                        have H' := Aside0.mk H
                        clear H
                        go_wp2
                        go_meet
                        case rel => exact ⟨_, (x4_1), H', ⟨by have := HK1.out; have := HJ7.out; have := HJ15.out; first | omega | exact Nat.le_refl _⟩, ⟨by (with_reducible repeat (first | apply Kd.R_alloc | apply Kd.R_drewN | apply Kd.R_drew)); exact HO_3.out⟩, ⟨by (with_reducible repeat (first | apply Kd.R_alloc | apply Kd.R_drewN | apply Kd.R_drew)); exact HO_4.out⟩, ⟨by repeat (first | (with_reducible first | exact HB.out | apply below_alloc | apply pw_below_drewN | apply below_drew1) | exact HB.out)⟩⟩
                    case rest =>
                      clear HC19
                      try clear c1
                      try clear p1
                      try clear q1
                      try clear hx1
                      try clear c2
                      try clear p2
                      try clear q2
                      try clear c6
                      try clear c6b0
                      try clear p6
                      try clear c7
                      try clear c7b0
                      try clear c10
                      try clear c10b0
                      try clear c10b1
                      try clear c11
                      try clear c12
                      try clear c12b0
                      try clear c13
                      try clear c13b0
                      try clear c14
                      try clear p15
                      try clear q15
                      try clear hx15
                      try clear c17
                      try clear c17b0
                      try clear c17b1
                      try clear c17b2
                      try clear c20
                      try clear c22
                      try clear c22b0
                      try clear c22b1
                      try clear c23
                      try clear c23b0
                      try clear c23b1
                      try clear q25
                      try clear hx151_0
                      try clear hx152_0
                      try clear hx153_0
                      try clear p1
                      try clear p15
                      try clear p151
                      try clear p152
                      try clear p153
                      try clear p2
                      try clear p6
                      try clear q1
                      try clear q15
                      try clear q151
                      try clear q152
                      try clear q153
                      try clear q25
                      obtain ⟨kq, x4_18, HA, HJ18, HO_3, HO_4, HB⟩ := hcut
                      cases kq with
                      | zero => exact absurd HA.out (by simp [decorumref04_Clean.j3])
                      | succ kj18 =>
                        have H := HA.out
                        clear HA
                        simp only [decorumref04_Clean.j3] at H
                        have HC26 := Aside0.mk H
                        clear H
                        go_upto_region 11 with (fail)
                        go_cut [55] (fun v55 wc => ∃ (kq : Nat) (x55_25 : Bool), v55 = .bool x55_25 ∧ Aside0 (decorumref04_Clean.j4 kq t145 x4_18 x5_1 x55_25 = some r) ∧ Aside0 (kq ≤ kj18) ∧ Aside0 (Kd.R Kd.string 9 wc w.heap.size (fun k_ => some k_ ≠ (u4 : Value).ownBlock) (.slice (some ad151) t145.length co9) t145) ∧ Aside0 (Kd.R Kd.string 9 wc w.heap.size (fun k_ => some k_ ≠ ((.slice (some ad151) t145.length co9) : Value).ownBlock) u4 x4_18) ∧ Aside0 (Below w.heap.size w wc))
                        case first =>
                          have H := HC26.out
                          clear HC26
                          by_cases c27 : up_ = true
                          · rw [if_pos c27] at H
                            have c27b0 : up_ = true := c27
                            (try (have c27b1 : decide ((rdOf ByteArray.empty t145 x5_1).toList = ([46, 46] : List UInt8)) = true := by simpa using c27))
                            (try (have c27b2 : up_ = true := by simpa using c27))
                            clear c27
                            subst c27b0
                            (first | rw [c27b0] | (simp only [i64_w, i32_w]; rw [c27b0]) | skip)
                            have H' := Aside0.mk H
                            clear H
                            obtain ⟨Ao28, co28, eo28⟩ := Kd.R_slice HO_4.out
                            subst eo28
                            go_wp2
                            go_meet
                            case rel => exact ⟨_, (((x4_18.length : Int) == 0)), (by first | rfl | (simp; done) | (simp [*]; done)), H', ⟨by have := HK1.out; have := HJ7.out; have := HJ15.out; have := HJ18.out; first | omega | exact Nat.le_refl _⟩, ⟨by (with_reducible repeat (first | apply Kd.R_alloc | apply Kd.R_drewN | apply Kd.R_drew)); exact HO_3.out⟩, ⟨by (with_reducible repeat (first | apply Kd.R_alloc | apply Kd.R_drewN | apply Kd.R_drew)); exact HO_4.out⟩, ⟨by repeat (first | (with_reducible first | exact HB.out | apply below_alloc | apply pw_below_drewN | apply below_drew1) | exact HB.out)⟩⟩
                          · rw [if_neg c27] at H
                            have c27b0 : up_ = false := by simpa using c27
                            (try (have c27b1 : decide ((rdOf ByteArray.empty t145 x5_1).toList = ([46, 46] : List UInt8)) = false := by simpa using c27))
                            (try (have c27b2 : up_ = false := by simpa using c27))
                            (try (have c27b3 : ¬ ((rdOf ByteArray.empty t145 x5_1).toList = ([46, 46] : List UInt8)) := by simpa using c27))
                            clear c27
                            subst c27b0
                            (first | rw [c27b0] | (simp only [i64_w, i32_w]; rw [c27b0]) | skip)
                            have H' := Aside0.mk H
                            clear H
                            go_wp2
                            go_meet
                            case rel => exact ⟨_, (false), (by first | rfl | (simp; done) | (simp [*]; done)), H', ⟨by have := HK1.out; have := HJ7.out; have := HJ15.out; have := HJ18.out; first | omega | exact Nat.le_refl _⟩, ⟨by (with_reducible repeat (first | apply Kd.R_alloc | apply Kd.R_drewN | apply Kd.R_drew)); exact HO_3.out⟩, ⟨by (with_reducible repeat (first | apply Kd.R_alloc | apply Kd.R_drewN | apply Kd.R_drew)); exact HO_4.out⟩, ⟨by repeat (first | (with_reducible first | exact HB.out | apply below_alloc | apply pw_below_drewN | apply below_drew1) | exact HB.out)⟩⟩
                        case rest =>
                          clear HC26
                          try clear c1
                          try clear p1
                          try clear q1
                          try clear hx1
                          try clear c2
                          try clear p2
                          try clear q2
                          try clear c6
                          try clear c6b0
                          try clear p6
                          try clear c7
                          try clear c7b0
                          try clear c10
                          try clear c10b0
                          try clear c10b1
                          try clear c11
                          try clear c12
                          try clear c12b0
                          try clear c13
                          try clear c13b0
                          try clear c14
                          try clear p15
                          try clear q15
                          try clear hx15
                          try clear c17
                          try clear c17b0
                          try clear c17b1
                          try clear c17b2
                          try clear c20
                          try clear c22
                          try clear c22b0
                          try clear c22b1
                          try clear c23
                          try clear c23b0
                          try clear c23b1
                          try clear q25
                          try clear c27
                          try clear c27b0
                          try clear c27b1
                          try clear c27b2
                          try clear hx151_0
                          try clear hx152_0
                          try clear hx153_0
                          try clear p1
                          try clear p15
                          try clear p151
                          try clear p152
                          try clear p153
                          try clear p2
                          try clear p6
                          try clear q1
                          try clear q15
                          try clear q151
                          try clear q152
                          try clear q153
                          try clear q2
                          try clear q25
                          obtain ⟨kq, x55_25, rfl, HA, HJ25, HO_3, HO_4, HB⟩ := hcut
                          cases kq with
                          | zero => exact absurd HA.out (by simp [decorumref04_Clean.j4])
                          | succ kj25 =>
                            have H := HA.out
                            clear HA
                            simp only [decorumref04_Clean.j4] at H
                            by_cases c29 : x55_25 = true
                            · subst c29
                              have H1 : (if x4_18.length < 8796093022208 then ((some (x4_18 ++ [(⟨#[]⟩ : ByteArray)] : List ByteArray)).bind fun y160 => (if x5_1 = (wrap64 ((t145.length : Int) - 1)) then (if y160.length < 8796093022208 then (decorumref04_Clean.l0 kj25 t145 (y160 ++ [(⟨#[]⟩ : ByteArray)]) (wrap64 (x5_1 + 1))) else (none)) else (decorumref04_Clean.l0 kj25 t145 y160 (wrap64 (x5_1 + 1))))) else (none)) = some r := by rw [if_pos rfl] at H; exact H
                              clear H
                              have H := H1
                              clear H1
                              by_cases c30 : x4_18.length < 8796093022208
                              · rw [if_pos c30] at H
                                have LMc30 := Aside0.mk c30
                                clear c30
                                obtain ⟨y160, hy160⟩ : ∃ y_ : List ByteArray, y_ = (x4_18 ++ [(⟨#[]⟩ : ByteArray)]) := ⟨_, rfl⟩
                                replace H : (if x5_1 = (wrap64 ((t145.length : Int) - 1)) then (if y160.length < 8796093022208 then (decorumref04_Clean.l0 kj25 t145 (y160 ++ [(⟨#[]⟩ : ByteArray)]) (wrap64 (x5_1 + 1))) else (none)) else (decorumref04_Clean.l0 kj25 t145 y160 (wrap64 (x5_1 + 1)))) = some r := by first | (rw [hy160]; with_reducible exact H) | (have H2_ := (Option.bind_some _ _).symm.trans H; rw [hy160]; with_reducible exact H2_) | (have H2_ := (Option.bind_some _ _).symm.trans H; with_reducible exact H2_) | with_reducible exact H | (rw [hy160]; exact H) | exact H
                                have Ny160 := Aside0.mk hy160
                                clear hy160
                                by_cases c31 : x5_1 = (wrap64 ((t145.length : Int) - 1))
                                · rw [if_pos c31] at H
                                  have c31b0 : (x5_1 == (wrap64 ((t145.length : Int) - 1))) = true := beq_iff_eq.mpr c31
                                  have c31b1 : (x5_1 != (wrap64 ((t145.length : Int) - 1))) = false := bne_eq_false_iff_eq.mpr c31
                                  clear c31
                                  by_cases c32 : y160.length < 8796093022208
                                  · rw [if_pos c32] at H
                                    have LMc32 := Aside0.mk c32
                                    clear c32
                                    obtain ⟨y163, hy163⟩ : ∃ y_ : List ByteArray, y_ = (y160 ++ [(⟨#[]⟩ : ByteArray)]) := ⟨_, rfl⟩
                                    replace H : (decorumref04_Clean.l0 kj25 t145 y163 (wrap64 (x5_1 + 1))) = some r := by first | (rw [hy163]; with_reducible exact H) | (have H2_ := (Option.bind_some _ _).symm.trans H; rw [hy163]; with_reducible exact H2_) | (have H2_ := (Option.bind_some _ _).symm.trans H; with_reducible exact H2_) | with_reducible exact H | (rw [hy163]; exact H) | exact H
                                    have Ny163 := Aside0.mk hy163
                                    clear hy163
                                    have H' := Aside0.mk H
                                    clear H
                                    go_wp2_with (first | ((with_reducible refine gate_builtin (b := .append) (xs := #[.tmp 56, .tmp 57]) rfl ?_); (try (refine gate_guard (by rfl) ?_; dsimp only)); at_builtin; refine Kd.R_append Kd.string (w0 := w) w.heap.size rfl (.tmp 56) (.tmp 57) 37 9 (.string ⟨#[]⟩) 16 rfl Tryd.underlying37 info9 rfl (by decide) (by omega) u4 x4_18 (⟨#[]⟩ : ByteArray) [.string (⟨#[]⟩ : ByteArray)] (fun k_ => some k_ ≠ (.slice (some ad151) t145.length co9 : Value).ownBlock) (fun _ => False) rfl rfl ?aP (fun _ hk => hk.elim) ?aF ?aO ?aB ?aS ?aL ?_; (case aP => exact rfl); (case aB => exact (by repeat (first | (with_reducible first | exact HB.out | apply below_alloc | apply pw_below_drewN | apply below_drew1) | exact HB.out))); (case aF => exact (fun k_ hk => Kd.fresh' (Kd.R_lt (by (with_reducible repeat (first | apply Kd.R_alloc | apply Kd.R_drewN | apply Kd.R_drew)); exact HO_3.out)) k_ hk)); (case aO => exact (by (with_reducible repeat (first | apply Kd.R_alloc | apply Kd.R_drewN | apply Kd.R_drew)); exact HO_4.out)); (case aS => exact (below_size (by repeat (first | (with_reducible first | exact HB.out | apply below_alloc | apply pw_below_drewN | apply below_drew1) | exact HB.out)))); (case aL => have := LMc30.out; omega); intro v161 w33 ho hb hg hat; rw [← Ny160.out] at ho; have n0_ := Aside0.mk (Kd.R_after (ok := (fun _ => True)) (by (with_reducible repeat (first | apply Kd.R_alloc | apply Kd.R_drewN | apply Kd.R_drew)); exact Kd.R_mono HO_3.out (fun _ hk => ⟨trivial, hk⟩)) hg hat); have n1_ := Aside0.mk (hb); have n2_ := Aside0.mk (ho); clear HO_3; clear HB; clear HO_4; have HO_3 := n0_; have HB := n1_; have HO162 := n2_; clear n0_ n1_ n2_; clear ho hb hg hat) | ((with_reducible refine gate_builtin (b := .append) (xs := #[.tmp 64, .tmp 65]) rfl ?_); (try (refine gate_guard (by rfl) ?_; dsimp only)); at_builtin; refine Kd.R_append Kd.string (w0 := w) w.heap.size rfl (.tmp 64) (.tmp 65) 37 9 (.string ⟨#[]⟩) 16 rfl Tryd.underlying37 info9 rfl (by decide) (by omega) v161 y160 (⟨#[]⟩ : ByteArray) [.string (⟨#[]⟩ : ByteArray)] (fun k_ => some k_ ≠ (.slice (some ad151) t145.length co9 : Value).ownBlock) (fun _ => False) rfl rfl ?aP (fun _ hk => hk.elim) ?aF ?aO ?aB ?aS ?aL ?_; (case aP => exact rfl); (case aB => exact (by repeat (first | (with_reducible first | exact HB.out | apply below_alloc | apply pw_below_drewN | apply below_drew1) | exact HB.out))); (case aF => exact (fun k_ hk => Kd.fresh' (Kd.R_lt (by (with_reducible repeat (first | apply Kd.R_alloc | apply Kd.R_drewN | apply Kd.R_drew)); exact HO_3.out)) k_ hk)); (case aO => exact (by (with_reducible repeat (first | apply Kd.R_alloc | apply Kd.R_drewN | apply Kd.R_drew)); exact HO162.out)); (case aS => exact (below_size (by repeat (first | (with_reducible first | exact HB.out | apply below_alloc | apply pw_below_drewN | apply below_drew1) | exact HB.out)))); (case aL => have := LMc32.out; omega); intro v164 w34 ho hb hg hat; rw [← Ny163.out] at ho; have n0_ := Aside0.mk (Kd.R_after (ok := (fun _ => True)) (by (with_reducible repeat (first | apply Kd.R_alloc | apply Kd.R_drewN | apply Kd.R_drew)); exact HO_3.out) hg hat); have n1_ := Aside0.mk (hb); have n2_ := Aside0.mk (ho); clear HO_3; clear HB; clear HO162; have HO_3 := n0_; have HB := n1_; have HO165 := n2_; clear n0_ n1_ n2_; clear ho hb hg hat))
                                    go_roundg kj25
                                    case measure => have := HK1.out; have := HJ7.out; have := HJ15.out; have := HJ18.out; have := HJ25.out; omega
                                    case rel => exact ⟨(y163), (wrap64 (x5_1 + 1)), (by first | rfl | (simp; done) | (simp [*]; done)), H', ⟨by have := HK1.out; have := HJ7.out; have := HJ15.out; have := HJ18.out; have := HJ25.out; omega⟩, ⟨by (with_reducible repeat (first | apply Kd.R_alloc | apply Kd.R_drewN | apply Kd.R_drew)); exact Kd.R_mono HO_3.out (fun _ hk => hk.2)⟩, ⟨by (with_reducible repeat (first | apply Kd.R_alloc | apply Kd.R_drewN | apply Kd.R_drew)); exact HO165.out⟩, ⟨by repeat (first | (with_reducible first | exact HB.out | apply below_alloc | apply pw_below_drewN | apply below_drew1) | exact HB.out)⟩⟩
                                  · rw [if_neg c32] at H
                                    exact absurd H (by simp)
                                · rw [if_neg c31] at H
                                  have c31b0 : (x5_1 == (wrap64 ((t145.length : Int) - 1))) = false := beq_eq_false_iff_ne.mpr c31
                                  have c31b1 : (x5_1 != (wrap64 ((t145.length : Int) - 1))) = true := bne_iff_ne.mpr c31
                                  have H' := Aside0.mk H
                                  clear H
                                  go_wp2_with (first | ((with_reducible refine gate_builtin (b := .append) (xs := #[.tmp 56, .tmp 57]) rfl ?_); (try (refine gate_guard (by rfl) ?_; dsimp only)); at_builtin; refine Kd.R_append Kd.string (w0 := w) w.heap.size rfl (.tmp 56) (.tmp 57) 37 9 (.string ⟨#[]⟩) 16 rfl Tryd.underlying37 info9 rfl (by decide) (by omega) u4 x4_18 (⟨#[]⟩ : ByteArray) [.string (⟨#[]⟩ : ByteArray)] (fun k_ => some k_ ≠ (.slice (some ad151) t145.length co9 : Value).ownBlock) (fun _ => False) rfl rfl ?aP (fun _ hk => hk.elim) ?aF ?aO ?aB ?aS ?aL ?_; (case aP => exact rfl); (case aB => exact (by repeat (first | (with_reducible first | exact HB.out | apply below_alloc | apply pw_below_drewN | apply below_drew1) | exact HB.out))); (case aF => exact (fun k_ hk => Kd.fresh' (Kd.R_lt (by (with_reducible repeat (first | apply Kd.R_alloc | apply Kd.R_drewN | apply Kd.R_drew)); exact HO_3.out)) k_ hk)); (case aO => exact (by (with_reducible repeat (first | apply Kd.R_alloc | apply Kd.R_drewN | apply Kd.R_drew)); exact HO_4.out)); (case aS => exact (below_size (by repeat (first | (with_reducible first | exact HB.out | apply below_alloc | apply pw_below_drewN | apply below_drew1) | exact HB.out)))); (case aL => have := LMc30.out; omega); intro v161 w35 ho hb hg hat; rw [← Ny160.out] at ho; have n0_ := Aside0.mk (Kd.R_after (ok := (fun _ => True)) (by (with_reducible repeat (first | apply Kd.R_alloc | apply Kd.R_drewN | apply Kd.R_drew)); exact Kd.R_mono HO_3.out (fun _ hk => ⟨trivial, hk⟩)) hg hat); have n1_ := Aside0.mk (hb); have n2_ := Aside0.mk (ho); clear HO_3; clear HB; clear HO_4; have HO_3 := n0_; have HB := n1_; have HO162 := n2_; clear n0_ n1_ n2_; clear ho hb hg hat))
                                  go_roundg kj25
                                  case measure => have := HK1.out; have := HJ7.out; have := HJ15.out; have := HJ18.out; have := HJ25.out; omega
                                  case rel => exact ⟨(y160), (wrap64 (x5_1 + 1)), (by first | rfl | (simp; done) | (simp [*]; done)), H', ⟨by have := HK1.out; have := HJ7.out; have := HJ15.out; have := HJ18.out; have := HJ25.out; omega⟩, ⟨by (with_reducible repeat (first | apply Kd.R_alloc | apply Kd.R_drewN | apply Kd.R_drew)); exact Kd.R_mono HO_3.out (fun _ hk => hk.2)⟩, ⟨by (with_reducible repeat (first | apply Kd.R_alloc | apply Kd.R_drewN | apply Kd.R_drew)); exact HO162.out⟩, ⟨by repeat (first | (with_reducible first | exact HB.out | apply below_alloc | apply pw_below_drewN | apply below_drew1) | exact HB.out)⟩⟩
                              · rw [if_neg c30] at H
                                exact absurd H (by simp)
                            · replace c29 := Bool.eq_false_iff.mpr c29
                              subst c29
                              have H1 : (if x5_1 = (wrap64 ((t145.length : Int) - 1)) then (if x4_18.length < 8796093022208 then (decorumref04_Clean.l0 kj25 t145 (x4_18 ++ [(⟨#[]⟩ : ByteArray)]) (wrap64 (x5_1 + 1))) else (none)) else (decorumref04_Clean.l0 kj25 t145 x4_18 (wrap64 (x5_1 + 1)))) = some r := by rw [if_neg (show ¬ (false = true) by decide)] at H; exact H
                              clear H
                              have H := H1
                              clear H1
                              by_cases c36 : x5_1 = (wrap64 ((t145.length : Int) - 1))
                              · rw [if_pos c36] at H
                                have c36b0 : (x5_1 == (wrap64 ((t145.length : Int) - 1))) = true := beq_iff_eq.mpr c36
                                have c36b1 : (x5_1 != (wrap64 ((t145.length : Int) - 1))) = false := bne_eq_false_iff_eq.mpr c36
                                clear c36
                                by_cases c37 : x4_18.length < 8796093022208
                                · rw [if_pos c37] at H
                                  have LMc37 := Aside0.mk c37
                                  clear c37
                                  obtain ⟨y166, hy166⟩ : ∃ y_ : List ByteArray, y_ = (x4_18 ++ [(⟨#[]⟩ : ByteArray)]) := ⟨_, rfl⟩
                                  replace H : (decorumref04_Clean.l0 kj25 t145 y166 (wrap64 (x5_1 + 1))) = some r := by first | (rw [hy166]; with_reducible exact H) | (have H2_ := (Option.bind_some _ _).symm.trans H; rw [hy166]; with_reducible exact H2_) | (have H2_ := (Option.bind_some _ _).symm.trans H; with_reducible exact H2_) | with_reducible exact H | (rw [hy166]; exact H) | exact H
                                  have Ny166 := Aside0.mk hy166
                                  clear hy166
                                  have H' := Aside0.mk H
                                  clear H
                                  go_wp2_with (first | ((with_reducible refine gate_builtin (b := .append) (xs := #[.tmp 64, .tmp 65]) rfl ?_); (try (refine gate_guard (by rfl) ?_; dsimp only)); at_builtin; refine Kd.R_append Kd.string (w0 := w) w.heap.size rfl (.tmp 64) (.tmp 65) 37 9 (.string ⟨#[]⟩) 16 rfl Tryd.underlying37 info9 rfl (by decide) (by omega) u4 x4_18 (⟨#[]⟩ : ByteArray) [.string (⟨#[]⟩ : ByteArray)] (fun k_ => some k_ ≠ (.slice (some ad151) t145.length co9 : Value).ownBlock) (fun _ => False) rfl rfl ?aP (fun _ hk => hk.elim) ?aF ?aO ?aB ?aS ?aL ?_; (case aP => exact rfl); (case aB => exact (by repeat (first | (with_reducible first | exact HB.out | apply below_alloc | apply pw_below_drewN | apply below_drew1) | exact HB.out))); (case aF => exact (fun k_ hk => Kd.fresh' (Kd.R_lt (by (with_reducible repeat (first | apply Kd.R_alloc | apply Kd.R_drewN | apply Kd.R_drew)); exact HO_3.out)) k_ hk)); (case aO => exact (by (with_reducible repeat (first | apply Kd.R_alloc | apply Kd.R_drewN | apply Kd.R_drew)); exact HO_4.out)); (case aS => exact (below_size (by repeat (first | (with_reducible first | exact HB.out | apply below_alloc | apply pw_below_drewN | apply below_drew1) | exact HB.out)))); (case aL => have := LMc37.out; omega); intro v167 w38 ho hb hg hat; rw [← Ny166.out] at ho; have n0_ := Aside0.mk (Kd.R_after (ok := (fun _ => True)) (by (with_reducible repeat (first | apply Kd.R_alloc | apply Kd.R_drewN | apply Kd.R_drew)); exact Kd.R_mono HO_3.out (fun _ hk => ⟨trivial, hk⟩)) hg hat); have n1_ := Aside0.mk (hb); have n2_ := Aside0.mk (ho); clear HO_3; clear HB; clear HO_4; have HO_3 := n0_; have HB := n1_; have HO168 := n2_; clear n0_ n1_ n2_; clear ho hb hg hat))
                                  go_roundg kj25
                                  case measure => have := HK1.out; have := HJ7.out; have := HJ15.out; have := HJ18.out; have := HJ25.out; omega
                                  case rel => exact ⟨(y166), (wrap64 (x5_1 + 1)), (by first | rfl | (simp; done) | (simp [*]; done)), H', ⟨by have := HK1.out; have := HJ7.out; have := HJ15.out; have := HJ18.out; have := HJ25.out; omega⟩, ⟨by (with_reducible repeat (first | apply Kd.R_alloc | apply Kd.R_drewN | apply Kd.R_drew)); exact Kd.R_mono HO_3.out (fun _ hk => hk.2)⟩, ⟨by (with_reducible repeat (first | apply Kd.R_alloc | apply Kd.R_drewN | apply Kd.R_drew)); exact HO168.out⟩, ⟨by repeat (first | (with_reducible first | exact HB.out | apply below_alloc | apply pw_below_drewN | apply below_drew1) | exact HB.out)⟩⟩
                                · rw [if_neg c37] at H
                                  exact absurd H (by simp)
                              · rw [if_neg c36] at H
                                have c36b0 : (x5_1 == (wrap64 ((t145.length : Int) - 1))) = false := beq_eq_false_iff_ne.mpr c36
                                have c36b1 : (x5_1 != (wrap64 ((t145.length : Int) - 1))) = true := bne_iff_ne.mpr c36
                                have H' := Aside0.mk H
                                clear H
                                go_wp2
                                go_roundg kj25
                                case measure => have := HK1.out; have := HJ7.out; have := HJ15.out; have := HJ18.out; have := HJ25.out; omega
                                case rel => exact ⟨(x4_18), (wrap64 (x5_1 + 1)), (by first | rfl | (simp; done) | (simp [*]; done)), H', ⟨by have := HK1.out; have := HJ7.out; have := HJ15.out; have := HJ18.out; have := HJ25.out; omega⟩, ⟨by (with_reducible repeat (first | apply Kd.R_alloc | apply Kd.R_drewN | apply Kd.R_drew)); exact HO_3.out⟩, ⟨by (with_reducible repeat (first | apply Kd.R_alloc | apply Kd.R_drewN | apply Kd.R_drew)); exact HO_4.out⟩, ⟨by repeat (first | (with_reducible first | exact HB.out | apply below_alloc | apply pw_below_drewN | apply below_drew1) | exact HB.out)⟩⟩
        · rw [if_neg c7] at H
          exact absurd H (by simp)
      · rw [if_neg c6] at H
        have c6b0 : decide (x5_1 < (t145.length : Int)) = false := decide_eq_false c6
        clear c6
        have H' := Aside0.mk H
        clear H
        obtain ⟨Ao39, co39, eo39⟩ := Kd.R_slice HO_3.out
        subst eo39
        go_wp2
        go_loopg [7, 8] k1 (fun kq v7 v8 w' => ∃ (x7_2 : ByteArray) (x8_2 : Int), v7 = .string x7_2 ∧ v8 = .int .i64 x8_2 ∧ Aside0 (decorumref04_Clean.l1 kq x4_1 x7_2 x8_2 = some r) ∧ Aside0 (kq ≤ k1) ∧ Aside0 (Kd.R Kd.string 9 w' w.heap.size (fun _ => True) u4 x4_1) ∧ Aside0 (Below w.heap.size w w'))
        case atStart => exact ⟨((⟨#[]⟩ : ByteArray)), (0), (by first | rfl | (simp; done) | (simp [*]; done)), (by first | rfl | (simp; done) | (simp [*]; done)), H', ⟨Nat.le_refl _⟩, ⟨by (with_reducible repeat (first | apply Kd.R_alloc | apply Kd.R_drewN | apply Kd.R_drew)); exact Kd.R_mono HO_4.out (fun _ hk => trivial)⟩, ⟨by repeat (first | (with_reducible first | exact HB.out | apply below_alloc | apply pw_below_drewN | apply below_drew1) | exact HB.out)⟩⟩
        case round =>
          clear H'
          try clear c1
          try clear p1
          try clear q1
          try clear hx1
          try clear c2
          try clear p2
          try clear q2
          try clear c3
          try clear c6
          try clear c6b0
          try clear p6
          try clear c7
          try clear c7b0
          try clear c10
          try clear c10b0
          try clear c10b1
          try clear c11
          try clear c12
          try clear c12b0
          try clear c13
          try clear c13b0
          try clear c14
          try clear p15
          try clear q15
          try clear hx15
          try clear c17
          try clear c17b0
          try clear c17b1
          try clear c17b2
          try clear c20
          try clear c22
          try clear c22b0
          try clear c22b1
          try clear c23
          try clear c23b0
          try clear c23b1
          try clear q25
          try clear c27
          try clear c27b0
          try clear c27b1
          try clear c27b2
          try clear c29
          try clear c30
          try clear c31
          try clear c31b0
          try clear c31b1
          try clear c32
          try clear c36
          try clear c36b0
          try clear c36b1
          try clear c37
          try clear hx151_0
          try clear hx152_0
          try clear hx153_0
          try clear p1
          try clear p15
          try clear p151
          try clear p152
          try clear p153
          try clear p2
          try clear p6
          try clear q1
          try clear q15
          try clear q151
          try clear q152
          try clear q153
          try clear q2
          try clear q25
          obtain ⟨x7_2, x8_2, rfl, rfl, HA, HK2, HO_4, HB⟩ := hrel
          cases gk with
          | zero => exact absurd HA.out (by simp [decorumref04_Clean.l1])
          | succ k2 =>
            have H := HA.out
            clear HA
            simp only [decorumref04_Clean.l1] at H
            by_cases c40 : x8_2 < (x4_1.length : Int)
            · rw [if_pos c40] at H
              have c40b0 : decide (x8_2 < (x4_1.length : Int)) = true := decide_eq_true c40
              clear c40
              by_cases c41 : x8_2 > 0
              · rw [if_pos c41] at H
                have c41b0 : decide (0 < x8_2) = true := decide_eq_true c41
                clear c41
                by_cases c42 : x7_2.size + 1 ≤ 9223372036854775807
                · rw [if_pos c42] at H
                  have c42b0 := eq_true c42
                  have c42b1 : decide (x7_2.size + 1 ≤ 9223372036854775807) = true := decide_eq_true c42
                  try have c42b2 : (9223372036854775807 < x7_2.size + 1) = False := eq_false (Nat.not_lt.2 c42)
                  by_cases c43 : 0 ≤ x8_2
                  · rw [if_pos c43] at H
                    have c43b0 : decide (0 ≤ x8_2) = true := decide_eq_true c43
                    clear c43
                    by_cases c44 : (x7_2 ++ (⟨#[47]⟩ : ByteArray)).size + (rdOf ByteArray.empty x4_1 x8_2).size ≤ 9223372036854775807
                    · rw [if_pos c44] at H
                      have c44b0 := eq_true c44
                      have c44b1 : decide ((x7_2 ++ (⟨#[47]⟩ : ByteArray)).size + (rdOf ByteArray.empty x4_1 x8_2).size ≤ 9223372036854775807) = true := decide_eq_true c44
                      try have c44b3 : (9223372036854775807 < x7_2.size + 1 + (rdOf ByteArray.empty x4_1 x8_2).size) = False := eq_false (by have h_ := c44; (try simp only [ByteArray.size_append', ByteArray.size_extract] at h_ ⊢); (try simp only [ByteArray.size, List.size_toArray, List.length_cons, List.length_nil] at h_ ⊢); first | omega | (simp at h_ ⊢; omega))
                      try have c44b2 : (9223372036854775807 < (x7_2 ++ (⟨#[47]⟩ : ByteArray)).size + (rdOf ByteArray.empty x4_1 x8_2).size) = False := eq_false (Nat.not_lt.2 c44)
                      have H' := Aside0.mk H
                      clear H
                      obtain ⟨Ao45, co45, eo45⟩ := Kd.R_slice HO_4.out
                      subst eo45
                      have p169 : 0 ≤ (x8_2 : Int) := of_decide_eq_true (by first | (with_reducible assumption) | assumption)
                      have q169 : x8_2 < (x4_1.length : Int) := of_decide_eq_true (by first | (with_reducible assumption) | assumption)
                      obtain ⟨ad169, e169, hx169_0⟩ := Kd.at_string (Kd.R_reads' HO_4.out).2.2 x8_2 p169 q169
                      cases e169
                      replace p169 := eq_true p169
                      replace q169 := eq_true q169
                      go_wp2
                      go_roundg k2
                      case measure => have := HK1.out; have := HK2.out; omega
                      case rel => exact ⟨((x7_2 ++ (⟨#[47]⟩ : ByteArray)) ++ (rdOf ByteArray.empty x4_1 x8_2)), (wrap64 (x8_2 + 1)), (by first | rfl | (simp; done) | (simp [*]; done)), (by first | rfl | (simp; done) | (simp [*]; done)), H', ⟨by have := HK1.out; have := HK2.out; omega⟩, ⟨by (with_reducible repeat (first | apply Kd.R_alloc | apply Kd.R_drewN | apply Kd.R_drew)); exact HO_4.out⟩, ⟨by repeat (first | (with_reducible first | exact HB.out | apply below_alloc | apply pw_below_drewN | apply below_drew1) | exact HB.out)⟩⟩
                    · rw [if_neg c44] at H
                      exact absurd H (by simp)
                  · rw [if_neg c43] at H
                    exact absurd H (by simp)
                · rw [if_neg c42] at H
                  exact absurd H (by simp)
              · rw [if_neg c41] at H
                have c41b0 : decide (0 < x8_2) = false := decide_eq_false c41
                clear c41
                by_cases c46 : 0 ≤ x8_2
                · rw [if_pos c46] at H
                  have c46b0 : decide (0 ≤ x8_2) = true := decide_eq_true c46
                  clear c46
                  by_cases c47 : x7_2.size + (rdOf ByteArray.empty x4_1 x8_2).size ≤ 9223372036854775807
                  · rw [if_pos c47] at H
                    have c47b0 := eq_true c47
                    have c47b1 : decide (x7_2.size + (rdOf ByteArray.empty x4_1 x8_2).size ≤ 9223372036854775807) = true := decide_eq_true c47
                    try have c47b2 : (9223372036854775807 < x7_2.size + (rdOf ByteArray.empty x4_1 x8_2).size) = False := eq_false (Nat.not_lt.2 c47)
                    have H' := Aside0.mk H
                    clear H
                    obtain ⟨Ao48, co48, eo48⟩ := Kd.R_slice HO_4.out
                    subst eo48
                    have p170 : 0 ≤ (x8_2 : Int) := of_decide_eq_true (by first | (with_reducible assumption) | assumption)
                    have q170 : x8_2 < (x4_1.length : Int) := of_decide_eq_true (by first | (with_reducible assumption) | assumption)
                    obtain ⟨ad170, e170, hx170_0⟩ := Kd.at_string (Kd.R_reads' HO_4.out).2.2 x8_2 p170 q170
                    cases e170
                    replace p170 := eq_true p170
                    replace q170 := eq_true q170
                    go_wp2
                    go_roundg k2
                    case measure => have := HK1.out; have := HK2.out; omega
                    case rel => exact ⟨(x7_2 ++ (rdOf ByteArray.empty x4_1 x8_2)), (wrap64 (x8_2 + 1)), (by first | rfl | (simp; done) | (simp [*]; done)), (by first | rfl | (simp; done) | (simp [*]; done)), H', ⟨by have := HK1.out; have := HK2.out; omega⟩, ⟨by (with_reducible repeat (first | apply Kd.R_alloc | apply Kd.R_drewN | apply Kd.R_drew)); exact HO_4.out⟩, ⟨by repeat (first | (with_reducible first | exact HB.out | apply below_alloc | apply pw_below_drewN | apply below_drew1) | exact HB.out)⟩⟩
                  · rw [if_neg c47] at H
                    exact absurd H (by simp)
                · rw [if_neg c46] at H
                  exact absurd H (by simp)
            · rw [if_neg c40] at H
              have c40b0 : decide (x8_2 < (x4_1.length : Int)) = false := decide_eq_false c40
              clear c40
              by_cases c49 : (x7_2.size : Int) = 0
              · rw [if_pos c49] at H
                have c49b0 : ((x7_2.size : Int) == 0) = true := beq_iff_eq.mpr c49
                have c49b1 : ((x7_2.size : Int) != 0) = false := bne_eq_false_iff_eq.mpr c49
                clear c49
                by_cases c50 : 1 + x7_2.size ≤ 9223372036854775807
                · rw [if_pos c50] at H
                  have c50b0 := eq_true c50
                  have c50b1 : decide (1 + x7_2.size ≤ 9223372036854775807) = true := decide_eq_true c50
                  try have c50b2 : (9223372036854775807 < 1 + x7_2.size) = False := eq_false (Nat.not_lt.2 c50)
                  obtain rfl := Option.some.inj H
                  obtain ⟨Ao51, co51, eo51⟩ := Kd.R_slice HO_4.out
                  subst eo51
                  go_wp2
                  go_ret
                  exact ⟨by first | rfl | (simp [errW_none, errW_some] <;> rfl) | (simp [*, errW_none, errW_some] <;> rfl), by repeat (first | (with_reducible first | exact HB.out | apply below_alloc | apply pw_below_drewN | apply below_drew1) | exact HB.out)⟩
                · rw [if_neg c50] at H
                  exact absurd H (by simp)
              · rw [if_neg c49] at H
                have c49b0 : ((x7_2.size : Int) == 0) = false := beq_eq_false_iff_ne.mpr c49
                have c49b1 : ((x7_2.size : Int) != 0) = true := bne_iff_ne.mpr c49
                by_cases c52 : 0 < (x7_2.size : Int)
                · rw [if_pos c52] at H
                  have c52b0 : decide (0 < (x7_2.size : Int)) = true := decide_eq_true c52
                  have c52b1 : decide (0 < x7_2.size) = true := decide_eq_true (by omega)
                  clear c52
                  by_cases c54 : (bt x7_2 0) = 47
                  · rw [if_pos c54] at H
                    have c54b0 : ((bt x7_2 0) == 47) = true := beq_iff_eq.mpr c54
                    have c54b1 : ((bt x7_2 0) != 47) = false := bne_eq_false_iff_eq.mpr c54
                    clear c54
                    obtain rfl := Option.some.inj H
                    obtain ⟨Ao55, co55, eo55⟩ := Kd.R_slice HO_4.out
                    subst eo55
                    have p53 : 0 ≤ (0 : Int) := (by omega)
                    have q53 : 0 < x7_2.size := (by have : (0 : Int) < (x7_2.size : Int) := of_decide_eq_true (by first | (with_reducible assumption) | assumption); omega)
                    have hx53 : ∀ h : 0 < x7_2.size, ((x7_2[0]'h).toNat : Int) = bt x7_2 0 := bt_at x7_2 0
                    clear p53
                    have qi53 : (0 < (x7_2.size : Int)) = True := eq_true (of_decide_eq_true (by first | (with_reducible assumption) | assumption))
                    replace q53 := eq_true q53
                    go_wp2
                    go_ret
                    exact ⟨by first | rfl | (simp [errW_none, errW_some] <;> rfl) | (simp [*, errW_none, errW_some] <;> rfl), by repeat (first | (with_reducible first | exact HB.out | apply below_alloc | apply pw_below_drewN | apply below_drew1) | exact HB.out)⟩
                  · rw [if_neg c54] at H
                    have c54b0 : ((bt x7_2 0) == 47) = false := beq_eq_false_iff_ne.mpr c54
                    have c54b1 : ((bt x7_2 0) != 47) = true := bne_iff_ne.mpr c54
                    by_cases c56 : 1 + x7_2.size ≤ 9223372036854775807
                    · rw [if_pos c56] at H
                      have c56b0 := eq_true c56
                      have c56b1 : decide (1 + x7_2.size ≤ 9223372036854775807) = true := decide_eq_true c56
                      try have c56b2 : (9223372036854775807 < 1 + x7_2.size) = False := eq_false (Nat.not_lt.2 c56)
                      obtain rfl := Option.some.inj H
                      obtain ⟨Ao57, co57, eo57⟩ := Kd.R_slice HO_4.out
                      subst eo57
                      have p53 : 0 ≤ (0 : Int) := (by omega)
                      have q53 : 0 < x7_2.size := (by have : (0 : Int) < (x7_2.size : Int) := of_decide_eq_true (by first | (with_reducible assumption) | assumption); omega)
                      have hx53 : ∀ h : 0 < x7_2.size, ((x7_2[0]'h).toNat : Int) = bt x7_2 0 := bt_at x7_2 0
                      clear p53
                      have qi53 : (0 < (x7_2.size : Int)) = True := eq_true (of_decide_eq_true (by first | (with_reducible assumption) | assumption))
                      replace q53 := eq_true q53
                      go_wp2
                      go_ret
                      exact ⟨by first | rfl | (simp [errW_none, errW_some] <;> rfl) | (simp [*, errW_none, errW_some] <;> rfl), by repeat (first | (with_reducible first | exact HB.out | apply below_alloc | apply pw_below_drewN | apply below_drew1) | exact HB.out)⟩
                    · rw [if_neg c56] at H
                      exact absurd H (by simp)
                · rw [if_neg c52] at H
                  exact absurd H (by simp)
end Go.Proofs.YtpnofnmecjagcaaDoor.XC
