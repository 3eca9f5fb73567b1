import Derived.Test.YtpnofnmecjagcaaDoorKcXCx0
import Derived.Test.YtpnofnmecjagcaaDoorKcXCx2
import Derived.Test.YtpnofnmecjagcaaDoorKcXCx4
-- Written by a program (wip/tools/xprint.py) out of the loaded functions: contracts of Go functions, and the functions that they compute.
namespace Go.Proofs.YtpnofnmecjagcaaDoor.XC
open Go.RowKit Go.Proofs.YtpnofnmecjagcaaDoor.Ext Go.Proofs.YtpnofnmecjagcaaDoorW.PrintWords Go.Proofs.YtpnofnmecjagcaaDoorW.PrintLast Go.Proofs.YtpnofnmecjagcaaDoorW.PrintMore
attribute [local go_sem] max2_int min2_int max_two min_two max_three min_three max_four min_four   -- for this text's walks alone
set_option linter.unusedVariables false
set_option linter.unusedSimpArgs false
/-! ### decorumlaw05_UrlCleans: function 4 -/
def decorumlaw05_UrlCleans.f (k : Nat) (a0 : ByteArray) : Option (Bool) := if (a0.size : Int) > 300 then (if 0 ≤ 300 then (if 300 ≤ (a0.size : Int) then ((Go.Proofs.YtpnofnmecjagcaaDoor.XB.url_Clean.f k (a0.extract 0 300)).bind fun t171 => ((decorumlaw05_awake.f).bind fun t172 => (if t172 = true then ((decorumref04_Clean.f k (a0.extract 0 300)).bind fun t173 => (if t171.toList = t173.toList then (if (t171.size : Int) > 0 then (if 0 < (t171.size : Int) then (some ((bt t171 0) == 47)) else (none)) else (some false)) else (some false))) else (some false)))) else (none)) else (none)) else ((Go.Proofs.YtpnofnmecjagcaaDoor.XB.url_Clean.f k a0).bind fun t174 => ((decorumlaw05_awake.f).bind fun t175 => (if t175 = true then ((decorumref04_Clean.f k a0).bind fun t176 => (if t174.toList = t176.toList then (if (t174.size : Int) > 0 then (if 0 < (t174.size : Int) then (some ((bt t174 0) == 47)) else (none)) else (some false)) else (some false))) else (some false))))
set_option maxHeartbeats 8000000 in
set_option maxRecDepth 100000 in
theorem decorumlaw05_UrlCleans.calls (k : Nat) (a0 : ByteArray) (r : Bool) (w : World) (hG : Gl w) (h : decorumlaw05_UrlCleans.f k a0 = some r) :
    Calls Tryd.prog 4 #[.string a0] w fun e w' => e = .returned (.bool r) ∧ Below w.heap.size w w' := by
  have HB := Aside0.mk (Below.refl w.heap.size w)
  have H : (if (a0.size : Int) > 300 then (if 0 ≤ 300 then (if 300 ≤ (a0.size : Int) then ((Go.Proofs.YtpnofnmecjagcaaDoor.XB.url_Clean.f k (a0.extract 0 300)).bind fun t171 => ((decorumlaw05_awake.f).bind fun t172 => (if t172 = true then ((decorumref04_Clean.f k (a0.extract 0 300)).bind fun t173 => (if t171.toList = t173.toList then (if (t171.size : Int) > 0 then (if 0 < (t171.size : Int) then (some ((bt t171 0) == 47)) else (none)) else (some false)) else (some false))) else (some false)))) else (none)) else (none)) else ((Go.Proofs.YtpnofnmecjagcaaDoor.XB.url_Clean.f k a0).bind fun t174 => ((decorumlaw05_awake.f).bind fun t175 => (if t175 = true then ((decorumref04_Clean.f k a0).bind fun t176 => (if t174.toList = t176.toList then (if (t174.size : Int) > 0 then (if 0 < (t174.size : Int) then (some ((bt t174 0) == 47)) else (none)) else (some false)) else (some false))) else (some false))))) = some r := h
  clear h
  by_cases c2 : (a0.size : Int) > 300
  · rw [if_pos c2] at H
    have c2b0 : decide (300 < (a0.size : Int)) = true := decide_eq_true c2
    have c2b1 : decide (300 < a0.size) = true := decide_eq_true (by omega)
    clear c2
    by_cases c3 : 0 ≤ 300
    · rw [if_pos c3] at H
      have c3b0 := eq_true c3
      have c3b1 : decide (0 ≤ 300) = true := decide_eq_true c3
      clear c3
      by_cases c4 : 300 ≤ (a0.size : Int)
      · rw [if_pos c4] at H
        have c4b0 := eq_true c4
        have c4b1 : decide (300 ≤ (a0.size : Int)) = true := decide_eq_true c4
        clear c4
        replace H := Option.bind_eq_some_iff.mp H
        obtain ⟨t171, A50, H⟩ := H
        replace H : ((decorumlaw05_awake.f).bind fun t172 => (if t172 = true then ((decorumref04_Clean.f k (a0.extract 0 300)).bind fun t173 => (if t171.toList = t173.toList then (if (t171.size : Int) > 0 then (if 0 < (t171.size : Int) then (some ((bt t171 0) == 47)) else (none)) else (some false)) else (some false))) else (some false))) = some r := H
        have A5 := Aside0.mk A50
        clear A50
        replace H := Option.bind_eq_some_iff.mp H
        obtain ⟨t172, A60, H⟩ := H
        replace H : (if t172 = true then ((decorumref04_Clean.f k (a0.extract 0 300)).bind fun t173 => (if t171.toList = t173.toList then (if (t171.size : Int) > 0 then (if 0 < (t171.size : Int) then (some ((bt t171 0) == 47)) else (none)) else (some false)) else (some false))) else (some false)) = some r := H
        have A6 := Aside0.mk A60
        clear A60
        by_cases c7 : t172 = true
        · subst c7
          have H1 : ((decorumref04_Clean.f k (a0.extract 0 300)).bind fun t173 => (if t171.toList = t173.toList then (if (t171.size : Int) > 0 then (if 0 < (t171.size : Int) then (some ((bt t171 0) == 47)) else (none)) else (some false)) else (some false))) = some r := by rw [if_pos rfl] at H; exact H
          clear H
          have H := H1
          clear H1
          replace H := Option.bind_eq_some_iff.mp H
          obtain ⟨t173, A80, H⟩ := H
          replace H : (if t171.toList = t173.toList then (if (t171.size : Int) > 0 then (if 0 < (t171.size : Int) then (some ((bt t171 0) == 47)) else (none)) else (some false)) else (some false)) = some r := H
          have A8 := Aside0.mk A80
          clear A80
          by_cases c9 : t171.toList = t173.toList
          · rw [if_pos c9] at H
            have c9b0 : (t171.toList == t173.toList) = true := beq_iff_eq.mpr c9
            have c9b1 : (t171.toList != t173.toList) = false := bne_eq_false_iff_eq.mpr c9
            clear c9
            by_cases c10 : (t171.size : Int) > 0
            · rw [if_pos c10] at H
              have c10b0 : decide (0 < (t171.size : Int)) = true := decide_eq_true c10
              have c10b1 : decide (0 < t171.size) = true := decide_eq_true (by omega)
              clear c10
              by_cases c11 : 0 < (t171.size : Int)
              · rw [if_pos c11] at H
                have c11b0 : decide (0 < (t171.size : Int)) = true := decide_eq_true c11
                have c11b1 : decide (0 < t171.size) = true := decide_eq_true (by omega)
                clear c11
                obtain rfl := Option.some.inj H
                go_enter Tryd.func4, Tryd.ntmps4
                go_wp2_with (first | ((with_reducible refine gate_callee (f := 13) rfl ?_); refine goesL_ (some 10) rfl rfl Tryd.func13 (by kernel_rfl) rfl #[.string (a0.extract 0 300)] rfl (by (try simp only [List.map_toArray, List.map_cons, List.map_nil]); first | done | rfl | (simp only [List.length_drop, List.length_take]; rfl)) ?_; (with_reducible refine (Go.Proofs.YtpnofnmecjagcaaDoor.XB.url_Clean.calls k (a0.extract 0 300) t171 _ ?side1 A5.out).mono ?_); (case side1 => exact Gl.below hG (by repeat (first | (with_reducible first | exact HB.out | apply below_alloc | apply pw_below_drewN | apply below_drew1) | exact HB.out))); rintro e w13 ⟨rfl, hb⟩; refine ⟨_, rfl, ?_⟩; have n0_ := Aside0.mk (below_step (by repeat (first | (with_reducible first | exact HB.out | apply below_alloc | apply pw_below_drewN | apply below_drew1) | exact HB.out)) hb); clear HB; have HB := n0_; clear n0_; (try clear hb); (try clear hb2); (try clear hk); (try clear hi)) | ((with_reducible refine gate_callee (f := 7) rfl ?_); refine goesL_ (some 11) rfl rfl Tryd.func7 (by kernel_rfl) rfl #[] rfl (by (try simp only [List.map_toArray, List.map_cons, List.map_nil]); first | done | rfl | (simp only [List.length_drop, List.length_take]; rfl)) ?_; (with_reducible refine (decorumlaw05_awake.calls  true _ ?side1 A6.out).mono ?_); (case side1 => exact Gl.below hG (by repeat (first | (with_reducible first | exact HB.out | apply below_alloc | apply pw_below_drewN | apply below_drew1) | exact HB.out))); rintro e w14 ⟨rfl, hb⟩; refine ⟨_, rfl, ?_⟩; have n0_ := Aside0.mk (below_step (by repeat (first | (with_reducible first | exact HB.out | apply below_alloc | apply pw_below_drewN | apply below_drew1) | exact HB.out)) hb); clear HB; have HB := n0_; clear n0_; (try clear hb); (try clear hb2); (try clear hk); (try clear hi)) | (go_at_call 14; (with_reducible refine (decorumref04_Clean.calls k (a0.extract 0 300) t173 _ A8.out).mono ?_); rintro e w15 ⟨rfl, hb⟩; have n0_ := Aside0.mk (below_step (by repeat (first | (with_reducible first | exact HB.out | apply below_alloc | apply pw_below_drewN | apply below_drew1) | exact HB.out)) hb); clear HB; have HB := n0_; clear n0_; (try clear hb); (try clear hb2); (try clear hk); (try clear hi); have p12 : 0 ≤ (0 : Int) := (by omega); have q12 : 0 < t171.size := (by have : (0 : Int) < (t171.size : Int) := of_decide_eq_true (by first | (with_reducible assumption) | assumption); omega); have hx12 : ∀ h : 0 < t171.size, ((t171[0]'h).toNat : Int) = bt t171 0 := bt_at t171 0; clear p12; have qi12 : (0 < (t171.size : Int)) = True := eq_true (of_decide_eq_true (by first | (with_reducible assumption) | assumption)); replace q12 := eq_true q12))
                go_ret
                exact ⟨by first | rfl | (simp [errW_none, errW_some] <;> rfl) | (simp [*, errW_none, errW_some] <;> rfl), by repeat (first | (with_reducible first | exact HB.out | apply below_alloc | apply pw_below_drewN | apply below_drew1) | exact HB.out)⟩
              · rw [if_neg c11] at H
                exact absurd H (by simp)
            · rw [if_neg c10] at H
              have c10b0 : decide (0 < (t171.size : Int)) = false := decide_eq_false c10
              have c10b1 : decide (0 < t171.size) = false := decide_eq_false (by omega)
              clear c10
              obtain rfl := Option.some.inj H
              go_enter Tryd.func4, Tryd.ntmps4
              go_wp2_with (first | ((with_reducible refine gate_callee (f := 13) rfl ?_); refine goesL_ (some 10) rfl rfl Tryd.func13 (by kernel_rfl) rfl #[.string (a0.extract 0 300)] rfl (by (try simp only [List.map_toArray, List.map_cons, List.map_nil]); first | done | rfl | (simp only [List.length_drop, List.length_take]; rfl)) ?_; (with_reducible refine (Go.Proofs.YtpnofnmecjagcaaDoor.XB.url_Clean.calls k (a0.extract 0 300) t171 _ ?side1 A5.out).mono ?_); (case side1 => exact Gl.below hG (by repeat (first | (with_reducible first | exact HB.out | apply below_alloc | apply pw_below_drewN | apply below_drew1) | exact HB.out))); rintro e w16 ⟨rfl, hb⟩; refine ⟨_, rfl, ?_⟩; have n0_ := Aside0.mk (below_step (by repeat (first | (with_reducible first | exact HB.out | apply below_alloc | apply pw_below_drewN | apply below_drew1) | exact HB.out)) hb); clear HB; have HB := n0_; clear n0_; (try clear hb); (try clear hb2); (try clear hk); (try clear hi)) | ((with_reducible refine gate_callee (f := 7) rfl ?_); refine goesL_ (some 11) rfl rfl Tryd.func7 (by kernel_rfl) rfl #[] rfl (by (try simp only [List.map_toArray, List.map_cons, List.map_nil]); first | done | rfl | (simp only [List.length_drop, List.length_take]; rfl)) ?_; (with_reducible refine (decorumlaw05_awake.calls  true _ ?side1 A6.out).mono ?_); (case side1 => exact Gl.below hG (by repeat (first | (with_reducible first | exact HB.out | apply below_alloc | apply pw_below_drewN | apply below_drew1) | exact HB.out))); rintro e w17 ⟨rfl, hb⟩; refine ⟨_, rfl, ?_⟩; have n0_ := Aside0.mk (below_step (by repeat (first | (with_reducible first | exact HB.out | apply below_alloc | apply pw_below_drewN | apply below_drew1) | exact HB.out)) hb); clear HB; have HB := n0_; clear n0_; (try clear hb); (try clear hb2); (try clear hk); (try clear hi)) | (go_at_call 14; (with_reducible refine (decorumref04_Clean.calls k (a0.extract 0 300) t173 _ A8.out).mono ?_); rintro e w18 ⟨rfl, hb⟩; have n0_ := Aside0.mk (below_step (by repeat (first | (with_reducible first | exact HB.out | apply below_alloc | apply pw_below_drewN | apply below_drew1) | exact HB.out)) hb); clear HB; have HB := n0_; clear n0_; (try clear hb); (try clear hb2); (try clear hk); (try clear hi)))
              go_ret
              exact ⟨by first | rfl | (simp [errW_none, errW_some] <;> rfl) | (simp [*, errW_none, errW_some] <;> rfl), by repeat (first | (with_reducible first | exact HB.out | apply below_alloc | apply pw_below_drewN | apply below_drew1) | exact HB.out)⟩
          · rw [if_neg c9] at H
            have c9b0 : (t171.toList == t173.toList) = false := beq_eq_false_iff_ne.mpr c9
            have c9b1 : (t171.toList != t173.toList) = true := bne_iff_ne.mpr c9
            obtain rfl := Option.some.inj H
            go_enter Tryd.func4, Tryd.ntmps4
            go_wp2_with (first | ((with_reducible refine gate_callee (f := 13) rfl ?_); refine goesL_ (some 10) rfl rfl Tryd.func13 (by kernel_rfl) rfl #[.string (a0.extract 0 300)] rfl (by (try simp only [List.map_toArray, List.map_cons, List.map_nil]); first | done | rfl | (simp only [List.length_drop, List.length_take]; rfl)) ?_; (with_reducible refine (Go.Proofs.YtpnofnmecjagcaaDoor.XB.url_Clean.calls k (a0.extract 0 300) t171 _ ?side1 A5.out).mono ?_); (case side1 => exact Gl.below hG (by repeat (first | (with_reducible first | exact HB.out | apply below_alloc | apply pw_below_drewN | apply below_drew1) | exact HB.out))); rintro e w19 ⟨rfl, hb⟩; refine ⟨_, rfl, ?_⟩; have n0_ := Aside0.mk (below_step (by repeat (first | (with_reducible first | exact HB.out | apply below_alloc | apply pw_below_drewN | apply below_drew1) | exact HB.out)) hb); clear HB; have HB := n0_; clear n0_; (try clear hb); (try clear hb2); (try clear hk); (try clear hi)) | ((with_reducible refine gate_callee (f := 7) rfl ?_); refine goesL_ (some 11) rfl rfl Tryd.func7 (by kernel_rfl) rfl #[] rfl (by (try simp only [List.map_toArray, List.map_cons, List.map_nil]); first | done | rfl | (simp only [List.length_drop, List.length_take]; rfl)) ?_; (with_reducible refine (decorumlaw05_awake.calls  true _ ?side1 A6.out).mono ?_); (case side1 => exact Gl.below hG (by repeat (first | (with_reducible first | exact HB.out | apply below_alloc | apply pw_below_drewN | apply below_drew1) | exact HB.out))); rintro e w20 ⟨rfl, hb⟩; refine ⟨_, rfl, ?_⟩; have n0_ := Aside0.mk (below_step (by repeat (first | (with_reducible first | exact HB.out | apply below_alloc | apply pw_below_drewN | apply below_drew1) | exact HB.out)) hb); clear HB; have HB := n0_; clear n0_; (try clear hb); (try clear hb2); (try clear hk); (try clear hi)) | (go_at_call 14; (with_reducible refine (decorumref04_Clean.calls k (a0.extract 0 300) t173 _ A8.out).mono ?_); rintro e w21 ⟨rfl, hb⟩; have n0_ := Aside0.mk (below_step (by repeat (first | (with_reducible first | exact HB.out | apply below_alloc | apply pw_below_drewN | apply below_drew1) | exact HB.out)) hb); clear HB; have HB := n0_; clear n0_; (try clear hb); (try clear hb2); (try clear hk); (try clear hi)))
            go_ret
            exact ⟨by first | rfl | (simp [errW_none, errW_some] <;> rfl) | (simp [*, errW_none, errW_some] <;> rfl), by repeat (first | (with_reducible first | exact HB.out | apply below_alloc | apply pw_below_drewN | apply below_drew1) | exact HB.out)⟩
        · replace c7 := Bool.eq_false_iff.mpr c7
          subst c7
          have H1 : (some false) = some r := by rw [if_neg (show ¬ (false = true) by decide)] at H; exact H
          clear H
          have H := H1
          clear H1
          obtain rfl := Option.some.inj H
          go_enter Tryd.func4, Tryd.ntmps4
          go_wp2_with (first | ((with_reducible refine gate_callee (f := 13) rfl ?_); refine goesL_ (some 10) rfl rfl Tryd.func13 (by kernel_rfl) rfl #[.string (a0.extract 0 300)] rfl (by (try simp only [List.map_toArray, List.map_cons, List.map_nil]); first | done | rfl | (simp only [List.length_drop, List.length_take]; rfl)) ?_; (with_reducible refine (Go.Proofs.YtpnofnmecjagcaaDoor.XB.url_Clean.calls k (a0.extract 0 300) t171 _ ?side1 A5.out).mono ?_); (case side1 => exact Gl.below hG (by repeat (first | (with_reducible first | exact HB.out | apply below_alloc | apply pw_below_drewN | apply below_drew1) | exact HB.out))); rintro e w22 ⟨rfl, hb⟩; refine ⟨_, rfl, ?_⟩; have n0_ := Aside0.mk (below_step (by repeat (first | (with_reducible first | exact HB.out | apply below_alloc | apply pw_below_drewN | apply below_drew1) | exact HB.out)) hb); clear HB; have HB := n0_; clear n0_; (try clear hb); (try clear hb2); (try clear hk); (try clear hi)) | ((with_reducible refine gate_callee (f := 7) rfl ?_); refine goesL_ (some 11) rfl rfl Tryd.func7 (by kernel_rfl) rfl #[] rfl (by (try simp only [List.map_toArray, List.map_cons, List.map_nil]); first | done | rfl | (simp only [List.length_drop, List.length_take]; rfl)) ?_; (with_reducible refine (decorumlaw05_awake.calls  false _ ?side1 A6.out).mono ?_); (case side1 => exact Gl.below hG (by repeat (first | (with_reducible first | exact HB.out | apply below_alloc | apply pw_below_drewN | apply below_drew1) | exact HB.out))); rintro e w23 ⟨rfl, hb⟩; refine ⟨_, rfl, ?_⟩; have n0_ := Aside0.mk (below_step (by repeat (first | (with_reducible first | exact HB.out | apply below_alloc | apply pw_below_drewN | apply below_drew1) | exact HB.out)) hb); clear HB; have HB := n0_; clear n0_; (try clear hb); (try clear hb2); (try clear hk); (try clear hi)))
          go_ret
          exact ⟨by first | rfl | (simp [errW_none, errW_some] <;> rfl) | (simp [*, errW_none, errW_some] <;> rfl), by repeat (first | (with_reducible first | exact HB.out | apply below_alloc | apply pw_below_drewN | apply below_drew1) | exact HB.out)⟩
      · rw [if_neg c4] at H
        exact absurd H (by simp)
    · rw [if_neg c3] at H
      exact absurd H (by simp)
  · rw [if_neg c2] at H
    have c2b0 : decide (300 < (a0.size : Int)) = false := decide_eq_false c2
    have c2b1 : decide (300 < a0.size) = false := decide_eq_false (by omega)
    clear c2
    replace H := Option.bind_eq_some_iff.mp H
    obtain ⟨t174, A240, H⟩ := H
    replace H : ((decorumlaw05_awake.f).bind fun t175 => (if t175 = true then ((decorumref04_Clean.f k a0).bind fun t176 => (if t174.toList = t176.toList then (if (t174.size : Int) > 0 then (if 0 < (t174.size : Int) then (some ((bt t174 0) == 47)) else (none)) else (some false)) else (some false))) else (some false))) = some r := H
    have A24 := Aside0.mk A240
    clear A240
    replace H := Option.bind_eq_some_iff.mp H
    obtain ⟨t175, A250, H⟩ := H
    replace H : (if t175 = true then ((decorumref04_Clean.f k a0).bind fun t176 => (if t174.toList = t176.toList then (if (t174.size : Int) > 0 then (if 0 < (t174.size : Int) then (some ((bt t174 0) == 47)) else (none)) else (some false)) else (some false))) else (some false)) = some r := H
    have A25 := Aside0.mk A250
    clear A250
    by_cases c26 : t175 = true
    · subst c26
      have H1 : ((decorumref04_Clean.f k a0).bind fun t176 => (if t174.toList = t176.toList then (if (t174.size : Int) > 0 then (if 0 < (t174.size : Int) then (some ((bt t174 0) == 47)) else (none)) else (some false)) else (some false))) = some r := by rw [if_pos rfl] at H; exact H
      clear H
      have H := H1
      clear H1
      replace H := Option.bind_eq_some_iff.mp H
      obtain ⟨t176, A270, H⟩ := H
      replace H : (if t174.toList = t176.toList then (if (t174.size : Int) > 0 then (if 0 < (t174.size : Int) then (some ((bt t174 0) == 47)) else (none)) else (some false)) else (some false)) = some r := H
      have A27 := Aside0.mk A270
      clear A270
      by_cases c28 : t174.toList = t176.toList
      · rw [if_pos c28] at H
        have c28b0 : (t174.toList == t176.toList) = true := beq_iff_eq.mpr c28
        have c28b1 : (t174.toList != t176.toList) = false := bne_eq_false_iff_eq.mpr c28
        clear c28
        by_cases c29 : (t174.size : Int) > 0
        · rw [if_pos c29] at H
          have c29b0 : decide (0 < (t174.size : Int)) = true := decide_eq_true c29
          have c29b1 : decide (0 < t174.size) = true := decide_eq_true (by omega)
          clear c29
          by_cases c30 : 0 < (t174.size : Int)
          · rw [if_pos c30] at H
            have c30b0 : decide (0 < (t174.size : Int)) = true := decide_eq_true c30
            have c30b1 : decide (0 < t174.size) = true := decide_eq_true (by omega)
            clear c30
            obtain rfl := Option.some.inj H
            go_enter Tryd.func4, Tryd.ntmps4
            go_wp2_with (first | ((with_reducible refine gate_callee (f := 13) rfl ?_); refine goesL_ (some 10) rfl rfl Tryd.func13 (by kernel_rfl) rfl #[.string a0] rfl (by (try simp only [List.map_toArray, List.map_cons, List.map_nil]); first | done | rfl | (simp only [List.length_drop, List.length_take]; rfl)) ?_; (with_reducible refine (Go.Proofs.YtpnofnmecjagcaaDoor.XB.url_Clean.calls k a0 t174 _ ?side1 A24.out).mono ?_); (case side1 => exact Gl.below hG (by repeat (first | (with_reducible first | exact HB.out | apply below_alloc | apply pw_below_drewN | apply below_drew1) | exact HB.out))); rintro e w32 ⟨rfl, hb⟩; refine ⟨_, rfl, ?_⟩; have n0_ := Aside0.mk (below_step (by repeat (first | (with_reducible first | exact HB.out | apply below_alloc | apply pw_below_drewN | apply below_drew1) | exact HB.out)) hb); clear HB; have HB := n0_; clear n0_; (try clear hb); (try clear hb2); (try clear hk); (try clear hi)) | ((with_reducible refine gate_callee (f := 7) rfl ?_); refine goesL_ (some 11) rfl rfl Tryd.func7 (by kernel_rfl) rfl #[] rfl (by (try simp only [List.map_toArray, List.map_cons, List.map_nil]); first | done | rfl | (simp only [List.length_drop, List.length_take]; rfl)) ?_; (with_reducible refine (decorumlaw05_awake.calls  true _ ?side1 A25.out).mono ?_); (case side1 => exact Gl.below hG (by repeat (first | (with_reducible first | exact HB.out | apply below_alloc | apply pw_below_drewN | apply below_drew1) | exact HB.out))); rintro e w33 ⟨rfl, hb⟩; refine ⟨_, rfl, ?_⟩; have n0_ := Aside0.mk (below_step (by repeat (first | (with_reducible first | exact HB.out | apply below_alloc | apply pw_below_drewN | apply below_drew1) | exact HB.out)) hb); clear HB; have HB := n0_; clear n0_; (try clear hb); (try clear hb2); (try clear hk); (try clear hi)) | (go_at_call 14; (with_reducible refine (decorumref04_Clean.calls k a0 t176 _ A27.out).mono ?_); rintro e w34 ⟨rfl, hb⟩; have n0_ := Aside0.mk (below_step (by repeat (first | (with_reducible first | exact HB.out | apply below_alloc | apply pw_below_drewN | apply below_drew1) | exact HB.out)) hb); clear HB; have HB := n0_; clear n0_; (try clear hb); (try clear hb2); (try clear hk); (try clear hi); have p31 : 0 ≤ (0 : Int) := (by omega); have q31 : 0 < t174.size := (by have : (0 : Int) < (t174.size : Int) := of_decide_eq_true (by first | (with_reducible assumption) | assumption); omega); have hx31 : ∀ h : 0 < t174.size, ((t174[0]'h).toNat : Int) = bt t174 0 := bt_at t174 0; clear p31; have qi31 : (0 < (t174.size : Int)) = True := eq_true (of_decide_eq_true (by first | (with_reducible assumption) | assumption)); replace q31 := eq_true q31))
            go_ret
            exact ⟨by first | rfl | (simp [errW_none, errW_some] <;> rfl) | (simp [*, errW_none, errW_some] <;> rfl), by repeat (first | (with_reducible first | exact HB.out | apply below_alloc | apply pw_below_drewN | apply below_drew1) | exact HB.out)⟩
          · rw [if_neg c30] at H
            exact absurd H (by simp)
        · rw [if_neg c29] at H
          have c29b0 : decide (0 < (t174.size : Int)) = false := decide_eq_false c29
          have c29b1 : decide (0 < t174.size) = false := decide_eq_false (by omega)
          clear c29
          obtain rfl := Option.some.inj H
          go_enter Tryd.func4, Tryd.ntmps4
          go_wp2_with (first | ((with_reducible refine gate_callee (f := 13) rfl ?_); refine goesL_ (some 10) rfl rfl Tryd.func13 (by kernel_rfl) rfl #[.string a0] rfl (by (try simp only [List.map_toArray, List.map_cons, List.map_nil]); first | done | rfl | (simp only [List.length_drop, List.length_take]; rfl)) ?_; (with_reducible refine (Go.Proofs.YtpnofnmecjagcaaDoor.XB.url_Clean.calls k a0 t174 _ ?side1 A24.out).mono ?_); (case side1 => exact Gl.below hG (by repeat (first | (with_reducible first | exact HB.out | apply below_alloc | apply pw_below_drewN | apply below_drew1) | exact HB.out))); rintro e w35 ⟨rfl, hb⟩; refine ⟨_, rfl, ?_⟩; have n0_ := Aside0.mk (below_step (by repeat (first | (with_reducible first | exact HB.out | apply below_alloc | apply pw_below_drewN | apply below_drew1) | exact HB.out)) hb); clear HB; have HB := n0_; clear n0_; (try clear hb); (try clear hb2); (try clear hk); (try clear hi)) | ((with_reducible refine gate_callee (f := 7) rfl ?_); refine goesL_ (some 11) rfl rfl Tryd.func7 (by kernel_rfl) rfl #[] rfl (by (try simp only [List.map_toArray, List.map_cons, List.map_nil]); first | done | rfl | (simp only [List.length_drop, List.length_take]; rfl)) ?_; (with_reducible refine (decorumlaw05_awake.calls  true _ ?side1 A25.out).mono ?_); (case side1 => exact Gl.below hG (by repeat (first | (with_reducible first | exact HB.out | apply below_alloc | apply pw_below_drewN | apply below_drew1) | exact HB.out))); rintro e w36 ⟨rfl, hb⟩; refine ⟨_, rfl, ?_⟩; have n0_ := Aside0.mk (below_step (by repeat (first | (with_reducible first | exact HB.out | apply below_alloc | apply pw_below_drewN | apply below_drew1) | exact HB.out)) hb); clear HB; have HB := n0_; clear n0_; (try clear hb); (try clear hb2); (try clear hk); (try clear hi)) | (go_at_call 14; (with_reducible refine (decorumref04_Clean.calls k a0 t176 _ A27.out).mono ?_); rintro e w37 ⟨rfl, hb⟩; have n0_ := Aside0.mk (below_step (by repeat (first | (with_reducible first | exact HB.out | apply below_alloc | apply pw_below_drewN | apply below_drew1) | exact HB.out)) hb); clear HB; have HB := n0_; clear n0_; (try clear hb); (try clear hb2); (try clear hk); (try clear hi)))
          go_ret
          exact ⟨by first | rfl | (simp [errW_none, errW_some] <;> rfl) | (simp [*, errW_none, errW_some] <;> rfl), by repeat (first | (with_reducible first | exact HB.out | apply below_alloc | apply pw_below_drewN | apply below_drew1) | exact HB.out)⟩
      · rw [if_neg c28] at H
        have c28b0 : (t174.toList == t176.toList) = false := beq_eq_false_iff_ne.mpr c28
        have c28b1 : (t174.toList != t176.toList) = true := bne_iff_ne.mpr c28
        obtain rfl := Option.some.inj H
        go_enter Tryd.func4, Tryd.ntmps4
        go_wp2_with (first | ((with_reducible refine gate_callee (f := 13) rfl ?_); refine goesL_ (some 10) rfl rfl Tryd.func13 (by kernel_rfl) rfl #[.string a0] rfl (by (try simp only [List.map_toArray, List.map_cons, List.map_nil]); first | done | rfl | (simp only [List.length_drop, List.length_take]; rfl)) ?_; (with_reducible refine (Go.Proofs.YtpnofnmecjagcaaDoor.XB.url_Clean.calls k a0 t174 _ ?side1 A24.out).mono ?_); (case side1 => exact Gl.below hG (by repeat (first | (with_reducible first | exact HB.out | apply below_alloc | apply pw_below_drewN | apply below_drew1) | exact HB.out))); rintro e w38 ⟨rfl, hb⟩; refine ⟨_, rfl, ?_⟩; have n0_ := Aside0.mk (below_step (by repeat (first | (with_reducible first | exact HB.out | apply below_alloc | apply pw_below_drewN | apply below_drew1) | exact HB.out)) hb); clear HB; have HB := n0_; clear n0_; (try clear hb); (try clear hb2); (try clear hk); (try clear hi)) | ((with_reducible refine gate_callee (f := 7) rfl ?_); refine goesL_ (some 11) rfl rfl Tryd.func7 (by kernel_rfl) rfl #[] rfl (by (try simp only [List.map_toArray, List.map_cons, List.map_nil]); first | done | rfl | (simp only [List.length_drop, List.length_take]; rfl)) ?_; (with_reducible refine (decorumlaw05_awake.calls  true _ ?side1 A25.out).mono ?_); (case side1 => exact Gl.below hG (by repeat (first | (with_reducible first | exact HB.out | apply below_alloc | apply pw_below_drewN | apply below_drew1) | exact HB.out))); rintro e w39 ⟨rfl, hb⟩; refine ⟨_, rfl, ?_⟩; have n0_ := Aside0.mk (below_step (by repeat (first | (with_reducible first | exact HB.out | apply below_alloc | apply pw_below_drewN | apply below_drew1) | exact HB.out)) hb); clear HB; have HB := n0_; clear n0_; (try clear hb); (try clear hb2); (try clear hk); (try clear hi)) | (go_at_call 14; (with_reducible refine (decorumref04_Clean.calls k a0 t176 _ A27.out).mono ?_); rintro e w40 ⟨rfl, hb⟩; have n0_ := Aside0.mk (below_step (by repeat (first | (with_reducible first | exact HB.out | apply below_alloc | apply pw_below_drewN | apply below_drew1) | exact HB.out)) hb); clear HB; have HB := n0_; clear n0_; (try clear hb); (try clear hb2); (try clear hk); (try clear hi)))
        go_ret
        exact ⟨by first | rfl | (simp [errW_none, errW_some] <;> rfl) | (simp [*, errW_none, errW_some] <;> rfl), by repeat (first | (with_reducible first | exact HB.out | apply below_alloc | apply pw_below_drewN | apply below_drew1) | exact HB.out)⟩
    · replace c26 := Bool.eq_false_iff.mpr c26
      subst c26
      have H1 : (some false) = some r := by rw [if_neg (show ¬ (false = true) by decide)] at H; exact H
      clear H
      have H := H1
      clear H1
      obtain rfl := Option.some.inj H
      go_enter Tryd.func4, Tryd.ntmps4
      go_wp2_with (first | ((with_reducible refine gate_callee (f := 13) rfl ?_); refine goesL_ (some 10) rfl rfl Tryd.func13 (by kernel_rfl) rfl #[.string a0] rfl (by (try simp only [List.map_toArray, List.map_cons, List.map_nil]); first | done | rfl | (simp only [List.length_drop, List.length_take]; rfl)) ?_; (with_reducible refine (Go.Proofs.YtpnofnmecjagcaaDoor.XB.url_Clean.calls k a0 t174 _ ?side1 A24.out).mono ?_); (case side1 => exact Gl.below hG (by repeat (first | (with_reducible first | exact HB.out | apply below_alloc | apply pw_below_drewN | apply below_drew1) | exact HB.out))); rintro e w41 ⟨rfl, hb⟩; refine ⟨_, rfl, ?_⟩; have n0_ := Aside0.mk (below_step (by repeat (first | (with_reducible first | exact HB.out | apply below_alloc | apply pw_below_drewN | apply below_drew1) | exact HB.out)) hb); clear HB; have HB := n0_; clear n0_; (try clear hb); (try clear hb2); (try clear hk); (try clear hi)) | ((with_reducible refine gate_callee (f := 7) rfl ?_); refine goesL_ (some 11) rfl rfl Tryd.func7 (by kernel_rfl) rfl #[] rfl (by (try simp only [List.map_toArray, List.map_cons, List.map_nil]); first | done | rfl | (simp only [List.length_drop, List.length_take]; rfl)) ?_; (with_reducible refine (decorumlaw05_awake.calls  false _ ?side1 A25.out).mono ?_); (case side1 => exact Gl.below hG (by repeat (first | (with_reducible first | exact HB.out | apply below_alloc | apply pw_below_drewN | apply below_drew1) | exact HB.out))); rintro e w42 ⟨rfl, hb⟩; refine ⟨_, rfl, ?_⟩; have n0_ := Aside0.mk (below_step (by repeat (first | (with_reducible first | exact HB.out | apply below_alloc | apply pw_below_drewN | apply below_drew1) | exact HB.out)) hb); clear HB; have HB := n0_; clear n0_; (try clear hb); (try clear hb2); (try clear hk); (try clear hi)))
      go_ret
      exact ⟨by first | rfl | (simp [errW_none, errW_some] <;> rfl) | (simp [*, errW_none, errW_some] <;> rfl), by repeat (first | (with_reducible first | exact HB.out | apply below_alloc | apply pw_below_drewN | apply below_drew1) | exact HB.out)⟩
/-- THE ONE PURE STATEMENT of decorumlaw05_UrlCleans: yours. -/
def decorumlaw05_UrlCleans.Pure : Prop := ∀ (a0 : ByteArray), a0.size ≤ 140737488351232 → ∃ k, decorumlaw05_UrlCleans.f k a0 = some true
theorem decorumlaw05_UrlCleans.walk (P : decorumlaw05_UrlCleans.Pure) (a0 : ByteArray) (w : World) (hG : Gl w) (w0 : a0.size ≤ 140737488351232) :
    Calls Tryd.prog 4 #[.string a0] w fun e w' => e = .returned (.bool true) ∧ Below w.heap.size w w' := by
  obtain ⟨k, h⟩ := P a0 w0
  refine (decorumlaw05_UrlCleans.calls k a0 true w hG h).mono ?_
  rintro e w' ⟨rfl, hd⟩
  exact ⟨rfl, hd⟩

-- NOT PRINTED: function 5 (decorumlaw05_UrlAlike)
end Go.Proofs.YtpnofnmecjagcaaDoor.XC
