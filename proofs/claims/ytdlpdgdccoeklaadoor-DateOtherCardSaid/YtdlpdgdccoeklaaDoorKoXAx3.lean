import Derived.Test.YtdlpdgdccoeklaaDoorKoXAx0
import Derived.Test.YtdlpdgdccoeklaaDoorKoXAx2
-- Written by a program (wip/tools/xprint.py) out of the loaded functions: contracts of Go functions, and the functions that they compute.
namespace Go.Proofs.YtdlpdgdccoeklaaDoor.XA
open Go.RowKit Go.Proofs.YtdlpdgdccoeklaaDoor.Ext Go.Proofs.YtdlpdgdccoeklaaDoorW.PrintWords Go.Proofs.YtdlpdgdccoeklaaDoorW.PrintLast Go.Proofs.YtdlpdgdccoeklaaDoorW.PrintMore
attribute [local go_sem] max2_int min2_int max_two min_two max_three min_three max_four min_four   -- for this text's walks alone
set_option linter.unusedVariables false
set_option linter.unusedSimpArgs false
/-! ### civil_Length: function 46 -/
def civil_Length.j0 : Nat → Int → Bool → Option (Int)
  | 0, _, _ => none
  | k + 1, x5, x10 => if x10 = true then (some 30) else (if x5 = 1 then (some 31) else (if x5 = 3 then (some 31) else (if x5 = 5 then (some 31) else (if x5 = 7 then (some 31) else (if x5 = 8 then (some 31) else (if x5 = 10 then (some 31) else (if x5 = 12 then (some 31) else (some 0))))))))
def civil_Length.f (k : Nat) (a0 : Int) (a1 : Int) : Option (Int) := if a1 = 2 then ((civil_Leap.f a0).bind fun t127 => (if t127 = true then (some 29) else (some 28))) else (if a1 = 4 then (civil_Length.j0 k a1 (a1 == 4)) else (if a1 = 6 then (civil_Length.j0 k a1 (a1 == 6)) else (if a1 = 9 then (civil_Length.j0 k a1 (a1 == 9)) else (civil_Length.j0 k a1 (a1 == 11)))))
set_option maxHeartbeats 8000000 in
set_option maxRecDepth 100000 in
theorem civil_Length.calls (k : Nat) (a0 : Int) (a1 : Int) (r : Int) (w : World) (h : civil_Length.f k a0 a1 = some r) :
    Calls Tryd.prog 46 #[.int .i64 a0, .int .i64 a1] w fun e w' => e = .returned (.int .i64 r) ∧ Drawn0 w w' := by
  have H : (if a1 = 2 then ((civil_Leap.f a0).bind fun t127 => (if t127 = true then (some 29) else (some 28))) else (if a1 = 4 then (civil_Length.j0 k a1 (a1 == 4)) else (if a1 = 6 then (civil_Length.j0 k a1 (a1 == 6)) else (if a1 = 9 then (civil_Length.j0 k a1 (a1 == 9)) else (civil_Length.j0 k a1 (a1 == 11)))))) = some r := h
  clear h
  by_cases c3 : a1 = 2
  · rw [if_pos c3] at H
    have c3b0 : (a1 == 2) = true := beq_iff_eq.mpr c3
    have c3b1 : (a1 != 2) = false := bne_eq_false_iff_eq.mpr c3
    clear c3
    replace H := Option.bind_eq_some_iff.mp H
    obtain ⟨t127, A40, H⟩ := H
    replace H : (if t127 = true then (some 29) else (some 28)) = some r := H
    have A4 := Aside0.mk A40
    clear A40
    by_cases c5 : t127 = true
    · subst c5
      have H1 : (some 29) = some r := by rw [if_pos rfl] at H; exact H
      clear H
      have H := H1
      clear H1
      obtain rfl := Option.some.inj H
      go_enter Tryd.func46, Tryd.ntmps46
      go_wp2_with (first | ((with_reducible refine gate_callee (f := 56) rfl ?_); refine goesL_ (some 9) rfl rfl Tryd.func56 (by kernel_rfl) rfl #[.int .i64 a0] rfl (by (try simp only [List.map_toArray, List.map_cons, List.map_nil]); first | done | rfl | (simp only [List.length_drop, List.length_take]; rfl)) ?_; (with_reducible refine (civil_Leap.calls a0 true _ A4.out).mono ?_); rintro e w' ⟨rfl, ⟨nd, rfl⟩⟩; refine ⟨_, rfl, ?_⟩))
      go_ret
      exact ⟨by first | rfl | (simp; done) | (simp [*]; done), by repeat (first | exact Drawn0.refl _ | apply Drawn0.step)⟩
    · replace c5 := Bool.eq_false_iff.mpr c5
      subst c5
      have H1 : (some 28) = some r := by rw [if_neg (show ¬ (false = true) by decide)] at H; exact H
      clear H
      have H := H1
      clear H1
      obtain rfl := Option.some.inj H
      go_enter Tryd.func46, Tryd.ntmps46
      go_wp2_with (first | ((with_reducible refine gate_callee (f := 56) rfl ?_); refine goesL_ (some 9) rfl rfl Tryd.func56 (by kernel_rfl) rfl #[.int .i64 a0] rfl (by (try simp only [List.map_toArray, List.map_cons, List.map_nil]); first | done | rfl | (simp only [List.length_drop, List.length_take]; rfl)) ?_; (with_reducible refine (civil_Leap.calls a0 false _ A4.out).mono ?_); rintro e w' ⟨rfl, ⟨nd, rfl⟩⟩; refine ⟨_, rfl, ?_⟩))
      go_ret
      exact ⟨by first | rfl | (simp; done) | (simp [*]; done), by repeat (first | exact Drawn0.refl _ | apply Drawn0.step)⟩
  · rw [if_neg c3] at H
    have c3b0 : (a1 == 2) = false := beq_eq_false_iff_ne.mpr c3
    have c3b1 : (a1 != 2) = true := bne_iff_ne.mpr c3
    have HC6 := Aside0.mk H
    clear H
    go_enter Tryd.func46, Tryd.ntmps46
    go_upto_if 10 with (fail)
    go_cut [10] (fun v10 wc => ∃ (kq : Nat) (x10_5 : Bool), v10 = .bool x10_5 ∧ Aside0 (civil_Length.j0 kq a1 x10_5 = some r) ∧ Aside0 (kq ≤ k) ∧ Drawn0 w wc)
    case first =>
      have H := HC6.out
      clear HC6
      by_cases c7 : a1 = 4
      · rw [if_pos c7] at H
        have c7b0 : (a1 == 4) = true := beq_iff_eq.mpr c7
        have c7b1 : (a1 != 4) = false := bne_eq_false_iff_eq.mpr c7
        clear c7
        (first | rw [c7b0] | (simp only [i64_w, i32_w]; rw [c7b0]) | skip)
        have H' := Aside0.mk H
        clear H
        go_wp2
        go_meet
        case rel => exact ⟨_, ((a1 == 4)), (by first | rfl | (simp; done) | (simp [*]; done)), H', ⟨by first | omega | exact Nat.le_refl _⟩, by repeat (first | exact Drawn0.refl _ | apply Drawn0.step)⟩
      · rw [if_neg c7] at H
        have c7b0 : (a1 == 4) = false := beq_eq_false_iff_ne.mpr c7
        have c7b1 : (a1 != 4) = true := bne_iff_ne.mpr c7
        (first | rw [c7b0] | (simp only [i64_w, i32_w]; rw [c7b0]) | skip)
        by_cases c8 : a1 = 6
        · rw [if_pos c8] at H
          have c8b0 : (a1 == 6) = true := beq_iff_eq.mpr c8
          have c8b1 : (a1 != 6) = false := bne_eq_false_iff_eq.mpr c8
          clear c8
          have H' := Aside0.mk H
          clear H
          go_wp2
          go_meet
          case rel => exact ⟨_, ((a1 == 6)), (by first | rfl | (simp; done) | (simp [*]; done)), H', ⟨by first | omega | exact Nat.le_refl _⟩, by repeat (first | exact Drawn0.refl _ | apply Drawn0.step)⟩
        · rw [if_neg c8] at H
          have c8b0 : (a1 == 6) = false := beq_eq_false_iff_ne.mpr c8
          have c8b1 : (a1 != 6) = true := bne_iff_ne.mpr c8
          by_cases c9 : a1 = 9
          · rw [if_pos c9] at H
            have c9b0 : (a1 == 9) = true := beq_iff_eq.mpr c9
            have c9b1 : (a1 != 9) = false := bne_eq_false_iff_eq.mpr c9
            clear c9
            have H' := Aside0.mk H
            clear H
            go_wp2
            go_meet
            case rel => exact ⟨_, ((a1 == 9)), (by first | rfl | (simp; done) | (simp [*]; done)), H', ⟨by first | omega | exact Nat.le_refl _⟩, by repeat (first | exact Drawn0.refl _ | apply Drawn0.step)⟩
          · rw [if_neg c9] at H
            have c9b0 : (a1 == 9) = false := beq_eq_false_iff_ne.mpr c9
            have c9b1 : (a1 != 9) = true := bne_iff_ne.mpr c9
            have H' := Aside0.mk H
            clear H
            go_wp2
            go_meet
            case rel => exact ⟨_, ((a1 == 11)), (by first | rfl | (simp; done) | (simp [*]; done)), H', ⟨by first | omega | exact Nat.le_refl _⟩, by repeat (first | exact Drawn0.refl _ | apply Drawn0.step)⟩
    case rest =>
      clear HC6
      try clear p2
      try clear c3
      try clear c3b0
      try clear c3b1
      try clear c4
      try clear c5
      try clear c7
      try clear c7b0
      try clear c7b1
      try clear c8
      try clear c8b0
      try clear c8b1
      try clear c9
      try clear c9b0
      try clear c9b1
      obtain ⟨kq, x10_5, rfl, HA, HJ5, ⟨mc5, rfl⟩⟩ := hcut
      cases kq with
      | zero => exact absurd HA.out (by simp [civil_Length.j0])
      | succ kj5 =>
        have H := HA.out
        clear HA
        simp only [civil_Length.j0] at H
        by_cases c10 : x10_5 = true
        · subst c10
          have H1 : (some 30) = some r := by rw [if_pos rfl] at H; exact H
          clear H
          have H := H1
          clear H1
          obtain rfl := Option.some.inj H
          go_wp2
          go_ret
          exact ⟨by first | rfl | (simp; done) | (simp [*]; done), by repeat (first | exact Drawn0.refl _ | apply Drawn0.step)⟩
        · replace c10 := Bool.eq_false_iff.mpr c10
          subst c10
          have H1 : (if a1 = 1 then (some 31) else (if a1 = 3 then (some 31) else (if a1 = 5 then (some 31) else (if a1 = 7 then (some 31) else (if a1 = 8 then (some 31) else (if a1 = 10 then (some 31) else (if a1 = 12 then (some 31) else (some 0)))))))) = some r := by rw [if_neg (show ¬ (false = true) by decide)] at H; exact H
          clear H
          have H := H1
          clear H1
          by_cases c11 : a1 = 1
          · rw [if_pos c11] at H
            have c11b0 : (a1 == 1) = true := beq_iff_eq.mpr c11
            have c11b1 : (a1 != 1) = false := bne_eq_false_iff_eq.mpr c11
            clear c11
            obtain rfl := Option.some.inj H
            go_wp2
            go_ret
            exact ⟨by first | rfl | (simp; done) | (simp [*]; done), by repeat (first | exact Drawn0.refl _ | apply Drawn0.step)⟩
          · rw [if_neg c11] at H
            have c11b0 : (a1 == 1) = false := beq_eq_false_iff_ne.mpr c11
            have c11b1 : (a1 != 1) = true := bne_iff_ne.mpr c11
            by_cases c12 : a1 = 3
            · rw [if_pos c12] at H
              have c12b0 : (a1 == 3) = true := beq_iff_eq.mpr c12
              have c12b1 : (a1 != 3) = false := bne_eq_false_iff_eq.mpr c12
              clear c12
              obtain rfl := Option.some.inj H
              go_wp2
              go_ret
              exact ⟨by first | rfl | (simp; done) | (simp [*]; done), by repeat (first | exact Drawn0.refl _ | apply Drawn0.step)⟩
            · rw [if_neg c12] at H
              have c12b0 : (a1 == 3) = false := beq_eq_false_iff_ne.mpr c12
              have c12b1 : (a1 != 3) = true := bne_iff_ne.mpr c12
              by_cases c13 : a1 = 5
              · rw [if_pos c13] at H
                have c13b0 : (a1 == 5) = true := beq_iff_eq.mpr c13
                have c13b1 : (a1 != 5) = false := bne_eq_false_iff_eq.mpr c13
                clear c13
                obtain rfl := Option.some.inj H
                go_wp2
                go_ret
                exact ⟨by first | rfl | (simp; done) | (simp [*]; done), by repeat (first | exact Drawn0.refl _ | apply Drawn0.step)⟩
              · rw [if_neg c13] at H
                have c13b0 : (a1 == 5) = false := beq_eq_false_iff_ne.mpr c13
                have c13b1 : (a1 != 5) = true := bne_iff_ne.mpr c13
                by_cases c14 : a1 = 7
                · rw [if_pos c14] at H
                  have c14b0 : (a1 == 7) = true := beq_iff_eq.mpr c14
                  have c14b1 : (a1 != 7) = false := bne_eq_false_iff_eq.mpr c14
                  clear c14
                  obtain rfl := Option.some.inj H
                  go_wp2
                  go_ret
                  exact ⟨by first | rfl | (simp; done) | (simp [*]; done), by repeat (first | exact Drawn0.refl _ | apply Drawn0.step)⟩
                · rw [if_neg c14] at H
                  have c14b0 : (a1 == 7) = false := beq_eq_false_iff_ne.mpr c14
                  have c14b1 : (a1 != 7) = true := bne_iff_ne.mpr c14
                  by_cases c15 : a1 = 8
                  · rw [if_pos c15] at H
                    have c15b0 : (a1 == 8) = true := beq_iff_eq.mpr c15
                    have c15b1 : (a1 != 8) = false := bne_eq_false_iff_eq.mpr c15
                    clear c15
                    obtain rfl := Option.some.inj H
                    go_wp2
                    go_ret
                    exact ⟨by first | rfl | (simp; done) | (simp [*]; done), by repeat (first | exact Drawn0.refl _ | apply Drawn0.step)⟩
                  · rw [if_neg c15] at H
                    have c15b0 : (a1 == 8) = false := beq_eq_false_iff_ne.mpr c15
                    have c15b1 : (a1 != 8) = true := bne_iff_ne.mpr c15
                    by_cases c16 : a1 = 10
                    · rw [if_pos c16] at H
                      have c16b0 : (a1 == 10) = true := beq_iff_eq.mpr c16
                      have c16b1 : (a1 != 10) = false := bne_eq_false_iff_eq.mpr c16
                      clear c16
                      obtain rfl := Option.some.inj H
                      go_wp2
                      go_ret
                      exact ⟨by first | rfl | (simp; done) | (simp [*]; done), by repeat (first | exact Drawn0.refl _ | apply Drawn0.step)⟩
                    · rw [if_neg c16] at H
                      have c16b0 : (a1 == 10) = false := beq_eq_false_iff_ne.mpr c16
                      have c16b1 : (a1 != 10) = true := bne_iff_ne.mpr c16
                      by_cases c17 : a1 = 12
                      · rw [if_pos c17] at H
                        have c17b0 : (a1 == 12) = true := beq_iff_eq.mpr c17
                        have c17b1 : (a1 != 12) = false := bne_eq_false_iff_eq.mpr c17
                        clear c17
                        obtain rfl := Option.some.inj H
                        go_wp2
                        go_ret
                        exact ⟨by first | rfl | (simp; done) | (simp [*]; done), by repeat (first | exact Drawn0.refl _ | apply Drawn0.step)⟩
                      · rw [if_neg c17] at H
                        have c17b0 : (a1 == 12) = false := beq_eq_false_iff_ne.mpr c17
                        have c17b1 : (a1 != 12) = true := bne_iff_ne.mpr c17
                        obtain rfl := Option.some.inj H
                        go_wp2
                        go_ret
                        exact ⟨by first | rfl | (simp; done) | (simp [*]; done), by repeat (first | exact Drawn0.refl _ | apply Drawn0.step)⟩
/-! ### civil_Date: function 27 -/
mutual
def civil_Date.j0 : Nat → Int → Int → Bool → Option (Int × Int × Int × Bool)
  | 0, _, _, _ => none
  | k + 1, x0, x6, x22 => if x22 = true then (some (0, 0, 0, false)) else (civil_Date.l0 k (wrap64 (Int.tdiv (wrap64 (x0 - x6)) 366)) (wrap64 (x0 - x6)))
def civil_Date.l0 : Nat → Int → Int → Option (Int × Int × Int × Bool)
  | 0, _, _ => none
  | k + 1, x2, x8 => (civil_before.f (wrap64 (x2 + 1))).bind fun t131 => (if t131 ≤ x8 then (civil_Date.l0 k (wrap64 (x2 + 1)) x8) else ((civil_before.f x2).bind fun t132 => (civil_Date.l1 k x2 1 (wrap64 (x8 - t132)))))
def civil_Date.l1 : Nat → Int → Int → Int → Option (Int × Int × Int × Bool)
  | 0, _, _, _ => none
  | k + 1, x2, x3, x8 => (civil_Length.f k x2 x3).bind fun t133 => (if x8 ≥ t133 then ((civil_Length.f k x2 x3).bind fun t134 => (civil_Date.l1 k x2 (wrap64 (x3 + 1)) (wrap64 (x8 - t134)))) else (some (x2, x3, wrap64 (x8 + 1), true)))
end
def civil_Date.f (k : Nat) (a0 : Int) : Option (Int × Int × Int × Bool) := (civil_before.f 1970).bind fun t128 => ((civil_before.f 10000).bind fun t129 => ((civil_before.f 1970).bind fun t130 => (if a0 < (wrap64 (-t128)) then (civil_Date.j0 k a0 (wrap64 (-t128)) true) else (civil_Date.j0 k a0 (wrap64 (-t128)) (decide (a0 > (wrap64 ((wrap64 (t129 - t130)) - 1))))))))
set_option maxHeartbeats 8000000 in
set_option maxRecDepth 100000 in
theorem civil_Date.calls (k : Nat) (a0 : Int) (r1 : Int) (r2 : Int) (r3 : Int) (r4 : Bool) (w : World) (h : civil_Date.f k a0 = some (r1, r2, r3, r4)) :
    Calls Tryd.prog 27 #[.int .i64 a0] w fun e w' => e = .returned (.tuple #[.int .i64 r1, .int .i64 r2, .int .i64 r3, .bool r4]) ∧ Drawn0 w w' := by
  have H : ((civil_before.f 1970).bind fun t128 => ((civil_before.f 10000).bind fun t129 => ((civil_before.f 1970).bind fun t130 => (if a0 < (wrap64 (-t128)) then (civil_Date.j0 k a0 (wrap64 (-t128)) true) else (civil_Date.j0 k a0 (wrap64 (-t128)) (decide (a0 > (wrap64 ((wrap64 (t129 - t130)) - 1))))))))) = some (r1, r2, r3, r4) := h
  clear h
  replace H := Option.bind_eq_some_iff.mp H
  obtain ⟨t128, A20, H⟩ := H
  replace H : ((civil_before.f 10000).bind fun t129 => ((civil_before.f 1970).bind fun t130 => (if a0 < (wrap64 (-t128)) then (civil_Date.j0 k a0 (wrap64 (-t128)) true) else (civil_Date.j0 k a0 (wrap64 (-t128)) (decide (a0 > (wrap64 ((wrap64 (t129 - t130)) - 1)))))))) = some (r1, r2, r3, r4) := H
  have A2 := Aside0.mk A20
  clear A20
  replace H := Option.bind_eq_some_iff.mp H
  obtain ⟨t129, A30, H⟩ := H
  replace H : ((civil_before.f 1970).bind fun t130 => (if a0 < (wrap64 (-t128)) then (civil_Date.j0 k a0 (wrap64 (-t128)) true) else (civil_Date.j0 k a0 (wrap64 (-t128)) (decide (a0 > (wrap64 ((wrap64 (t129 - t130)) - 1))))))) = some (r1, r2, r3, r4) := H
  have A3 := Aside0.mk A30
  clear A30
  replace H := Option.bind_eq_some_iff.mp H
  obtain ⟨t130, A40, H⟩ := H
  replace H : (if a0 < (wrap64 (-t128)) then (civil_Date.j0 k a0 (wrap64 (-t128)) true) else (civil_Date.j0 k a0 (wrap64 (-t128)) (decide (a0 > (wrap64 ((wrap64 (t129 - t130)) - 1)))))) = some (r1, r2, r3, r4) := H
  have A4 := Aside0.mk A40
  clear A40
  have HC5 := Aside0.mk H
  clear H
  go_enter Tryd.func27, Tryd.ntmps27
  go_upto_region 2 with (first | ((with_reducible refine gate_callee (f := 45) rfl ?_); refine goesL_ (some 9) rfl rfl Tryd.func45 (by kernel_rfl) rfl #[.int .i64 1970] rfl (by (try simp only [List.map_toArray, List.map_cons, List.map_nil]); first | done | rfl | (simp only [List.length_drop, List.length_take]; rfl)) ?_; (with_reducible refine (civil_before.calls 1970 t128 _ A2.out).mono ?_); rintro e w' ⟨rfl, ⟨nd, rfl⟩⟩; refine ⟨_, rfl, ?_⟩) | ((with_reducible refine gate_callee (f := 45) rfl ?_); refine goesL_ (some 11) rfl rfl Tryd.func45 (by kernel_rfl) rfl #[.int .i64 10000] rfl (by (try simp only [List.map_toArray, List.map_cons, List.map_nil]); first | done | rfl | (simp only [List.length_drop, List.length_take]; rfl)) ?_; (with_reducible refine (civil_before.calls 10000 t129 _ A3.out).mono ?_); rintro e w' ⟨rfl, ⟨nd, rfl⟩⟩; refine ⟨_, rfl, ?_⟩) | ((with_reducible refine gate_callee (f := 45) rfl ?_); refine goesL_ (some 12) rfl rfl Tryd.func45 (by kernel_rfl) rfl #[.int .i64 1970] rfl (by (try simp only [List.map_toArray, List.map_cons, List.map_nil]); first | done | rfl | (simp only [List.length_drop, List.length_take]; rfl)) ?_; (with_reducible refine (civil_before.calls 1970 t130 _ A4.out).mono ?_); rintro e w' ⟨rfl, ⟨nd, rfl⟩⟩; refine ⟨_, rfl, ?_⟩))
  (try simp only [Act.put, List.setIfInBounds_toArray, List.set_cons_zero, List.set_cons_succ])
  go_cut [22] (fun v22 wc => ∃ (kq : Nat) (x22_4 : Bool), v22 = .bool x22_4 ∧ Aside0 (civil_Date.j0 kq a0 (wrap64 (-t128)) x22_4 = some (r1, r2, r3, r4)) ∧ Aside0 (kq ≤ k) ∧ Drawn0 w wc)
  case first =>
    have H := HC5.out
    clear HC5
    by_cases c6 : a0 < (wrap64 (-t128))
    · rw [if_pos c6] at H
      have c6b0 : decide (a0 < (wrap64 (-t128))) = true := decide_eq_true c6
      clear c6
      (first | rw [c6b0] | (simp only [i64_w, i32_w]; rw [c6b0]) | skip)
      have H' := Aside0.mk H
      clear H
      go_wp2
      go_meet
      case rel => exact ⟨_, (true), (by first | rfl | (simp; done) | (simp [*]; done)), H', ⟨by first | omega | exact Nat.le_refl _⟩, by repeat (first | exact Drawn0.refl _ | apply Drawn0.step)⟩
    · rw [if_neg c6] at H
      have c6b0 : decide (a0 < (wrap64 (-t128))) = false := decide_eq_false c6
      clear c6
      (first | rw [c6b0] | (simp only [i64_w, i32_w]; rw [c6b0]) | skip)
      have H' := Aside0.mk H
      clear H
      go_wp2
      go_meet
      case rel => exact ⟨_, (decide (a0 > (wrap64 ((wrap64 (t129 - t130)) - 1)))), (by first | rfl | (simp; done) | (simp [*]; done)), H', ⟨by first | omega | exact Nat.le_refl _⟩, by repeat (first | exact Drawn0.refl _ | apply Drawn0.step)⟩
  case rest =>
    clear HC5
    try clear c2
    try clear p2
    try clear c4
    try clear c6
    try clear c6b0
    try clear p6
    obtain ⟨kq, x22_4, rfl, HA, HJ4, ⟨mc4, rfl⟩⟩ := hcut
    cases kq with
    | zero => exact absurd HA.out (by simp [civil_Date.j0])
    | succ kj4 =>
      have H := HA.out
      clear HA
      simp only [civil_Date.j0] at H
      by_cases c7 : x22_4 = true
      · subst c7
        have H1 : (some (0, 0, 0, false)) = some (r1, r2, r3, r4) := by rw [if_pos rfl] at H; exact H
        clear H
        have H := H1
        clear H1
        simp only [Option.some.injEq, Prod.mk.injEq] at H
        obtain ⟨rfl, rfl, rfl, rfl⟩ := H
        go_wp2
        refine bodyPost_ret (results_list (rs := [.tmp 2, .tmp 3, .tmp 4, .tmp 5]) rfl (by simp) (.tmp (.tmp (.tmp (.tmp .nil))))) rfl ?_
        exact ⟨by first | rfl | (simp; done) | (simp [*]; done), by repeat (first | exact Drawn0.refl _ | apply Drawn0.step)⟩
      · replace c7 := Bool.eq_false_iff.mpr c7
        subst c7
        have H1 : (civil_Date.l0 kj4 (wrap64 (Int.tdiv (wrap64 (a0 - (wrap64 (-t128)))) 366)) (wrap64 (a0 - (wrap64 (-t128))))) = some (r1, r2, r3, r4) := by rw [if_neg (show ¬ (false = true) by decide)] at H; exact H
        clear H
        have H := H1
        clear H1
        have H' := Aside0.mk H
        clear H
        go_wp2
        go_loopg [2] kj4 (fun kq v2 w' => ∃ (x2_2 : Int), v2 = .int .i64 x2_2 ∧ Aside0 (civil_Date.l0 kq x2_2 (wrap64 (a0 - (wrap64 (-t128)))) = some (r1, r2, r3, r4)) ∧ Aside0 (kq ≤ kj4) ∧ Drawn0 w w')
        case atStart => exact ⟨(wrap64 (Int.tdiv (wrap64 (a0 - (wrap64 (-t128)))) 366)), (by first | rfl | (simp; done) | (simp [*]; done)), H', ⟨Nat.le_refl _⟩, by repeat (first | exact Drawn0.refl _ | apply Drawn0.step)⟩
        case round =>
          clear H'
          try clear c2
          try clear p2
          try clear c4
          try clear c6
          try clear c6b0
          try clear p6
          try clear c7
          try clear p2
          try clear p6
          obtain ⟨x2_2, rfl, HA, HK2, ⟨m2, rfl⟩⟩ := hrel
          cases gk with
          | zero => exact absurd HA.out (by simp [civil_Date.l0])
          | succ k2 =>
            have H := HA.out
            clear HA
            simp only [civil_Date.l0] at H
            replace H := Option.bind_eq_some_iff.mp H
            obtain ⟨t131, A80, H⟩ := H
            replace H : (if t131 ≤ (wrap64 (a0 - (wrap64 (-t128)))) then (civil_Date.l0 k2 (wrap64 (x2_2 + 1)) (wrap64 (a0 - (wrap64 (-t128))))) else ((civil_before.f x2_2).bind fun t132 => (civil_Date.l1 k2 x2_2 1 (wrap64 ((wrap64 (a0 - (wrap64 (-t128)))) - t132))))) = some (r1, r2, r3, r4) := H
            have A8 := Aside0.mk A80
            clear A80
            by_cases c9 : t131 ≤ (wrap64 (a0 - (wrap64 (-t128))))
            · rw [if_pos c9] at H
              have c9b0 : decide (t131 ≤ (wrap64 (a0 - (wrap64 (-t128))))) = true := decide_eq_true c9
              clear c9
              have H' := Aside0.mk H
              clear H
              go_wp2_with (first | ((with_reducible refine gate_callee (f := 45) rfl ?_); refine goesL_ (some 30) rfl rfl Tryd.func45 (by kernel_rfl) rfl #[.int .i64 (wrap64 (x2_2 + 1))] rfl (by (try simp only [List.map_toArray, List.map_cons, List.map_nil]); first | done | rfl | (simp only [List.length_drop, List.length_take]; rfl)) ?_; (with_reducible refine (civil_before.calls (wrap64 (x2_2 + 1)) t131 _ A8.out).mono ?_); rintro e w' ⟨rfl, ⟨nd, rfl⟩⟩; refine ⟨_, rfl, ?_⟩))
              go_roundg k2
              case measure => have := HJ4.out; have := HK2.out; omega
              case rel => exact ⟨(wrap64 (x2_2 + 1)), (by first | rfl | (simp; done) | (simp [*]; done)), H', ⟨by have := HJ4.out; have := HK2.out; omega⟩, by repeat (first | exact Drawn0.refl _ | apply Drawn0.step)⟩
            · rw [if_neg c9] at H
              have c9b0 : decide (t131 ≤ (wrap64 (a0 - (wrap64 (-t128))))) = false := decide_eq_false c9
              clear c9
              replace H := Option.bind_eq_some_iff.mp H
              obtain ⟨t132, A100, H⟩ := H
              replace H : (civil_Date.l1 k2 x2_2 1 (wrap64 ((wrap64 (a0 - (wrap64 (-t128)))) - t132))) = some (r1, r2, r3, r4) := H
              have A10 := Aside0.mk A100
              clear A100
              have H' := Aside0.mk H
              clear H
              go_wp2_with (first | ((with_reducible refine gate_callee (f := 45) rfl ?_); refine goesL_ (some 30) rfl rfl Tryd.func45 (by kernel_rfl) rfl #[.int .i64 (wrap64 (x2_2 + 1))] rfl (by (try simp only [List.map_toArray, List.map_cons, List.map_nil]); first | done | rfl | (simp only [List.length_drop, List.length_take]; rfl)) ?_; (with_reducible refine (civil_before.calls (wrap64 (x2_2 + 1)) t131 _ A8.out).mono ?_); rintro e w' ⟨rfl, ⟨nd, rfl⟩⟩; refine ⟨_, rfl, ?_⟩) | ((with_reducible refine gate_callee (f := 45) rfl ?_); refine goesL_ (some 37) rfl rfl Tryd.func45 (by kernel_rfl) rfl #[.int .i64 x2_2] rfl (by (try simp only [List.map_toArray, List.map_cons, List.map_nil]); first | done | rfl | (simp only [List.length_drop, List.length_take]; rfl)) ?_; (with_reducible refine (civil_before.calls x2_2 t132 _ A10.out).mono ?_); rintro e w' ⟨rfl, ⟨nd, rfl⟩⟩; refine ⟨_, rfl, ?_⟩))
              go_loopg [3, 8] k2 (fun kq v3 v8 w' => ∃ (x3_3 : Int) (x8_3 : Int), v3 = .int .i64 x3_3 ∧ v8 = .int .i64 x8_3 ∧ Aside0 (civil_Date.l1 kq x2_2 x3_3 x8_3 = some (r1, r2, r3, r4)) ∧ Aside0 (kq ≤ k2) ∧ Drawn0 w w')
              case atStart => exact ⟨(1), (wrap64 ((wrap64 (a0 - (wrap64 (-t128)))) - t132)), (by first | rfl | (simp; done) | (simp [*]; done)), (by first | rfl | (simp; done) | (simp [*]; done)), H', ⟨Nat.le_refl _⟩, by repeat (first | exact Drawn0.refl _ | apply Drawn0.step)⟩
              case round =>
                clear H'
                try clear c2
                try clear p2
                try clear c4
                try clear c6
                try clear c6b0
                try clear p6
                try clear c7
                try clear c9
                try clear c9b0
                try clear p2
                try clear p6
                obtain ⟨x3_3, x8_3, rfl, rfl, HA, HK3, ⟨m3, rfl⟩⟩ := hrel
                cases gk with
                | zero => exact absurd HA.out (by simp [civil_Date.l1])
                | succ k3 =>
                  have H := HA.out
                  clear HA
                  simp only [civil_Date.l1] at H
                  replace H := Option.bind_eq_some_iff.mp H
                  obtain ⟨t133, A110, H⟩ := H
                  replace H : (if x8_3 ≥ t133 then ((civil_Length.f k3 x2_2 x3_3).bind fun t134 => (civil_Date.l1 k3 x2_2 (wrap64 (x3_3 + 1)) (wrap64 (x8_3 - t134)))) else (some (x2_2, x3_3, wrap64 (x8_3 + 1), true))) = some (r1, r2, r3, r4) := H
                  have A11 := Aside0.mk A110
                  clear A110
                  by_cases c12 : x8_3 ≥ t133
                  · rw [if_pos c12] at H
                    have c12b0 : decide (t133 ≤ x8_3) = true := decide_eq_true c12
                    clear c12
                    replace H := Option.bind_eq_some_iff.mp H
                    obtain ⟨t134, A130, H⟩ := H
                    replace H : (civil_Date.l1 k3 x2_2 (wrap64 (x3_3 + 1)) (wrap64 (x8_3 - t134))) = some (r1, r2, r3, r4) := H
                    have A13 := Aside0.mk A130
                    clear A130
                    have H' := Aside0.mk H
                    clear H
                    go_wp2_with (first | ((with_reducible refine gate_callee (f := 46) rfl ?_); refine goesL_ (some 42) rfl rfl Tryd.func46 (by kernel_rfl) rfl #[.int .i64 x2_2, .int .i64 x3_3] rfl (by (try simp only [List.map_toArray, List.map_cons, List.map_nil]); first | done | rfl | (simp only [List.length_drop, List.length_take]; rfl)) ?_; (with_reducible refine (civil_Length.calls k3 x2_2 x3_3 t133 _ A11.out).mono ?_); rintro e w' ⟨rfl, ⟨nd, rfl⟩⟩; refine ⟨_, rfl, ?_⟩) | ((with_reducible refine gate_callee (f := 46) rfl ?_); refine goesL_ (some 49) rfl rfl Tryd.func46 (by kernel_rfl) rfl #[.int .i64 x2_2, .int .i64 x3_3] rfl (by (try simp only [List.map_toArray, List.map_cons, List.map_nil]); first | done | rfl | (simp only [List.length_drop, List.length_take]; rfl)) ?_; (with_reducible refine (civil_Length.calls k3 x2_2 x3_3 t134 _ A13.out).mono ?_); rintro e w' ⟨rfl, ⟨nd, rfl⟩⟩; refine ⟨_, rfl, ?_⟩))
                    go_roundg k3
                    case measure => have := HJ4.out; have := HK2.out; have := HK3.out; omega
                    case rel => exact ⟨(wrap64 (x3_3 + 1)), (wrap64 (x8_3 - t134)), (by first | rfl | (simp; done) | (simp [*]; done)), (by first | rfl | (simp; done) | (simp [*]; done)), H', ⟨by have := HJ4.out; have := HK2.out; have := HK3.out; omega⟩, by repeat (first | exact Drawn0.refl _ | apply Drawn0.step)⟩
                  · rw [if_neg c12] at H
                    have c12b0 : decide (t133 ≤ x8_3) = false := decide_eq_false c12
                    clear c12
                    simp only [Option.some.injEq, Prod.mk.injEq] at H
                    obtain ⟨rfl, rfl, rfl, rfl⟩ := H
                    go_wp2_with (first | ((with_reducible refine gate_callee (f := 46) rfl ?_); refine goesL_ (some 42) rfl rfl Tryd.func46 (by kernel_rfl) rfl #[.int .i64 x2_2, .int .i64 x3_3] rfl (by (try simp only [List.map_toArray, List.map_cons, List.map_nil]); first | done | rfl | (simp only [List.length_drop, List.length_take]; rfl)) ?_; (with_reducible refine (civil_Length.calls k3 x2_2 x3_3 t133 _ A11.out).mono ?_); rintro e w' ⟨rfl, ⟨nd, rfl⟩⟩; refine ⟨_, rfl, ?_⟩))
                    refine bodyPost_ret (results_list (rs := [.tmp 2, .tmp 3, .tmp 4, .tmp 5]) rfl (by simp) (.tmp (.tmp (.tmp (.tmp .nil))))) rfl ?_
                    exact ⟨by first | rfl | (simp; done) | (simp [*]; done), by repeat (first | exact Drawn0.refl _ | apply Drawn0.step)⟩
/-! ### date_year: function 43 -/
def date_year.f (k : Nat) (a0 : Int) (a1 : Int) : Option (Int) := if a0 < 0 then (some a0) else ((civil_Date.f k (wrap64 (Int.tdiv a1 86400))).bind fun bt135 => (some (wrap64 ((wrap64 (bt135.1 + 50)) - (Int.tmod (wrap64 ((wrap64 (bt135.1 + 50)) - a0)) 100)))))
set_option maxHeartbeats 8000000 in
set_option maxRecDepth 100000 in
theorem date_year.calls (k : Nat) (a0 : Int) (a1 : Int) (r : Int) (w : World) (h : date_year.f k a0 a1 = some r) :
    Calls Tryd.prog 43 #[.int .i64 a0, .int .i64 a1] w fun e w' => e = .returned (.int .i64 r) ∧ Drawn0 w w' := by
  have H : (if a0 < 0 then (some a0) else ((civil_Date.f k (wrap64 (Int.tdiv a1 86400))).bind fun bt135 => (some (wrap64 ((wrap64 (bt135.1 + 50)) - (Int.tmod (wrap64 ((wrap64 (bt135.1 + 50)) - a0)) 100)))))) = some r := h
  clear h
  by_cases c3 : a0 < 0
  · rw [if_pos c3] at H
    have c3b0 : decide (a0 < 0) = true := decide_eq_true c3
    clear c3
    obtain rfl := Option.some.inj H
    go_enter Tryd.func43, Tryd.ntmps43
    go_wp2
    go_ret
    exact ⟨by first | rfl | (simp; done) | (simp [*]; done), by repeat (first | exact Drawn0.refl _ | apply Drawn0.step)⟩
  · rw [if_neg c3] at H
    have c3b0 : decide (a0 < 0) = false := decide_eq_false c3
    clear c3
    replace H := Option.bind_eq_some_iff.mp H
    obtain ⟨⟨t135, t136, t137, t138⟩, A40, H⟩ := H
    replace H : (some (wrap64 ((wrap64 (t135 + 50)) - (Int.tmod (wrap64 ((wrap64 (t135 + 50)) - a0)) 100)))) = some r := H
    have A4 := Aside0.mk A40
    clear A40
    obtain rfl := Option.some.inj H
    go_enter Tryd.func43, Tryd.ntmps43
    go_wp2_with (first | ((with_reducible refine gate_callee (f := 27) rfl ?_); refine goesL_ (some 16) rfl rfl Tryd.func27 (by kernel_rfl) rfl #[.int .i64 (wrap64 (Int.tdiv a1 86400))] rfl (by (try simp only [List.map_toArray, List.map_cons, List.map_nil]); first | done | rfl | (simp only [List.length_drop, List.length_take]; rfl)) ?_; (with_reducible refine (civil_Date.calls k (wrap64 (Int.tdiv a1 86400)) t135 t136 t137 t138 _ A4.out).mono ?_); rintro e w' ⟨rfl, ⟨nd, rfl⟩⟩; refine ⟨_, rfl, ?_⟩))
    go_ret
    exact ⟨by first | rfl | (simp; done) | (simp [*]; done), by repeat (first | exact Drawn0.refl _ | apply Drawn0.step)⟩
end Go.Proofs.YtdlpdgdccoeklaaDoor.XA
