import Derived.Test.YtdlpdgdccoeklaaDoorKoXAx0
import Derived.Test.YtdlpdgdccoeklaaDoorKoXAx5
import Derived.Test.YtdlpdgdccoeklaaDoorKoXAx6
-- Written by a program (wip/tools/xprint.py) out of the loaded functions: contracts of Go functions, and the functions that they compute.
namespace Go.Proofs.YtdlpdgdccoeklaaDoor.XA
open Go.RowKit Go.Proofs.YtdlpdgdccoeklaaDoor.Ext Go.Proofs.YtdlpdgdccoeklaaDoorW.PrintWords Go.Proofs.YtdlpdgdccoeklaaDoorW.PrintLast Go.Proofs.YtdlpdgdccoeklaaDoorW.PrintMore
attribute [local go_sem] max2_int min2_int max_two min_two max_three min_three max_four min_four   -- for this text's walks alone
set_option linter.unusedVariables false
set_option linter.unusedSimpArgs false
/-! ### decorumref03_Moment_clock: function 26 -/
def decorumref03_Moment_clock.f (k : Nat) (a0_0 : Int) (a0_1 : Int) (a0_2 : Int) (a0_3 : Int) (a0_4 : Int) (a0_5 : Int) : Option (ByteArray) := (decorumref03_pad.f k a0_3 2).bind fun t207 => (if t207.size + 1 ≤ 9223372036854775807 then ((decorumref03_pad.f k a0_4 2).bind fun t208 => (if (t207 ++ (⟨#[58]⟩ : ByteArray)).size + t208.size ≤ 9223372036854775807 then (if ((t207 ++ (⟨#[58]⟩ : ByteArray)) ++ t208).size + 1 ≤ 9223372036854775807 then ((decorumref03_pad.f k a0_5 2).bind fun t209 => (if (((t207 ++ (⟨#[58]⟩ : ByteArray)) ++ t208) ++ (⟨#[58]⟩ : ByteArray)).size + t209.size ≤ 9223372036854775807 then (some ((((t207 ++ (⟨#[58]⟩ : ByteArray)) ++ t208) ++ (⟨#[58]⟩ : ByteArray)) ++ t209)) else (none))) else (none)) else (none))) else (none))
def decorumref03_Moment_clock.T1 : Bool × List (List Nat × List Nat) := (true, [([], []), ([0], [0]), ([1], [1]), ([2], [2]), ([], []), ([4], [4]), ([5, 2], [5]), ([3, 6], [3, 6]), ([7], [7]), ([], []), ([9], [9]), ([10, 6], [10]), ([8, 11], [8, 11]), ([12, 11, 0, 1, 2, 3, 4, 5, 6, 7, 8, 9, 10, 11, 12], [12])])
def decorumref03_Moment_clock.B1 : List Nat := [0, 1, 3, 7, 0, 16, 55, 127, 255, 0, 512, 1655, 4095, 8191]
theorem decorumref03_Moment_clock.tab1 : rtab .any (opsOf Tryd.f26 1) = decorumref03_Moment_clock.T1 := by kernel_rfl
theorem decorumref03_Moment_clock.bits1 : waitsOk decorumref03_Moment_clock.T1.2 decorumref03_Moment_clock.B1 = true := by kernel_rfl
set_option maxHeartbeats 8000000 in
set_option maxRecDepth 100000 in
theorem decorumref03_Moment_clock.calls (k : Nat) (a0_0 : Int) (a0_1 : Int) (a0_2 : Int) (a0_3 : Int) (a0_4 : Int) (a0_5 : Int) (r : ByteArray) (w : World) (h : decorumref03_Moment_clock.f k a0_0 a0_1 a0_2 a0_3 a0_4 a0_5 = some r) :
    Calls Tryd.prog 26 #[.agg #[.int .i64 a0_0, .int .i64 a0_1, .int .i64 a0_2, .int .i64 a0_3, .int .i64 a0_4, .int .i64 a0_5]] w fun e w' => e = .returned (.string r) ∧ Below w.heap.size w w' := by
  have hu24 := Tryd.underlying24
  have HB := Aside0.mk (Below.refl w.heap.size w)
  have H : ((decorumref03_pad.f k a0_3 2).bind fun t207 => (if t207.size + 1 ≤ 9223372036854775807 then ((decorumref03_pad.f k a0_4 2).bind fun t208 => (if (t207 ++ (⟨#[58]⟩ : ByteArray)).size + t208.size ≤ 9223372036854775807 then (if ((t207 ++ (⟨#[58]⟩ : ByteArray)) ++ t208).size + 1 ≤ 9223372036854775807 then ((decorumref03_pad.f k a0_5 2).bind fun t209 => (if (((t207 ++ (⟨#[58]⟩ : ByteArray)) ++ t208) ++ (⟨#[58]⟩ : ByteArray)).size + t209.size ≤ 9223372036854775807 then (some ((((t207 ++ (⟨#[58]⟩ : ByteArray)) ++ t208) ++ (⟨#[58]⟩ : ByteArray)) ++ t209)) else (none))) else (none)) else (none))) else (none))) = some r := h
  clear h
  replace H := Option.bind_eq_some_iff.mp H
  obtain ⟨t207, A20, H⟩ := H
  replace H : (if t207.size + 1 ≤ 9223372036854775807 then ((decorumref03_pad.f k a0_4 2).bind fun t208 => (if (t207 ++ (⟨#[58]⟩ : ByteArray)).size + t208.size ≤ 9223372036854775807 then (if ((t207 ++ (⟨#[58]⟩ : ByteArray)) ++ t208).size + 1 ≤ 9223372036854775807 then ((decorumref03_pad.f k a0_5 2).bind fun t209 => (if (((t207 ++ (⟨#[58]⟩ : ByteArray)) ++ t208) ++ (⟨#[58]⟩ : ByteArray)).size + t209.size ≤ 9223372036854775807 then (some ((((t207 ++ (⟨#[58]⟩ : ByteArray)) ++ t208) ++ (⟨#[58]⟩ : ByteArray)) ++ t209)) else (none))) else (none)) else (none))) else (none)) = some r := H
  have A2 := Aside0.mk A20
  clear A20
  by_cases c3 : t207.size + 1 ≤ 9223372036854775807
  · rw [if_pos c3] at H
    have c3b0 := eq_true c3
    have c3b1 : decide (t207.size + 1 ≤ 9223372036854775807) = true := decide_eq_true c3
    try have c3b2 : (9223372036854775807 < t207.size + 1) = False := eq_false (Nat.not_lt.2 c3)
    replace H := Option.bind_eq_some_iff.mp H
    obtain ⟨t208, A40, H⟩ := H
    replace H : (if (t207 ++ (⟨#[58]⟩ : ByteArray)).size + t208.size ≤ 9223372036854775807 then (if ((t207 ++ (⟨#[58]⟩ : ByteArray)) ++ t208).size + 1 ≤ 9223372036854775807 then ((decorumref03_pad.f k a0_5 2).bind fun t209 => (if (((t207 ++ (⟨#[58]⟩ : ByteArray)) ++ t208) ++ (⟨#[58]⟩ : ByteArray)).size + t209.size ≤ 9223372036854775807 then (some ((((t207 ++ (⟨#[58]⟩ : ByteArray)) ++ t208) ++ (⟨#[58]⟩ : ByteArray)) ++ t209)) else (none))) else (none)) else (none)) = some r := H
    have A4 := Aside0.mk A40
    clear A40
    by_cases c5 : (t207 ++ (⟨#[58]⟩ : ByteArray)).size + t208.size ≤ 9223372036854775807
    · rw [if_pos c5] at H
      have c5b0 := eq_true c5
      have c5b1 : decide ((t207 ++ (⟨#[58]⟩ : ByteArray)).size + t208.size ≤ 9223372036854775807) = true := decide_eq_true c5
      try have c5b3 : (9223372036854775807 < t207.size + 1 + t208.size) = False := eq_false (by have h_ := c5; (try simp only [ByteArray.size_append', ByteArray.size_extract] at h_ ⊢); (try simp only [ByteArray.size, List.size_toArray, List.length_cons, List.length_nil] at h_ ⊢); first | omega | (simp at h_ ⊢; omega))
      try have c5b2 : (9223372036854775807 < (t207 ++ (⟨#[58]⟩ : ByteArray)).size + t208.size) = False := eq_false (Nat.not_lt.2 c5)
      by_cases c6 : ((t207 ++ (⟨#[58]⟩ : ByteArray)) ++ t208).size + 1 ≤ 9223372036854775807
      · rw [if_pos c6] at H
        have c6b0 := eq_true c6
        have c6b1 : decide (((t207 ++ (⟨#[58]⟩ : ByteArray)) ++ t208).size + 1 ≤ 9223372036854775807) = true := decide_eq_true c6
        try have c6b3 : (9223372036854775807 < t207.size + 1 + t208.size + 1) = False := eq_false (by have h_ := c6; (try simp only [ByteArray.size_append', ByteArray.size_extract] at h_ ⊢); (try simp only [ByteArray.size, List.size_toArray, List.length_cons, List.length_nil] at h_ ⊢); first | omega | (simp at h_ ⊢; omega))
        try have c6b2 : (9223372036854775807 < ((t207 ++ (⟨#[58]⟩ : ByteArray)) ++ t208).size + 1) = False := eq_false (Nat.not_lt.2 c6)
        replace H := Option.bind_eq_some_iff.mp H
        obtain ⟨t209, A70, H⟩ := H
        replace H : (if (((t207 ++ (⟨#[58]⟩ : ByteArray)) ++ t208) ++ (⟨#[58]⟩ : ByteArray)).size + t209.size ≤ 9223372036854775807 then (some ((((t207 ++ (⟨#[58]⟩ : ByteArray)) ++ t208) ++ (⟨#[58]⟩ : ByteArray)) ++ t209)) else (none)) = some r := H
        have A7 := Aside0.mk A70
        clear A70
        by_cases c8 : (((t207 ++ (⟨#[58]⟩ : ByteArray)) ++ t208) ++ (⟨#[58]⟩ : ByteArray)).size + t209.size ≤ 9223372036854775807
        · rw [if_pos c8] at H
          have c8b0 := eq_true c8
          have c8b1 : decide ((((t207 ++ (⟨#[58]⟩ : ByteArray)) ++ t208) ++ (⟨#[58]⟩ : ByteArray)).size + t209.size ≤ 9223372036854775807) = true := decide_eq_true c8
          try have c8b3 : (9223372036854775807 < t207.size + 1 + t208.size + 1 + t209.size) = False := eq_false (by have h_ := c8; (try simp only [ByteArray.size_append', ByteArray.size_extract] at h_ ⊢); (try simp only [ByteArray.size, List.size_toArray, List.length_cons, List.length_nil] at h_ ⊢); first | omega | (simp at h_ ⊢; omega))
          try have c8b2 : (9223372036854775807 < (((t207 ++ (⟨#[58]⟩ : ByteArray)) ++ t208) ++ (⟨#[58]⟩ : ByteArray)).size + t209.size) = False := eq_false (Nat.not_lt.2 c8)
          obtain rfl := Option.some.inj H
          go_enter Tryd.func26, Tryd.ntmps26
          try go_wp2_with (first | ((with_reducible refine gate_dst (N := 1) rfl ?_); refine box_event ?hg (N := 1) ?hd (cs := #[.int .i64 a0_0, .int .i64 a0_1, .int .i64 a0_2, .int .i64 a0_3, .int .i64 a0_4, .int .i64 a0_5]) (t := 24) ?hr ?_; (case hd => rfl); (case hg => rfl); (case hr => first | (go_simp; done) | (go_simp; rfl)); intro gb206 hg w9 hbox hb; have n0_ := Aside0.mk (below_step (by repeat (first | (with_reducible first | exact HB.out | apply below_alloc | apply pw_below_drewN | apply below_drew1) | exact HB.out)) hb); have n1_ := Aside0.mk (hbox); have n2_ := Aside0.mk ((by rw [hg]; exact (below_size (by repeat (first | (with_reducible first | exact HB.out | apply below_alloc | apply pw_below_drewN | apply below_drew1) | exact HB.out))) : w.heap.size ≤ gb206)); have n3_ := Aside0.mk ((by rw [hg]; exact (below_size (by repeat (first | (with_reducible first | exact HB.out | apply below_alloc | apply pw_below_drewN | apply below_drew1) | exact HB.out))) : w.heap.size ≤ gb206)); clear HB; have HB := n0_; have BK206 := n1_; have GW206 := n2_; have GE206 := n3_; clear n0_ n1_ n2_ n3_; clear hb hbox hg))
          have n0_ := Aside0.mk (blk_drew BK206.out)
          have n1_ := Aside0.mk (below_drew1 HB.out)
          clear BK206
          clear HB
          have BK206 := n0_
          have HB := n1_
          clear n0_ n1_
          refine start_ (n := 14) (S := fun w' => w'.cell? ⟨gb206, 0, none⟩ = some (.int .i64 a0_0) ∧ w'.cell? ⟨gb206, 1, none⟩ = some (.int .i64 a0_1) ∧ w'.cell? ⟨gb206, 2, none⟩ = some (.int .i64 a0_2) ∧ w'.cell? ⟨gb206, 3, none⟩ = some (.int .i64 a0_3) ∧ w'.cell? ⟨gb206, 4, none⟩ = some (.int .i64 a0_4) ∧ w'.cell? ⟨gb206, 5, none⟩ = some (.int .i64 a0_5)) (ds := []) #[false, false, false, false, false, false, false, false, false, false, false, false, false, false] (by kernel_rfl) rfl rfl ⟨(blk_cell BK206.out 0).trans rfl, (blk_cell BK206.out 1).trans rfl, (blk_cell BK206.out 2).trans rfl, (blk_cell BK206.out 3).trans rfl, (blk_cell BK206.out 4).trans rfl, (blk_cell BK206.out 5).trans rfl⟩ (fun hHeld => ?_); refine with_tabW decorumref03_Moment_clock.tab1 decorumref03_Moment_clock.bits1 (fun HT_ HW_ => ?_)
          generalize w9.drew = w10 at BK206 HB hHeld ⊢
          refine pure_ (i := 0) (N := some 3) (v := ?_) (a' := ?_) #[true, false, false, false, false, false, false, false, false, false, false, false, false, false] rfl rfl (any_of HT_.out (by kernel_rfl)) (fun _ _ _ h => h) (Or.inl ⟨by rfl, ?_⟩) ?_ ?_
          rotate_left
          · intro w'
            go_simp
            with_reducible rfl
          rotate_left
          · simp only [Act.put, List.setIfInBounds_toArray, List.set_cons_zero, List.set_cons_succ, i64_w, i32_w]
            rfl
          refine pure_ (i := 4) (N := some 7) (v := ?_) (a' := ?_) #[true, false, false, false, true, false, false, false, false, false, false, false, false, false] rfl rfl (any_of HT_.out (by kernel_rfl)) (fun _ _ _ h => h) (Or.inl ⟨by rfl, ?_⟩) ?_ ?_
          rotate_left
          · intro w'
            go_simp
            with_reducible rfl
          rotate_left
          · simp only [Act.put, List.setIfInBounds_toArray, List.set_cons_zero, List.set_cons_succ, i64_w, i32_w]
            rfl
          refine pure_ (i := 9) (N := some 12) (v := ?_) (a' := ?_) #[true, false, false, false, true, false, false, false, false, true, false, false, false, false] rfl rfl (any_of HT_.out (by kernel_rfl)) (fun _ _ _ h => h) (Or.inl ⟨by rfl, ?_⟩) ?_ ?_
          rotate_left
          · intro w'
            go_simp
            with_reducible rfl
          rotate_left
          · simp only [Act.put, List.setIfInBounds_toArray, List.set_cons_zero, List.set_cons_succ, i64_w, i32_w]
            rfl
          refine take_ (i := 1) (N := some 4) (v := ?_) (a' := ?_) #[true, true, false, false, true, false, false, false, false, true, false, false, false, false] rfl rfl (take_ofW HT_.out HW_.out (by kernel_rfl)) (fun _ _ _ h => h) (Or.inl ⟨by rfl, ?_⟩) hHeld ?_ ?_
          rotate_left
          · rintro w' ⟨s0, s1, s2, s3, s4, s5⟩
            go_simp
            with_reducible rfl
          rotate_left
          · simp only [Act.put, List.setIfInBounds_toArray, List.set_cons_zero, List.set_cons_succ, i64_w, i32_w]
            rfl
          refine take_ (i := 5) (N := some 8) (v := ?_) (a' := ?_) #[true, true, false, false, true, true, false, false, false, true, false, false, false, false] rfl rfl (take_ofW HT_.out HW_.out (by kernel_rfl)) (fun _ _ _ h => h) (Or.inl ⟨by rfl, ?_⟩) hHeld ?_ ?_
          rotate_left
          · rintro w' ⟨s0, s1, s2, s3, s4, s5⟩
            go_simp
            with_reducible rfl
          rotate_left
          · simp only [Act.put, List.setIfInBounds_toArray, List.set_cons_zero, List.set_cons_succ, i64_w, i32_w]
            rfl
          refine take_ (i := 10) (N := some 13) (v := ?_) (a' := ?_) #[true, true, false, false, true, true, false, false, false, true, true, false, false, false] rfl rfl (take_ofW HT_.out HW_.out (by kernel_rfl)) (fun _ _ _ h => h) (Or.inl ⟨by rfl, ?_⟩) hHeld ?_ ?_
          rotate_left
          · rintro w' ⟨s0, s1, s2, s3, s4, s5⟩
            go_simp
            with_reducible rfl
          rotate_left
          · simp only [Act.put, List.setIfInBounds_toArray, List.set_cons_zero, List.set_cons_succ, i64_w, i32_w]
            rfl
          refine one_ (i := 2) (N := some 5) #[true, true, true, false, true, true, false, false, false, true, true, false, false, false] rfl rfl (one_of HT_.out (by kernel_rfl)) (by decide) (fun K hK => ?_)
          refine goes_ Tryd.func24 (by kernel_rfl) rfl #[.int .i64 a0_3, .int .i64 2] (by rfl) rfl rfl (by (try simp only [List.map_toArray, List.map_cons, List.map_nil]); first | done | rfl | (simp only [List.length_drop, List.length_take]; rfl)) ?_
          with_reducible refine (decorumref03_pad.calls k a0_3 2 t207 _ A2.out).mono ?_
          rintro e w11 ⟨rfl, hb⟩
          refine ⟨_, rfl, ?_⟩
          have n0_ := Aside0.mk (blk_below (g := gb206) (o := .cells #[.int .i64 a0_0, .int .i64 a0_1, .int .i64 a0_2, .int .i64 a0_3, .int .i64 a0_4, .int .i64 a0_5] 24 (0, 0)) (by (with_reducible repeat (first | refine blk_drewN ?_ _ | refine blk_drew ?_ | refine blk_alloc ?_ _)); exact BK206.out) hb)
          have n1_ := Aside0.mk (below_step (by repeat (first | (with_reducible first | exact HB.out | apply below_alloc | apply pw_below_drewN | apply below_drew1 | refine below_set ?_ GE206.out) | exact HB.out)) hb)
          clear BK206
          clear HB
          have BK206 := n0_
          have HB := n1_
          clear n0_ n1_
          (try clear hb)
          (try clear hb2)
          (try clear hk)
          (try clear hi)
          refine hK.out _ _ ⟨(blk_cell BK206.out 0).trans rfl, (blk_cell BK206.out 1).trans rfl, (blk_cell BK206.out 2).trans rfl, (blk_cell BK206.out 3).trans rfl, (blk_cell BK206.out 4).trans rfl, (blk_cell BK206.out 5).trans rfl⟩ (fun hHeld => ?_)
          clear hK K
          refine norm_ (a' := ?_) ?_ ?_
          rotate_left
          · show Act.put _ (some 5) _ = _
            simp only [Act.put, List.setIfInBounds_toArray, List.set_cons_zero, List.set_cons_succ, i64_w, i32_w]
            rfl
          refine pure_ (i := 3) (N := some 6) (v := ?_) (a' := ?_) #[true, true, true, true, true, true, false, false, false, true, true, false, false, false] rfl rfl (any_of HT_.out (by kernel_rfl)) (fun _ _ _ h => h) (Or.inl ⟨by rfl, ?_⟩) ?_ ?_
          rotate_left
          · intro w'
            go_simp
            with_reducible rfl
          rotate_left
          · simp only [Act.put, List.setIfInBounds_toArray, List.set_cons_zero, List.set_cons_succ, i64_w, i32_w]
            rfl
          refine one_ (i := 6) (N := some 9) #[true, true, true, true, true, true, true, false, false, true, true, false, false, false] rfl rfl (one_of HT_.out (by kernel_rfl)) (by decide) (fun K hK => ?_)
          refine goes_ Tryd.func24 (by kernel_rfl) rfl #[.int .i64 a0_4, .int .i64 2] (by rfl) rfl rfl (by (try simp only [List.map_toArray, List.map_cons, List.map_nil]); first | done | rfl | (simp only [List.length_drop, List.length_take]; rfl)) ?_
          with_reducible refine (decorumref03_pad.calls k a0_4 2 t208 _ A4.out).mono ?_
          rintro e w12 ⟨rfl, hb⟩
          refine ⟨_, rfl, ?_⟩
          have n0_ := Aside0.mk (blk_below (g := gb206) (o := .cells #[.int .i64 a0_0, .int .i64 a0_1, .int .i64 a0_2, .int .i64 a0_3, .int .i64 a0_4, .int .i64 a0_5] 24 (0, 0)) (by (with_reducible repeat (first | refine blk_drewN ?_ _ | refine blk_drew ?_ | refine blk_alloc ?_ _)); exact BK206.out) hb)
          have n1_ := Aside0.mk (below_step (by repeat (first | (with_reducible first | exact HB.out | apply below_alloc | apply pw_below_drewN | apply below_drew1 | refine below_set ?_ GE206.out) | exact HB.out)) hb)
          clear BK206
          clear HB
          have BK206 := n0_
          have HB := n1_
          clear n0_ n1_
          (try clear hb)
          (try clear hb2)
          (try clear hk)
          (try clear hi)
          refine hK.out _ _ ⟨(blk_cell BK206.out 0).trans rfl, (blk_cell BK206.out 1).trans rfl, (blk_cell BK206.out 2).trans rfl, (blk_cell BK206.out 3).trans rfl, (blk_cell BK206.out 4).trans rfl, (blk_cell BK206.out 5).trans rfl⟩ (fun hHeld => ?_)
          clear hK K
          refine norm_ (a' := ?_) ?_ ?_
          rotate_left
          · show Act.put _ (some 9) _ = _
            simp only [Act.put, List.setIfInBounds_toArray, List.set_cons_zero, List.set_cons_succ, i64_w, i32_w]
            rfl
          refine pure_ (i := 7) (N := some 10) (v := ?_) (a' := ?_) #[true, true, true, true, true, true, true, true, false, true, true, false, false, false] rfl rfl (any_of HT_.out (by kernel_rfl)) (fun _ _ _ h => h) (Or.inl ⟨by rfl, ?_⟩) ?_ ?_
          rotate_left
          · intro w'
            go_simp
            with_reducible rfl
          rotate_left
          · simp only [Act.put, List.setIfInBounds_toArray, List.set_cons_zero, List.set_cons_succ, i64_w, i32_w]
            rfl
          refine pure_ (i := 8) (N := some 11) (v := ?_) (a' := ?_) #[true, true, true, true, true, true, true, true, true, true, true, false, false, false] rfl rfl (any_of HT_.out (by kernel_rfl)) (fun _ _ _ h => h) (Or.inl ⟨by rfl, ?_⟩) ?_ ?_
          rotate_left
          · intro w'
            go_simp
            with_reducible rfl
          rotate_left
          · simp only [Act.put, List.setIfInBounds_toArray, List.set_cons_zero, List.set_cons_succ, i64_w, i32_w]
            rfl
          refine one_ (i := 11) (N := some 14) #[true, true, true, true, true, true, true, true, true, true, true, true, false, false] rfl rfl (one_of HT_.out (by kernel_rfl)) (by decide) (fun K hK => ?_)
          refine goes_ Tryd.func24 (by kernel_rfl) rfl #[.int .i64 a0_5, .int .i64 2] (by rfl) rfl rfl (by (try simp only [List.map_toArray, List.map_cons, List.map_nil]); first | done | rfl | (simp only [List.length_drop, List.length_take]; rfl)) ?_
          with_reducible refine (decorumref03_pad.calls k a0_5 2 t209 _ A7.out).mono ?_
          rintro e w13 ⟨rfl, hb⟩
          refine ⟨_, rfl, ?_⟩
          have n0_ := Aside0.mk (blk_below (g := gb206) (o := .cells #[.int .i64 a0_0, .int .i64 a0_1, .int .i64 a0_2, .int .i64 a0_3, .int .i64 a0_4, .int .i64 a0_5] 24 (0, 0)) (by (with_reducible repeat (first | refine blk_drewN ?_ _ | refine blk_drew ?_ | refine blk_alloc ?_ _)); exact BK206.out) hb)
          have n1_ := Aside0.mk (below_step (by repeat (first | (with_reducible first | exact HB.out | apply below_alloc | apply pw_below_drewN | apply below_drew1 | refine below_set ?_ GE206.out) | exact HB.out)) hb)
          clear BK206
          clear HB
          have BK206 := n0_
          have HB := n1_
          clear n0_ n1_
          (try clear hb)
          (try clear hb2)
          (try clear hk)
          (try clear hi)
          refine hK.out _ _ ⟨(blk_cell BK206.out 0).trans rfl, (blk_cell BK206.out 1).trans rfl, (blk_cell BK206.out 2).trans rfl, (blk_cell BK206.out 3).trans rfl, (blk_cell BK206.out 4).trans rfl, (blk_cell BK206.out 5).trans rfl⟩ (fun hHeld => ?_)
          clear hK K
          refine norm_ (a' := ?_) ?_ ?_
          rotate_left
          · show Act.put _ (some 14) _ = _
            simp only [Act.put, List.setIfInBounds_toArray, List.set_cons_zero, List.set_cons_succ, i64_w, i32_w]
            rfl
          refine pure_ (i := 12) (N := some 15) (v := ?_) (a' := ?_) #[true, true, true, true, true, true, true, true, true, true, true, true, true, false] rfl rfl (any_of HT_.out (by kernel_rfl)) (fun _ _ _ h => h) (Or.inl ⟨by rfl, ?_⟩) ?_ ?_
          rotate_left
          · intro w'
            go_simp
            with_reducible rfl
          rotate_left
          · simp only [Act.put, List.setIfInBounds_toArray, List.set_cons_zero, List.set_cons_succ, i64_w, i32_w]
            rfl
          refine pure_ (i := 13) (N := some 2) (v := ?_) (a' := ?_) #[true, true, true, true, true, true, true, true, true, true, true, true, true, true] rfl rfl (any_of HT_.out (by kernel_rfl)) (fun _ _ _ h => h) (Or.inl ⟨by rfl, ?_⟩) ?_ ?_
          rotate_left
          · intro w'
            go_simp
            with_reducible rfl
          rotate_left
          · simp only [Act.put, List.setIfInBounds_toArray, List.set_cons_zero, List.set_cons_succ, i64_w, i32_w]
            rfl
          refine done_ (done_of HT_.out (by kernel_rfl)) ?_
          try go_wp2
          go_ret
          exact ⟨by first | rfl | (simp [errW_none, errW_some] <;> rfl) | (simp [*, errW_none, errW_some] <;> rfl), by repeat (first | (with_reducible first | exact HB.out | apply below_alloc | apply pw_below_drewN | apply below_drew1 | refine below_set ?_ GE206.out) | exact HB.out)⟩
        · rw [if_neg c8] at H
          exact absurd H (by simp)
      · rw [if_neg c6] at H
        exact absurd H (by simp)
    · rw [if_neg c5] at H
      exact absurd H (by simp)
  · rw [if_neg c3] at H
    exact absurd H (by simp)
/-! ### decorumref03_num: function 32 -/
/-! ### decorumref03_cut: function 33 -/
/-! ### decorumref03_months: function 25 -/
def decorumref03_months.f  : Option (List ByteArray) := some (([(⟨#[]⟩ : ByteArray), (⟨#[74, 97, 110]⟩ : ByteArray), (⟨#[70, 101, 98]⟩ : ByteArray), (⟨#[77, 97, 114]⟩ : ByteArray), (⟨#[65, 112, 114]⟩ : ByteArray), (⟨#[77, 97, 121]⟩ : ByteArray), (⟨#[74, 117, 110]⟩ : ByteArray), (⟨#[74, 117, 108]⟩ : ByteArray), (⟨#[65, 117, 103]⟩ : ByteArray), (⟨#[83, 101, 112]⟩ : ByteArray), (⟨#[79, 99, 116]⟩ : ByteArray), (⟨#[78, 111, 118]⟩ : ByteArray), (⟨#[68, 101, 99]⟩ : ByteArray)] : List ByteArray))
set_option maxHeartbeats 8000000 in
set_option maxRecDepth 100000 in
theorem decorumref03_months.calls  (r : List ByteArray) (w : World) (h : decorumref03_months.f  = some r) :
    Calls Tryd.prog 25 #[] w fun e w' => ∃ v0_ : Value, e = .returned (v0_) ∧ Kd.R Kd.string 9 w' w.heap.size (fun _ => True) v0_ r ∧ Below w.heap.size w w' := by
  have HB := Aside0.mk (Below.refl w.heap.size w)
  have H : (some (([(⟨#[]⟩ : ByteArray), (⟨#[74, 97, 110]⟩ : ByteArray), (⟨#[70, 101, 98]⟩ : ByteArray), (⟨#[77, 97, 114]⟩ : ByteArray), (⟨#[65, 112, 114]⟩ : ByteArray), (⟨#[77, 97, 121]⟩ : ByteArray), (⟨#[74, 117, 110]⟩ : ByteArray), (⟨#[74, 117, 108]⟩ : ByteArray), (⟨#[65, 117, 103]⟩ : ByteArray), (⟨#[83, 101, 112]⟩ : ByteArray), (⟨#[79, 99, 116]⟩ : ByteArray), (⟨#[78, 111, 118]⟩ : ByteArray), (⟨#[68, 101, 99]⟩ : ByteArray)] : List ByteArray))) = some r := h
  clear h
  obtain ⟨y210, hy210⟩ : ∃ y_ : List ByteArray, y_ = (([(⟨#[]⟩ : ByteArray), (⟨#[74, 97, 110]⟩ : ByteArray), (⟨#[70, 101, 98]⟩ : ByteArray), (⟨#[77, 97, 114]⟩ : ByteArray), (⟨#[65, 112, 114]⟩ : ByteArray), (⟨#[77, 97, 121]⟩ : ByteArray), (⟨#[74, 117, 110]⟩ : ByteArray), (⟨#[74, 117, 108]⟩ : ByteArray), (⟨#[65, 117, 103]⟩ : ByteArray), (⟨#[83, 101, 112]⟩ : ByteArray), (⟨#[79, 99, 116]⟩ : ByteArray), (⟨#[78, 111, 118]⟩ : ByteArray), (⟨#[68, 101, 99]⟩ : ByteArray)] : List ByteArray)) := ⟨_, rfl⟩
  replace H : (some y210) = some r := by first | (rw [hy210]; with_reducible exact H) | (have H2_ := (Option.bind_some _ _).symm.trans H; rw [hy210]; with_reducible exact H2_) | (have H2_ := (Option.bind_some _ _).symm.trans H; with_reducible exact H2_) | with_reducible exact H | (rw [hy210]; exact H) | exact H
  have Ny210 := Aside0.mk hy210
  clear hy210
  obtain rfl := Option.some.inj H
  go_enter Tryd.func25, Tryd.ntmps25
  go_wp2_with (first | ((with_reducible refine gate_dst (N := 1) rfl ?_); refine Kd.R_lit Kd.string _ 9 ?hg (N := 1) ?hd (xs := ([(⟨#[]⟩ : ByteArray), (⟨#[74, 97, 110]⟩ : ByteArray), (⟨#[70, 101, 98]⟩ : ByteArray), (⟨#[77, 97, 114]⟩ : ByteArray), (⟨#[65, 112, 114]⟩ : ByteArray), (⟨#[77, 97, 121]⟩ : ByteArray), (⟨#[74, 117, 110]⟩ : ByteArray), (⟨#[74, 117, 108]⟩ : ByteArray), (⟨#[65, 117, 103]⟩ : ByteArray), (⟨#[83, 101, 112]⟩ : ByteArray), (⟨#[79, 99, 116]⟩ : ByteArray), (⟨#[78, 111, 118]⟩ : ByteArray), (⟨#[68, 101, 99]⟩ : ByteArray)] : List ByteArray)) (inner := [.string (⟨#[]⟩ : ByteArray), .string (⟨#[74, 97, 110]⟩ : ByteArray), .string (⟨#[70, 101, 98]⟩ : ByteArray), .string (⟨#[77, 97, 114]⟩ : ByteArray), .string (⟨#[65, 112, 114]⟩ : ByteArray), .string (⟨#[77, 97, 121]⟩ : ByteArray), .string (⟨#[74, 117, 110]⟩ : ByteArray), .string (⟨#[74, 117, 108]⟩ : ByteArray), .string (⟨#[65, 117, 103]⟩ : ByteArray), .string (⟨#[83, 101, 112]⟩ : ByteArray), .string (⟨#[79, 99, 116]⟩ : ByteArray), .string (⟨#[78, 111, 118]⟩ : ByteArray), .string (⟨#[68, 101, 99]⟩ : ByteArray)]) (ok := fun _ => True) (okp := fun _ => True) ?hr ?hp (fun _ hk => hk) trivial (Below.refl _ _) (Nat.le_refl _) (by simp) ?_; (case hd => rfl); (case hg => rfl); (case hr => first | (go_simp; done) | (go_simp; rfl)); (case hp => exact (Reps.one (show Kd.M Kd.string _ _ _ (⟨#[]⟩ : ByteArray) [.string (⟨#[]⟩ : ByteArray)] from rfl) (Reps.one (show Kd.M Kd.string _ _ _ (⟨#[74, 97, 110]⟩ : ByteArray) [.string (⟨#[74, 97, 110]⟩ : ByteArray)] from rfl) (Reps.one (show Kd.M Kd.string _ _ _ (⟨#[70, 101, 98]⟩ : ByteArray) [.string (⟨#[70, 101, 98]⟩ : ByteArray)] from rfl) (Reps.one (show Kd.M Kd.string _ _ _ (⟨#[77, 97, 114]⟩ : ByteArray) [.string (⟨#[77, 97, 114]⟩ : ByteArray)] from rfl) (Reps.one (show Kd.M Kd.string _ _ _ (⟨#[65, 112, 114]⟩ : ByteArray) [.string (⟨#[65, 112, 114]⟩ : ByteArray)] from rfl) (Reps.one (show Kd.M Kd.string _ _ _ (⟨#[77, 97, 121]⟩ : ByteArray) [.string (⟨#[77, 97, 121]⟩ : ByteArray)] from rfl) (Reps.one (show Kd.M Kd.string _ _ _ (⟨#[74, 117, 110]⟩ : ByteArray) [.string (⟨#[74, 117, 110]⟩ : ByteArray)] from rfl) (Reps.one (show Kd.M Kd.string _ _ _ (⟨#[74, 117, 108]⟩ : ByteArray) [.string (⟨#[74, 117, 108]⟩ : ByteArray)] from rfl) (Reps.one (show Kd.M Kd.string _ _ _ (⟨#[65, 117, 103]⟩ : ByteArray) [.string (⟨#[65, 117, 103]⟩ : ByteArray)] from rfl) (Reps.one (show Kd.M Kd.string _ _ _ (⟨#[83, 101, 112]⟩ : ByteArray) [.string (⟨#[83, 101, 112]⟩ : ByteArray)] from rfl) (Reps.one (show Kd.M Kd.string _ _ _ (⟨#[79, 99, 116]⟩ : ByteArray) [.string (⟨#[79, 99, 116]⟩ : ByteArray)] from rfl) (Reps.one (show Kd.M Kd.string _ _ _ (⟨#[78, 111, 118]⟩ : ByteArray) [.string (⟨#[78, 111, 118]⟩ : ByteArray)] from rfl) (Reps.one (show Kd.M Kd.string _ _ _ (⟨#[68, 101, 99]⟩ : ByteArray) [.string (⟨#[68, 101, 99]⟩ : ByteArray)] from rfl) (Reps.none _ _))))))))))))))); intro v211 w1 ho2 hb hg_ hnew_; clear hg_ hnew_; (first | rw [← Ny210.out] at ho2 | (simp only [Int.reduceToNat] at ho2; rw [← Ny210.out] at ho2)); have n0_ := Aside0.mk (Kd.R_lower ho2 (below_size (by repeat (first | (with_reducible first | exact HB.out | apply below_alloc | apply pw_below_drewN | apply below_drew1) | exact HB.out)))); have n1_ := Aside0.mk (below_step (by repeat (first | (with_reducible first | exact HB.out | apply below_alloc | apply pw_below_drewN | apply below_drew1) | exact HB.out)) hb); clear HB; have HO212 := n0_; have HB := n1_; clear n0_ n1_; clear hb ho2))
  go_ret
  exact ⟨_, by first | rfl | (simp [errW_none, errW_some] <;> rfl) | (simp [*, errW_none, errW_some] <;> rfl), by (with_reducible repeat (first | apply Kd.R_alloc | apply Kd.R_drewN | apply Kd.R_drew)); exact HO212.out, by repeat (first | (with_reducible first | exact HB.out | apply below_alloc | apply pw_below_drewN | apply below_drew1) | exact HB.out)⟩
/-! ### decorumref03_month: function 34 -/
/-! ### decorumref03_Year: function 15 -/
/-! ### decorumref03_At: function 16 -/
end Go.Proofs.YtdlpdgdccoeklaaDoor.XA
