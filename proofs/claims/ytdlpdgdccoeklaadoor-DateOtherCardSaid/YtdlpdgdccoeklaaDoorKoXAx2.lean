import Derived.Test.YtdlpdgdccoeklaaDoorKoXAx0
import Derived.Test.YtdlpdgdccoeklaaDoorKoXAx1
-- Written by a program (wip/tools/xprint.py) out of the loaded functions: contracts of Go functions, and the functions that they compute.
namespace Go.Proofs.YtdlpdgdccoeklaaDoor.XA
open Go.RowKit Go.Proofs.YtdlpdgdccoeklaaDoor.Ext Go.Proofs.YtdlpdgdccoeklaaDoorW.PrintWords Go.Proofs.YtdlpdgdccoeklaaDoorW.PrintLast Go.Proofs.YtdlpdgdccoeklaaDoorW.PrintMore
attribute [local go_sem] max2_int min2_int max_two min_two max_three min_three max_four min_four   -- for this text's walks alone
set_option linter.unusedVariables false
set_option linter.unusedSimpArgs false
/-! ### date_first: function 19 -/
def date_first.j0 : Nat → List ByteArray → Bool → Option (Int × Int × Int × Int × Int × Bool)
  | 0, _, _ => none
  | k + 1, x4, x22 => if x22 = true then (some (0, 0, 0, 0, 0, false)) else (if 0 < (x4.length : Int) then ((strings_TrimSuffix.f (rdOf ByteArray.empty x4 0) (⟨#[44]⟩ : ByteArray)).bind fun t117 => ((date_among.f k (⟨#[77, 111, 110, 32, 84, 117, 101, 32, 87, 101, 100, 32, 84, 104, 117, 32, 70, 114, 105, 32, 83, 97, 116, 32, 83, 117, 110]⟩ : ByteArray) t117).bind fun t118 => (if 3 < (x4.length : Int) then ((Go.Proofs.YtdlpdgdccoeklaaDoor.Ext.date_number.f (rdOf ByteArray.empty x4 3) 4).bind fun t120 => (if 2 < (x4.length : Int) then ((date_among.f k (⟨#[74, 97, 110, 32, 70, 101, 98, 32, 77, 97, 114, 32, 65, 112, 114, 32, 77, 97, 121, 32, 74, 117, 110, 32, 74, 117, 108, 32, 65, 117, 103, 32, 83, 101, 112, 32, 79, 99, 116, 32, 78, 111, 118, 32, 68, 101, 99]⟩ : ByteArray) (rdOf ByteArray.empty x4 2)).bind fun t122 => (if 1 < (x4.length : Int) then ((Go.Proofs.YtdlpdgdccoeklaaDoor.Ext.date_number.f (rdOf ByteArray.empty x4 1) 2).bind fun t124 => (if 4 < (x4.length : Int) then ((Go.Proofs.YtdlpdgdccoeklaaDoor.Ext.date_clock.f (rdOf ByteArray.empty x4 4)).bind fun t126 => (some (t118, t120, wrap64 (1 + t122), t124, t126, true))) else (none))) else (none))) else (none))) else (none)))) else (none))
def date_first.f (k : Nat) (a0 : ByteArray) : Option (Int × Int × Int × Int × Int × Bool) := (Go.Proofs.YtdlpdgdccoeklaaDoor.Ext.strings_Split.f a0 (⟨#[32]⟩ : ByteArray)).bind fun t110 => (if (t110.length : Int) = 6 then (if 5 < (t110.length : Int) then (if (rdOf ByteArray.empty t110 5).toList = ([71, 77, 84] : List UInt8) then (if 0 < (t110.length : Int) then ((strings_HasSuffix.f (rdOf ByteArray.empty t110 0) (⟨#[44]⟩ : ByteArray)).bind fun t115 => (date_first.j0 k t110 (!t115))) else (none)) else (date_first.j0 k t110 true)) else (none)) else (date_first.j0 k t110 true))
def date_first.T4 : Bool × List (List Nat × List Nat) := (true, [([], []), ([0], [0]), ([1], [1]), ([2], [2]), ([3, 3], [3]), ([], []), ([5], [5]), ([6], [6]), ([7, 4], [7]), ([], []), ([9], [9]), ([10], [10]), ([11, 8], [11]), ([12], [12]), ([], []), ([14], [14]), ([15], [15]), ([16, 12], [16]), ([], []), ([18], [18]), ([19], [19]), ([20, 17], [20]), ([4, 8, 13, 17, 21], [4, 8, 13, 17, 21]), ([22, 21, 0, 1, 2, 3, 4, 5, 6, 7, 8, 9, 10, 11, 12, 13, 14, 15, 16, 17, 18, 19, 20, 21, 22], [22]), ([23, 0, 1, 2, 3, 4, 5, 6, 7, 8, 9, 10, 11, 12, 13, 14, 15, 16, 17, 18, 19, 20, 21, 22, 23], [])])
def date_first.B4 : List Nat := [0, 1, 3, 7, 15, 0, 32, 96, 255, 0, 512, 1536, 4095, 8191, 0, 16384, 49152, 122879, 0, 262144, 786432, 2088959, 4194303, 8388607, 16777215]
theorem date_first.tab4 : rtab .any (opsOf Tryd.f19 4) = date_first.T4 := by kernel_rfl
theorem date_first.bits4 : waitsOk date_first.T4.2 date_first.B4 = true := by kernel_rfl
set_option maxHeartbeats 8000000 in
set_option maxRecDepth 100000 in
theorem date_first.calls (k : Nat) (a0 : ByteArray) (r1 : Int) (r2 : Int) (r3 : Int) (r4 : Int) (r5 : Int) (r6 : Bool) (w : World) (hG : Gl w) (h : date_first.f k a0 = some (r1, r2, r3, r4, r5, r6)) :
    Calls Tryd.prog 19 #[.string a0] w fun e w' => e = .returned (.tuple #[.agg #[.int .i64 r1, .int .i64 r2, .int .i64 r3, .int .i64 r4, .int .i64 r5], .bool r6]) ∧ Below w.heap.size w w' := by
  have hu43 := Tryd.underlying43
  have HB := Aside0.mk (Below.refl w.heap.size w)
  have H : ((Go.Proofs.YtdlpdgdccoeklaaDoor.Ext.strings_Split.f a0 (⟨#[32]⟩ : ByteArray)).bind fun t110 => (if (t110.length : Int) = 6 then (if 5 < (t110.length : Int) then (if (rdOf ByteArray.empty t110 5).toList = ([71, 77, 84] : List UInt8) then (if 0 < (t110.length : Int) then ((strings_HasSuffix.f (rdOf ByteArray.empty t110 0) (⟨#[44]⟩ : ByteArray)).bind fun t115 => (date_first.j0 k t110 (!t115))) else (none)) else (date_first.j0 k t110 true)) else (none)) else (date_first.j0 k t110 true))) = some (r1, r2, r3, r4, r5, r6) := h
  clear h
  replace H := Option.bind_eq_some_iff.mp H
  obtain ⟨t110, A20, H⟩ := H
  replace H : (if (t110.length : Int) = 6 then (if 5 < (t110.length : Int) then (if (rdOf ByteArray.empty t110 5).toList = ([71, 77, 84] : List UInt8) then (if 0 < (t110.length : Int) then ((strings_HasSuffix.f (rdOf ByteArray.empty t110 0) (⟨#[44]⟩ : ByteArray)).bind fun t115 => (date_first.j0 k t110 (!t115))) else (none)) else (date_first.j0 k t110 true)) else (none)) else (date_first.j0 k t110 true)) = some (r1, r2, r3, r4, r5, r6) := H
  have A2 := Aside0.mk A20
  clear A20
  have HC3 := Aside0.mk H
  clear H
  go_enter Tryd.func19, Tryd.ntmps19
  go_upto_region 2 with (first | ((with_reducible refine gate_dst (N := 2) rfl ?_); refine box_event ?hg (N := 2) ?hd (cs := #[.int .i64 0, .int .i64 0, .int .i64 0, .int .i64 0, .int .i64 0]) (t := 43) ?hr ?_; (case hd => rfl); (case hg => rfl); (case hr => first | (go_simp; done) | (go_simp; rfl)); intro gb109 hg w4 hbox hb; have n0_ := Aside0.mk (below_step (by repeat (first | (with_reducible first | exact HB.out | apply below_alloc | apply pw_below_drewN | apply below_drew1) | exact HB.out)) hb); have n1_ := Aside0.mk (hbox); have n2_ := Aside0.mk ((by rw [hg]; exact (below_size (by repeat (first | (with_reducible first | exact HB.out | apply below_alloc | apply pw_below_drewN | apply below_drew1) | exact HB.out))) : w.heap.size ≤ gb109)); have n3_ := Aside0.mk ((by rw [hg]; exact (below_size (by repeat (first | (with_reducible first | exact HB.out | apply below_alloc | apply pw_below_drewN | apply below_drew1) | exact HB.out))) : w.heap.size ≤ gb109)); clear HB; have HB := n0_; have BK109 := n1_; have GW109 := n2_; have GE109 := n3_; clear n0_ n1_ n2_ n3_; clear hb hbox hg) | ((with_reducible refine gate_callee (f := 36) rfl ?_); refine goesL_ (some 6) rfl rfl Tryd.func36 (by kernel_rfl) rfl #[.string a0, .string (⟨#[32]⟩ : ByteArray)] rfl (by (try simp only [List.map_toArray, List.map_cons, List.map_nil]); first | done | rfl | (simp only [List.length_drop, List.length_take]; rfl)) ?_; (with_reducible refine (Go.Proofs.YtdlpdgdccoeklaaDoor.Ext.strings_Split.calls a0 (⟨#[32]⟩ : ByteArray) t110 _ ?side1 A2.out).mono ?_); (case side1 => exact Gl.below hG (by repeat (first | (with_reducible first | exact HB.out | apply below_alloc | apply pw_below_drewN | apply below_drew1 | refine below_set ?_ GE109.out) | exact HB.out))); rintro e w5 ⟨v111, rfl, ho0, hb⟩; refine ⟨_, rfl, ?_⟩; have n0_ := Aside0.mk (Kd.R_lower ho0 (below_size (by repeat (first | (with_reducible first | exact HB.out | apply below_alloc | apply pw_below_drewN | apply below_drew1 | refine below_set ?_ GE109.out) | exact HB.out)))); have n1_ := Aside0.mk (blk_below (g := gb109) (o := .cells #[.int .i64 0, .int .i64 0, .int .i64 0, .int .i64 0, .int .i64 0] 43 (0, 0)) (by (with_reducible repeat (first | refine blk_drewN ?_ _ | refine blk_drew ?_ | refine blk_alloc ?_ _)); exact BK109.out) hb); have n2_ := Aside0.mk (below_step (by repeat (first | (with_reducible first | exact HB.out | apply below_alloc | apply pw_below_drewN | apply below_drew1 | refine below_set ?_ GE109.out) | exact HB.out)) hb); clear BK109; clear HB; have HO112 := n0_; have BK109 := n1_; have HB := n2_; clear n0_ n1_ n2_; (try clear hb); (try clear hb2); (try clear hk); (try clear hi); (try clear ho0)))
  (try simp only [Act.put, List.setIfInBounds_toArray, List.set_cons_zero, List.set_cons_succ])
  go_cut [22] (fun v22 wc => ∃ (kq : Nat) (x22_2 : Bool), v22 = .bool x22_2 ∧ Aside0 (date_first.j0 kq t110 x22_2 = some (r1, r2, r3, r4, r5, r6)) ∧ Aside0 (kq ≤ k) ∧ Aside0 (Kd.R Kd.string 9 wc w.heap.size (fun _ => True) v111 t110) ∧ Aside0 (wc.heap[gb109]? = some (.cells #[.int .i64 0, .int .i64 0, .int .i64 0, .int .i64 0, .int .i64 0] 43 (0, 0))) ∧ Aside0 (Below w.heap.size w wc))
  case first =>
    have H := HC3.out
    clear HC3
    by_cases c6 : (t110.length : Int) = 6
    · rw [if_pos c6] at H
      have c6b0 : ((t110.length : Int) == 6) = true := beq_iff_eq.mpr c6
      have c6b1 : ((t110.length : Int) != 6) = false := bne_eq_false_iff_eq.mpr c6
      clear c6
      (first | rw [c6b0] | (simp only [i64_w, i32_w]; rw [c6b0]) | skip)
      by_cases c7 : 5 < (t110.length : Int)
      · rw [if_pos c7] at H
        have c7b0 : decide (5 < (t110.length : Int)) = true := decide_eq_true c7
        have c7b1 : decide (5 < t110.length) = true := decide_eq_true (by omega)
        clear c7
        by_cases c8 : (rdOf ByteArray.empty t110 5).toList = ([71, 77, 84] : List UInt8)
        · rw [if_pos c8] at H
          have c8b0 : ((rdOf ByteArray.empty t110 5).toList == ([71, 77, 84] : List UInt8)) = true := beq_iff_eq.mpr c8
          have c8b1 : ((rdOf ByteArray.empty t110 5).toList != ([71, 77, 84] : List UInt8)) = false := bne_eq_false_iff_eq.mpr c8
          clear c8
          by_cases c9 : 0 < (t110.length : Int)
          · rw [if_pos c9] at H
            have c9b0 : decide (0 < (t110.length : Int)) = true := decide_eq_true c9
            have c9b1 : decide (0 < t110.length) = true := decide_eq_true (by omega)
            clear c9
            replace H := Option.bind_eq_some_iff.mp H
            obtain ⟨t115, A100, H⟩ := H
            replace H : (date_first.j0 k t110 (!t115)) = some (r1, r2, r3, r4, r5, r6) := H
            have A10 := Aside0.mk A100
            clear A100
            have H' := Aside0.mk H
            clear H
            obtain ⟨Ao11, co11, eo11⟩ := Kd.R_slice HO112.out
            subst eo11
            have p113 : 0 ≤ (5 : Int) := (by omega)
            have q113 : 5 < (t110.length : Int) := of_decide_eq_true (by first | (with_reducible assumption) | assumption)
            obtain ⟨ad113, e113, hx113_0⟩ := Kd.at_string (Kd.R_reads' HO112.out).2.2 5 p113 q113
            cases e113
            (try simp only [show (5 : Int).toNat = 5 from rfl, Nat.reduceMul, Nat.reduceEqDiff, Go.Addr.add, ↓reduceIte] at hx113_0)
            have qi113 : (5 < t110.length) = True := eq_true (by omega)
            (try rw [show ((5 : Int)).toNat = 5 from rfl] at hx113_0)
            replace p113 := eq_true p113
            replace q113 := eq_true q113
            have p114 : 0 ≤ (0 : Int) := (by omega)
            have q114 : 0 < (t110.length : Int) := of_decide_eq_true (by first | (with_reducible assumption) | assumption)
            obtain ⟨ad114, e114, hx114_0⟩ := Kd.at_string (Kd.R_reads' HO112.out).2.2 0 p114 q114
            obtain rfl : ad113 = ad114 := (by injection e114)
            have qi114 : (0 < t110.length) = True := eq_true (by omega)
            (try rw [show ((0 : Int)).toNat = 0 from rfl] at hx114_0)
            (try rw [Addr.add_zero'] at hx114_0)
            replace p114 := eq_true p114
            replace q114 := eq_true q114
            go_wp2_with (first | (go_at_call 37; (with_reducible refine (strings_HasSuffix.calls (rdOf ByteArray.empty t110 0) (⟨#[44]⟩ : ByteArray) t115 _ A10.out).mono ?_); rintro e w' ⟨rfl, ⟨nd, rfl⟩⟩))
            go_meet
            case rel => exact ⟨_, (!t115), (by first | rfl | (simp; done) | (simp [*]; done)), H', ⟨by first | omega | exact Nat.le_refl _⟩, ⟨by (with_reducible repeat (first | apply Kd.R_alloc | apply Kd.R_drewN | apply Kd.R_drew)); exact HO112.out⟩, ⟨by (with_reducible repeat (first | refine blk_drewN ?_ _ | refine blk_drew ?_ | refine blk_alloc ?_ _)); exact BK109.out⟩, ⟨by repeat (first | (with_reducible first | exact HB.out | apply below_alloc | apply pw_below_drewN | apply below_drew1 | refine below_set ?_ GE109.out) | exact HB.out)⟩⟩
          · rw [if_neg c9] at H
            exact absurd H (by simp)
        · rw [if_neg c8] at H
          have c8b0 : ((rdOf ByteArray.empty t110 5).toList == ([71, 77, 84] : List UInt8)) = false := beq_eq_false_iff_ne.mpr c8
          have c8b1 : ((rdOf ByteArray.empty t110 5).toList != ([71, 77, 84] : List UInt8)) = true := bne_iff_ne.mpr c8
          have H' := Aside0.mk H
          clear H
          obtain ⟨Ao12, co12, eo12⟩ := Kd.R_slice HO112.out
          subst eo12
          have p113 : 0 ≤ (5 : Int) := (by omega)
          have q113 : 5 < (t110.length : Int) := of_decide_eq_true (by first | (with_reducible assumption) | assumption)
          obtain ⟨ad113, e113, hx113_0⟩ := Kd.at_string (Kd.R_reads' HO112.out).2.2 5 p113 q113
          cases e113
          (try simp only [show (5 : Int).toNat = 5 from rfl, Nat.reduceMul, Nat.reduceEqDiff, Go.Addr.add, ↓reduceIte] at hx113_0)
          have qi113 : (5 < t110.length) = True := eq_true (by omega)
          (try rw [show ((5 : Int)).toNat = 5 from rfl] at hx113_0)
          replace p113 := eq_true p113
          replace q113 := eq_true q113
          go_wp2
          go_meet
          case rel => exact ⟨_, (true), (by first | rfl | (simp; done) | (simp [*]; done)), H', ⟨by first | omega | exact Nat.le_refl _⟩, ⟨by (with_reducible repeat (first | apply Kd.R_alloc | apply Kd.R_drewN | apply Kd.R_drew)); exact HO112.out⟩, ⟨by (with_reducible repeat (first | refine blk_drewN ?_ _ | refine blk_drew ?_ | refine blk_alloc ?_ _)); exact BK109.out⟩, ⟨by repeat (first | (with_reducible first | exact HB.out | apply below_alloc | apply pw_below_drewN | apply below_drew1 | refine below_set ?_ GE109.out) | exact HB.out)⟩⟩
      · rw [if_neg c7] at H
        exact absurd H (by simp)
    · rw [if_neg c6] at H
      have c6b0 : ((t110.length : Int) == 6) = false := beq_eq_false_iff_ne.mpr c6
      have c6b1 : ((t110.length : Int) != 6) = true := bne_iff_ne.mpr c6
      (first | rw [c6b0] | (simp only [i64_w, i32_w]; rw [c6b0]) | skip)
      have H' := Aside0.mk H
      clear H
      obtain ⟨Ao13, co13, eo13⟩ := Kd.R_slice HO112.out
      subst eo13
      go_wp2
      go_meet
      case rel => exact ⟨_, (true), (by first | rfl | (simp; done) | (simp [*]; done)), H', ⟨by first | omega | exact Nat.le_refl _⟩, ⟨by (with_reducible repeat (first | apply Kd.R_alloc | apply Kd.R_drewN | apply Kd.R_drew)); exact HO112.out⟩, ⟨by (with_reducible repeat (first | refine blk_drewN ?_ _ | refine blk_drew ?_ | refine blk_alloc ?_ _)); exact BK109.out⟩, ⟨by repeat (first | (with_reducible first | exact HB.out | apply below_alloc | apply pw_below_drewN | apply below_drew1 | refine below_set ?_ GE109.out) | exact HB.out)⟩⟩
  case rest =>
    clear HC3
    try clear c1
    try clear p1
    try clear q1
    try clear hx1
    try clear qi1
    try clear p2
    try clear c3
    try clear c6
    try clear c6b0
    try clear c6b1
    try clear c7
    try clear c7b0
    try clear c7b1
    try clear c8
    try clear c8b0
    try clear c8b1
    try clear c9
    try clear c9b0
    try clear c9b1
    try clear p11
    try clear q11
    try clear hx11
    try clear qi11
    try clear hx113_0
    try clear hx114_0
    try clear p113
    try clear p114
    try clear q113
    try clear q114
    obtain ⟨kq, x22_2, rfl, HA, HJ2, HO_4, BK109, HB⟩ := hcut
    cases kq with
    | zero => exact absurd HA.out (by simp [date_first.j0])
    | succ kj2 =>
      have H := HA.out
      clear HA
      simp only [date_first.j0] at H
      by_cases c14 : x22_2 = true
      · subst c14
        have H1 : (some (0, 0, 0, 0, 0, false)) = some (r1, r2, r3, r4, r5, r6) := by rw [if_pos rfl] at H; exact H
        clear H
        have H := H1
        clear H1
        simp only [Option.some.injEq, Prod.mk.injEq] at H
        obtain ⟨rfl, rfl, rfl, rfl, rfl, rfl⟩ := H
        have hcz15_0 : wc.cell? ⟨gb109, 0, none⟩ = some (.int .i64 0) := (blk_cell BK109.out 0).trans rfl
        have hcz15_1 : wc.cell? ⟨gb109, 1, none⟩ = some (.int .i64 0) := (blk_cell BK109.out 1).trans rfl
        have hcz15_2 : wc.cell? ⟨gb109, 2, none⟩ = some (.int .i64 0) := (blk_cell BK109.out 2).trans rfl
        have hcz15_3 : wc.cell? ⟨gb109, 3, none⟩ = some (.int .i64 0) := (blk_cell BK109.out 3).trans rfl
        have hcz15_4 : wc.cell? ⟨gb109, 4, none⟩ = some (.int .i64 0) := (blk_cell BK109.out 4).trans rfl
        have hfz15_0 := blk_frozen BK109.out 0
        have hfz15_1 := blk_frozen BK109.out 1
        have hfz15_2 := blk_frozen BK109.out 2
        have hfz15_3 := blk_frozen BK109.out 3
        have hfz15_4 := blk_frozen BK109.out 4
        go_wp2
        refine bodyPost_ret (results_ct rfl _ _ gb109 43 #[.int .i64 0, .int .i64 0, .int .i64 0, .int .i64 0, .int .i64 0] (0, 0) _ rfl (by (with_reducible repeat (first | refine blk_drewN ?_ _ | refine blk_drew ?_ | refine blk_alloc ?_ _)); refine blk_put (cs := #[.int .i64 0, .int .i64 0, .int .i64 0, .int .i64 0, .int .i64 0]) ?_ 4 _ rfl; (with_reducible repeat (first | refine blk_drewN ?_ _ | refine blk_drew ?_ | refine blk_alloc ?_ _)); refine blk_put (cs := #[.int .i64 0, .int .i64 0, .int .i64 0, .int .i64 0, .int .i64 0]) ?_ 3 _ rfl; (with_reducible repeat (first | refine blk_drewN ?_ _ | refine blk_drew ?_ | refine blk_alloc ?_ _)); refine blk_put (cs := #[.int .i64 0, .int .i64 0, .int .i64 0, .int .i64 0, .int .i64 0]) ?_ 2 _ rfl; (with_reducible repeat (first | refine blk_drewN ?_ _ | refine blk_drew ?_ | refine blk_alloc ?_ _)); refine blk_put (cs := #[.int .i64 0, .int .i64 0, .int .i64 0, .int .i64 0, .int .i64 0]) ?_ 1 _ rfl; (with_reducible repeat (first | refine blk_drewN ?_ _ | refine blk_drew ?_ | refine blk_alloc ?_ _)); refine blk_put (cs := #[.int .i64 0, .int .i64 0, .int .i64 0, .int .i64 0, .int .i64 0]) ?_ 0 _ rfl; (with_reducible repeat (first | refine blk_drewN ?_ _ | refine blk_drew ?_ | refine blk_alloc ?_ _)); exact BK109.out) Tryd.underlying43 rfl (by kernel_rfl)) rfl ?_
        exact ⟨by first | rfl | (simp [errW_none, errW_some] <;> rfl) | (simp [*, errW_none, errW_some] <;> rfl), by repeat (first | (with_reducible first | exact HB.out | apply below_alloc | apply pw_below_drewN | apply below_drew1 | refine below_set ?_ GE109.out) | exact HB.out)⟩
      · replace c14 := Bool.eq_false_iff.mpr c14
        subst c14
        have H1 : (if 0 < (t110.length : Int) then ((strings_TrimSuffix.f (rdOf ByteArray.empty t110 0) (⟨#[44]⟩ : ByteArray)).bind fun t117 => ((date_among.f kj2 (⟨#[77, 111, 110, 32, 84, 117, 101, 32, 87, 101, 100, 32, 84, 104, 117, 32, 70, 114, 105, 32, 83, 97, 116, 32, 83, 117, 110]⟩ : ByteArray) t117).bind fun t118 => (if 3 < (t110.length : Int) then ((Go.Proofs.YtdlpdgdccoeklaaDoor.Ext.date_number.f (rdOf ByteArray.empty t110 3) 4).bind fun t120 => (if 2 < (t110.length : Int) then ((date_among.f kj2 (⟨#[74, 97, 110, 32, 70, 101, 98, 32, 77, 97, 114, 32, 65, 112, 114, 32, 77, 97, 121, 32, 74, 117, 110, 32, 74, 117, 108, 32, 65, 117, 103, 32, 83, 101, 112, 32, 79, 99, 116, 32, 78, 111, 118, 32, 68, 101, 99]⟩ : ByteArray) (rdOf ByteArray.empty t110 2)).bind fun t122 => (if 1 < (t110.length : Int) then ((Go.Proofs.YtdlpdgdccoeklaaDoor.Ext.date_number.f (rdOf ByteArray.empty t110 1) 2).bind fun t124 => (if 4 < (t110.length : Int) then ((Go.Proofs.YtdlpdgdccoeklaaDoor.Ext.date_clock.f (rdOf ByteArray.empty t110 4)).bind fun t126 => (some (t118, t120, wrap64 (1 + t122), t124, t126, true))) else (none))) else (none))) else (none))) else (none)))) else (none)) = some (r1, r2, r3, r4, r5, r6) := by rw [if_neg (show ¬ (false = true) by decide)] at H; exact H
        clear H
        have H := H1
        clear H1
        by_cases c16 : 0 < (t110.length : Int)
        · rw [if_pos c16] at H
          have c16b0 : decide (0 < (t110.length : Int)) = true := decide_eq_true c16
          have c16b1 : decide (0 < t110.length) = true := decide_eq_true (by omega)
          clear c16
          replace H := Option.bind_eq_some_iff.mp H
          obtain ⟨t117, A170, H⟩ := H
          replace H : ((date_among.f kj2 (⟨#[77, 111, 110, 32, 84, 117, 101, 32, 87, 101, 100, 32, 84, 104, 117, 32, 70, 114, 105, 32, 83, 97, 116, 32, 83, 117, 110]⟩ : ByteArray) t117).bind fun t118 => (if 3 < (t110.length : Int) then ((Go.Proofs.YtdlpdgdccoeklaaDoor.Ext.date_number.f (rdOf ByteArray.empty t110 3) 4).bind fun t120 => (if 2 < (t110.length : Int) then ((date_among.f kj2 (⟨#[74, 97, 110, 32, 70, 101, 98, 32, 77, 97, 114, 32, 65, 112, 114, 32, 77, 97, 121, 32, 74, 117, 110, 32, 74, 117, 108, 32, 65, 117, 103, 32, 83, 101, 112, 32, 79, 99, 116, 32, 78, 111, 118, 32, 68, 101, 99]⟩ : ByteArray) (rdOf ByteArray.empty t110 2)).bind fun t122 => (if 1 < (t110.length : Int) then ((Go.Proofs.YtdlpdgdccoeklaaDoor.Ext.date_number.f (rdOf ByteArray.empty t110 1) 2).bind fun t124 => (if 4 < (t110.length : Int) then ((Go.Proofs.YtdlpdgdccoeklaaDoor.Ext.date_clock.f (rdOf ByteArray.empty t110 4)).bind fun t126 => (some (t118, t120, wrap64 (1 + t122), t124, t126, true))) else (none))) else (none))) else (none))) else (none))) = some (r1, r2, r3, r4, r5, r6) := H
          have A17 := Aside0.mk A170
          clear A170
          replace H := Option.bind_eq_some_iff.mp H
          obtain ⟨t118, A180, H⟩ := H
          replace H : (if 3 < (t110.length : Int) then ((Go.Proofs.YtdlpdgdccoeklaaDoor.Ext.date_number.f (rdOf ByteArray.empty t110 3) 4).bind fun t120 => (if 2 < (t110.length : Int) then ((date_among.f kj2 (⟨#[74, 97, 110, 32, 70, 101, 98, 32, 77, 97, 114, 32, 65, 112, 114, 32, 77, 97, 121, 32, 74, 117, 110, 32, 74, 117, 108, 32, 65, 117, 103, 32, 83, 101, 112, 32, 79, 99, 116, 32, 78, 111, 118, 32, 68, 101, 99]⟩ : ByteArray) (rdOf ByteArray.empty t110 2)).bind fun t122 => (if 1 < (t110.length : Int) then ((Go.Proofs.YtdlpdgdccoeklaaDoor.Ext.date_number.f (rdOf ByteArray.empty t110 1) 2).bind fun t124 => (if 4 < (t110.length : Int) then ((Go.Proofs.YtdlpdgdccoeklaaDoor.Ext.date_clock.f (rdOf ByteArray.empty t110 4)).bind fun t126 => (some (t118, t120, wrap64 (1 + t122), t124, t126, true))) else (none))) else (none))) else (none))) else (none)) = some (r1, r2, r3, r4, r5, r6) := H
          have A18 := Aside0.mk A180
          clear A180
          by_cases c19 : 3 < (t110.length : Int)
          · rw [if_pos c19] at H
            have c19b0 : decide (3 < (t110.length : Int)) = true := decide_eq_true c19
            have c19b1 : decide (3 < t110.length) = true := decide_eq_true (by omega)
            clear c19
            replace H := Option.bind_eq_some_iff.mp H
            obtain ⟨t120, A200, H⟩ := H
            replace H : (if 2 < (t110.length : Int) then ((date_among.f kj2 (⟨#[74, 97, 110, 32, 70, 101, 98, 32, 77, 97, 114, 32, 65, 112, 114, 32, 77, 97, 121, 32, 74, 117, 110, 32, 74, 117, 108, 32, 65, 117, 103, 32, 83, 101, 112, 32, 79, 99, 116, 32, 78, 111, 118, 32, 68, 101, 99]⟩ : ByteArray) (rdOf ByteArray.empty t110 2)).bind fun t122 => (if 1 < (t110.length : Int) then ((Go.Proofs.YtdlpdgdccoeklaaDoor.Ext.date_number.f (rdOf ByteArray.empty t110 1) 2).bind fun t124 => (if 4 < (t110.length : Int) then ((Go.Proofs.YtdlpdgdccoeklaaDoor.Ext.date_clock.f (rdOf ByteArray.empty t110 4)).bind fun t126 => (some (t118, t120, wrap64 (1 + t122), t124, t126, true))) else (none))) else (none))) else (none)) = some (r1, r2, r3, r4, r5, r6) := H
            have A20 := Aside0.mk A200
            clear A200
            by_cases c21 : 2 < (t110.length : Int)
            · rw [if_pos c21] at H
              have c21b0 : decide (2 < (t110.length : Int)) = true := decide_eq_true c21
              have c21b1 : decide (2 < t110.length) = true := decide_eq_true (by omega)
              clear c21
              replace H := Option.bind_eq_some_iff.mp H
              obtain ⟨t122, A220, H⟩ := H
              replace H : (if 1 < (t110.length : Int) then ((Go.Proofs.YtdlpdgdccoeklaaDoor.Ext.date_number.f (rdOf ByteArray.empty t110 1) 2).bind fun t124 => (if 4 < (t110.length : Int) then ((Go.Proofs.YtdlpdgdccoeklaaDoor.Ext.date_clock.f (rdOf ByteArray.empty t110 4)).bind fun t126 => (some (t118, t120, wrap64 (1 + t122), t124, t126, true))) else (none))) else (none)) = some (r1, r2, r3, r4, r5, r6) := H
              have A22 := Aside0.mk A220
              clear A220
              by_cases c23 : 1 < (t110.length : Int)
              · rw [if_pos c23] at H
                have c23b0 : decide (1 < (t110.length : Int)) = true := decide_eq_true c23
                have c23b1 : decide (1 < t110.length) = true := decide_eq_true (by omega)
                clear c23
                replace H := Option.bind_eq_some_iff.mp H
                obtain ⟨t124, A240, H⟩ := H
                replace H : (if 4 < (t110.length : Int) then ((Go.Proofs.YtdlpdgdccoeklaaDoor.Ext.date_clock.f (rdOf ByteArray.empty t110 4)).bind fun t126 => (some (t118, t120, wrap64 (1 + t122), t124, t126, true))) else (none)) = some (r1, r2, r3, r4, r5, r6) := H
                have A24 := Aside0.mk A240
                clear A240
                by_cases c25 : 4 < (t110.length : Int)
                · rw [if_pos c25] at H
                  have c25b0 : decide (4 < (t110.length : Int)) = true := decide_eq_true c25
                  have c25b1 : decide (4 < t110.length) = true := decide_eq_true (by omega)
                  clear c25
                  replace H := Option.bind_eq_some_iff.mp H
                  obtain ⟨t126, A260, H⟩ := H
                  replace H : (some (t118, t120, wrap64 (1 + t122), t124, t126, true)) = some (r1, r2, r3, r4, r5, r6) := H
                  have A26 := Aside0.mk A260
                  clear A260
                  simp only [Option.some.injEq, Prod.mk.injEq] at H
                  obtain ⟨rfl, rfl, rfl, rfl, rfl, rfl⟩ := H
                  try go_wp2
                  have n0_ := Aside0.mk (Kd.R_drew HO_4.out)
                  have n1_ := Aside0.mk (blk_drew BK109.out)
                  have n2_ := Aside0.mk (below_drew1 HB.out)
                  clear HO_4
                  clear BK109
                  clear HB
                  have HO_4 := n0_
                  have BK109 := n1_
                  have HB := n2_
                  clear n0_ n1_ n2_
                  obtain ⟨Ao28, co28, eo28⟩ := Kd.R_slice HO_4.out
                  (first | subst eo28 | (injection eo28 with f1_ f2_ f3_; have f4_ := f1_.symm; have f5_ := f3_.symm; clear f1_ f2_ f3_; subst f4_; subst f5_))
                  have p116 : 0 ≤ (0 : Int) := (by omega)
                  have q116 : 0 < (t110.length : Int) := of_decide_eq_true (by first | (with_reducible assumption) | assumption)
                  obtain ⟨ad116, e116, hx116_0⟩ := Kd.at_string (Kd.R_reads' HO_4.out).2.2 0 p116 q116
                  cases e116
                  have qi116 : (0 < t110.length) = True := eq_true (by omega)
                  (try rw [show ((0 : Int)).toNat = 0 from rfl] at hx116_0)
                  (try rw [Addr.add_zero'] at hx116_0)
                  replace p116 := eq_true p116
                  replace q116 := eq_true q116
                  have p119 : 0 ≤ (3 : Int) := (by omega)
                  have q119 : 3 < (t110.length : Int) := of_decide_eq_true (by first | (with_reducible assumption) | assumption)
                  obtain ⟨ad119, e119, hx119_0⟩ := Kd.at_string (Kd.R_reads' HO_4.out).2.2 3 p119 q119
                  obtain rfl : ad116 = ad119 := (by injection e119)
                  (try simp only [show (3 : Int).toNat = 3 from rfl, Nat.reduceMul, Nat.reduceEqDiff, Go.Addr.add, ↓reduceIte] at hx119_0)
                  have qi119 : (3 < t110.length) = True := eq_true (by omega)
                  (try rw [show ((3 : Int)).toNat = 3 from rfl] at hx119_0)
                  replace p119 := eq_true p119
                  replace q119 := eq_true q119
                  have p121 : 0 ≤ (2 : Int) := (by omega)
                  have q121 : 2 < (t110.length : Int) := of_decide_eq_true (by first | (with_reducible assumption) | assumption)
                  obtain ⟨ad121, e121, hx121_0⟩ := Kd.at_string (Kd.R_reads' HO_4.out).2.2 2 p121 q121
                  obtain rfl : ad116 = ad121 := (by injection e121)
                  (try simp only [show (2 : Int).toNat = 2 from rfl, Nat.reduceMul, Nat.reduceEqDiff, Go.Addr.add, ↓reduceIte] at hx121_0)
                  have qi121 : (2 < t110.length) = True := eq_true (by omega)
                  (try rw [show ((2 : Int)).toNat = 2 from rfl] at hx121_0)
                  replace p121 := eq_true p121
                  replace q121 := eq_true q121
                  have p123 : 0 ≤ (1 : Int) := (by omega)
                  have q123 : 1 < (t110.length : Int) := of_decide_eq_true (by first | (with_reducible assumption) | assumption)
                  obtain ⟨ad123, e123, hx123_0⟩ := Kd.at_string (Kd.R_reads' HO_4.out).2.2 1 p123 q123
                  obtain rfl : ad116 = ad123 := (by injection e123)
                  (try simp only [show (1 : Int).toNat = 1 from rfl, Nat.reduceMul, Nat.reduceEqDiff, Go.Addr.add, ↓reduceIte] at hx123_0)
                  have qi123 : (1 < t110.length) = True := eq_true (by omega)
                  (try rw [show ((1 : Int)).toNat = 1 from rfl] at hx123_0)
                  replace p123 := eq_true p123
                  replace q123 := eq_true q123
                  have p125 : 0 ≤ (4 : Int) := (by omega)
                  have q125 : 4 < (t110.length : Int) := of_decide_eq_true (by first | (with_reducible assumption) | assumption)
                  obtain ⟨ad125, e125, hx125_0⟩ := Kd.at_string (Kd.R_reads' HO_4.out).2.2 4 p125 q125
                  obtain rfl : ad116 = ad125 := (by injection e125)
                  (try simp only [show (4 : Int).toNat = 4 from rfl, Nat.reduceMul, Nat.reduceEqDiff, Go.Addr.add, ↓reduceIte] at hx125_0)
                  have qi125 : (4 < t110.length) = True := eq_true (by omega)
                  (try rw [show ((4 : Int)).toNat = 4 from rfl] at hx125_0)
                  replace p125 := eq_true p125
                  replace q125 := eq_true q125
                  refine start_ (n := 25) (S := fun w' => w'.cell? ad116 = some (.string (rdOf ByteArray.empty t110 0)) ∧ w'.cell? ⟨ad116.block, ad116.off + 3, none⟩ = some (.string (rdOf ByteArray.empty t110 3)) ∧ w'.cell? ⟨ad116.block, ad116.off + 2, none⟩ = some (.string (rdOf ByteArray.empty t110 2)) ∧ w'.cell? ⟨ad116.block, ad116.off + 1, none⟩ = some (.string (rdOf ByteArray.empty t110 1)) ∧ w'.cell? ⟨ad116.block, ad116.off + 4, none⟩ = some (.string (rdOf ByteArray.empty t110 4))) (ds := []) #[false, false, false, false, false, false, false, false, false, false, false, false, false, false, false, false, false, false, false, false, false, false, false, false, false] (by kernel_rfl) rfl rfl ⟨hx116_0, hx119_0, hx121_0, hx123_0, hx125_0⟩ (fun hHeld => ?_); refine with_tabW date_first.tab4 date_first.bits4 (fun HT_ HW_ => ?_)
                  generalize wc.drew = w27 at HO_4 BK109 HB hx116_0 hx119_0 hx121_0 hx123_0 hx125_0 hHeld ⊢
                  refine pure_ (i := 0) (N := some 24) (v := ?_) (a' := ?_) #[true, false, false, false, false, false, false, false, false, false, false, false, false, false, false, false, false, false, false, false, false, false, false, false, false] rfl rfl (any_of HT_.out (by kernel_rfl)) (fun _ _ _ h => h) (Or.inl ⟨by rfl, ?_⟩) ?_ ?_
                  rotate_left
                  · intro w'
                    go_simp
                    with_reducible rfl
                  rotate_left
                  · simp only [Act.put, List.setIfInBounds_toArray, List.set_cons_zero, List.set_cons_succ, i64_w, i32_w]
                    rfl
                  refine pure_ (i := 1) (N := some 25) (v := ?_) (a' := ?_) #[true, true, false, false, false, false, false, false, false, false, false, false, false, false, false, false, false, false, false, false, false, false, false, false, false] rfl rfl (any_of HT_.out (by kernel_rfl)) (fun _ _ _ h => h) (Or.inl ⟨by rfl, ?_⟩) ?_ ?_
                  rotate_left
                  · intro w'
                    go_simp
                    with_reducible rfl
                  rotate_left
                  · simp only [Act.put, List.setIfInBounds_toArray, List.set_cons_zero, List.set_cons_succ, i64_w, i32_w]
                    rfl
                  refine pure_ (i := 5) (N := some 29) (v := ?_) (a' := ?_) #[true, true, false, false, false, true, false, false, false, false, false, false, false, false, false, false, false, false, false, false, false, false, false, false, false] rfl rfl (any_of HT_.out (by kernel_rfl)) (fun _ _ _ h => h) (Or.inl ⟨by rfl, ?_⟩) ?_ ?_
                  rotate_left
                  · intro w'
                    go_simp
                    with_reducible rfl
                  rotate_left
                  · simp only [Act.put, List.setIfInBounds_toArray, List.set_cons_zero, List.set_cons_succ, i64_w, i32_w]
                    rfl
                  refine pure_ (i := 6) (N := some 30) (v := ?_) (a' := ?_) #[true, true, false, false, false, true, true, false, false, false, false, false, false, false, false, false, false, false, false, false, false, false, false, false, false] rfl rfl (any_of HT_.out (by kernel_rfl)) (fun _ _ _ h => h) (Or.inl ⟨by rfl, ?_⟩) ?_ ?_
                  rotate_left
                  · intro w'
                    go_simp
                    with_reducible rfl
                  rotate_left
                  · simp only [Act.put, List.setIfInBounds_toArray, List.set_cons_zero, List.set_cons_succ, i64_w, i32_w]
                    rfl
                  refine pure_ (i := 9) (N := some 33) (v := ?_) (a' := ?_) #[true, true, false, false, false, true, true, false, false, true, false, false, false, false, false, false, false, false, false, false, false, false, false, false, false] rfl rfl (any_of HT_.out (by kernel_rfl)) (fun _ _ _ h => h) (Or.inl ⟨by rfl, ?_⟩) ?_ ?_
                  rotate_left
                  · intro w'
                    go_simp
                    with_reducible rfl
                  rotate_left
                  · simp only [Act.put, List.setIfInBounds_toArray, List.set_cons_zero, List.set_cons_succ, i64_w, i32_w]
                    rfl
                  refine pure_ (i := 10) (N := some 34) (v := ?_) (a' := ?_) #[true, true, false, false, false, true, true, false, false, true, true, false, false, false, false, false, false, false, false, false, false, false, false, false, false] rfl rfl (any_of HT_.out (by kernel_rfl)) (fun _ _ _ h => h) (Or.inl ⟨by rfl, ?_⟩) ?_ ?_
                  rotate_left
                  · intro w'
                    go_simp
                    with_reducible rfl
                  rotate_left
                  · simp only [Act.put, List.setIfInBounds_toArray, List.set_cons_zero, List.set_cons_succ, i64_w, i32_w]
                    rfl
                  refine pure_ (i := 14) (N := some 38) (v := ?_) (a' := ?_) #[true, true, false, false, false, true, true, false, false, true, true, false, false, false, true, false, false, false, false, false, false, false, false, false, false] rfl rfl (any_of HT_.out (by kernel_rfl)) (fun _ _ _ h => h) (Or.inl ⟨by rfl, ?_⟩) ?_ ?_
                  rotate_left
                  · intro w'
                    go_simp
                    with_reducible rfl
                  rotate_left
                  · simp only [Act.put, List.setIfInBounds_toArray, List.set_cons_zero, List.set_cons_succ, i64_w, i32_w]
                    rfl
                  refine pure_ (i := 15) (N := some 39) (v := ?_) (a' := ?_) #[true, true, false, false, false, true, true, false, false, true, true, false, false, false, true, true, false, false, false, false, false, false, false, false, false] rfl rfl (any_of HT_.out (by kernel_rfl)) (fun _ _ _ h => h) (Or.inl ⟨by rfl, ?_⟩) ?_ ?_
                  rotate_left
                  · intro w'
                    go_simp
                    with_reducible rfl
                  rotate_left
                  · simp only [Act.put, List.setIfInBounds_toArray, List.set_cons_zero, List.set_cons_succ, i64_w, i32_w]
                    rfl
                  refine pure_ (i := 18) (N := some 42) (v := ?_) (a' := ?_) #[true, true, false, false, false, true, true, false, false, true, true, false, false, false, true, true, false, false, true, false, false, false, false, false, false] rfl rfl (any_of HT_.out (by kernel_rfl)) (fun _ _ _ h => h) (Or.inl ⟨by rfl, ?_⟩) ?_ ?_
                  rotate_left
                  · intro w'
                    go_simp
                    with_reducible rfl
                  rotate_left
                  · simp only [Act.put, List.setIfInBounds_toArray, List.set_cons_zero, List.set_cons_succ, i64_w, i32_w]
                    rfl
                  refine pure_ (i := 19) (N := some 43) (v := ?_) (a' := ?_) #[true, true, false, false, false, true, true, false, false, true, true, false, false, false, true, true, false, false, true, true, false, false, false, false, false] rfl rfl (any_of HT_.out (by kernel_rfl)) (fun _ _ _ h => h) (Or.inl ⟨by rfl, ?_⟩) ?_ ?_
                  rotate_left
                  · intro w'
                    go_simp
                    with_reducible rfl
                  rotate_left
                  · simp only [Act.put, List.setIfInBounds_toArray, List.set_cons_zero, List.set_cons_succ, i64_w, i32_w]
                    rfl
                  refine take_ (i := 2) (N := some 26) (v := ?_) (a' := ?_) #[true, true, true, false, false, true, true, false, false, true, true, false, false, false, true, true, false, false, true, true, false, false, false, false, false] rfl rfl (take_ofW HT_.out HW_.out (by kernel_rfl)) (fun _ _ _ h => h) (Or.inl ⟨by rfl, ?_⟩) hHeld ?_ ?_
                  rotate_left
                  · rintro w' ⟨s0, s1, s2, s3, s4⟩
                    go_simp
                    with_reducible rfl
                  rotate_left
                  · simp only [Act.put, List.setIfInBounds_toArray, List.set_cons_zero, List.set_cons_succ, i64_w, i32_w]
                    rfl
                  refine take_ (i := 7) (N := some 31) (v := ?_) (a' := ?_) #[true, true, true, false, false, true, true, true, false, true, true, false, false, false, true, true, false, false, true, true, false, false, false, false, false] rfl rfl (take_ofW HT_.out HW_.out (by kernel_rfl)) (fun _ _ _ h => h) (Or.inl ⟨by rfl, ?_⟩) hHeld ?_ ?_
                  rotate_left
                  · rintro w' ⟨s0, s1, s2, s3, s4⟩
                    go_simp
                    with_reducible rfl
                  rotate_left
                  · simp only [Act.put, List.setIfInBounds_toArray, List.set_cons_zero, List.set_cons_succ, i64_w, i32_w]
                    rfl
                  refine take_ (i := 11) (N := some 35) (v := ?_) (a' := ?_) #[true, true, true, false, false, true, true, true, false, true, true, true, false, false, true, true, false, false, true, true, false, false, false, false, false] rfl rfl (take_ofW HT_.out HW_.out (by kernel_rfl)) (fun _ _ _ h => h) (Or.inl ⟨by rfl, ?_⟩) hHeld ?_ ?_
                  rotate_left
                  · rintro w' ⟨s0, s1, s2, s3, s4⟩
                    go_simp
                    with_reducible rfl
                  rotate_left
                  · simp only [Act.put, List.setIfInBounds_toArray, List.set_cons_zero, List.set_cons_succ, i64_w, i32_w]
                    rfl
                  refine take_ (i := 16) (N := some 40) (v := ?_) (a' := ?_) #[true, true, true, false, false, true, true, true, false, true, true, true, false, false, true, true, true, false, true, true, false, false, false, false, false] rfl rfl (take_ofW HT_.out HW_.out (by kernel_rfl)) (fun _ _ _ h => h) (Or.inl ⟨by rfl, ?_⟩) hHeld ?_ ?_
                  rotate_left
                  · rintro w' ⟨s0, s1, s2, s3, s4⟩
                    go_simp
                    with_reducible rfl
                  rotate_left
                  · simp only [Act.put, List.setIfInBounds_toArray, List.set_cons_zero, List.set_cons_succ, i64_w, i32_w]
                    rfl
                  refine take_ (i := 20) (N := some 44) (v := ?_) (a' := ?_) #[true, true, true, false, false, true, true, true, false, true, true, true, false, false, true, true, true, false, true, true, true, false, false, false, false] rfl rfl (take_ofW HT_.out HW_.out (by kernel_rfl)) (fun _ _ _ h => h) (Or.inl ⟨by rfl, ?_⟩) hHeld ?_ ?_
                  rotate_left
                  · rintro w' ⟨s0, s1, s2, s3, s4⟩
                    go_simp
                    with_reducible rfl
                  rotate_left
                  · simp only [Act.put, List.setIfInBounds_toArray, List.set_cons_zero, List.set_cons_succ, i64_w, i32_w]
                    rfl
                  refine one_ (i := 3) (N := some 27) #[true, true, true, true, false, true, true, true, false, true, true, true, false, false, true, true, true, false, true, true, true, false, false, false, false] rfl rfl (one_of HT_.out (by kernel_rfl)) (by decide) (fun K hK => ?_)
                  refine goes_ Tryd.func39 (by kernel_rfl) rfl #[.string (rdOf ByteArray.empty t110 0), .string (⟨#[44]⟩ : ByteArray)] (by rfl) rfl rfl (by (try simp only [List.map_toArray, List.map_cons, List.map_nil]); first | done | rfl | (simp only [List.length_drop, List.length_take]; rfl)) ?_
                  with_reducible refine (strings_TrimSuffix.calls (rdOf ByteArray.empty t110 0) (⟨#[44]⟩ : ByteArray) t117 _ A17.out).mono ?_
                  rintro e w' ⟨rfl, ⟨nd, rfl⟩⟩
                  refine ⟨_, rfl, ?_⟩
                  refine hK.out _ _ ⟨hHeld.1, hHeld.2.1, hHeld.2.2.1, hHeld.2.2.2.1, hHeld.2.2.2.2⟩ (fun hHeld => ?_)
                  clear hK K
                  refine norm_ (a' := ?_) ?_ ?_
                  rotate_left
                  · show Act.put _ (some 27) _ = _
                    simp only [Act.put, List.setIfInBounds_toArray, List.set_cons_zero, List.set_cons_succ, i64_w, i32_w]
                    rfl
                  refine one_ (i := 4) (N := some 28) #[true, true, true, true, true, true, true, true, false, true, true, true, false, false, true, true, true, false, true, true, true, false, false, false, false] rfl rfl (one_of HT_.out (by kernel_rfl)) (by decide) (fun K hK => ?_)
                  refine goes_ Tryd.func38 (by kernel_rfl) rfl #[.string (⟨#[77, 111, 110, 32, 84, 117, 101, 32, 87, 101, 100, 32, 84, 104, 117, 32, 70, 114, 105, 32, 83, 97, 116, 32, 83, 117, 110]⟩ : ByteArray), .string t117] (by rfl) rfl rfl (by (try simp only [List.map_toArray, List.map_cons, List.map_nil]); first | done | rfl | (simp only [List.length_drop, List.length_take]; rfl)) ?_
                  with_reducible refine (date_among.calls kj2 (⟨#[77, 111, 110, 32, 84, 117, 101, 32, 87, 101, 100, 32, 84, 104, 117, 32, 70, 114, 105, 32, 83, 97, 116, 32, 83, 117, 110]⟩ : ByteArray) t117 t118 _ ?side1 A18.out).mono ?_
                  (case side1 => exact Gl.below hG (by repeat (first | (with_reducible first | exact HB.out | apply below_alloc | apply pw_below_drewN | apply below_drew1 | refine below_set ?_ GE109.out) | exact HB.out)))
                  rintro e w29 ⟨rfl, hb⟩
                  have HS0_ := (hb.cell (World.block_lt_of_cell? _ _ (hHeld.1))).trans (hHeld.1)
                  have HS1_ := (hb.cell (World.block_lt_of_cell? _ _ (hHeld.2.1))).trans (hHeld.2.1)
                  have HS2_ := (hb.cell (World.block_lt_of_cell? _ _ (hHeld.2.2.1))).trans (hHeld.2.2.1)
                  have HS3_ := (hb.cell (World.block_lt_of_cell? _ _ (hHeld.2.2.2.1))).trans (hHeld.2.2.2.1)
                  have HS4_ := (hb.cell (World.block_lt_of_cell? _ _ (hHeld.2.2.2.2))).trans (hHeld.2.2.2.2)
                  refine ⟨_, rfl, ?_⟩
                  have n0_ := Aside0.mk (Kd.R_below (by (with_reducible repeat (first | apply Kd.R_alloc | apply Kd.R_drewN | apply Kd.R_drew)); exact HO_4.out) hb)
                  have n1_ := Aside0.mk (blk_below (g := gb109) (o := .cells #[.int .i64 0, .int .i64 0, .int .i64 0, .int .i64 0, .int .i64 0] 43 (0, 0)) (by (with_reducible repeat (first | refine blk_drewN ?_ _ | refine blk_drew ?_ | refine blk_alloc ?_ _)); exact BK109.out) hb)
                  have n2_ := Aside0.mk (below_step (by repeat (first | (with_reducible first | exact HB.out | apply below_alloc | apply pw_below_drewN | apply below_drew1 | refine below_set ?_ GE109.out) | exact HB.out)) hb)
                  clear HO_4
                  clear BK109
                  clear HB
                  have HO_4 := n0_
                  have BK109 := n1_
                  have HB := n2_
                  clear n0_ n1_ n2_
                  (try clear hb)
                  (try clear hb2)
                  (try clear hk)
                  (try clear hi)
                  refine hK.out _ _ ⟨HS0_, HS1_, HS2_, HS3_, HS4_⟩ (fun hHeld => ?_)
                  clear hK K
                  refine norm_ (a' := ?_) ?_ ?_
                  rotate_left
                  · show Act.put _ (some 28) _ = _
                    simp only [Act.put, List.setIfInBounds_toArray, List.set_cons_zero, List.set_cons_succ, i64_w, i32_w]
                    rfl
                  refine one_ (i := 8) (N := some 32) #[true, true, true, true, true, true, true, true, true, true, true, true, false, false, true, true, true, false, true, true, true, false, false, false, false] rfl rfl (one_of HT_.out (by kernel_rfl)) (by decide) (fun K hK => ?_)
                  refine goes_ Tryd.func40 (by kernel_rfl) rfl #[.string (rdOf ByteArray.empty t110 3), .int .i64 4] (by rfl) rfl rfl (by (try simp only [List.map_toArray, List.map_cons, List.map_nil]); first | done | rfl | (simp only [List.length_drop, List.length_take]; rfl)) ?_
                  with_reducible refine (Go.Proofs.YtdlpdgdccoeklaaDoor.Ext.date_number.calls (rdOf ByteArray.empty t110 3) 4 t120 _ A20.out).mono ?_
                  rintro e w30 ⟨rfl, hb⟩
                  have HS0_ := (hb.cell (World.block_lt_of_cell? _ _ (hHeld.1))).trans (hHeld.1)
                  have HS1_ := (hb.cell (World.block_lt_of_cell? _ _ (hHeld.2.1))).trans (hHeld.2.1)
                  have HS2_ := (hb.cell (World.block_lt_of_cell? _ _ (hHeld.2.2.1))).trans (hHeld.2.2.1)
                  have HS3_ := (hb.cell (World.block_lt_of_cell? _ _ (hHeld.2.2.2.1))).trans (hHeld.2.2.2.1)
                  have HS4_ := (hb.cell (World.block_lt_of_cell? _ _ (hHeld.2.2.2.2))).trans (hHeld.2.2.2.2)
                  refine ⟨_, rfl, ?_⟩
                  have n0_ := Aside0.mk (Kd.R_below (by (with_reducible repeat (first | apply Kd.R_alloc | apply Kd.R_drewN | apply Kd.R_drew)); exact HO_4.out) hb)
                  have n1_ := Aside0.mk (blk_below (g := gb109) (o := .cells #[.int .i64 0, .int .i64 0, .int .i64 0, .int .i64 0, .int .i64 0] 43 (0, 0)) (by (with_reducible repeat (first | refine blk_drewN ?_ _ | refine blk_drew ?_ | refine blk_alloc ?_ _)); exact BK109.out) hb)
                  have n2_ := Aside0.mk (below_step (by repeat (first | (with_reducible first | exact HB.out | apply below_alloc | apply pw_below_drewN | apply below_drew1 | refine below_set ?_ GE109.out) | exact HB.out)) hb)
                  clear HO_4
                  clear BK109
                  clear HB
                  have HO_4 := n0_
                  have BK109 := n1_
                  have HB := n2_
                  clear n0_ n1_ n2_
                  (try clear hb)
                  (try clear hb2)
                  (try clear hk)
                  (try clear hi)
                  refine hK.out _ _ ⟨HS0_, HS1_, HS2_, HS3_, HS4_⟩ (fun hHeld => ?_)
                  clear hK K
                  refine norm_ (a' := ?_) ?_ ?_
                  rotate_left
                  · show Act.put _ (some 32) _ = _
                    simp only [Act.put, List.setIfInBounds_toArray, List.set_cons_zero, List.set_cons_succ, i64_w, i32_w]
                    rfl
                  refine one_ (i := 12) (N := some 36) #[true, true, true, true, true, true, true, true, true, true, true, true, true, false, true, true, true, false, true, true, true, false, false, false, false] rfl rfl (one_of HT_.out (by kernel_rfl)) (by decide) (fun K hK => ?_)
                  refine goes_ Tryd.func38 (by kernel_rfl) rfl #[.string (⟨#[74, 97, 110, 32, 70, 101, 98, 32, 77, 97, 114, 32, 65, 112, 114, 32, 77, 97, 121, 32, 74, 117, 110, 32, 74, 117, 108, 32, 65, 117, 103, 32, 83, 101, 112, 32, 79, 99, 116, 32, 78, 111, 118, 32, 68, 101, 99]⟩ : ByteArray), .string (rdOf ByteArray.empty t110 2)] (by rfl) rfl rfl (by (try simp only [List.map_toArray, List.map_cons, List.map_nil]); first | done | rfl | (simp only [List.length_drop, List.length_take]; rfl)) ?_
                  with_reducible refine (date_among.calls kj2 (⟨#[74, 97, 110, 32, 70, 101, 98, 32, 77, 97, 114, 32, 65, 112, 114, 32, 77, 97, 121, 32, 74, 117, 110, 32, 74, 117, 108, 32, 65, 117, 103, 32, 83, 101, 112, 32, 79, 99, 116, 32, 78, 111, 118, 32, 68, 101, 99]⟩ : ByteArray) (rdOf ByteArray.empty t110 2) t122 _ ?side1 A22.out).mono ?_
                  (case side1 => exact Gl.below hG (by repeat (first | (with_reducible first | exact HB.out | apply below_alloc | apply pw_below_drewN | apply below_drew1 | refine below_set ?_ GE109.out) | exact HB.out)))
                  rintro e w31 ⟨rfl, hb⟩
                  have HS0_ := (hb.cell (World.block_lt_of_cell? _ _ (hHeld.1))).trans (hHeld.1)
                  have HS1_ := (hb.cell (World.block_lt_of_cell? _ _ (hHeld.2.1))).trans (hHeld.2.1)
                  have HS2_ := (hb.cell (World.block_lt_of_cell? _ _ (hHeld.2.2.1))).trans (hHeld.2.2.1)
                  have HS3_ := (hb.cell (World.block_lt_of_cell? _ _ (hHeld.2.2.2.1))).trans (hHeld.2.2.2.1)
                  have HS4_ := (hb.cell (World.block_lt_of_cell? _ _ (hHeld.2.2.2.2))).trans (hHeld.2.2.2.2)
                  refine ⟨_, rfl, ?_⟩
                  have n0_ := Aside0.mk (Kd.R_below (by (with_reducible repeat (first | apply Kd.R_alloc | apply Kd.R_drewN | apply Kd.R_drew)); exact HO_4.out) hb)
                  have n1_ := Aside0.mk (blk_below (g := gb109) (o := .cells #[.int .i64 0, .int .i64 0, .int .i64 0, .int .i64 0, .int .i64 0] 43 (0, 0)) (by (with_reducible repeat (first | refine blk_drewN ?_ _ | refine blk_drew ?_ | refine blk_alloc ?_ _)); exact BK109.out) hb)
                  have n2_ := Aside0.mk (below_step (by repeat (first | (with_reducible first | exact HB.out | apply below_alloc | apply pw_below_drewN | apply below_drew1 | refine below_set ?_ GE109.out) | exact HB.out)) hb)
                  clear HO_4
                  clear BK109
                  clear HB
                  have HO_4 := n0_
                  have BK109 := n1_
                  have HB := n2_
                  clear n0_ n1_ n2_
                  (try clear hb)
                  (try clear hb2)
                  (try clear hk)
                  (try clear hi)
                  refine hK.out _ _ ⟨HS0_, HS1_, HS2_, HS3_, HS4_⟩ (fun hHeld => ?_)
                  clear hK K
                  refine norm_ (a' := ?_) ?_ ?_
                  rotate_left
                  · show Act.put _ (some 36) _ = _
                    simp only [Act.put, List.setIfInBounds_toArray, List.set_cons_zero, List.set_cons_succ, i64_w, i32_w]
                    rfl
                  refine pure_ (i := 13) (N := some 37) (v := ?_) (a' := ?_) #[true, true, true, true, true, true, true, true, true, true, true, true, true, true, true, true, true, false, true, true, true, false, false, false, false] rfl rfl (any_of HT_.out (by kernel_rfl)) (fun _ _ _ h => h) (Or.inl ⟨by rfl, ?_⟩) ?_ ?_
                  rotate_left
                  · intro w'
                    go_simp
                    with_reducible rfl
                  rotate_left
                  · simp only [Act.put, List.setIfInBounds_toArray, List.set_cons_zero, List.set_cons_succ, i64_w, i32_w]
                    rfl
                  refine one_ (i := 17) (N := some 41) #[true, true, true, true, true, true, true, true, true, true, true, true, true, true, true, true, true, true, true, true, true, false, false, false, false] rfl rfl (one_of HT_.out (by kernel_rfl)) (by decide) (fun K hK => ?_)
                  refine goes_ Tryd.func40 (by kernel_rfl) rfl #[.string (rdOf ByteArray.empty t110 1), .int .i64 2] (by rfl) rfl rfl (by (try simp only [List.map_toArray, List.map_cons, List.map_nil]); first | done | rfl | (simp only [List.length_drop, List.length_take]; rfl)) ?_
                  with_reducible refine (Go.Proofs.YtdlpdgdccoeklaaDoor.Ext.date_number.calls (rdOf ByteArray.empty t110 1) 2 t124 _ A24.out).mono ?_
                  rintro e w32 ⟨rfl, hb⟩
                  have HS0_ := (hb.cell (World.block_lt_of_cell? _ _ (hHeld.1))).trans (hHeld.1)
                  have HS1_ := (hb.cell (World.block_lt_of_cell? _ _ (hHeld.2.1))).trans (hHeld.2.1)
                  have HS2_ := (hb.cell (World.block_lt_of_cell? _ _ (hHeld.2.2.1))).trans (hHeld.2.2.1)
                  have HS3_ := (hb.cell (World.block_lt_of_cell? _ _ (hHeld.2.2.2.1))).trans (hHeld.2.2.2.1)
                  have HS4_ := (hb.cell (World.block_lt_of_cell? _ _ (hHeld.2.2.2.2))).trans (hHeld.2.2.2.2)
                  refine ⟨_, rfl, ?_⟩
                  have n0_ := Aside0.mk (Kd.R_below (by (with_reducible repeat (first | apply Kd.R_alloc | apply Kd.R_drewN | apply Kd.R_drew)); exact HO_4.out) hb)
                  have n1_ := Aside0.mk (blk_below (g := gb109) (o := .cells #[.int .i64 0, .int .i64 0, .int .i64 0, .int .i64 0, .int .i64 0] 43 (0, 0)) (by (with_reducible repeat (first | refine blk_drewN ?_ _ | refine blk_drew ?_ | refine blk_alloc ?_ _)); exact BK109.out) hb)
                  have n2_ := Aside0.mk (below_step (by repeat (first | (with_reducible first | exact HB.out | apply below_alloc | apply pw_below_drewN | apply below_drew1 | refine below_set ?_ GE109.out) | exact HB.out)) hb)
                  clear HO_4
                  clear BK109
                  clear HB
                  have HO_4 := n0_
                  have BK109 := n1_
                  have HB := n2_
                  clear n0_ n1_ n2_
                  (try clear hb)
                  (try clear hb2)
                  (try clear hk)
                  (try clear hi)
                  refine hK.out _ _ ⟨HS0_, HS1_, HS2_, HS3_, HS4_⟩ (fun hHeld => ?_)
                  clear hK K
                  refine norm_ (a' := ?_) ?_ ?_
                  rotate_left
                  · show Act.put _ (some 41) _ = _
                    simp only [Act.put, List.setIfInBounds_toArray, List.set_cons_zero, List.set_cons_succ, i64_w, i32_w]
                    rfl
                  refine one_ (i := 21) (N := some 45) #[true, true, true, true, true, true, true, true, true, true, true, true, true, true, true, true, true, true, true, true, true, true, false, false, false] rfl rfl (one_of HT_.out (by kernel_rfl)) (by decide) (fun K hK => ?_)
                  refine goes_ Tryd.func41 (by kernel_rfl) rfl #[.string (rdOf ByteArray.empty t110 4)] (by rfl) rfl rfl (by (try simp only [List.map_toArray, List.map_cons, List.map_nil]); first | done | rfl | (simp only [List.length_drop, List.length_take]; rfl)) ?_
                  with_reducible refine (Go.Proofs.YtdlpdgdccoeklaaDoor.Ext.date_clock.calls (rdOf ByteArray.empty t110 4) t126 _ ?side1 A26.out).mono ?_
                  (case side1 => exact Gl.below hG (by repeat (first | (with_reducible first | exact HB.out | apply below_alloc | apply pw_below_drewN | apply below_drew1 | refine below_set ?_ GE109.out) | exact HB.out)))
                  rintro e w33 ⟨rfl, hb⟩
                  have HS0_ := (hb.cell (World.block_lt_of_cell? _ _ (hHeld.1))).trans (hHeld.1)
                  have HS1_ := (hb.cell (World.block_lt_of_cell? _ _ (hHeld.2.1))).trans (hHeld.2.1)
                  have HS2_ := (hb.cell (World.block_lt_of_cell? _ _ (hHeld.2.2.1))).trans (hHeld.2.2.1)
                  have HS3_ := (hb.cell (World.block_lt_of_cell? _ _ (hHeld.2.2.2.1))).trans (hHeld.2.2.2.1)
                  have HS4_ := (hb.cell (World.block_lt_of_cell? _ _ (hHeld.2.2.2.2))).trans (hHeld.2.2.2.2)
                  refine ⟨_, rfl, ?_⟩
                  have n0_ := Aside0.mk (Kd.R_below (by (with_reducible repeat (first | apply Kd.R_alloc | apply Kd.R_drewN | apply Kd.R_drew)); exact HO_4.out) hb)
                  have n1_ := Aside0.mk (blk_below (g := gb109) (o := .cells #[.int .i64 0, .int .i64 0, .int .i64 0, .int .i64 0, .int .i64 0] 43 (0, 0)) (by (with_reducible repeat (first | refine blk_drewN ?_ _ | refine blk_drew ?_ | refine blk_alloc ?_ _)); exact BK109.out) hb)
                  have n2_ := Aside0.mk (below_step (by repeat (first | (with_reducible first | exact HB.out | apply below_alloc | apply pw_below_drewN | apply below_drew1 | refine below_set ?_ GE109.out) | exact HB.out)) hb)
                  clear HO_4
                  clear BK109
                  clear HB
                  have HO_4 := n0_
                  have BK109 := n1_
                  have HB := n2_
                  clear n0_ n1_ n2_
                  (try clear hb)
                  (try clear hb2)
                  (try clear hk)
                  (try clear hi)
                  refine hK.out _ _ ⟨HS0_, HS1_, HS2_, HS3_, HS4_⟩ (fun hHeld => ?_)
                  clear hK K
                  refine norm_ (a' := ?_) ?_ ?_
                  rotate_left
                  · show Act.put _ (some 45) _ = _
                    simp only [Act.put, List.setIfInBounds_toArray, List.set_cons_zero, List.set_cons_succ, i64_w, i32_w]
                    rfl
                  refine pure_ (i := 22) (N := some 46) (v := ?_) (a' := ?_) #[true, true, true, true, true, true, true, true, true, true, true, true, true, true, true, true, true, true, true, true, true, true, true, false, false] rfl rfl (any_of HT_.out (by kernel_rfl)) (fun _ _ _ h => h) (Or.inl ⟨by rfl, ?_⟩) ?_ ?_
                  rotate_left
                  · intro w'
                    go_simp
                    with_reducible rfl
                  rotate_left
                  · simp only [Act.put, List.setIfInBounds_toArray, List.set_cons_zero, List.set_cons_succ, i64_w, i32_w]
                    rfl
                  refine one_ (i := 23) (N := none) #[true, true, true, true, true, true, true, true, true, true, true, true, true, true, true, true, true, true, true, true, true, true, true, true, false] rfl rfl (one_of HT_.out (by kernel_rfl)) (by decide) (fun K hK => ?_)
                  have hs34 : w33.cell? ⟨gb109, 0, none⟩ = some (.int .i64 0) := (blk_cell BK109.out 0).trans rfl
                  have hfs34 := blk_frozen BK109.out 0
                  have hs35 : w33.cell? ⟨gb109, 1, none⟩ = some (.int .i64 0) := (blk_cell BK109.out 1).trans rfl
                  have hfs35 := blk_frozen BK109.out 1
                  have hs36 : w33.cell? ⟨gb109, 2, none⟩ = some (.int .i64 0) := (blk_cell BK109.out 2).trans rfl
                  have hfs36 := blk_frozen BK109.out 2
                  have hs37 : w33.cell? ⟨gb109, 3, none⟩ = some (.int .i64 0) := (blk_cell BK109.out 3).trans rfl
                  have hfs37 := blk_frozen BK109.out 3
                  have hs38 : w33.cell? ⟨gb109, 4, none⟩ = some (.int .i64 0) := (blk_cell BK109.out 4).trans rfl
                  have hfs38 := blk_frozen BK109.out 4
                  refine skip_ (w1 := ?_) (by rfl) rfl ?_ ?_
                  rotate_left
                  · go_simp
                    rfl
                  refine hK.out _ _ ⟨((cell_far (p := ⟨gb109, _, none⟩) (by first | exact Kd.own_blk (Kd.R_ne HO_4.out BK109.out (by decide)) | (rw [add_block]; exact Kd.own_blk (Kd.R_ne HO_4.out BK109.out (by decide))) | (show (Addr.add _ _).block ≠ _; rw [add_block]; exact Kd.own_blk (Kd.R_ne HO_4.out BK109.out (by decide))) | (dsimp only; exact Kd.own_blk (Kd.R_ne HO_4.out BK109.out (by decide)))) _).trans (((cell_far (p := ⟨gb109, _, none⟩) (by first | exact Kd.own_blk (Kd.R_ne HO_4.out BK109.out (by decide)) | (rw [add_block]; exact Kd.own_blk (Kd.R_ne HO_4.out BK109.out (by decide))) | (show (Addr.add _ _).block ≠ _; rw [add_block]; exact Kd.own_blk (Kd.R_ne HO_4.out BK109.out (by decide))) | (dsimp only; exact Kd.own_blk (Kd.R_ne HO_4.out BK109.out (by decide)))) _).trans (((cell_far (p := ⟨gb109, _, none⟩) (by first | exact Kd.own_blk (Kd.R_ne HO_4.out BK109.out (by decide)) | (rw [add_block]; exact Kd.own_blk (Kd.R_ne HO_4.out BK109.out (by decide))) | (show (Addr.add _ _).block ≠ _; rw [add_block]; exact Kd.own_blk (Kd.R_ne HO_4.out BK109.out (by decide))) | (dsimp only; exact Kd.own_blk (Kd.R_ne HO_4.out BK109.out (by decide)))) _).trans (((cell_far (p := ⟨gb109, _, none⟩) (by first | exact Kd.own_blk (Kd.R_ne HO_4.out BK109.out (by decide)) | (rw [add_block]; exact Kd.own_blk (Kd.R_ne HO_4.out BK109.out (by decide))) | (show (Addr.add _ _).block ≠ _; rw [add_block]; exact Kd.own_blk (Kd.R_ne HO_4.out BK109.out (by decide))) | (dsimp only; exact Kd.own_blk (Kd.R_ne HO_4.out BK109.out (by decide)))) _).trans (((cell_far (p := ⟨gb109, _, none⟩) (by first | exact Kd.own_blk (Kd.R_ne HO_4.out BK109.out (by decide)) | (rw [add_block]; exact Kd.own_blk (Kd.R_ne HO_4.out BK109.out (by decide))) | (show (Addr.add _ _).block ≠ _; rw [add_block]; exact Kd.own_blk (Kd.R_ne HO_4.out BK109.out (by decide))) | (dsimp only; exact Kd.own_blk (Kd.R_ne HO_4.out BK109.out (by decide)))) _).trans (hHeld.1)))))))))), ((cell_far (p := ⟨gb109, _, none⟩) (by first | exact Kd.own_blk (Kd.R_ne HO_4.out BK109.out (by decide)) | (rw [add_block]; exact Kd.own_blk (Kd.R_ne HO_4.out BK109.out (by decide))) | (show (Addr.add _ _).block ≠ _; rw [add_block]; exact Kd.own_blk (Kd.R_ne HO_4.out BK109.out (by decide))) | (dsimp only; exact Kd.own_blk (Kd.R_ne HO_4.out BK109.out (by decide)))) _).trans (((cell_far (p := ⟨gb109, _, none⟩) (by first | exact Kd.own_blk (Kd.R_ne HO_4.out BK109.out (by decide)) | (rw [add_block]; exact Kd.own_blk (Kd.R_ne HO_4.out BK109.out (by decide))) | (show (Addr.add _ _).block ≠ _; rw [add_block]; exact Kd.own_blk (Kd.R_ne HO_4.out BK109.out (by decide))) | (dsimp only; exact Kd.own_blk (Kd.R_ne HO_4.out BK109.out (by decide)))) _).trans (((cell_far (p := ⟨gb109, _, none⟩) (by first | exact Kd.own_blk (Kd.R_ne HO_4.out BK109.out (by decide)) | (rw [add_block]; exact Kd.own_blk (Kd.R_ne HO_4.out BK109.out (by decide))) | (show (Addr.add _ _).block ≠ _; rw [add_block]; exact Kd.own_blk (Kd.R_ne HO_4.out BK109.out (by decide))) | (dsimp only; exact Kd.own_blk (Kd.R_ne HO_4.out BK109.out (by decide)))) _).trans (((cell_far (p := ⟨gb109, _, none⟩) (by first | exact Kd.own_blk (Kd.R_ne HO_4.out BK109.out (by decide)) | (rw [add_block]; exact Kd.own_blk (Kd.R_ne HO_4.out BK109.out (by decide))) | (show (Addr.add _ _).block ≠ _; rw [add_block]; exact Kd.own_blk (Kd.R_ne HO_4.out BK109.out (by decide))) | (dsimp only; exact Kd.own_blk (Kd.R_ne HO_4.out BK109.out (by decide)))) _).trans (((cell_far (p := ⟨gb109, _, none⟩) (by first | exact Kd.own_blk (Kd.R_ne HO_4.out BK109.out (by decide)) | (rw [add_block]; exact Kd.own_blk (Kd.R_ne HO_4.out BK109.out (by decide))) | (show (Addr.add _ _).block ≠ _; rw [add_block]; exact Kd.own_blk (Kd.R_ne HO_4.out BK109.out (by decide))) | (dsimp only; exact Kd.own_blk (Kd.R_ne HO_4.out BK109.out (by decide)))) _).trans (hHeld.2.1)))))))))), ((cell_far (p := ⟨gb109, _, none⟩) (by first | exact Kd.own_blk (Kd.R_ne HO_4.out BK109.out (by decide)) | (rw [add_block]; exact Kd.own_blk (Kd.R_ne HO_4.out BK109.out (by decide))) | (show (Addr.add _ _).block ≠ _; rw [add_block]; exact Kd.own_blk (Kd.R_ne HO_4.out BK109.out (by decide))) | (dsimp only; exact Kd.own_blk (Kd.R_ne HO_4.out BK109.out (by decide)))) _).trans (((cell_far (p := ⟨gb109, _, none⟩) (by first | exact Kd.own_blk (Kd.R_ne HO_4.out BK109.out (by decide)) | (rw [add_block]; exact Kd.own_blk (Kd.R_ne HO_4.out BK109.out (by decide))) | (show (Addr.add _ _).block ≠ _; rw [add_block]; exact Kd.own_blk (Kd.R_ne HO_4.out BK109.out (by decide))) | (dsimp only; exact Kd.own_blk (Kd.R_ne HO_4.out BK109.out (by decide)))) _).trans (((cell_far (p := ⟨gb109, _, none⟩) (by first | exact Kd.own_blk (Kd.R_ne HO_4.out BK109.out (by decide)) | (rw [add_block]; exact Kd.own_blk (Kd.R_ne HO_4.out BK109.out (by decide))) | (show (Addr.add _ _).block ≠ _; rw [add_block]; exact Kd.own_blk (Kd.R_ne HO_4.out BK109.out (by decide))) | (dsimp only; exact Kd.own_blk (Kd.R_ne HO_4.out BK109.out (by decide)))) _).trans (((cell_far (p := ⟨gb109, _, none⟩) (by first | exact Kd.own_blk (Kd.R_ne HO_4.out BK109.out (by decide)) | (rw [add_block]; exact Kd.own_blk (Kd.R_ne HO_4.out BK109.out (by decide))) | (show (Addr.add _ _).block ≠ _; rw [add_block]; exact Kd.own_blk (Kd.R_ne HO_4.out BK109.out (by decide))) | (dsimp only; exact Kd.own_blk (Kd.R_ne HO_4.out BK109.out (by decide)))) _).trans (((cell_far (p := ⟨gb109, _, none⟩) (by first | exact Kd.own_blk (Kd.R_ne HO_4.out BK109.out (by decide)) | (rw [add_block]; exact Kd.own_blk (Kd.R_ne HO_4.out BK109.out (by decide))) | (show (Addr.add _ _).block ≠ _; rw [add_block]; exact Kd.own_blk (Kd.R_ne HO_4.out BK109.out (by decide))) | (dsimp only; exact Kd.own_blk (Kd.R_ne HO_4.out BK109.out (by decide)))) _).trans (hHeld.2.2.1)))))))))), ((cell_far (p := ⟨gb109, _, none⟩) (by first | exact Kd.own_blk (Kd.R_ne HO_4.out BK109.out (by decide)) | (rw [add_block]; exact Kd.own_blk (Kd.R_ne HO_4.out BK109.out (by decide))) | (show (Addr.add _ _).block ≠ _; rw [add_block]; exact Kd.own_blk (Kd.R_ne HO_4.out BK109.out (by decide))) | (dsimp only; exact Kd.own_blk (Kd.R_ne HO_4.out BK109.out (by decide)))) _).trans (((cell_far (p := ⟨gb109, _, none⟩) (by first | exact Kd.own_blk (Kd.R_ne HO_4.out BK109.out (by decide)) | (rw [add_block]; exact Kd.own_blk (Kd.R_ne HO_4.out BK109.out (by decide))) | (show (Addr.add _ _).block ≠ _; rw [add_block]; exact Kd.own_blk (Kd.R_ne HO_4.out BK109.out (by decide))) | (dsimp only; exact Kd.own_blk (Kd.R_ne HO_4.out BK109.out (by decide)))) _).trans (((cell_far (p := ⟨gb109, _, none⟩) (by first | exact Kd.own_blk (Kd.R_ne HO_4.out BK109.out (by decide)) | (rw [add_block]; exact Kd.own_blk (Kd.R_ne HO_4.out BK109.out (by decide))) | (show (Addr.add _ _).block ≠ _; rw [add_block]; exact Kd.own_blk (Kd.R_ne HO_4.out BK109.out (by decide))) | (dsimp only; exact Kd.own_blk (Kd.R_ne HO_4.out BK109.out (by decide)))) _).trans (((cell_far (p := ⟨gb109, _, none⟩) (by first | exact Kd.own_blk (Kd.R_ne HO_4.out BK109.out (by decide)) | (rw [add_block]; exact Kd.own_blk (Kd.R_ne HO_4.out BK109.out (by decide))) | (show (Addr.add _ _).block ≠ _; rw [add_block]; exact Kd.own_blk (Kd.R_ne HO_4.out BK109.out (by decide))) | (dsimp only; exact Kd.own_blk (Kd.R_ne HO_4.out BK109.out (by decide)))) _).trans (((cell_far (p := ⟨gb109, _, none⟩) (by first | exact Kd.own_blk (Kd.R_ne HO_4.out BK109.out (by decide)) | (rw [add_block]; exact Kd.own_blk (Kd.R_ne HO_4.out BK109.out (by decide))) | (show (Addr.add _ _).block ≠ _; rw [add_block]; exact Kd.own_blk (Kd.R_ne HO_4.out BK109.out (by decide))) | (dsimp only; exact Kd.own_blk (Kd.R_ne HO_4.out BK109.out (by decide)))) _).trans (hHeld.2.2.2.1)))))))))), ((cell_far (p := ⟨gb109, _, none⟩) (by first | exact Kd.own_blk (Kd.R_ne HO_4.out BK109.out (by decide)) | (rw [add_block]; exact Kd.own_blk (Kd.R_ne HO_4.out BK109.out (by decide))) | (show (Addr.add _ _).block ≠ _; rw [add_block]; exact Kd.own_blk (Kd.R_ne HO_4.out BK109.out (by decide))) | (dsimp only; exact Kd.own_blk (Kd.R_ne HO_4.out BK109.out (by decide)))) _).trans (((cell_far (p := ⟨gb109, _, none⟩) (by first | exact Kd.own_blk (Kd.R_ne HO_4.out BK109.out (by decide)) | (rw [add_block]; exact Kd.own_blk (Kd.R_ne HO_4.out BK109.out (by decide))) | (show (Addr.add _ _).block ≠ _; rw [add_block]; exact Kd.own_blk (Kd.R_ne HO_4.out BK109.out (by decide))) | (dsimp only; exact Kd.own_blk (Kd.R_ne HO_4.out BK109.out (by decide)))) _).trans (((cell_far (p := ⟨gb109, _, none⟩) (by first | exact Kd.own_blk (Kd.R_ne HO_4.out BK109.out (by decide)) | (rw [add_block]; exact Kd.own_blk (Kd.R_ne HO_4.out BK109.out (by decide))) | (show (Addr.add _ _).block ≠ _; rw [add_block]; exact Kd.own_blk (Kd.R_ne HO_4.out BK109.out (by decide))) | (dsimp only; exact Kd.own_blk (Kd.R_ne HO_4.out BK109.out (by decide)))) _).trans (((cell_far (p := ⟨gb109, _, none⟩) (by first | exact Kd.own_blk (Kd.R_ne HO_4.out BK109.out (by decide)) | (rw [add_block]; exact Kd.own_blk (Kd.R_ne HO_4.out BK109.out (by decide))) | (show (Addr.add _ _).block ≠ _; rw [add_block]; exact Kd.own_blk (Kd.R_ne HO_4.out BK109.out (by decide))) | (dsimp only; exact Kd.own_blk (Kd.R_ne HO_4.out BK109.out (by decide)))) _).trans (((cell_far (p := ⟨gb109, _, none⟩) (by first | exact Kd.own_blk (Kd.R_ne HO_4.out BK109.out (by decide)) | (rw [add_block]; exact Kd.own_blk (Kd.R_ne HO_4.out BK109.out (by decide))) | (show (Addr.add _ _).block ≠ _; rw [add_block]; exact Kd.own_blk (Kd.R_ne HO_4.out BK109.out (by decide))) | (dsimp only; exact Kd.own_blk (Kd.R_ne HO_4.out BK109.out (by decide)))) _).trans (hHeld.2.2.2.2))))))))))⟩ (fun hHeld => ?_)
                  clear hK K
                  refine pure_ (i := 24) (N := some 3) (v := ?_) (a' := ?_) #[true, true, true, true, true, true, true, true, true, true, true, true, true, true, true, true, true, true, true, true, true, true, true, true, true] rfl rfl (any_of HT_.out (by kernel_rfl)) (fun _ _ _ h => h) (Or.inl ⟨by rfl, ?_⟩) ?_ ?_
                  rotate_left
                  · intro w'
                    go_simp
                    with_reducible rfl
                  rotate_left
                  · simp only [Act.put, List.setIfInBounds_toArray, List.set_cons_zero, List.set_cons_succ, i64_w, i32_w]
                    rfl
                  refine done_ (done_of HT_.out (by kernel_rfl)) ?_
                  try go_wp2
                  refine bodyPost_ret (results_ct rfl _ _ gb109 43 #[.int .i64 t118, .int .i64 t120, .int .i64 (wrap64 (1 + t122)), .int .i64 t124, .int .i64 t126] (0, 0) _ rfl (by (with_reducible repeat (first | refine blk_drewN ?_ _ | refine blk_drew ?_ | refine blk_alloc ?_ _)); refine blk_put (cs := #[.int .i64 t118, .int .i64 t120, .int .i64 (wrap64 (1 + t122)), .int .i64 t124, .int .i64 0]) ?_ 4 _ rfl; (with_reducible repeat (first | refine blk_drewN ?_ _ | refine blk_drew ?_ | refine blk_alloc ?_ _)); refine blk_put (cs := #[.int .i64 t118, .int .i64 t120, .int .i64 (wrap64 (1 + t122)), .int .i64 0, .int .i64 0]) ?_ 3 _ rfl; (with_reducible repeat (first | refine blk_drewN ?_ _ | refine blk_drew ?_ | refine blk_alloc ?_ _)); refine blk_put (cs := #[.int .i64 t118, .int .i64 t120, .int .i64 0, .int .i64 0, .int .i64 0]) ?_ 2 _ rfl; (with_reducible repeat (first | refine blk_drewN ?_ _ | refine blk_drew ?_ | refine blk_alloc ?_ _)); refine blk_put (cs := #[.int .i64 t118, .int .i64 0, .int .i64 0, .int .i64 0, .int .i64 0]) ?_ 1 _ rfl; (with_reducible repeat (first | refine blk_drewN ?_ _ | refine blk_drew ?_ | refine blk_alloc ?_ _)); refine blk_put (cs := #[.int .i64 0, .int .i64 0, .int .i64 0, .int .i64 0, .int .i64 0]) ?_ 0 _ rfl; (with_reducible repeat (first | refine blk_drewN ?_ _ | refine blk_drew ?_ | refine blk_alloc ?_ _)); exact BK109.out) Tryd.underlying43 rfl (by kernel_rfl)) rfl ?_
                  exact ⟨by first | rfl | (simp [errW_none, errW_some] <;> rfl) | (simp [*, errW_none, errW_some] <;> rfl), by repeat (first | (with_reducible first | exact HB.out | apply below_alloc | apply pw_below_drewN | apply below_drew1 | refine below_set ?_ GE109.out) | exact HB.out)⟩
                · rw [if_neg c25] at H
                  exact absurd H (by simp)
              · rw [if_neg c23] at H
                exact absurd H (by simp)
            · rw [if_neg c21] at H
              exact absurd H (by simp)
          · rw [if_neg c19] at H
            exact absurd H (by simp)
        · rw [if_neg c16] at H
          exact absurd H (by simp)
/-! ### civil_before: function 45 -/
def civil_before.f (a0 : Int) : Option (Int) := if a0 = 0 then (some 0) else (some (wrap64 ((wrap64 ((wrap64 ((wrap64 ((wrap64 (365 * a0)) + (wrap64 (Int.tdiv (wrap64 (a0 - 1)) 4)))) - (wrap64 (Int.tdiv (wrap64 (a0 - 1)) 100)))) + (wrap64 (Int.tdiv (wrap64 (a0 - 1)) 400)))) + 1)))
set_option maxHeartbeats 8000000 in
set_option maxRecDepth 100000 in
theorem civil_before.calls (a0 : Int) (r : Int) (w : World) (h : civil_before.f a0 = some r) :
    Calls Tryd.prog 45 #[.int .i64 a0] w fun e w' => e = .returned (.int .i64 r) ∧ Drawn0 w w' := by
  have H : (if a0 = 0 then (some 0) else (some (wrap64 ((wrap64 ((wrap64 ((wrap64 ((wrap64 (365 * a0)) + (wrap64 (Int.tdiv (wrap64 (a0 - 1)) 4)))) - (wrap64 (Int.tdiv (wrap64 (a0 - 1)) 100)))) + (wrap64 (Int.tdiv (wrap64 (a0 - 1)) 400)))) + 1)))) = some r := h
  clear h
  by_cases c2 : a0 = 0
  · rw [if_pos c2] at H
    have c2b0 : (a0 == 0) = true := beq_iff_eq.mpr c2
    have c2b1 : (a0 != 0) = false := bne_eq_false_iff_eq.mpr c2
    clear c2
    obtain rfl := Option.some.inj H
    go_enter Tryd.func45, Tryd.ntmps45
    go_wp2
    go_ret
    exact ⟨by first | rfl | (simp; done) | (simp [*]; done), by repeat (first | exact Drawn0.refl _ | apply Drawn0.step)⟩
  · rw [if_neg c2] at H
    have c2b0 : (a0 == 0) = false := beq_eq_false_iff_ne.mpr c2
    have c2b1 : (a0 != 0) = true := bne_iff_ne.mpr c2
    obtain rfl := Option.some.inj H
    go_enter Tryd.func45, Tryd.ntmps45
    go_wp2
    go_ret
    exact ⟨by first | rfl | (simp; done) | (simp [*]; done), by repeat (first | exact Drawn0.refl _ | apply Drawn0.step)⟩
/-! ### civil_Leap: function 56 -/
def civil_Leap.f (a0 : Int) : Option (Bool) := if (Int.tmod a0 4) = 0 then (if (Int.tmod a0 100) = 0 then (some ((Int.tmod a0 400) == 0)) else (some true)) else (some false)
set_option maxHeartbeats 8000000 in
set_option maxRecDepth 100000 in
theorem civil_Leap.calls (a0 : Int) (r : Bool) (w : World) (h : civil_Leap.f a0 = some r) :
    Calls Tryd.prog 56 #[.int .i64 a0] w fun e w' => e = .returned (.bool r) ∧ Drawn0 w w' := by
  have H : (if (Int.tmod a0 4) = 0 then (if (Int.tmod a0 100) = 0 then (some ((Int.tmod a0 400) == 0)) else (some true)) else (some false)) = some r := h
  clear h
  by_cases c2 : (Int.tmod a0 4) = 0
  · rw [if_pos c2] at H
    have c2b0 : ((Int.tmod a0 4) == 0) = true := beq_iff_eq.mpr c2
    have c2b1 : ((Int.tmod a0 4) != 0) = false := bne_eq_false_iff_eq.mpr c2
    clear c2
    by_cases c3 : (Int.tmod a0 100) = 0
    · rw [if_pos c3] at H
      have c3b0 : ((Int.tmod a0 100) == 0) = true := beq_iff_eq.mpr c3
      have c3b1 : ((Int.tmod a0 100) != 0) = false := bne_eq_false_iff_eq.mpr c3
      clear c3
      obtain rfl := Option.some.inj H
      go_enter Tryd.func56, Tryd.ntmps56
      go_wp2
      go_ret
      exact ⟨by first | rfl | (simp; done) | (simp [*]; done), by repeat (first | exact Drawn0.refl _ | apply Drawn0.step)⟩
    · rw [if_neg c3] at H
      have c3b0 : ((Int.tmod a0 100) == 0) = false := beq_eq_false_iff_ne.mpr c3
      have c3b1 : ((Int.tmod a0 100) != 0) = true := bne_iff_ne.mpr c3
      obtain rfl := Option.some.inj H
      go_enter Tryd.func56, Tryd.ntmps56
      go_wp2
      go_ret
      exact ⟨by first | rfl | (simp; done) | (simp [*]; done), by repeat (first | exact Drawn0.refl _ | apply Drawn0.step)⟩
  · rw [if_neg c2] at H
    have c2b0 : ((Int.tmod a0 4) == 0) = false := beq_eq_false_iff_ne.mpr c2
    have c2b1 : ((Int.tmod a0 4) != 0) = true := bne_iff_ne.mpr c2
    obtain rfl := Option.some.inj H
    go_enter Tryd.func56, Tryd.ntmps56
    go_wp2
    go_ret
    exact ⟨by first | rfl | (simp; done) | (simp [*]; done), by repeat (first | exact Drawn0.refl _ | apply Drawn0.step)⟩
end Go.Proofs.YtdlpdgdccoeklaaDoor.XA
