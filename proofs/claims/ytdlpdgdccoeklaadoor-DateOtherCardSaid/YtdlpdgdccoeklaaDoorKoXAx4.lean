import Derived.Test.YtdlpdgdccoeklaaDoorKoXAx0
import Derived.Test.YtdlpdgdccoeklaaDoorKoXAx1
import Derived.Test.YtdlpdgdccoeklaaDoorKoXAx3
-- Written by a program (wip/tools/xprint.py) out of the loaded functions: contracts of Go functions, and the functions that they compute.
namespace Go.Proofs.YtdlpdgdccoeklaaDoor.XA
open Go.RowKit Go.Proofs.YtdlpdgdccoeklaaDoor.Ext Go.Proofs.YtdlpdgdccoeklaaDoorW.PrintWords Go.Proofs.YtdlpdgdccoeklaaDoorW.PrintLast Go.Proofs.YtdlpdgdccoeklaaDoorW.PrintMore
attribute [local go_sem] max2_int min2_int max_two min_two max_three min_three max_four min_four   -- for this text's walks alone
set_option linter.unusedVariables false
set_option linter.unusedSimpArgs false
/-! ### date_second: function 21 -/
def date_second.j0 : Nat → Int → List ByteArray → Bool → Option (Int × Int × Int × Int × Int × Bool)
  | 0, _, _, _ => none
  | k + 1, x1, x6, x25 => if x25 = true then (some (0, 0, 0, 0, 0, false)) else (if 1 < (x6.length : Int) then ((Go.Proofs.YtdlpdgdccoeklaaDoor.Ext.strings_Split.f (rdOf ByteArray.empty x6 1) (⟨#[45]⟩ : ByteArray)).bind fun t147 => (if (t147.length : Int) = 3 then (if 0 < (x6.length : Int) then ((strings_TrimSuffix.f (rdOf ByteArray.empty x6 0) (⟨#[44]⟩ : ByteArray)).bind fun t151 => ((date_among.f k (⟨#[77, 111, 110, 100, 97, 121, 32, 84, 117, 101, 115, 100, 97, 121, 32, 87, 101, 100, 110, 101, 115, 100, 97, 121, 32, 84, 104, 117, 114, 115, 100, 97, 121, 32, 70, 114, 105, 100, 97, 121, 32, 83, 97, 116, 117, 114, 100, 97, 121, 32, 83, 117, 110, 100, 97, 121]⟩ : ByteArray) t151).bind fun t152 => (if 2 < (t147.length : Int) then ((Go.Proofs.YtdlpdgdccoeklaaDoor.Ext.date_number.f (rdOf ByteArray.empty t147 2) 2).bind fun t154 => ((date_year.f k t154 x1).bind fun t155 => (if 1 < (t147.length : Int) then ((date_among.f k (⟨#[74, 97, 110, 32, 70, 101, 98, 32, 77, 97, 114, 32, 65, 112, 114, 32, 77, 97, 121, 32, 74, 117, 110, 32, 74, 117, 108, 32, 65, 117, 103, 32, 83, 101, 112, 32, 79, 99, 116, 32, 78, 111, 118, 32, 68, 101, 99]⟩ : ByteArray) (rdOf ByteArray.empty t147 1)).bind fun t157 => (if 0 < (t147.length : Int) then ((Go.Proofs.YtdlpdgdccoeklaaDoor.Ext.date_number.f (rdOf ByteArray.empty t147 0) 2).bind fun t159 => (if 2 < (x6.length : Int) then ((Go.Proofs.YtdlpdgdccoeklaaDoor.Ext.date_clock.f (rdOf ByteArray.empty x6 2)).bind fun t161 => (some (t152, t155, wrap64 (1 + t157), t159, t161, true))) else (none))) else (none))) else (none)))) else (none)))) else (none)) else (some (0, 0, 0, 0, 0, false)))) else (none))
def date_second.f (k : Nat) (a0 : ByteArray) (a1 : Int) : Option (Int × Int × Int × Int × Int × Bool) := (Go.Proofs.YtdlpdgdccoeklaaDoor.Ext.strings_Split.f a0 (⟨#[32]⟩ : ByteArray)).bind fun t140 => (if (t140.length : Int) = 4 then (if 3 < (t140.length : Int) then (if (rdOf ByteArray.empty t140 3).toList = ([71, 77, 84] : List UInt8) then (if 0 < (t140.length : Int) then ((strings_HasSuffix.f (rdOf ByteArray.empty t140 0) (⟨#[44]⟩ : ByteArray)).bind fun t145 => (date_second.j0 k a1 t140 (!t145))) else (none)) else (date_second.j0 k a1 t140 true)) else (none)) else (date_second.j0 k a1 t140 true))
def date_second.T7 : Bool × List (List Nat × List Nat) := (true, [([], []), ([0], [0]), ([1], [1]), ([2], [2]), ([3, 3], [3]), ([], []), ([5], [5]), ([6], [6]), ([7, 4], [7]), ([], []), ([8, 9, 8], [8, 9]), ([], []), ([11], [11]), ([12], [12]), ([13, 10], [13]), ([14], [14]), ([], []), ([16], [16]), ([17], [17]), ([18, 14], [18]), ([], []), ([20], [20]), ([21], [21]), ([22, 19], [22]), ([4, 10, 15, 19, 23], [4, 10, 15, 19, 23]), ([24, 23, 0, 1, 2, 3, 4, 5, 6, 7, 8, 9, 10, 11, 12, 13, 14, 15, 16, 17, 18, 19, 20, 21, 22, 23, 24], [24]), ([25, 0, 1, 2, 3, 4, 5, 6, 7, 8, 9, 10, 11, 12, 13, 14, 15, 16, 17, 18, 19, 20, 21, 22, 23, 24, 25], [])])
def date_second.B7 : List Nat := [0, 1, 3, 7, 15, 0, 32, 96, 255, 0, 1023, 0, 2048, 6144, 16383, 32767, 0, 65536, 196608, 491519, 0, 1048576, 3145728, 8355839, 16777215, 33554431, 67108863]
theorem date_second.tab7 : rtab .any (opsOf Tryd.f21 7) = date_second.T7 := by kernel_rfl
theorem date_second.bits7 : waitsOk date_second.T7.2 date_second.B7 = true := by kernel_rfl
set_option maxHeartbeats 8000000 in
set_option maxRecDepth 100000 in
theorem date_second.calls (k : Nat) (a0 : ByteArray) (a1 : Int) (r1 : Int) (r2 : Int) (r3 : Int) (r4 : Int) (r5 : Int) (r6 : Bool) (w : World) (hG : Gl w) (h : date_second.f k a0 a1 = some (r1, r2, r3, r4, r5, r6)) :
    Calls Tryd.prog 21 #[.string a0, .int .i64 a1] w fun e w' => e = .returned (.tuple #[.agg #[.int .i64 r1, .int .i64 r2, .int .i64 r3, .int .i64 r4, .int .i64 r5], .bool r6]) ∧ Below w.heap.size w w' := by
  have hu43 := Tryd.underlying43
  have HB := Aside0.mk (Below.refl w.heap.size w)
  have H : ((Go.Proofs.YtdlpdgdccoeklaaDoor.Ext.strings_Split.f a0 (⟨#[32]⟩ : ByteArray)).bind fun t140 => (if (t140.length : Int) = 4 then (if 3 < (t140.length : Int) then (if (rdOf ByteArray.empty t140 3).toList = ([71, 77, 84] : List UInt8) then (if 0 < (t140.length : Int) then ((strings_HasSuffix.f (rdOf ByteArray.empty t140 0) (⟨#[44]⟩ : ByteArray)).bind fun t145 => (date_second.j0 k a1 t140 (!t145))) else (none)) else (date_second.j0 k a1 t140 true)) else (none)) else (date_second.j0 k a1 t140 true))) = some (r1, r2, r3, r4, r5, r6) := h
  clear h
  replace H := Option.bind_eq_some_iff.mp H
  obtain ⟨t140, A30, H⟩ := H
  replace H : (if (t140.length : Int) = 4 then (if 3 < (t140.length : Int) then (if (rdOf ByteArray.empty t140 3).toList = ([71, 77, 84] : List UInt8) then (if 0 < (t140.length : Int) then ((strings_HasSuffix.f (rdOf ByteArray.empty t140 0) (⟨#[44]⟩ : ByteArray)).bind fun t145 => (date_second.j0 k a1 t140 (!t145))) else (none)) else (date_second.j0 k a1 t140 true)) else (none)) else (date_second.j0 k a1 t140 true)) = some (r1, r2, r3, r4, r5, r6) := H
  have A3 := Aside0.mk A30
  clear A30
  have HC4 := Aside0.mk H
  clear H
  go_enter Tryd.func21, Tryd.ntmps21
  go_upto_region 2 with (first | ((with_reducible refine gate_dst (N := 4) rfl ?_); refine box_event ?hg (N := 4) ?hd (cs := #[.int .i64 0, .int .i64 0, .int .i64 0, .int .i64 0, .int .i64 0]) (t := 43) ?hr ?_; (case hd => rfl); (case hg => rfl); (case hr => first | (go_simp; done) | (go_simp; rfl)); intro gb139 hg w5 hbox hb; have n0_ := Aside0.mk (below_step (by repeat (first | (with_reducible first | exact HB.out | apply below_alloc | apply pw_below_drewN | apply below_drew1) | exact HB.out)) hb); have n1_ := Aside0.mk (hbox); have n2_ := Aside0.mk ((by rw [hg]; exact (below_size (by repeat (first | (with_reducible first | exact HB.out | apply below_alloc | apply pw_below_drewN | apply below_drew1) | exact HB.out))) : w.heap.size ≤ gb139)); have n3_ := Aside0.mk ((by rw [hg]; exact (below_size (by repeat (first | (with_reducible first | exact HB.out | apply below_alloc | apply pw_below_drewN | apply below_drew1) | exact HB.out))) : w.heap.size ≤ gb139)); clear HB; have HB := n0_; have BK139 := n1_; have GW139 := n2_; have GE139 := n3_; clear n0_ n1_ n2_ n3_; clear hb hbox hg) | ((with_reducible refine gate_callee (f := 36) rfl ?_); refine goesL_ (some 9) rfl rfl Tryd.func36 (by kernel_rfl) rfl #[.string a0, .string (⟨#[32]⟩ : ByteArray)] rfl (by (try simp only [List.map_toArray, List.map_cons, List.map_nil]); first | done | rfl | (simp only [List.length_drop, List.length_take]; rfl)) ?_; (with_reducible refine (Go.Proofs.YtdlpdgdccoeklaaDoor.Ext.strings_Split.calls a0 (⟨#[32]⟩ : ByteArray) t140 _ ?side1 A3.out).mono ?_); (case side1 => exact Gl.below hG (by repeat (first | (with_reducible first | exact HB.out | apply below_alloc | apply pw_below_drewN | apply below_drew1 | refine below_set ?_ GE139.out) | exact HB.out))); rintro e w6 ⟨v141, rfl, ho0, hb⟩; refine ⟨_, rfl, ?_⟩; have n0_ := Aside0.mk (Kd.R_lower ho0 (below_size (by repeat (first | (with_reducible first | exact HB.out | apply below_alloc | apply pw_below_drewN | apply below_drew1 | refine below_set ?_ GE139.out) | exact HB.out)))); have n1_ := Aside0.mk (blk_below (g := gb139) (o := .cells #[.int .i64 0, .int .i64 0, .int .i64 0, .int .i64 0, .int .i64 0] 43 (0, 0)) (by (with_reducible repeat (first | refine blk_drewN ?_ _ | refine blk_drew ?_ | refine blk_alloc ?_ _)); exact BK139.out) hb); have n2_ := Aside0.mk (below_step (by repeat (first | (with_reducible first | exact HB.out | apply below_alloc | apply pw_below_drewN | apply below_drew1 | refine below_set ?_ GE139.out) | exact HB.out)) hb); clear BK139; clear HB; have HO142 := n0_; have BK139 := n1_; have HB := n2_; clear n0_ n1_ n2_; (try clear hb); (try clear hb2); (try clear hk); (try clear hi); (try clear ho0)))
  (try simp only [Act.put, List.setIfInBounds_toArray, List.set_cons_zero, List.set_cons_succ])
  go_cut [25] (fun v25 wc => ∃ (kq : Nat) (x25_3 : Bool), v25 = .bool x25_3 ∧ Aside0 (date_second.j0 kq a1 t140 x25_3 = some (r1, r2, r3, r4, r5, r6)) ∧ Aside0 (kq ≤ k) ∧ Aside0 (Kd.R Kd.string 9 wc w.heap.size (fun _ => True) v141 t140) ∧ Aside0 (wc.heap[gb139]? = some (.cells #[.int .i64 0, .int .i64 0, .int .i64 0, .int .i64 0, .int .i64 0] 43 (0, 0))) ∧ Aside0 (Below w.heap.size w wc))
  case first =>
    have H := HC4.out
    clear HC4
    by_cases c7 : (t140.length : Int) = 4
    · rw [if_pos c7] at H
      have c7b0 : ((t140.length : Int) == 4) = true := beq_iff_eq.mpr c7
      have c7b1 : ((t140.length : Int) != 4) = false := bne_eq_false_iff_eq.mpr c7
      clear c7
      (first | rw [c7b0] | (simp only [i64_w, i32_w]; rw [c7b0]) | skip)
      by_cases c8 : 3 < (t140.length : Int)
      · rw [if_pos c8] at H
        have c8b0 : decide (3 < (t140.length : Int)) = true := decide_eq_true c8
        have c8b1 : decide (3 < t140.length) = true := decide_eq_true (by omega)
        clear c8
        by_cases c9 : (rdOf ByteArray.empty t140 3).toList = ([71, 77, 84] : List UInt8)
        · rw [if_pos c9] at H
          have c9b0 : ((rdOf ByteArray.empty t140 3).toList == ([71, 77, 84] : List UInt8)) = true := beq_iff_eq.mpr c9
          have c9b1 : ((rdOf ByteArray.empty t140 3).toList != ([71, 77, 84] : List UInt8)) = false := bne_eq_false_iff_eq.mpr c9
          clear c9
          by_cases c10 : 0 < (t140.length : Int)
          · rw [if_pos c10] at H
            have c10b0 : decide (0 < (t140.length : Int)) = true := decide_eq_true c10
            have c10b1 : decide (0 < t140.length) = true := decide_eq_true (by omega)
            clear c10
            replace H := Option.bind_eq_some_iff.mp H
            obtain ⟨t145, A110, H⟩ := H
            replace H : (date_second.j0 k a1 t140 (!t145)) = some (r1, r2, r3, r4, r5, r6) := H
            have A11 := Aside0.mk A110
            clear A110
            have H' := Aside0.mk H
            clear H
            obtain ⟨Ao12, co12, eo12⟩ := Kd.R_slice HO142.out
            subst eo12
            have p143 : 0 ≤ (3 : Int) := (by omega)
            have q143 : 3 < (t140.length : Int) := of_decide_eq_true (by first | (with_reducible assumption) | assumption)
            obtain ⟨ad143, e143, hx143_0⟩ := Kd.at_string (Kd.R_reads' HO142.out).2.2 3 p143 q143
            cases e143
            (try simp only [show (3 : Int).toNat = 3 from rfl, Nat.reduceMul, Nat.reduceEqDiff, Go.Addr.add, ↓reduceIte] at hx143_0)
            have qi143 : (3 < t140.length) = True := eq_true (by omega)
            (try rw [show ((3 : Int)).toNat = 3 from rfl] at hx143_0)
            replace p143 := eq_true p143
            replace q143 := eq_true q143
            have p144 : 0 ≤ (0 : Int) := (by omega)
            have q144 : 0 < (t140.length : Int) := of_decide_eq_true (by first | (with_reducible assumption) | assumption)
            obtain ⟨ad144, e144, hx144_0⟩ := Kd.at_string (Kd.R_reads' HO142.out).2.2 0 p144 q144
            obtain rfl : ad143 = ad144 := (by injection e144)
            have qi144 : (0 < t140.length) = True := eq_true (by omega)
            (try rw [show ((0 : Int)).toNat = 0 from rfl] at hx144_0)
            (try rw [Addr.add_zero'] at hx144_0)
            replace p144 := eq_true p144
            replace q144 := eq_true q144
            go_wp2_with (first | (go_at_call 37; (with_reducible refine (strings_HasSuffix.calls (rdOf ByteArray.empty t140 0) (⟨#[44]⟩ : ByteArray) t145 _ A11.out).mono ?_); rintro e w' ⟨rfl, ⟨nd, rfl⟩⟩))
            go_meet
            case rel => exact ⟨_, (!t145), (by first | rfl | (simp; done) | (simp [*]; done)), H', ⟨by first | omega | exact Nat.le_refl _⟩, ⟨by (with_reducible repeat (first | apply Kd.R_alloc | apply Kd.R_drewN | apply Kd.R_drew)); exact HO142.out⟩, ⟨by (with_reducible repeat (first | refine blk_drewN ?_ _ | refine blk_drew ?_ | refine blk_alloc ?_ _)); exact BK139.out⟩, ⟨by repeat (first | (with_reducible first | exact HB.out | apply below_alloc | apply pw_below_drewN | apply below_drew1 | refine below_set ?_ GE139.out) | exact HB.out)⟩⟩
          · rw [if_neg c10] at H
            exact absurd H (by simp)
        · rw [if_neg c9] at H
          have c9b0 : ((rdOf ByteArray.empty t140 3).toList == ([71, 77, 84] : List UInt8)) = false := beq_eq_false_iff_ne.mpr c9
          have c9b1 : ((rdOf ByteArray.empty t140 3).toList != ([71, 77, 84] : List UInt8)) = true := bne_iff_ne.mpr c9
          have H' := Aside0.mk H
          clear H
          obtain ⟨Ao13, co13, eo13⟩ := Kd.R_slice HO142.out
          subst eo13
          have p143 : 0 ≤ (3 : Int) := (by omega)
          have q143 : 3 < (t140.length : Int) := of_decide_eq_true (by first | (with_reducible assumption) | assumption)
          obtain ⟨ad143, e143, hx143_0⟩ := Kd.at_string (Kd.R_reads' HO142.out).2.2 3 p143 q143
          cases e143
          (try simp only [show (3 : Int).toNat = 3 from rfl, Nat.reduceMul, Nat.reduceEqDiff, Go.Addr.add, ↓reduceIte] at hx143_0)
          have qi143 : (3 < t140.length) = True := eq_true (by omega)
          (try rw [show ((3 : Int)).toNat = 3 from rfl] at hx143_0)
          replace p143 := eq_true p143
          replace q143 := eq_true q143
          go_wp2
          go_meet
          case rel => exact ⟨_, (true), (by first | rfl | (simp; done) | (simp [*]; done)), H', ⟨by first | omega | exact Nat.le_refl _⟩, ⟨by (with_reducible repeat (first | apply Kd.R_alloc | apply Kd.R_drewN | apply Kd.R_drew)); exact HO142.out⟩, ⟨by (with_reducible repeat (first | refine blk_drewN ?_ _ | refine blk_drew ?_ | refine blk_alloc ?_ _)); exact BK139.out⟩, ⟨by repeat (first | (with_reducible first | exact HB.out | apply below_alloc | apply pw_below_drewN | apply below_drew1 | refine below_set ?_ GE139.out) | exact HB.out)⟩⟩
      · rw [if_neg c8] at H
        exact absurd H (by simp)
    · rw [if_neg c7] at H
      have c7b0 : ((t140.length : Int) == 4) = false := beq_eq_false_iff_ne.mpr c7
      have c7b1 : ((t140.length : Int) != 4) = true := bne_iff_ne.mpr c7
      (first | rw [c7b0] | (simp only [i64_w, i32_w]; rw [c7b0]) | skip)
      have H' := Aside0.mk H
      clear H
      obtain ⟨Ao14, co14, eo14⟩ := Kd.R_slice HO142.out
      subst eo14
      go_wp2
      go_meet
      case rel => exact ⟨_, (true), (by first | rfl | (simp; done) | (simp [*]; done)), H', ⟨by first | omega | exact Nat.le_refl _⟩, ⟨by (with_reducible repeat (first | apply Kd.R_alloc | apply Kd.R_drewN | apply Kd.R_drew)); exact HO142.out⟩, ⟨by (with_reducible repeat (first | refine blk_drewN ?_ _ | refine blk_drew ?_ | refine blk_alloc ?_ _)); exact BK139.out⟩, ⟨by repeat (first | (with_reducible first | exact HB.out | apply below_alloc | apply pw_below_drewN | apply below_drew1 | refine below_set ?_ GE139.out) | exact HB.out)⟩⟩
  case rest =>
    clear HC4
    try clear c1
    try clear p1
    try clear q1
    try clear hx1
    try clear qi1
    try clear c2
    try clear p2
    try clear c3
    try clear c7
    try clear c7b0
    try clear c7b1
    try clear c8
    try clear c8b0
    try clear c8b1
    try clear c9
    try clear c9b0
    try clear c9b1
    try clear c10
    try clear c10b0
    try clear c10b1
    try clear p14
    try clear q14
    try clear hx14
    try clear qi14
    try clear hx143_0
    try clear hx144_0
    try clear p143
    try clear p144
    try clear q143
    try clear q144
    obtain ⟨kq, x25_3, rfl, HA, HJ3, HO_6, BK139, HB⟩ := hcut
    cases kq with
    | zero => exact absurd HA.out (by simp [date_second.j0])
    | succ kj3 =>
      have H := HA.out
      clear HA
      simp only [date_second.j0] at H
      by_cases c15 : x25_3 = true
      · subst c15
        have H1 : (some (0, 0, 0, 0, 0, false)) = some (r1, r2, r3, r4, r5, r6) := by rw [if_pos rfl] at H; exact H
        clear H
        have H := H1
        clear H1
        simp only [Option.some.injEq, Prod.mk.injEq] at H
        obtain ⟨rfl, rfl, rfl, rfl, rfl, rfl⟩ := H
        have hcz16_0 : wc.cell? ⟨gb139, 0, none⟩ = some (.int .i64 0) := (blk_cell BK139.out 0).trans rfl
        have hcz16_1 : wc.cell? ⟨gb139, 1, none⟩ = some (.int .i64 0) := (blk_cell BK139.out 1).trans rfl
        have hcz16_2 : wc.cell? ⟨gb139, 2, none⟩ = some (.int .i64 0) := (blk_cell BK139.out 2).trans rfl
        have hcz16_3 : wc.cell? ⟨gb139, 3, none⟩ = some (.int .i64 0) := (blk_cell BK139.out 3).trans rfl
        have hcz16_4 : wc.cell? ⟨gb139, 4, none⟩ = some (.int .i64 0) := (blk_cell BK139.out 4).trans rfl
        have hfz16_0 := blk_frozen BK139.out 0
        have hfz16_1 := blk_frozen BK139.out 1
        have hfz16_2 := blk_frozen BK139.out 2
        have hfz16_3 := blk_frozen BK139.out 3
        have hfz16_4 := blk_frozen BK139.out 4
        go_wp2
        refine bodyPost_ret (results_ct rfl _ _ gb139 43 #[.int .i64 0, .int .i64 0, .int .i64 0, .int .i64 0, .int .i64 0] (0, 0) _ rfl (by (with_reducible repeat (first | refine blk_drewN ?_ _ | refine blk_drew ?_ | refine blk_alloc ?_ _)); refine blk_put (cs := #[.int .i64 0, .int .i64 0, .int .i64 0, .int .i64 0, .int .i64 0]) ?_ 4 _ rfl; (with_reducible repeat (first | refine blk_drewN ?_ _ | refine blk_drew ?_ | refine blk_alloc ?_ _)); refine blk_put (cs := #[.int .i64 0, .int .i64 0, .int .i64 0, .int .i64 0, .int .i64 0]) ?_ 3 _ rfl; (with_reducible repeat (first | refine blk_drewN ?_ _ | refine blk_drew ?_ | refine blk_alloc ?_ _)); refine blk_put (cs := #[.int .i64 0, .int .i64 0, .int .i64 0, .int .i64 0, .int .i64 0]) ?_ 2 _ rfl; (with_reducible repeat (first | refine blk_drewN ?_ _ | refine blk_drew ?_ | refine blk_alloc ?_ _)); refine blk_put (cs := #[.int .i64 0, .int .i64 0, .int .i64 0, .int .i64 0, .int .i64 0]) ?_ 1 _ rfl; (with_reducible repeat (first | refine blk_drewN ?_ _ | refine blk_drew ?_ | refine blk_alloc ?_ _)); refine blk_put (cs := #[.int .i64 0, .int .i64 0, .int .i64 0, .int .i64 0, .int .i64 0]) ?_ 0 _ rfl; (with_reducible repeat (first | refine blk_drewN ?_ _ | refine blk_drew ?_ | refine blk_alloc ?_ _)); exact BK139.out) Tryd.underlying43 rfl (by kernel_rfl)) rfl ?_
        exact ⟨by first | rfl | (simp [errW_none, errW_some] <;> rfl) | (simp [*, errW_none, errW_some] <;> rfl), by repeat (first | (with_reducible first | exact HB.out | apply below_alloc | apply pw_below_drewN | apply below_drew1 | refine below_set ?_ GE139.out) | exact HB.out)⟩
      · replace c15 := Bool.eq_false_iff.mpr c15
        subst c15
        have H1 : (if 1 < (t140.length : Int) then ((Go.Proofs.YtdlpdgdccoeklaaDoor.Ext.strings_Split.f (rdOf ByteArray.empty t140 1) (⟨#[45]⟩ : ByteArray)).bind fun t147 => (if (t147.length : Int) = 3 then (if 0 < (t140.length : Int) then ((strings_TrimSuffix.f (rdOf ByteArray.empty t140 0) (⟨#[44]⟩ : ByteArray)).bind fun t151 => ((date_among.f kj3 (⟨#[77, 111, 110, 100, 97, 121, 32, 84, 117, 101, 115, 100, 97, 121, 32, 87, 101, 100, 110, 101, 115, 100, 97, 121, 32, 84, 104, 117, 114, 115, 100, 97, 121, 32, 70, 114, 105, 100, 97, 121, 32, 83, 97, 116, 117, 114, 100, 97, 121, 32, 83, 117, 110, 100, 97, 121]⟩ : ByteArray) t151).bind fun t152 => (if 2 < (t147.length : Int) then ((Go.Proofs.YtdlpdgdccoeklaaDoor.Ext.date_number.f (rdOf ByteArray.empty t147 2) 2).bind fun t154 => ((date_year.f kj3 t154 a1).bind fun t155 => (if 1 < (t147.length : Int) then ((date_among.f kj3 (⟨#[74, 97, 110, 32, 70, 101, 98, 32, 77, 97, 114, 32, 65, 112, 114, 32, 77, 97, 121, 32, 74, 117, 110, 32, 74, 117, 108, 32, 65, 117, 103, 32, 83, 101, 112, 32, 79, 99, 116, 32, 78, 111, 118, 32, 68, 101, 99]⟩ : ByteArray) (rdOf ByteArray.empty t147 1)).bind fun t157 => (if 0 < (t147.length : Int) then ((Go.Proofs.YtdlpdgdccoeklaaDoor.Ext.date_number.f (rdOf ByteArray.empty t147 0) 2).bind fun t159 => (if 2 < (t140.length : Int) then ((Go.Proofs.YtdlpdgdccoeklaaDoor.Ext.date_clock.f (rdOf ByteArray.empty t140 2)).bind fun t161 => (some (t152, t155, wrap64 (1 + t157), t159, t161, true))) else (none))) else (none))) else (none)))) else (none)))) else (none)) else (some (0, 0, 0, 0, 0, false)))) else (none)) = some (r1, r2, r3, r4, r5, r6) := by rw [if_neg (show ¬ (false = true) by decide)] at H; exact H
        clear H
        have H := H1
        clear H1
        by_cases c17 : 1 < (t140.length : Int)
        · rw [if_pos c17] at H
          have c17b0 : decide (1 < (t140.length : Int)) = true := decide_eq_true c17
          have c17b1 : decide (1 < t140.length) = true := decide_eq_true (by omega)
          clear c17
          replace H := Option.bind_eq_some_iff.mp H
          obtain ⟨t147, A180, H⟩ := H
          replace H : (if (t147.length : Int) = 3 then (if 0 < (t140.length : Int) then ((strings_TrimSuffix.f (rdOf ByteArray.empty t140 0) (⟨#[44]⟩ : ByteArray)).bind fun t151 => ((date_among.f kj3 (⟨#[77, 111, 110, 100, 97, 121, 32, 84, 117, 101, 115, 100, 97, 121, 32, 87, 101, 100, 110, 101, 115, 100, 97, 121, 32, 84, 104, 117, 114, 115, 100, 97, 121, 32, 70, 114, 105, 100, 97, 121, 32, 83, 97, 116, 117, 114, 100, 97, 121, 32, 83, 117, 110, 100, 97, 121]⟩ : ByteArray) t151).bind fun t152 => (if 2 < (t147.length : Int) then ((Go.Proofs.YtdlpdgdccoeklaaDoor.Ext.date_number.f (rdOf ByteArray.empty t147 2) 2).bind fun t154 => ((date_year.f kj3 t154 a1).bind fun t155 => (if 1 < (t147.length : Int) then ((date_among.f kj3 (⟨#[74, 97, 110, 32, 70, 101, 98, 32, 77, 97, 114, 32, 65, 112, 114, 32, 77, 97, 121, 32, 74, 117, 110, 32, 74, 117, 108, 32, 65, 117, 103, 32, 83, 101, 112, 32, 79, 99, 116, 32, 78, 111, 118, 32, 68, 101, 99]⟩ : ByteArray) (rdOf ByteArray.empty t147 1)).bind fun t157 => (if 0 < (t147.length : Int) then ((Go.Proofs.YtdlpdgdccoeklaaDoor.Ext.date_number.f (rdOf ByteArray.empty t147 0) 2).bind fun t159 => (if 2 < (t140.length : Int) then ((Go.Proofs.YtdlpdgdccoeklaaDoor.Ext.date_clock.f (rdOf ByteArray.empty t140 2)).bind fun t161 => (some (t152, t155, wrap64 (1 + t157), t159, t161, true))) else (none))) else (none))) else (none)))) else (none)))) else (none)) else (some (0, 0, 0, 0, 0, false))) = some (r1, r2, r3, r4, r5, r6) := H
          have A18 := Aside0.mk A180
          clear A180
          by_cases c19 : (t147.length : Int) = 3
          · rw [if_pos c19] at H
            have c19b0 : ((t147.length : Int) == 3) = true := beq_iff_eq.mpr c19
            have c19b1 : ((t147.length : Int) != 3) = false := bne_eq_false_iff_eq.mpr c19
            clear c19
            by_cases c20 : 0 < (t140.length : Int)
            · rw [if_pos c20] at H
              have c20b0 : decide (0 < (t140.length : Int)) = true := decide_eq_true c20
              have c20b1 : decide (0 < t140.length) = true := decide_eq_true (by omega)
              clear c20
              replace H := Option.bind_eq_some_iff.mp H
              obtain ⟨t151, A210, H⟩ := H
              replace H : ((date_among.f kj3 (⟨#[77, 111, 110, 100, 97, 121, 32, 84, 117, 101, 115, 100, 97, 121, 32, 87, 101, 100, 110, 101, 115, 100, 97, 121, 32, 84, 104, 117, 114, 115, 100, 97, 121, 32, 70, 114, 105, 100, 97, 121, 32, 83, 97, 116, 117, 114, 100, 97, 121, 32, 83, 117, 110, 100, 97, 121]⟩ : ByteArray) t151).bind fun t152 => (if 2 < (t147.length : Int) then ((Go.Proofs.YtdlpdgdccoeklaaDoor.Ext.date_number.f (rdOf ByteArray.empty t147 2) 2).bind fun t154 => ((date_year.f kj3 t154 a1).bind fun t155 => (if 1 < (t147.length : Int) then ((date_among.f kj3 (⟨#[74, 97, 110, 32, 70, 101, 98, 32, 77, 97, 114, 32, 65, 112, 114, 32, 77, 97, 121, 32, 74, 117, 110, 32, 74, 117, 108, 32, 65, 117, 103, 32, 83, 101, 112, 32, 79, 99, 116, 32, 78, 111, 118, 32, 68, 101, 99]⟩ : ByteArray) (rdOf ByteArray.empty t147 1)).bind fun t157 => (if 0 < (t147.length : Int) then ((Go.Proofs.YtdlpdgdccoeklaaDoor.Ext.date_number.f (rdOf ByteArray.empty t147 0) 2).bind fun t159 => (if 2 < (t140.length : Int) then ((Go.Proofs.YtdlpdgdccoeklaaDoor.Ext.date_clock.f (rdOf ByteArray.empty t140 2)).bind fun t161 => (some (t152, t155, wrap64 (1 + t157), t159, t161, true))) else (none))) else (none))) else (none)))) else (none))) = some (r1, r2, r3, r4, r5, r6) := H
              have A21 := Aside0.mk A210
              clear A210
              replace H := Option.bind_eq_some_iff.mp H
              obtain ⟨t152, A220, H⟩ := H
              replace H : (if 2 < (t147.length : Int) then ((Go.Proofs.YtdlpdgdccoeklaaDoor.Ext.date_number.f (rdOf ByteArray.empty t147 2) 2).bind fun t154 => ((date_year.f kj3 t154 a1).bind fun t155 => (if 1 < (t147.length : Int) then ((date_among.f kj3 (⟨#[74, 97, 110, 32, 70, 101, 98, 32, 77, 97, 114, 32, 65, 112, 114, 32, 77, 97, 121, 32, 74, 117, 110, 32, 74, 117, 108, 32, 65, 117, 103, 32, 83, 101, 112, 32, 79, 99, 116, 32, 78, 111, 118, 32, 68, 101, 99]⟩ : ByteArray) (rdOf ByteArray.empty t147 1)).bind fun t157 => (if 0 < (t147.length : Int) then ((Go.Proofs.YtdlpdgdccoeklaaDoor.Ext.date_number.f (rdOf ByteArray.empty t147 0) 2).bind fun t159 => (if 2 < (t140.length : Int) then ((Go.Proofs.YtdlpdgdccoeklaaDoor.Ext.date_clock.f (rdOf ByteArray.empty t140 2)).bind fun t161 => (some (t152, t155, wrap64 (1 + t157), t159, t161, true))) else (none))) else (none))) else (none)))) else (none)) = some (r1, r2, r3, r4, r5, r6) := H
              have A22 := Aside0.mk A220
              clear A220
              by_cases c23 : 2 < (t147.length : Int)
              · rw [if_pos c23] at H
                have c23b0 : decide (2 < (t147.length : Int)) = true := decide_eq_true c23
                have c23b1 : decide (2 < t147.length) = true := decide_eq_true (by omega)
                clear c23
                replace H := Option.bind_eq_some_iff.mp H
                obtain ⟨t154, A240, H⟩ := H
                replace H : ((date_year.f kj3 t154 a1).bind fun t155 => (if 1 < (t147.length : Int) then ((date_among.f kj3 (⟨#[74, 97, 110, 32, 70, 101, 98, 32, 77, 97, 114, 32, 65, 112, 114, 32, 77, 97, 121, 32, 74, 117, 110, 32, 74, 117, 108, 32, 65, 117, 103, 32, 83, 101, 112, 32, 79, 99, 116, 32, 78, 111, 118, 32, 68, 101, 99]⟩ : ByteArray) (rdOf ByteArray.empty t147 1)).bind fun t157 => (if 0 < (t147.length : Int) then ((Go.Proofs.YtdlpdgdccoeklaaDoor.Ext.date_number.f (rdOf ByteArray.empty t147 0) 2).bind fun t159 => (if 2 < (t140.length : Int) then ((Go.Proofs.YtdlpdgdccoeklaaDoor.Ext.date_clock.f (rdOf ByteArray.empty t140 2)).bind fun t161 => (some (t152, t155, wrap64 (1 + t157), t159, t161, true))) else (none))) else (none))) else (none))) = some (r1, r2, r3, r4, r5, r6) := H
                have A24 := Aside0.mk A240
                clear A240
                replace H := Option.bind_eq_some_iff.mp H
                obtain ⟨t155, A250, H⟩ := H
                replace H : (if 1 < (t147.length : Int) then ((date_among.f kj3 (⟨#[74, 97, 110, 32, 70, 101, 98, 32, 77, 97, 114, 32, 65, 112, 114, 32, 77, 97, 121, 32, 74, 117, 110, 32, 74, 117, 108, 32, 65, 117, 103, 32, 83, 101, 112, 32, 79, 99, 116, 32, 78, 111, 118, 32, 68, 101, 99]⟩ : ByteArray) (rdOf ByteArray.empty t147 1)).bind fun t157 => (if 0 < (t147.length : Int) then ((Go.Proofs.YtdlpdgdccoeklaaDoor.Ext.date_number.f (rdOf ByteArray.empty t147 0) 2).bind fun t159 => (if 2 < (t140.length : Int) then ((Go.Proofs.YtdlpdgdccoeklaaDoor.Ext.date_clock.f (rdOf ByteArray.empty t140 2)).bind fun t161 => (some (t152, t155, wrap64 (1 + t157), t159, t161, true))) else (none))) else (none))) else (none)) = some (r1, r2, r3, r4, r5, r6) := H
                have A25 := Aside0.mk A250
                clear A250
                by_cases c26 : 1 < (t147.length : Int)
                · rw [if_pos c26] at H
                  have c26b0 : decide (1 < (t147.length : Int)) = true := decide_eq_true c26
                  have c26b1 : decide (1 < t147.length) = true := decide_eq_true (by omega)
                  clear c26
                  replace H := Option.bind_eq_some_iff.mp H
                  obtain ⟨t157, A270, H⟩ := H
                  replace H : (if 0 < (t147.length : Int) then ((Go.Proofs.YtdlpdgdccoeklaaDoor.Ext.date_number.f (rdOf ByteArray.empty t147 0) 2).bind fun t159 => (if 2 < (t140.length : Int) then ((Go.Proofs.YtdlpdgdccoeklaaDoor.Ext.date_clock.f (rdOf ByteArray.empty t140 2)).bind fun t161 => (some (t152, t155, wrap64 (1 + t157), t159, t161, true))) else (none))) else (none)) = some (r1, r2, r3, r4, r5, r6) := H
                  have A27 := Aside0.mk A270
                  clear A270
                  by_cases c28 : 0 < (t147.length : Int)
                  · rw [if_pos c28] at H
                    have c28b0 : decide (0 < (t147.length : Int)) = true := decide_eq_true c28
                    have c28b1 : decide (0 < t147.length) = true := decide_eq_true (by omega)
                    clear c28
                    replace H := Option.bind_eq_some_iff.mp H
                    obtain ⟨t159, A290, H⟩ := H
                    replace H : (if 2 < (t140.length : Int) then ((Go.Proofs.YtdlpdgdccoeklaaDoor.Ext.date_clock.f (rdOf ByteArray.empty t140 2)).bind fun t161 => (some (t152, t155, wrap64 (1 + t157), t159, t161, true))) else (none)) = some (r1, r2, r3, r4, r5, r6) := H
                    have A29 := Aside0.mk A290
                    clear A290
                    by_cases c30 : 2 < (t140.length : Int)
                    · rw [if_pos c30] at H
                      have c30b0 : decide (2 < (t140.length : Int)) = true := decide_eq_true c30
                      have c30b1 : decide (2 < t140.length) = true := decide_eq_true (by omega)
                      clear c30
                      replace H := Option.bind_eq_some_iff.mp H
                      obtain ⟨t161, A310, H⟩ := H
                      replace H : (some (t152, t155, wrap64 (1 + t157), t159, t161, true)) = some (r1, r2, r3, r4, r5, r6) := H
                      have A31 := Aside0.mk A310
                      clear A310
                      simp only [Option.some.injEq, Prod.mk.injEq] at H
                      obtain ⟨rfl, rfl, rfl, rfl, rfl, rfl⟩ := H
                      obtain ⟨Ao32, co32, eo32⟩ := Kd.R_slice HO_6.out
                      subst eo32
                      have p146 : 0 ≤ (1 : Int) := (by omega)
                      have q146 : 1 < (t140.length : Int) := of_decide_eq_true (by first | (with_reducible assumption) | assumption)
                      obtain ⟨ad146, e146, hx146_0⟩ := Kd.at_string (Kd.R_reads' HO_6.out).2.2 1 p146 q146
                      cases e146
                      (try simp only [show (1 : Int).toNat = 1 from rfl, Nat.reduceMul, Nat.reduceEqDiff, Go.Addr.add, ↓reduceIte] at hx146_0)
                      have qi146 : (1 < t140.length) = True := eq_true (by omega)
                      (try rw [show ((1 : Int)).toNat = 1 from rfl] at hx146_0)
                      replace p146 := eq_true p146
                      replace q146 := eq_true q146
                      try go_wp2_with (first | ((with_reducible refine gate_callee (f := 36) rfl ?_); refine goesL_ (some 30) rfl rfl Tryd.func36 (by kernel_rfl) rfl #[.string (rdOf ByteArray.empty t140 1), .string (⟨#[45]⟩ : ByteArray)] rfl (by (try simp only [List.map_toArray, List.map_cons, List.map_nil]); first | done | rfl | (simp only [List.length_drop, List.length_take]; rfl)) ?_; (with_reducible refine (Go.Proofs.YtdlpdgdccoeklaaDoor.Ext.strings_Split.calls (rdOf ByteArray.empty t140 1) (⟨#[45]⟩ : ByteArray) t147 _ ?side1 A18.out).mono ?_); (case side1 => exact Gl.below hG (by repeat (first | (with_reducible first | exact HB.out | apply below_alloc | apply pw_below_drewN | apply below_drew1 | refine below_set ?_ GE139.out) | exact HB.out))); rintro e w33 ⟨v148, rfl, ho0, hb⟩; refine ⟨_, rfl, ?_⟩; have n0_ := Aside0.mk (Kd.R_elder' (by (with_reducible repeat (first | apply Kd.R_alloc | apply Kd.R_drewN | apply Kd.R_drew)); exact HO_6.out) (Kd.R_base ho0) hb); have n1_ := Aside0.mk (Kd.R_lower (Kd.R_new' ho0 (Kd.R_lt (by (with_reducible repeat (first | apply Kd.R_alloc | apply Kd.R_drewN | apply Kd.R_drew)); exact HO_6.out))) (below_size (by repeat (first | (with_reducible first | exact HB.out | apply below_alloc | apply pw_below_drewN | apply below_drew1 | refine below_set ?_ GE139.out) | exact HB.out)))); have n2_ := Aside0.mk (blk_below (g := gb139) (o := .cells #[.int .i64 0, .int .i64 0, .int .i64 0, .int .i64 0, .int .i64 0] 43 (0, 0)) (by (with_reducible repeat (first | refine blk_drewN ?_ _ | refine blk_drew ?_ | refine blk_alloc ?_ _)); exact BK139.out) hb); have n3_ := Aside0.mk (below_step (by repeat (first | (with_reducible first | exact HB.out | apply below_alloc | apply pw_below_drewN | apply below_drew1 | refine below_set ?_ GE139.out) | exact HB.out)) hb); clear HO_6; clear BK139; clear HB; have HO_6 := n0_; have HO149 := n1_; have BK139 := n2_; have HB := n3_; clear n0_ n1_ n2_ n3_; (try clear hb); (try clear hb2); (try clear hk); (try clear hi); (try clear ho0); obtain ⟨Ao34, co34, eo34⟩ := Kd.R_slice HO149.out; subst eo34))
                      have n0_ := Aside0.mk (Kd.R_drew HO_6.out)
                      have n1_ := Aside0.mk (Kd.R_drew HO149.out)
                      have n2_ := Aside0.mk (blk_drew BK139.out)
                      have n3_ := Aside0.mk (below_drew1 HB.out)
                      clear HO_6
                      clear HO149
                      clear BK139
                      clear HB
                      have HO_6 := n0_
                      have HO149 := n1_
                      have BK139 := n2_
                      have HB := n3_
                      clear n0_ n1_ n2_ n3_
                      have p150 : 0 ≤ (0 : Int) := (by omega)
                      have q150 : 0 < (t140.length : Int) := of_decide_eq_true (by first | (with_reducible assumption) | assumption)
                      obtain ⟨ad150, e150, hx150_0⟩ := Kd.at_string (Kd.R_reads' HO_6.out).2.2 0 p150 q150
                      obtain rfl : ad146 = ad150 := (by injection e150)
                      have qi150 : (0 < t140.length) = True := eq_true (by omega)
                      (try rw [show ((0 : Int)).toNat = 0 from rfl] at hx150_0)
                      (try rw [Addr.add_zero'] at hx150_0)
                      replace p150 := eq_true p150
                      replace q150 := eq_true q150
                      have p153 : 0 ≤ (2 : Int) := (by omega)
                      have q153 : 2 < (t147.length : Int) := of_decide_eq_true (by first | (with_reducible assumption) | assumption)
                      obtain ⟨ad153, e153, hx153_0⟩ := Kd.at_string (Kd.R_reads' HO149.out).2.2 2 p153 q153
                      cases e153
                      (try simp only [show (2 : Int).toNat = 2 from rfl, Nat.reduceMul, Nat.reduceEqDiff, Go.Addr.add, ↓reduceIte] at hx153_0)
                      have qi153 : (2 < t147.length) = True := eq_true (by omega)
                      (try rw [show ((2 : Int)).toNat = 2 from rfl] at hx153_0)
                      replace p153 := eq_true p153
                      replace q153 := eq_true q153
                      have p156 : 0 ≤ (1 : Int) := (by omega)
                      have q156 : 1 < (t147.length : Int) := of_decide_eq_true (by first | (with_reducible assumption) | assumption)
                      obtain ⟨ad156, e156, hx156_0⟩ := Kd.at_string (Kd.R_reads' HO149.out).2.2 1 p156 q156
                      obtain rfl : ad153 = ad156 := (by injection e156)
                      (try simp only [show (1 : Int).toNat = 1 from rfl, Nat.reduceMul, Nat.reduceEqDiff, Go.Addr.add, ↓reduceIte] at hx156_0)
                      have qi156 : (1 < t147.length) = True := eq_true (by omega)
                      (try rw [show ((1 : Int)).toNat = 1 from rfl] at hx156_0)
                      replace p156 := eq_true p156
                      replace q156 := eq_true q156
                      have p158 : 0 ≤ (0 : Int) := (by omega)
                      have q158 : 0 < (t147.length : Int) := of_decide_eq_true (by first | (with_reducible assumption) | assumption)
                      obtain ⟨ad158, e158, hx158_0⟩ := Kd.at_string (Kd.R_reads' HO149.out).2.2 0 p158 q158
                      obtain rfl : ad153 = ad158 := (by injection e158)
                      have qi158 : (0 < t147.length) = True := eq_true (by omega)
                      (try rw [show ((0 : Int)).toNat = 0 from rfl] at hx158_0)
                      (try rw [Addr.add_zero'] at hx158_0)
                      replace p158 := eq_true p158
                      replace q158 := eq_true q158
                      have p160 : 0 ≤ (2 : Int) := (by omega)
                      have q160 : 2 < (t140.length : Int) := of_decide_eq_true (by first | (with_reducible assumption) | assumption)
                      obtain ⟨ad160, e160, hx160_0⟩ := Kd.at_string (Kd.R_reads' HO_6.out).2.2 2 p160 q160
                      obtain rfl : ad146 = ad160 := (by injection e160)
                      (try simp only [show (2 : Int).toNat = 2 from rfl, Nat.reduceMul, Nat.reduceEqDiff, Go.Addr.add, ↓reduceIte] at hx160_0)
                      have qi160 : (2 < t140.length) = True := eq_true (by omega)
                      (try rw [show ((2 : Int)).toNat = 2 from rfl] at hx160_0)
                      replace p160 := eq_true p160
                      replace q160 := eq_true q160
                      refine start_ (n := 27) (S := fun w' => w'.cell? ad146 = some (.string (rdOf ByteArray.empty t140 0)) ∧ w'.cell? ⟨ad153.block, ad153.off + 2, none⟩ = some (.string (rdOf ByteArray.empty t147 2)) ∧ w'.cell? ⟨ad153.block, ad153.off + 1, none⟩ = some (.string (rdOf ByteArray.empty t147 1)) ∧ w'.cell? ad153 = some (.string (rdOf ByteArray.empty t147 0)) ∧ w'.cell? ⟨ad146.block, ad146.off + 2, none⟩ = some (.string (rdOf ByteArray.empty t140 2))) (ds := []) #[false, false, false, false, false, false, false, false, false, false, false, false, false, false, false, false, false, false, false, false, false, false, false, false, false, false, false] (by kernel_rfl) rfl rfl ⟨hx150_0, hx153_0, hx156_0, hx158_0, hx160_0⟩ (fun hHeld => ?_); refine with_tabW date_second.tab7 date_second.bits7 (fun HT_ HW_ => ?_)
                      generalize w33.drew = w35 at HO_6 HO149 BK139 HB hx150_0 hx153_0 hx156_0 hx158_0 hx160_0 hHeld ⊢
                      refine pure_ (i := 0) (N := some 35) (v := ?_) (a' := ?_) #[true, false, false, false, false, false, false, false, false, false, false, false, false, false, false, false, false, false, false, false, false, false, false, false, false, false, false] rfl rfl (any_of HT_.out (by kernel_rfl)) (fun _ _ _ h => h) (Or.inl ⟨by rfl, ?_⟩) ?_ ?_
                      rotate_left
                      · intro w'
                        go_simp
                        with_reducible rfl
                      rotate_left
                      · simp only [Act.put, List.setIfInBounds_toArray, List.set_cons_zero, List.set_cons_succ, i64_w, i32_w]
                        rfl
                      refine pure_ (i := 1) (N := some 36) (v := ?_) (a' := ?_) #[true, true, false, false, false, false, false, false, false, false, false, false, false, false, false, false, false, false, false, false, false, false, false, false, false, false, false] rfl rfl (any_of HT_.out (by kernel_rfl)) (fun _ _ _ h => h) (Or.inl ⟨by rfl, ?_⟩) ?_ ?_
                      rotate_left
                      · intro w'
                        go_simp
                        with_reducible rfl
                      rotate_left
                      · simp only [Act.put, List.setIfInBounds_toArray, List.set_cons_zero, List.set_cons_succ, i64_w, i32_w]
                        rfl
                      refine pure_ (i := 5) (N := some 40) (v := ?_) (a' := ?_) #[true, true, false, false, false, true, false, false, false, false, false, false, false, false, false, false, false, false, false, false, false, false, false, false, false, false, false] rfl rfl (any_of HT_.out (by kernel_rfl)) (fun _ _ _ h => h) (Or.inl ⟨by rfl, ?_⟩) ?_ ?_
                      rotate_left
                      · intro w'
                        go_simp
                        with_reducible rfl
                      rotate_left
                      · simp only [Act.put, List.setIfInBounds_toArray, List.set_cons_zero, List.set_cons_succ, i64_w, i32_w]
                        rfl
                      refine pure_ (i := 6) (N := some 41) (v := ?_) (a' := ?_) #[true, true, false, false, false, true, true, false, false, false, false, false, false, false, false, false, false, false, false, false, false, false, false, false, false, false, false] rfl rfl (any_of HT_.out (by kernel_rfl)) (fun _ _ _ h => h) (Or.inl ⟨by rfl, ?_⟩) ?_ ?_
                      rotate_left
                      · intro w'
                        go_simp
                        with_reducible rfl
                      rotate_left
                      · simp only [Act.put, List.setIfInBounds_toArray, List.set_cons_zero, List.set_cons_succ, i64_w, i32_w]
                        rfl
                      refine pure_ (i := 9) (N := some 44) (v := ?_) (a' := ?_) #[true, true, false, false, false, true, true, false, false, true, false, false, false, false, false, false, false, false, false, false, false, false, false, false, false, false, false] rfl rfl (any_of HT_.out (by kernel_rfl)) (fun _ _ _ h => h) (Or.inl ⟨by rfl, ?_⟩) ?_ ?_
                      rotate_left
                      · intro w'
                        go_simp
                        with_reducible rfl
                      rotate_left
                      · simp only [Act.put, List.setIfInBounds_toArray, List.set_cons_zero, List.set_cons_succ, i64_w, i32_w]
                        rfl
                      refine pure_ (i := 11) (N := some 46) (v := ?_) (a' := ?_) #[true, true, false, false, false, true, true, false, false, true, false, true, false, false, false, false, false, false, false, false, false, false, false, false, false, false, false] rfl rfl (any_of HT_.out (by kernel_rfl)) (fun _ _ _ h => h) (Or.inl ⟨by rfl, ?_⟩) ?_ ?_
                      rotate_left
                      · intro w'
                        go_simp
                        with_reducible rfl
                      rotate_left
                      · simp only [Act.put, List.setIfInBounds_toArray, List.set_cons_zero, List.set_cons_succ, i64_w, i32_w]
                        rfl
                      refine pure_ (i := 12) (N := some 47) (v := ?_) (a' := ?_) #[true, true, false, false, false, true, true, false, false, true, false, true, true, false, false, false, false, false, false, false, false, false, false, false, false, false, false] rfl rfl (any_of HT_.out (by kernel_rfl)) (fun _ _ _ h => h) (Or.inl ⟨by rfl, ?_⟩) ?_ ?_
                      rotate_left
                      · intro w'
                        go_simp
                        with_reducible rfl
                      rotate_left
                      · simp only [Act.put, List.setIfInBounds_toArray, List.set_cons_zero, List.set_cons_succ, i64_w, i32_w]
                        rfl
                      refine pure_ (i := 16) (N := some 51) (v := ?_) (a' := ?_) #[true, true, false, false, false, true, true, false, false, true, false, true, true, false, false, false, true, false, false, false, false, false, false, false, false, false, false] rfl rfl (any_of HT_.out (by kernel_rfl)) (fun _ _ _ h => h) (Or.inl ⟨by rfl, ?_⟩) ?_ ?_
                      rotate_left
                      · intro w'
                        go_simp
                        with_reducible rfl
                      rotate_left
                      · simp only [Act.put, List.setIfInBounds_toArray, List.set_cons_zero, List.set_cons_succ, i64_w, i32_w]
                        rfl
                      refine pure_ (i := 17) (N := some 52) (v := ?_) (a' := ?_) #[true, true, false, false, false, true, true, false, false, true, false, true, true, false, false, false, true, true, false, false, false, false, false, false, false, false, false] rfl rfl (any_of HT_.out (by kernel_rfl)) (fun _ _ _ h => h) (Or.inl ⟨by rfl, ?_⟩) ?_ ?_
                      rotate_left
                      · intro w'
                        go_simp
                        with_reducible rfl
                      rotate_left
                      · simp only [Act.put, List.setIfInBounds_toArray, List.set_cons_zero, List.set_cons_succ, i64_w, i32_w]
                        rfl
                      refine pure_ (i := 20) (N := some 55) (v := ?_) (a' := ?_) #[true, true, false, false, false, true, true, false, false, true, false, true, true, false, false, false, true, true, false, false, true, false, false, false, false, false, false] rfl rfl (any_of HT_.out (by kernel_rfl)) (fun _ _ _ h => h) (Or.inl ⟨by rfl, ?_⟩) ?_ ?_
                      rotate_left
                      · intro w'
                        go_simp
                        with_reducible rfl
                      rotate_left
                      · simp only [Act.put, List.setIfInBounds_toArray, List.set_cons_zero, List.set_cons_succ, i64_w, i32_w]
                        rfl
                      refine pure_ (i := 21) (N := some 56) (v := ?_) (a' := ?_) #[true, true, false, false, false, true, true, false, false, true, false, true, true, false, false, false, true, true, false, false, true, true, false, false, false, false, false] rfl rfl (any_of HT_.out (by kernel_rfl)) (fun _ _ _ h => h) (Or.inl ⟨by rfl, ?_⟩) ?_ ?_
                      rotate_left
                      · intro w'
                        go_simp
                        with_reducible rfl
                      rotate_left
                      · simp only [Act.put, List.setIfInBounds_toArray, List.set_cons_zero, List.set_cons_succ, i64_w, i32_w]
                        rfl
                      refine take_ (i := 2) (N := some 37) (v := ?_) (a' := ?_) #[true, true, true, false, false, true, true, false, false, true, false, true, true, false, false, false, true, true, false, false, true, true, false, false, false, false, false] rfl rfl (take_ofW HT_.out HW_.out (by kernel_rfl)) (fun _ _ _ h => h) (Or.inl ⟨by rfl, ?_⟩) hHeld ?_ ?_
                      rotate_left
                      · rintro w' ⟨s0, s1, s2, s3, s4⟩
                        go_simp
                        with_reducible rfl
                      rotate_left
                      · simp only [Act.put, List.setIfInBounds_toArray, List.set_cons_zero, List.set_cons_succ, i64_w, i32_w]
                        rfl
                      refine take_ (i := 7) (N := some 42) (v := ?_) (a' := ?_) #[true, true, true, false, false, true, true, true, false, true, false, true, true, false, false, false, true, true, false, false, true, true, false, false, false, false, false] rfl rfl (take_ofW HT_.out HW_.out (by kernel_rfl)) (fun _ _ _ h => h) (Or.inl ⟨by rfl, ?_⟩) hHeld ?_ ?_
                      rotate_left
                      · rintro w' ⟨s0, s1, s2, s3, s4⟩
                        go_simp
                        with_reducible rfl
                      rotate_left
                      · simp only [Act.put, List.setIfInBounds_toArray, List.set_cons_zero, List.set_cons_succ, i64_w, i32_w]
                        rfl
                      refine take_ (i := 13) (N := some 48) (v := ?_) (a' := ?_) #[true, true, true, false, false, true, true, true, false, true, false, true, true, true, false, false, true, true, false, false, true, true, false, false, false, false, false] rfl rfl (take_ofW HT_.out HW_.out (by kernel_rfl)) (fun _ _ _ h => h) (Or.inl ⟨by rfl, ?_⟩) hHeld ?_ ?_
                      rotate_left
                      · rintro w' ⟨s0, s1, s2, s3, s4⟩
                        go_simp
                        with_reducible rfl
                      rotate_left
                      · simp only [Act.put, List.setIfInBounds_toArray, List.set_cons_zero, List.set_cons_succ, i64_w, i32_w]
                        rfl
                      refine take_ (i := 18) (N := some 53) (v := ?_) (a' := ?_) #[true, true, true, false, false, true, true, true, false, true, false, true, true, true, false, false, true, true, true, false, true, true, false, false, false, false, false] rfl rfl (take_ofW HT_.out HW_.out (by kernel_rfl)) (fun _ _ _ h => h) (Or.inl ⟨by rfl, ?_⟩) hHeld ?_ ?_
                      rotate_left
                      · rintro w' ⟨s0, s1, s2, s3, s4⟩
                        go_simp
                        with_reducible rfl
                      rotate_left
                      · simp only [Act.put, List.setIfInBounds_toArray, List.set_cons_zero, List.set_cons_succ, i64_w, i32_w]
                        rfl
                      refine take_ (i := 22) (N := some 57) (v := ?_) (a' := ?_) #[true, true, true, false, false, true, true, true, false, true, false, true, true, true, false, false, true, true, true, false, true, true, true, false, false, false, false] rfl rfl (take_ofW HT_.out HW_.out (by kernel_rfl)) (fun _ _ _ h => h) (Or.inl ⟨by rfl, ?_⟩) hHeld ?_ ?_
                      rotate_left
                      · rintro w' ⟨s0, s1, s2, s3, s4⟩
                        go_simp
                        with_reducible rfl
                      rotate_left
                      · simp only [Act.put, List.setIfInBounds_toArray, List.set_cons_zero, List.set_cons_succ, i64_w, i32_w]
                        rfl
                      refine one_ (i := 3) (N := some 38) #[true, true, true, true, false, true, true, true, false, true, false, true, true, true, false, false, true, true, true, false, true, true, true, false, false, false, false] rfl rfl (one_of HT_.out (by kernel_rfl)) (by decide) (fun K hK => ?_)
                      refine goes_ Tryd.func39 (by kernel_rfl) rfl #[.string (rdOf ByteArray.empty t140 0), .string (⟨#[44]⟩ : ByteArray)] (by rfl) rfl rfl (by (try simp only [List.map_toArray, List.map_cons, List.map_nil]); first | done | rfl | (simp only [List.length_drop, List.length_take]; rfl)) ?_
                      with_reducible refine (strings_TrimSuffix.calls (rdOf ByteArray.empty t140 0) (⟨#[44]⟩ : ByteArray) t151 _ A21.out).mono ?_
                      rintro e w' ⟨rfl, ⟨nd, rfl⟩⟩
                      refine ⟨_, rfl, ?_⟩
                      refine hK.out _ _ ⟨hHeld.1, hHeld.2.1, hHeld.2.2.1, hHeld.2.2.2.1, hHeld.2.2.2.2⟩ (fun hHeld => ?_)
                      clear hK K
                      refine norm_ (a' := ?_) ?_ ?_
                      rotate_left
                      · show Act.put _ (some 38) _ = _
                        simp only [Act.put, List.setIfInBounds_toArray, List.set_cons_zero, List.set_cons_succ, i64_w, i32_w]
                        rfl
                      refine one_ (i := 4) (N := some 39) #[true, true, true, true, true, true, true, true, false, true, false, true, true, true, false, false, true, true, true, false, true, true, true, false, false, false, false] rfl rfl (one_of HT_.out (by kernel_rfl)) (by decide) (fun K hK => ?_)
                      refine goes_ Tryd.func38 (by kernel_rfl) rfl #[.string (⟨#[77, 111, 110, 100, 97, 121, 32, 84, 117, 101, 115, 100, 97, 121, 32, 87, 101, 100, 110, 101, 115, 100, 97, 121, 32, 84, 104, 117, 114, 115, 100, 97, 121, 32, 70, 114, 105, 100, 97, 121, 32, 83, 97, 116, 117, 114, 100, 97, 121, 32, 83, 117, 110, 100, 97, 121]⟩ : ByteArray), .string t151] (by rfl) rfl rfl (by (try simp only [List.map_toArray, List.map_cons, List.map_nil]); first | done | rfl | (simp only [List.length_drop, List.length_take]; rfl)) ?_
                      with_reducible refine (date_among.calls kj3 (⟨#[77, 111, 110, 100, 97, 121, 32, 84, 117, 101, 115, 100, 97, 121, 32, 87, 101, 100, 110, 101, 115, 100, 97, 121, 32, 84, 104, 117, 114, 115, 100, 97, 121, 32, 70, 114, 105, 100, 97, 121, 32, 83, 97, 116, 117, 114, 100, 97, 121, 32, 83, 117, 110, 100, 97, 121]⟩ : ByteArray) t151 t152 _ ?side1 A22.out).mono ?_
                      (case side1 => exact Gl.below hG (by repeat (first | (with_reducible first | exact HB.out | apply below_alloc | apply pw_below_drewN | apply below_drew1 | refine below_set ?_ GE139.out) | exact HB.out)))
                      rintro e w36 ⟨rfl, hb⟩
                      have HS0_ := (hb.cell (World.block_lt_of_cell? _ _ (hHeld.1))).trans (hHeld.1)
                      have HS1_ := (hb.cell (World.block_lt_of_cell? _ _ (hHeld.2.1))).trans (hHeld.2.1)
                      have HS2_ := (hb.cell (World.block_lt_of_cell? _ _ (hHeld.2.2.1))).trans (hHeld.2.2.1)
                      have HS3_ := (hb.cell (World.block_lt_of_cell? _ _ (hHeld.2.2.2.1))).trans (hHeld.2.2.2.1)
                      have HS4_ := (hb.cell (World.block_lt_of_cell? _ _ (hHeld.2.2.2.2))).trans (hHeld.2.2.2.2)
                      refine ⟨_, rfl, ?_⟩
                      have n0_ := Aside0.mk (Kd.R_below (by (with_reducible repeat (first | apply Kd.R_alloc | apply Kd.R_drewN | apply Kd.R_drew)); exact HO_6.out) hb)
                      have n1_ := Aside0.mk (Kd.R_below (by (with_reducible repeat (first | apply Kd.R_alloc | apply Kd.R_drewN | apply Kd.R_drew)); exact HO149.out) hb)
                      have n2_ := Aside0.mk (blk_below (g := gb139) (o := .cells #[.int .i64 0, .int .i64 0, .int .i64 0, .int .i64 0, .int .i64 0] 43 (0, 0)) (by (with_reducible repeat (first | refine blk_drewN ?_ _ | refine blk_drew ?_ | refine blk_alloc ?_ _)); exact BK139.out) hb)
                      have n3_ := Aside0.mk (below_step (by repeat (first | (with_reducible first | exact HB.out | apply below_alloc | apply pw_below_drewN | apply below_drew1 | refine below_set ?_ GE139.out) | exact HB.out)) hb)
                      clear HO_6
                      clear HO149
                      clear BK139
                      clear HB
                      have HO_6 := n0_
                      have HO149 := n1_
                      have BK139 := n2_
                      have HB := n3_
                      clear n0_ n1_ n2_ n3_
                      (try clear hb)
                      (try clear hb2)
                      (try clear hk)
                      (try clear hi)
                      refine hK.out _ _ ⟨HS0_, HS1_, HS2_, HS3_, HS4_⟩ (fun hHeld => ?_)
                      clear hK K
                      refine norm_ (a' := ?_) ?_ ?_
                      rotate_left
                      · show Act.put _ (some 39) _ = _
                        simp only [Act.put, List.setIfInBounds_toArray, List.set_cons_zero, List.set_cons_succ, i64_w, i32_w]
                        rfl
                      refine one_ (i := 8) (N := some 43) #[true, true, true, true, true, true, true, true, true, true, false, true, true, true, false, false, true, true, true, false, true, true, true, false, false, false, false] rfl rfl (one_of HT_.out (by kernel_rfl)) (by decide) (fun K hK => ?_)
                      refine goes_ Tryd.func40 (by kernel_rfl) rfl #[.string (rdOf ByteArray.empty t147 2), .int .i64 2] (by rfl) rfl rfl (by (try simp only [List.map_toArray, List.map_cons, List.map_nil]); first | done | rfl | (simp only [List.length_drop, List.length_take]; rfl)) ?_
                      with_reducible refine (Go.Proofs.YtdlpdgdccoeklaaDoor.Ext.date_number.calls (rdOf ByteArray.empty t147 2) 2 t154 _ A24.out).mono ?_
                      rintro e w37 ⟨rfl, hb⟩
                      have HS0_ := (hb.cell (World.block_lt_of_cell? _ _ (hHeld.1))).trans (hHeld.1)
                      have HS1_ := (hb.cell (World.block_lt_of_cell? _ _ (hHeld.2.1))).trans (hHeld.2.1)
                      have HS2_ := (hb.cell (World.block_lt_of_cell? _ _ (hHeld.2.2.1))).trans (hHeld.2.2.1)
                      have HS3_ := (hb.cell (World.block_lt_of_cell? _ _ (hHeld.2.2.2.1))).trans (hHeld.2.2.2.1)
                      have HS4_ := (hb.cell (World.block_lt_of_cell? _ _ (hHeld.2.2.2.2))).trans (hHeld.2.2.2.2)
                      refine ⟨_, rfl, ?_⟩
                      have n0_ := Aside0.mk (Kd.R_below (by (with_reducible repeat (first | apply Kd.R_alloc | apply Kd.R_drewN | apply Kd.R_drew)); exact HO_6.out) hb)
                      have n1_ := Aside0.mk (Kd.R_below (by (with_reducible repeat (first | apply Kd.R_alloc | apply Kd.R_drewN | apply Kd.R_drew)); exact HO149.out) hb)
                      have n2_ := Aside0.mk (blk_below (g := gb139) (o := .cells #[.int .i64 0, .int .i64 0, .int .i64 0, .int .i64 0, .int .i64 0] 43 (0, 0)) (by (with_reducible repeat (first | refine blk_drewN ?_ _ | refine blk_drew ?_ | refine blk_alloc ?_ _)); exact BK139.out) hb)
                      have n3_ := Aside0.mk (below_step (by repeat (first | (with_reducible first | exact HB.out | apply below_alloc | apply pw_below_drewN | apply below_drew1 | refine below_set ?_ GE139.out) | exact HB.out)) hb)
                      clear HO_6
                      clear HO149
                      clear BK139
                      clear HB
                      have HO_6 := n0_
                      have HO149 := n1_
                      have BK139 := n2_
                      have HB := n3_
                      clear n0_ n1_ n2_ n3_
                      (try clear hb)
                      (try clear hb2)
                      (try clear hk)
                      (try clear hi)
                      refine hK.out _ _ ⟨HS0_, HS1_, HS2_, HS3_, HS4_⟩ (fun hHeld => ?_)
                      clear hK K
                      refine norm_ (a' := ?_) ?_ ?_
                      rotate_left
                      · show Act.put _ (some 43) _ = _
                        simp only [Act.put, List.setIfInBounds_toArray, List.set_cons_zero, List.set_cons_succ, i64_w, i32_w]
                        rfl
                      refine one_ (i := 10) (N := some 45) #[true, true, true, true, true, true, true, true, true, true, true, true, true, true, false, false, true, true, true, false, true, true, true, false, false, false, false] rfl rfl (one_of HT_.out (by kernel_rfl)) (by decide) (fun K hK => ?_)
                      refine goes_ Tryd.func43 (by kernel_rfl) rfl #[.int .i64 t154, .int .i64 a1] (by rfl) rfl rfl (by (try simp only [List.map_toArray, List.map_cons, List.map_nil]); first | done | rfl | (simp only [List.length_drop, List.length_take]; rfl)) ?_
                      with_reducible refine (date_year.calls kj3 t154 a1 t155 _ A25.out).mono ?_
                      rintro e w' ⟨rfl, ⟨nd, rfl⟩⟩
                      refine ⟨_, rfl, ?_⟩
                      refine hK.out _ _ ⟨hHeld.1, hHeld.2.1, hHeld.2.2.1, hHeld.2.2.2.1, hHeld.2.2.2.2⟩ (fun hHeld => ?_)
                      clear hK K
                      refine norm_ (a' := ?_) ?_ ?_
                      rotate_left
                      · show Act.put _ (some 45) _ = _
                        simp only [Act.put, List.setIfInBounds_toArray, List.set_cons_zero, List.set_cons_succ, i64_w, i32_w]
                        rfl
                      refine one_ (i := 14) (N := some 49) #[true, true, true, true, true, true, true, true, true, true, true, true, true, true, true, false, true, true, true, false, true, true, true, false, false, false, false] rfl rfl (one_of HT_.out (by kernel_rfl)) (by decide) (fun K hK => ?_)
                      refine goes_ Tryd.func38 (by kernel_rfl) rfl #[.string (⟨#[74, 97, 110, 32, 70, 101, 98, 32, 77, 97, 114, 32, 65, 112, 114, 32, 77, 97, 121, 32, 74, 117, 110, 32, 74, 117, 108, 32, 65, 117, 103, 32, 83, 101, 112, 32, 79, 99, 116, 32, 78, 111, 118, 32, 68, 101, 99]⟩ : ByteArray), .string (rdOf ByteArray.empty t147 1)] (by rfl) rfl rfl (by (try simp only [List.map_toArray, List.map_cons, List.map_nil]); first | done | rfl | (simp only [List.length_drop, List.length_take]; rfl)) ?_
                      with_reducible refine (date_among.calls kj3 (⟨#[74, 97, 110, 32, 70, 101, 98, 32, 77, 97, 114, 32, 65, 112, 114, 32, 77, 97, 121, 32, 74, 117, 110, 32, 74, 117, 108, 32, 65, 117, 103, 32, 83, 101, 112, 32, 79, 99, 116, 32, 78, 111, 118, 32, 68, 101, 99]⟩ : ByteArray) (rdOf ByteArray.empty t147 1) t157 _ ?side1 A27.out).mono ?_
                      (case side1 => exact Gl.below hG (by repeat (first | (with_reducible first | exact HB.out | apply below_alloc | apply pw_below_drewN | apply below_drew1 | refine below_set ?_ GE139.out) | exact HB.out)))
                      rintro e w38 ⟨rfl, hb⟩
                      have HS0_ := (hb.cell (World.block_lt_of_cell? _ _ (hHeld.1))).trans (hHeld.1)
                      have HS1_ := (hb.cell (World.block_lt_of_cell? _ _ (hHeld.2.1))).trans (hHeld.2.1)
                      have HS2_ := (hb.cell (World.block_lt_of_cell? _ _ (hHeld.2.2.1))).trans (hHeld.2.2.1)
                      have HS3_ := (hb.cell (World.block_lt_of_cell? _ _ (hHeld.2.2.2.1))).trans (hHeld.2.2.2.1)
                      have HS4_ := (hb.cell (World.block_lt_of_cell? _ _ (hHeld.2.2.2.2))).trans (hHeld.2.2.2.2)
                      refine ⟨_, rfl, ?_⟩
                      have n0_ := Aside0.mk (Kd.R_below (by (with_reducible repeat (first | apply Kd.R_alloc | apply Kd.R_drewN | apply Kd.R_drew)); exact HO_6.out) hb)
                      have n1_ := Aside0.mk (Kd.R_below (by (with_reducible repeat (first | apply Kd.R_alloc | apply Kd.R_drewN | apply Kd.R_drew)); exact HO149.out) hb)
                      have n2_ := Aside0.mk (blk_below (g := gb139) (o := .cells #[.int .i64 0, .int .i64 0, .int .i64 0, .int .i64 0, .int .i64 0] 43 (0, 0)) (by (with_reducible repeat (first | refine blk_drewN ?_ _ | refine blk_drew ?_ | refine blk_alloc ?_ _)); exact BK139.out) hb)
                      have n3_ := Aside0.mk (below_step (by repeat (first | (with_reducible first | exact HB.out | apply below_alloc | apply pw_below_drewN | apply below_drew1 | refine below_set ?_ GE139.out) | exact HB.out)) hb)
                      clear HO_6
                      clear HO149
                      clear BK139
                      clear HB
                      have HO_6 := n0_
                      have HO149 := n1_
                      have BK139 := n2_
                      have HB := n3_
                      clear n0_ n1_ n2_ n3_
                      (try clear hb)
                      (try clear hb2)
                      (try clear hk)
                      (try clear hi)
                      refine hK.out _ _ ⟨HS0_, HS1_, HS2_, HS3_, HS4_⟩ (fun hHeld => ?_)
                      clear hK K
                      refine norm_ (a' := ?_) ?_ ?_
                      rotate_left
                      · show Act.put _ (some 49) _ = _
                        simp only [Act.put, List.setIfInBounds_toArray, List.set_cons_zero, List.set_cons_succ, i64_w, i32_w]
                        rfl
                      refine pure_ (i := 15) (N := some 50) (v := ?_) (a' := ?_) #[true, true, true, true, true, true, true, true, true, true, true, true, true, true, true, true, true, true, true, false, true, true, true, false, false, false, false] rfl rfl (any_of HT_.out (by kernel_rfl)) (fun _ _ _ h => h) (Or.inl ⟨by rfl, ?_⟩) ?_ ?_
                      rotate_left
                      · intro w'
                        go_simp
                        with_reducible rfl
                      rotate_left
                      · simp only [Act.put, List.setIfInBounds_toArray, List.set_cons_zero, List.set_cons_succ, i64_w, i32_w]
                        rfl
                      refine one_ (i := 19) (N := some 54) #[true, true, true, true, true, true, true, true, true, true, true, true, true, true, true, true, true, true, true, true, true, true, true, false, false, false, false] rfl rfl (one_of HT_.out (by kernel_rfl)) (by decide) (fun K hK => ?_)
                      refine goes_ Tryd.func40 (by kernel_rfl) rfl #[.string (rdOf ByteArray.empty t147 0), .int .i64 2] (by rfl) rfl rfl (by (try simp only [List.map_toArray, List.map_cons, List.map_nil]); first | done | rfl | (simp only [List.length_drop, List.length_take]; rfl)) ?_
                      with_reducible refine (Go.Proofs.YtdlpdgdccoeklaaDoor.Ext.date_number.calls (rdOf ByteArray.empty t147 0) 2 t159 _ A29.out).mono ?_
                      rintro e w39 ⟨rfl, hb⟩
                      have HS0_ := (hb.cell (World.block_lt_of_cell? _ _ (hHeld.1))).trans (hHeld.1)
                      have HS1_ := (hb.cell (World.block_lt_of_cell? _ _ (hHeld.2.1))).trans (hHeld.2.1)
                      have HS2_ := (hb.cell (World.block_lt_of_cell? _ _ (hHeld.2.2.1))).trans (hHeld.2.2.1)
                      have HS3_ := (hb.cell (World.block_lt_of_cell? _ _ (hHeld.2.2.2.1))).trans (hHeld.2.2.2.1)
                      have HS4_ := (hb.cell (World.block_lt_of_cell? _ _ (hHeld.2.2.2.2))).trans (hHeld.2.2.2.2)
                      refine ⟨_, rfl, ?_⟩
                      have n0_ := Aside0.mk (Kd.R_below (by (with_reducible repeat (first | apply Kd.R_alloc | apply Kd.R_drewN | apply Kd.R_drew)); exact HO_6.out) hb)
                      have n1_ := Aside0.mk (Kd.R_below (by (with_reducible repeat (first | apply Kd.R_alloc | apply Kd.R_drewN | apply Kd.R_drew)); exact HO149.out) hb)
                      have n2_ := Aside0.mk (blk_below (g := gb139) (o := .cells #[.int .i64 0, .int .i64 0, .int .i64 0, .int .i64 0, .int .i64 0] 43 (0, 0)) (by (with_reducible repeat (first | refine blk_drewN ?_ _ | refine blk_drew ?_ | refine blk_alloc ?_ _)); exact BK139.out) hb)
                      have n3_ := Aside0.mk (below_step (by repeat (first | (with_reducible first | exact HB.out | apply below_alloc | apply pw_below_drewN | apply below_drew1 | refine below_set ?_ GE139.out) | exact HB.out)) hb)
                      clear HO_6
                      clear HO149
                      clear BK139
                      clear HB
                      have HO_6 := n0_
                      have HO149 := n1_
                      have BK139 := n2_
                      have HB := n3_
                      clear n0_ n1_ n2_ n3_
                      (try clear hb)
                      (try clear hb2)
                      (try clear hk)
                      (try clear hi)
                      refine hK.out _ _ ⟨HS0_, HS1_, HS2_, HS3_, HS4_⟩ (fun hHeld => ?_)
                      clear hK K
                      refine norm_ (a' := ?_) ?_ ?_
                      rotate_left
                      · show Act.put _ (some 54) _ = _
                        simp only [Act.put, List.setIfInBounds_toArray, List.set_cons_zero, List.set_cons_succ, i64_w, i32_w]
                        rfl
                      refine one_ (i := 23) (N := some 58) #[true, true, true, true, true, true, true, true, true, true, true, true, true, true, true, true, true, true, true, true, true, true, true, true, false, false, false] rfl rfl (one_of HT_.out (by kernel_rfl)) (by decide) (fun K hK => ?_)
                      refine goes_ Tryd.func41 (by kernel_rfl) rfl #[.string (rdOf ByteArray.empty t140 2)] (by rfl) rfl rfl (by (try simp only [List.map_toArray, List.map_cons, List.map_nil]); first | done | rfl | (simp only [List.length_drop, List.length_take]; rfl)) ?_
                      with_reducible refine (Go.Proofs.YtdlpdgdccoeklaaDoor.Ext.date_clock.calls (rdOf ByteArray.empty t140 2) t161 _ ?side1 A31.out).mono ?_
                      (case side1 => exact Gl.below hG (by repeat (first | (with_reducible first | exact HB.out | apply below_alloc | apply pw_below_drewN | apply below_drew1 | refine below_set ?_ GE139.out) | exact HB.out)))
                      rintro e w40 ⟨rfl, hb⟩
                      have HS0_ := (hb.cell (World.block_lt_of_cell? _ _ (hHeld.1))).trans (hHeld.1)
                      have HS1_ := (hb.cell (World.block_lt_of_cell? _ _ (hHeld.2.1))).trans (hHeld.2.1)
                      have HS2_ := (hb.cell (World.block_lt_of_cell? _ _ (hHeld.2.2.1))).trans (hHeld.2.2.1)
                      have HS3_ := (hb.cell (World.block_lt_of_cell? _ _ (hHeld.2.2.2.1))).trans (hHeld.2.2.2.1)
                      have HS4_ := (hb.cell (World.block_lt_of_cell? _ _ (hHeld.2.2.2.2))).trans (hHeld.2.2.2.2)
                      refine ⟨_, rfl, ?_⟩
                      have n0_ := Aside0.mk (Kd.R_below (by (with_reducible repeat (first | apply Kd.R_alloc | apply Kd.R_drewN | apply Kd.R_drew)); exact HO_6.out) hb)
                      have n1_ := Aside0.mk (Kd.R_below (by (with_reducible repeat (first | apply Kd.R_alloc | apply Kd.R_drewN | apply Kd.R_drew)); exact HO149.out) hb)
                      have n2_ := Aside0.mk (blk_below (g := gb139) (o := .cells #[.int .i64 0, .int .i64 0, .int .i64 0, .int .i64 0, .int .i64 0] 43 (0, 0)) (by (with_reducible repeat (first | refine blk_drewN ?_ _ | refine blk_drew ?_ | refine blk_alloc ?_ _)); exact BK139.out) hb)
                      have n3_ := Aside0.mk (below_step (by repeat (first | (with_reducible first | exact HB.out | apply below_alloc | apply pw_below_drewN | apply below_drew1 | refine below_set ?_ GE139.out) | exact HB.out)) hb)
                      clear HO_6
                      clear HO149
                      clear BK139
                      clear HB
                      have HO_6 := n0_
                      have HO149 := n1_
                      have BK139 := n2_
                      have HB := n3_
                      clear n0_ n1_ n2_ n3_
                      (try clear hb)
                      (try clear hb2)
                      (try clear hk)
                      (try clear hi)
                      refine hK.out _ _ ⟨HS0_, HS1_, HS2_, HS3_, HS4_⟩ (fun hHeld => ?_)
                      clear hK K
                      refine norm_ (a' := ?_) ?_ ?_
                      rotate_left
                      · show Act.put _ (some 58) _ = _
                        simp only [Act.put, List.setIfInBounds_toArray, List.set_cons_zero, List.set_cons_succ, i64_w, i32_w]
                        rfl
                      refine pure_ (i := 24) (N := some 59) (v := ?_) (a' := ?_) #[true, true, true, true, true, true, true, true, true, true, true, true, true, true, true, true, true, true, true, true, true, true, true, true, true, false, false] rfl rfl (any_of HT_.out (by kernel_rfl)) (fun _ _ _ h => h) (Or.inl ⟨by rfl, ?_⟩) ?_ ?_
                      rotate_left
                      · intro w'
                        go_simp
                        with_reducible rfl
                      rotate_left
                      · simp only [Act.put, List.setIfInBounds_toArray, List.set_cons_zero, List.set_cons_succ, i64_w, i32_w]
                        rfl
                      refine one_ (i := 25) (N := none) #[true, true, true, true, true, true, true, true, true, true, true, true, true, true, true, true, true, true, true, true, true, true, true, true, true, true, false] rfl rfl (one_of HT_.out (by kernel_rfl)) (by decide) (fun K hK => ?_)
                      have hs41 : w40.cell? ⟨gb139, 0, none⟩ = some (.int .i64 0) := (blk_cell BK139.out 0).trans rfl
                      have hfs41 := blk_frozen BK139.out 0
                      have hs42 : w40.cell? ⟨gb139, 1, none⟩ = some (.int .i64 0) := (blk_cell BK139.out 1).trans rfl
                      have hfs42 := blk_frozen BK139.out 1
                      have hs43 : w40.cell? ⟨gb139, 2, none⟩ = some (.int .i64 0) := (blk_cell BK139.out 2).trans rfl
                      have hfs43 := blk_frozen BK139.out 2
                      have hs44 : w40.cell? ⟨gb139, 3, none⟩ = some (.int .i64 0) := (blk_cell BK139.out 3).trans rfl
                      have hfs44 := blk_frozen BK139.out 3
                      have hs45 : w40.cell? ⟨gb139, 4, none⟩ = some (.int .i64 0) := (blk_cell BK139.out 4).trans rfl
                      have hfs45 := blk_frozen BK139.out 4
                      refine skip_ (w1 := ?_) (by rfl) rfl ?_ ?_
                      rotate_left
                      · go_simp
                        rfl
                      refine hK.out _ _ ⟨((cell_far (p := ⟨gb139, _, none⟩) (by first | exact Kd.own_blk (Kd.R_ne HO_6.out BK139.out (by decide)) | (rw [add_block]; exact Kd.own_blk (Kd.R_ne HO_6.out BK139.out (by decide))) | (show (Addr.add _ _).block ≠ _; rw [add_block]; exact Kd.own_blk (Kd.R_ne HO_6.out BK139.out (by decide))) | (dsimp only; exact Kd.own_blk (Kd.R_ne HO_6.out BK139.out (by decide)))) _).trans (((cell_far (p := ⟨gb139, _, none⟩) (by first | exact Kd.own_blk (Kd.R_ne HO_6.out BK139.out (by decide)) | (rw [add_block]; exact Kd.own_blk (Kd.R_ne HO_6.out BK139.out (by decide))) | (show (Addr.add _ _).block ≠ _; rw [add_block]; exact Kd.own_blk (Kd.R_ne HO_6.out BK139.out (by decide))) | (dsimp only; exact Kd.own_blk (Kd.R_ne HO_6.out BK139.out (by decide)))) _).trans (((cell_far (p := ⟨gb139, _, none⟩) (by first | exact Kd.own_blk (Kd.R_ne HO_6.out BK139.out (by decide)) | (rw [add_block]; exact Kd.own_blk (Kd.R_ne HO_6.out BK139.out (by decide))) | (show (Addr.add _ _).block ≠ _; rw [add_block]; exact Kd.own_blk (Kd.R_ne HO_6.out BK139.out (by decide))) | (dsimp only; exact Kd.own_blk (Kd.R_ne HO_6.out BK139.out (by decide)))) _).trans (((cell_far (p := ⟨gb139, _, none⟩) (by first | exact Kd.own_blk (Kd.R_ne HO_6.out BK139.out (by decide)) | (rw [add_block]; exact Kd.own_blk (Kd.R_ne HO_6.out BK139.out (by decide))) | (show (Addr.add _ _).block ≠ _; rw [add_block]; exact Kd.own_blk (Kd.R_ne HO_6.out BK139.out (by decide))) | (dsimp only; exact Kd.own_blk (Kd.R_ne HO_6.out BK139.out (by decide)))) _).trans (((cell_far (p := ⟨gb139, _, none⟩) (by first | exact Kd.own_blk (Kd.R_ne HO_6.out BK139.out (by decide)) | (rw [add_block]; exact Kd.own_blk (Kd.R_ne HO_6.out BK139.out (by decide))) | (show (Addr.add _ _).block ≠ _; rw [add_block]; exact Kd.own_blk (Kd.R_ne HO_6.out BK139.out (by decide))) | (dsimp only; exact Kd.own_blk (Kd.R_ne HO_6.out BK139.out (by decide)))) _).trans (hHeld.1)))))))))), ((cell_far (p := ⟨gb139, _, none⟩) (by first | exact Kd.own_blk (Kd.R_ne HO149.out BK139.out (by decide)) | (rw [add_block]; exact Kd.own_blk (Kd.R_ne HO149.out BK139.out (by decide))) | (show (Addr.add _ _).block ≠ _; rw [add_block]; exact Kd.own_blk (Kd.R_ne HO149.out BK139.out (by decide))) | (dsimp only; exact Kd.own_blk (Kd.R_ne HO149.out BK139.out (by decide)))) _).trans (((cell_far (p := ⟨gb139, _, none⟩) (by first | exact Kd.own_blk (Kd.R_ne HO149.out BK139.out (by decide)) | (rw [add_block]; exact Kd.own_blk (Kd.R_ne HO149.out BK139.out (by decide))) | (show (Addr.add _ _).block ≠ _; rw [add_block]; exact Kd.own_blk (Kd.R_ne HO149.out BK139.out (by decide))) | (dsimp only; exact Kd.own_blk (Kd.R_ne HO149.out BK139.out (by decide)))) _).trans (((cell_far (p := ⟨gb139, _, none⟩) (by first | exact Kd.own_blk (Kd.R_ne HO149.out BK139.out (by decide)) | (rw [add_block]; exact Kd.own_blk (Kd.R_ne HO149.out BK139.out (by decide))) | (show (Addr.add _ _).block ≠ _; rw [add_block]; exact Kd.own_blk (Kd.R_ne HO149.out BK139.out (by decide))) | (dsimp only; exact Kd.own_blk (Kd.R_ne HO149.out BK139.out (by decide)))) _).trans (((cell_far (p := ⟨gb139, _, none⟩) (by first | exact Kd.own_blk (Kd.R_ne HO149.out BK139.out (by decide)) | (rw [add_block]; exact Kd.own_blk (Kd.R_ne HO149.out BK139.out (by decide))) | (show (Addr.add _ _).block ≠ _; rw [add_block]; exact Kd.own_blk (Kd.R_ne HO149.out BK139.out (by decide))) | (dsimp only; exact Kd.own_blk (Kd.R_ne HO149.out BK139.out (by decide)))) _).trans (((cell_far (p := ⟨gb139, _, none⟩) (by first | exact Kd.own_blk (Kd.R_ne HO149.out BK139.out (by decide)) | (rw [add_block]; exact Kd.own_blk (Kd.R_ne HO149.out BK139.out (by decide))) | (show (Addr.add _ _).block ≠ _; rw [add_block]; exact Kd.own_blk (Kd.R_ne HO149.out BK139.out (by decide))) | (dsimp only; exact Kd.own_blk (Kd.R_ne HO149.out BK139.out (by decide)))) _).trans (hHeld.2.1)))))))))), ((cell_far (p := ⟨gb139, _, none⟩) (by first | exact Kd.own_blk (Kd.R_ne HO149.out BK139.out (by decide)) | (rw [add_block]; exact Kd.own_blk (Kd.R_ne HO149.out BK139.out (by decide))) | (show (Addr.add _ _).block ≠ _; rw [add_block]; exact Kd.own_blk (Kd.R_ne HO149.out BK139.out (by decide))) | (dsimp only; exact Kd.own_blk (Kd.R_ne HO149.out BK139.out (by decide)))) _).trans (((cell_far (p := ⟨gb139, _, none⟩) (by first | exact Kd.own_blk (Kd.R_ne HO149.out BK139.out (by decide)) | (rw [add_block]; exact Kd.own_blk (Kd.R_ne HO149.out BK139.out (by decide))) | (show (Addr.add _ _).block ≠ _; rw [add_block]; exact Kd.own_blk (Kd.R_ne HO149.out BK139.out (by decide))) | (dsimp only; exact Kd.own_blk (Kd.R_ne HO149.out BK139.out (by decide)))) _).trans (((cell_far (p := ⟨gb139, _, none⟩) (by first | exact Kd.own_blk (Kd.R_ne HO149.out BK139.out (by decide)) | (rw [add_block]; exact Kd.own_blk (Kd.R_ne HO149.out BK139.out (by decide))) | (show (Addr.add _ _).block ≠ _; rw [add_block]; exact Kd.own_blk (Kd.R_ne HO149.out BK139.out (by decide))) | (dsimp only; exact Kd.own_blk (Kd.R_ne HO149.out BK139.out (by decide)))) _).trans (((cell_far (p := ⟨gb139, _, none⟩) (by first | exact Kd.own_blk (Kd.R_ne HO149.out BK139.out (by decide)) | (rw [add_block]; exact Kd.own_blk (Kd.R_ne HO149.out BK139.out (by decide))) | (show (Addr.add _ _).block ≠ _; rw [add_block]; exact Kd.own_blk (Kd.R_ne HO149.out BK139.out (by decide))) | (dsimp only; exact Kd.own_blk (Kd.R_ne HO149.out BK139.out (by decide)))) _).trans (((cell_far (p := ⟨gb139, _, none⟩) (by first | exact Kd.own_blk (Kd.R_ne HO149.out BK139.out (by decide)) | (rw [add_block]; exact Kd.own_blk (Kd.R_ne HO149.out BK139.out (by decide))) | (show (Addr.add _ _).block ≠ _; rw [add_block]; exact Kd.own_blk (Kd.R_ne HO149.out BK139.out (by decide))) | (dsimp only; exact Kd.own_blk (Kd.R_ne HO149.out BK139.out (by decide)))) _).trans (hHeld.2.2.1)))))))))), ((cell_far (p := ⟨gb139, _, none⟩) (by first | exact Kd.own_blk (Kd.R_ne HO149.out BK139.out (by decide)) | (rw [add_block]; exact Kd.own_blk (Kd.R_ne HO149.out BK139.out (by decide))) | (show (Addr.add _ _).block ≠ _; rw [add_block]; exact Kd.own_blk (Kd.R_ne HO149.out BK139.out (by decide))) | (dsimp only; exact Kd.own_blk (Kd.R_ne HO149.out BK139.out (by decide)))) _).trans (((cell_far (p := ⟨gb139, _, none⟩) (by first | exact Kd.own_blk (Kd.R_ne HO149.out BK139.out (by decide)) | (rw [add_block]; exact Kd.own_blk (Kd.R_ne HO149.out BK139.out (by decide))) | (show (Addr.add _ _).block ≠ _; rw [add_block]; exact Kd.own_blk (Kd.R_ne HO149.out BK139.out (by decide))) | (dsimp only; exact Kd.own_blk (Kd.R_ne HO149.out BK139.out (by decide)))) _).trans (((cell_far (p := ⟨gb139, _, none⟩) (by first | exact Kd.own_blk (Kd.R_ne HO149.out BK139.out (by decide)) | (rw [add_block]; exact Kd.own_blk (Kd.R_ne HO149.out BK139.out (by decide))) | (show (Addr.add _ _).block ≠ _; rw [add_block]; exact Kd.own_blk (Kd.R_ne HO149.out BK139.out (by decide))) | (dsimp only; exact Kd.own_blk (Kd.R_ne HO149.out BK139.out (by decide)))) _).trans (((cell_far (p := ⟨gb139, _, none⟩) (by first | exact Kd.own_blk (Kd.R_ne HO149.out BK139.out (by decide)) | (rw [add_block]; exact Kd.own_blk (Kd.R_ne HO149.out BK139.out (by decide))) | (show (Addr.add _ _).block ≠ _; rw [add_block]; exact Kd.own_blk (Kd.R_ne HO149.out BK139.out (by decide))) | (dsimp only; exact Kd.own_blk (Kd.R_ne HO149.out BK139.out (by decide)))) _).trans (((cell_far (p := ⟨gb139, _, none⟩) (by first | exact Kd.own_blk (Kd.R_ne HO149.out BK139.out (by decide)) | (rw [add_block]; exact Kd.own_blk (Kd.R_ne HO149.out BK139.out (by decide))) | (show (Addr.add _ _).block ≠ _; rw [add_block]; exact Kd.own_blk (Kd.R_ne HO149.out BK139.out (by decide))) | (dsimp only; exact Kd.own_blk (Kd.R_ne HO149.out BK139.out (by decide)))) _).trans (hHeld.2.2.2.1)))))))))), ((cell_far (p := ⟨gb139, _, none⟩) (by first | exact Kd.own_blk (Kd.R_ne HO_6.out BK139.out (by decide)) | (rw [add_block]; exact Kd.own_blk (Kd.R_ne HO_6.out BK139.out (by decide))) | (show (Addr.add _ _).block ≠ _; rw [add_block]; exact Kd.own_blk (Kd.R_ne HO_6.out BK139.out (by decide))) | (dsimp only; exact Kd.own_blk (Kd.R_ne HO_6.out BK139.out (by decide)))) _).trans (((cell_far (p := ⟨gb139, _, none⟩) (by first | exact Kd.own_blk (Kd.R_ne HO_6.out BK139.out (by decide)) | (rw [add_block]; exact Kd.own_blk (Kd.R_ne HO_6.out BK139.out (by decide))) | (show (Addr.add _ _).block ≠ _; rw [add_block]; exact Kd.own_blk (Kd.R_ne HO_6.out BK139.out (by decide))) | (dsimp only; exact Kd.own_blk (Kd.R_ne HO_6.out BK139.out (by decide)))) _).trans (((cell_far (p := ⟨gb139, _, none⟩) (by first | exact Kd.own_blk (Kd.R_ne HO_6.out BK139.out (by decide)) | (rw [add_block]; exact Kd.own_blk (Kd.R_ne HO_6.out BK139.out (by decide))) | (show (Addr.add _ _).block ≠ _; rw [add_block]; exact Kd.own_blk (Kd.R_ne HO_6.out BK139.out (by decide))) | (dsimp only; exact Kd.own_blk (Kd.R_ne HO_6.out BK139.out (by decide)))) _).trans (((cell_far (p := ⟨gb139, _, none⟩) (by first | exact Kd.own_blk (Kd.R_ne HO_6.out BK139.out (by decide)) | (rw [add_block]; exact Kd.own_blk (Kd.R_ne HO_6.out BK139.out (by decide))) | (show (Addr.add _ _).block ≠ _; rw [add_block]; exact Kd.own_blk (Kd.R_ne HO_6.out BK139.out (by decide))) | (dsimp only; exact Kd.own_blk (Kd.R_ne HO_6.out BK139.out (by decide)))) _).trans (((cell_far (p := ⟨gb139, _, none⟩) (by first | exact Kd.own_blk (Kd.R_ne HO_6.out BK139.out (by decide)) | (rw [add_block]; exact Kd.own_blk (Kd.R_ne HO_6.out BK139.out (by decide))) | (show (Addr.add _ _).block ≠ _; rw [add_block]; exact Kd.own_blk (Kd.R_ne HO_6.out BK139.out (by decide))) | (dsimp only; exact Kd.own_blk (Kd.R_ne HO_6.out BK139.out (by decide)))) _).trans (hHeld.2.2.2.2))))))))))⟩ (fun hHeld => ?_)
                      clear hK K
                      refine pure_ (i := 26) (N := some 5) (v := ?_) (a' := ?_) #[true, true, true, true, true, true, true, true, true, true, true, true, true, true, true, true, true, true, true, true, true, true, true, true, true, true, true] rfl rfl (any_of HT_.out (by kernel_rfl)) (fun _ _ _ h => h) (Or.inl ⟨by rfl, ?_⟩) ?_ ?_
                      rotate_left
                      · intro w'
                        go_simp
                        with_reducible rfl
                      rotate_left
                      · simp only [Act.put, List.setIfInBounds_toArray, List.set_cons_zero, List.set_cons_succ, i64_w, i32_w]
                        rfl
                      refine done_ (done_of HT_.out (by kernel_rfl)) ?_
                      try go_wp2
                      refine bodyPost_ret (results_ct rfl _ _ gb139 43 #[.int .i64 t152, .int .i64 t155, .int .i64 (wrap64 (1 + t157)), .int .i64 t159, .int .i64 t161] (0, 0) _ rfl (by (with_reducible repeat (first | refine blk_drewN ?_ _ | refine blk_drew ?_ | refine blk_alloc ?_ _)); refine blk_put (cs := #[.int .i64 t152, .int .i64 t155, .int .i64 (wrap64 (1 + t157)), .int .i64 t159, .int .i64 0]) ?_ 4 _ rfl; (with_reducible repeat (first | refine blk_drewN ?_ _ | refine blk_drew ?_ | refine blk_alloc ?_ _)); refine blk_put (cs := #[.int .i64 t152, .int .i64 t155, .int .i64 (wrap64 (1 + t157)), .int .i64 0, .int .i64 0]) ?_ 3 _ rfl; (with_reducible repeat (first | refine blk_drewN ?_ _ | refine blk_drew ?_ | refine blk_alloc ?_ _)); refine blk_put (cs := #[.int .i64 t152, .int .i64 t155, .int .i64 0, .int .i64 0, .int .i64 0]) ?_ 2 _ rfl; (with_reducible repeat (first | refine blk_drewN ?_ _ | refine blk_drew ?_ | refine blk_alloc ?_ _)); refine blk_put (cs := #[.int .i64 t152, .int .i64 0, .int .i64 0, .int .i64 0, .int .i64 0]) ?_ 1 _ rfl; (with_reducible repeat (first | refine blk_drewN ?_ _ | refine blk_drew ?_ | refine blk_alloc ?_ _)); refine blk_put (cs := #[.int .i64 0, .int .i64 0, .int .i64 0, .int .i64 0, .int .i64 0]) ?_ 0 _ rfl; (with_reducible repeat (first | refine blk_drewN ?_ _ | refine blk_drew ?_ | refine blk_alloc ?_ _)); exact BK139.out) Tryd.underlying43 rfl (by kernel_rfl)) rfl ?_
                      exact ⟨by first | rfl | (simp [errW_none, errW_some] <;> rfl) | (simp [*, errW_none, errW_some] <;> rfl), by repeat (first | (with_reducible first | exact HB.out | apply below_alloc | apply pw_below_drewN | apply below_drew1 | refine below_set ?_ GE139.out) | exact HB.out)⟩
                    · rw [if_neg c30] at H
                      exact absurd H (by simp)
                  · rw [if_neg c28] at H
                    exact absurd H (by simp)
                · rw [if_neg c26] at H
                  exact absurd H (by simp)
              · rw [if_neg c23] at H
                exact absurd H (by simp)
            · rw [if_neg c20] at H
              exact absurd H (by simp)
          · rw [if_neg c19] at H
            have c19b0 : ((t147.length : Int) == 3) = false := beq_eq_false_iff_ne.mpr c19
            have c19b1 : ((t147.length : Int) != 3) = true := bne_iff_ne.mpr c19
            simp only [Option.some.injEq, Prod.mk.injEq] at H
            obtain ⟨rfl, rfl, rfl, rfl, rfl, rfl⟩ := H
            obtain ⟨Ao46, co46, eo46⟩ := Kd.R_slice HO_6.out
            subst eo46
            have p146 : 0 ≤ (1 : Int) := (by omega)
            have q146 : 1 < (t140.length : Int) := of_decide_eq_true (by first | (with_reducible assumption) | assumption)
            obtain ⟨ad146, e146, hx146_0⟩ := Kd.at_string (Kd.R_reads' HO_6.out).2.2 1 p146 q146
            cases e146
            (try simp only [show (1 : Int).toNat = 1 from rfl, Nat.reduceMul, Nat.reduceEqDiff, Go.Addr.add, ↓reduceIte] at hx146_0)
            have qi146 : (1 < t140.length) = True := eq_true (by omega)
            (try rw [show ((1 : Int)).toNat = 1 from rfl] at hx146_0)
            replace p146 := eq_true p146
            replace q146 := eq_true q146
            go_wp2_with (first | ((with_reducible refine gate_callee (f := 36) rfl ?_); refine goesL_ (some 30) rfl rfl Tryd.func36 (by kernel_rfl) rfl #[.string (rdOf ByteArray.empty t140 1), .string (⟨#[45]⟩ : ByteArray)] rfl (by (try simp only [List.map_toArray, List.map_cons, List.map_nil]); first | done | rfl | (simp only [List.length_drop, List.length_take]; rfl)) ?_; (with_reducible refine (Go.Proofs.YtdlpdgdccoeklaaDoor.Ext.strings_Split.calls (rdOf ByteArray.empty t140 1) (⟨#[45]⟩ : ByteArray) t147 _ ?side1 A18.out).mono ?_); (case side1 => exact Gl.below hG (by repeat (first | (with_reducible first | exact HB.out | apply below_alloc | apply pw_below_drewN | apply below_drew1 | refine below_set ?_ GE139.out) | exact HB.out))); rintro e w47 ⟨v148, rfl, ho0, hb⟩; refine ⟨_, rfl, ?_⟩; have n0_ := Aside0.mk (Kd.R_elder' (by (with_reducible repeat (first | apply Kd.R_alloc | apply Kd.R_drewN | apply Kd.R_drew)); exact HO_6.out) (Kd.R_base ho0) hb); have n1_ := Aside0.mk (Kd.R_lower (Kd.R_new' ho0 (Kd.R_lt (by (with_reducible repeat (first | apply Kd.R_alloc | apply Kd.R_drewN | apply Kd.R_drew)); exact HO_6.out))) (below_size (by repeat (first | (with_reducible first | exact HB.out | apply below_alloc | apply pw_below_drewN | apply below_drew1 | refine below_set ?_ GE139.out) | exact HB.out)))); have n2_ := Aside0.mk (blk_below (g := gb139) (o := .cells #[.int .i64 0, .int .i64 0, .int .i64 0, .int .i64 0, .int .i64 0] 43 (0, 0)) (by (with_reducible repeat (first | refine blk_drewN ?_ _ | refine blk_drew ?_ | refine blk_alloc ?_ _)); exact BK139.out) hb); have n3_ := Aside0.mk (below_step (by repeat (first | (with_reducible first | exact HB.out | apply below_alloc | apply pw_below_drewN | apply below_drew1 | refine below_set ?_ GE139.out) | exact HB.out)) hb); clear HO_6; clear BK139; clear HB; have HO_6 := n0_; have HO149 := n1_; have BK139 := n2_; have HB := n3_; clear n0_ n1_ n2_ n3_; (try clear hb); (try clear hb2); (try clear hk); (try clear hi); (try clear ho0); obtain ⟨Ao48, co48, eo48⟩ := Kd.R_slice HO149.out; subst eo48; have hcz49_0 : w47.cell? ⟨gb139, 0, none⟩ = some (.int .i64 0) := (blk_cell BK139.out 0).trans rfl; have hcz49_1 : w47.cell? ⟨gb139, 1, none⟩ = some (.int .i64 0) := (blk_cell BK139.out 1).trans rfl; have hcz49_2 : w47.cell? ⟨gb139, 2, none⟩ = some (.int .i64 0) := (blk_cell BK139.out 2).trans rfl; have hcz49_3 : w47.cell? ⟨gb139, 3, none⟩ = some (.int .i64 0) := (blk_cell BK139.out 3).trans rfl; have hcz49_4 : w47.cell? ⟨gb139, 4, none⟩ = some (.int .i64 0) := (blk_cell BK139.out 4).trans rfl; have hfz49_0 := blk_frozen BK139.out 0; have hfz49_1 := blk_frozen BK139.out 1; have hfz49_2 := blk_frozen BK139.out 2; have hfz49_3 := blk_frozen BK139.out 3; have hfz49_4 := blk_frozen BK139.out 4))
            refine bodyPost_ret (results_ct rfl _ _ gb139 43 #[.int .i64 0, .int .i64 0, .int .i64 0, .int .i64 0, .int .i64 0] (0, 0) _ rfl (by (with_reducible repeat (first | refine blk_drewN ?_ _ | refine blk_drew ?_ | refine blk_alloc ?_ _)); refine blk_put (cs := #[.int .i64 0, .int .i64 0, .int .i64 0, .int .i64 0, .int .i64 0]) ?_ 4 _ rfl; (with_reducible repeat (first | refine blk_drewN ?_ _ | refine blk_drew ?_ | refine blk_alloc ?_ _)); refine blk_put (cs := #[.int .i64 0, .int .i64 0, .int .i64 0, .int .i64 0, .int .i64 0]) ?_ 3 _ rfl; (with_reducible repeat (first | refine blk_drewN ?_ _ | refine blk_drew ?_ | refine blk_alloc ?_ _)); refine blk_put (cs := #[.int .i64 0, .int .i64 0, .int .i64 0, .int .i64 0, .int .i64 0]) ?_ 2 _ rfl; (with_reducible repeat (first | refine blk_drewN ?_ _ | refine blk_drew ?_ | refine blk_alloc ?_ _)); refine blk_put (cs := #[.int .i64 0, .int .i64 0, .int .i64 0, .int .i64 0, .int .i64 0]) ?_ 1 _ rfl; (with_reducible repeat (first | refine blk_drewN ?_ _ | refine blk_drew ?_ | refine blk_alloc ?_ _)); refine blk_put (cs := #[.int .i64 0, .int .i64 0, .int .i64 0, .int .i64 0, .int .i64 0]) ?_ 0 _ rfl; (with_reducible repeat (first | refine blk_drewN ?_ _ | refine blk_drew ?_ | refine blk_alloc ?_ _)); exact BK139.out) Tryd.underlying43 rfl (by kernel_rfl)) rfl ?_
            exact ⟨by first | rfl | (simp [errW_none, errW_some] <;> rfl) | (simp [*, errW_none, errW_some] <;> rfl), by repeat (first | (with_reducible first | exact HB.out | apply below_alloc | apply pw_below_drewN | apply below_drew1 | refine below_set ?_ GE139.out) | exact HB.out)⟩
        · rw [if_neg c17] at H
          exact absurd H (by simp)
/-! ### civil_Weekday: function 30 -/
def civil_Weekday.f (a0 : Int) : Option (Int) := some (Int.tmod (wrap64 ((Int.tmod (wrap64 ((Int.tmod a0 7) + 7)) 7) + 3)) 7)
set_option maxHeartbeats 8000000 in
set_option maxRecDepth 100000 in
theorem civil_Weekday.calls (a0 : Int) (r : Int) (w : World) (h : civil_Weekday.f a0 = some r) :
    Calls Tryd.prog 30 #[.int .i64 a0] w fun e w' => e = .returned (.int .i64 r) ∧ Drawn0 w w' := by
  have H : (some (Int.tmod (wrap64 ((Int.tmod (wrap64 ((Int.tmod a0 7) + 7)) 7) + 3)) 7)) = some r := h
  clear h
  obtain rfl := Option.some.inj H
  go_enter Tryd.func30, Tryd.ntmps30
  go_wp2
  go_ret
  exact ⟨by first | rfl | (simp; done) | (simp [*]; done), by repeat (first | exact Drawn0.refl _ | apply Drawn0.step)⟩
end Go.Proofs.YtdlpdgdccoeklaaDoor.XA
