import Derived.Test.YtpnofnmecjagcaaDoorKkXCx0
import Derived.Test.YtpnofnmecjagcaaDoorKkXCx1
import Derived.Test.YtpnofnmecjagcaaDoorKkXCx2
-- Written by a program (wip/tools/xprint.py) out of the loaded functions: contracts of Go functions, and the functions that they compute.
namespace Go.Proofs.YtpnofnmecjagcaaDoor.XC
open Go.RowKit Go.Proofs.YtpnofnmecjagcaaDoor.Ext Go.Proofs.YtpnofnmecjagcaaDoorW.PrintWords Go.Proofs.YtpnofnmecjagcaaDoorW.PrintLast Go.Proofs.YtpnofnmecjagcaaDoorW.PrintMore
attribute [local go_sem] max2_int min2_int max_two min_two max_three min_three max_four min_four   -- for this text's walks alone
set_option linter.unusedVariables false
set_option linter.unusedSimpArgs false
attribute [local go_sem high] eqA23
/-! ### decorumlaw05_UrlKeys: function 6 -/
def decorumlaw05_UrlKeys.j0 : Nat → Bool → ByteArray → ByteArray → Int → ByteArray → ByteArray → Bool → ByteArray → ByteArray → Int → ByteArray → ByteArray → Bool → Option (Bool)
  | 0, _, _, _, _, _, _, _, _, _, _, _, _, _ => none
  | k + 1, x25, x191000, x191001, x191002, x191003, x191004, x191005, x199000, x199001, x199002, x199003, x199004, x199005 => if x25 = true then ((decorumlaw05_awake.f).bind fun t199 => (some t199)) else ((decorumlaw05_awake.f).bind fun t201 => (if t201 = true then ((Go.Proofs.YtpnofnmecjagcaaDoor.XB.url_Key.f x191000 x191001 x191002 x199003 x199004 x199005).bind fun t202 => ((Go.Proofs.YtpnofnmecjagcaaDoor.XB.url_Key.f x191000 x191001 x191002 x191003 x191004 x191005).bind fun t203 => (if t202.toList = t203.toList then ((Go.Proofs.YtpnofnmecjagcaaDoor.XB.url_Target.f x191000 x191001 x191002 x199003 x199004 x199005).bind fun t204 => ((Go.Proofs.YtpnofnmecjagcaaDoor.XB.url_Target.f x199000 x199001 x199002 x199003 x199004 x199005).bind fun t205 => (if t204.toList = t205.toList then ((Go.Proofs.YtpnofnmecjagcaaDoor.XB.url_String.f x191000 x191001 x191002 x191003 x191004 x191005).bind fun t206 => ((Go.Proofs.YtpnofnmecjagcaaDoor.XB.url_String.f x199000 x199001 x199002 x199003 x199004 x199005).bind fun t207 => (some ((t206.toList == t207.toList) == (x191000.toList == x199000.toList && (x191001.toList == x199001.toList && (x191002 == x199002 && (x191003.toList == x199003.toList && (x191004.toList == x199004.toList && (x191005 == x199005)))))))))) else (some false)))) else (some false)))) else (some false)))
def decorumlaw05_UrlKeys.f (k : Nat) (a0 : ByteArray) (a1 : ByteArray) : Option (Bool) := (Go.Proofs.YtpnofnmecjagcaaDoor.Ext.url_Parse.f a0).bind fun bt183 => ((Go.Proofs.YtpnofnmecjagcaaDoor.Ext.url_Parse.f a1).bind fun bt191 => (if bt183.2.2.2.2.2.2 = 0 then (decorumlaw05_UrlKeys.j0 k (bt191.2.2.2.2.2.2 != 0) bt183.1 bt183.2.1 bt183.2.2.1 bt183.2.2.2.1 bt183.2.2.2.2.1 bt183.2.2.2.2.2.1 bt191.1 bt191.2.1 bt191.2.2.1 bt191.2.2.2.1 bt191.2.2.2.2.1 bt191.2.2.2.2.2.1) else (decorumlaw05_UrlKeys.j0 k true bt183.1 bt183.2.1 bt183.2.2.1 bt183.2.2.2.1 bt183.2.2.2.2.1 bt183.2.2.2.2.2.1 bt191.1 bt191.2.1 bt191.2.2.1 bt191.2.2.2.1 bt191.2.2.2.2.1 bt191.2.2.2.2.2.1)))
def decorumlaw05_UrlKeys.T6 : Bool × List (List Nat × List Nat) := (true, [([], []), ([0], [0]), ([], []), ([2], [2]), ([], []), ([4], [4]), ([0, 1], []), ([6, 1, 0, 1], [1, 6]), ([0, 1, 2, 3, 6, 7], []), ([8, 3, 7, 0, 1, 2, 3, 6, 7], [3, 8]), ([0, 1, 2, 3, 4, 5, 6, 7, 8, 9], []), ([10, 5, 9, 0, 1, 2, 3, 4, 5, 6, 7, 8, 9], [5, 10])])
def decorumlaw05_UrlKeys.B6 : List Nat := [0, 1, 0, 4, 0, 16, 3, 67, 207, 463, 1023, 2047]
theorem decorumlaw05_UrlKeys.tab6 : rtab .any (opsOf Tryd.f6 6) = decorumlaw05_UrlKeys.T6 := by kernel_rfl
theorem decorumlaw05_UrlKeys.bits6 : waitsOk decorumlaw05_UrlKeys.T6.2 decorumlaw05_UrlKeys.B6 = true := by kernel_rfl
def decorumlaw05_UrlKeys.T7 : Bool × List (List Nat × List Nat) := (true, [([], []), ([0, 0], [0]), ([1], [1]), ([2, 1, 1], [1, 2]), ([1], [1]), ([4, 3, 1], [1, 4]), ([3, 5, 1], [1, 3, 5]), ([1, 6], [1, 6]), ([7, 5], [7]), ([8], [8]), ([9, 8, 8], [8, 9]), ([8], [8]), ([11, 10, 8], [8, 11]), ([10, 12, 8], [8, 10, 12]), ([8, 13], [8, 13]), ([14, 12], [14]), ([15], [15]), ([16, 15, 15], [15, 16]), ([15], [15]), ([18, 17, 15], [15, 18]), ([17, 19, 15], [15, 17, 19]), ([15], [15]), ([15], [15]), ([21, 22, 15], [15, 21, 22]), ([20, 23, 15], [15, 20, 23]), ([15, 24], [15, 24]), ([25, 19, 0, 1, 2, 3, 4, 5, 6, 7, 8, 9, 10, 11, 12, 13, 14, 15, 16, 17, 18, 19, 20, 21, 22, 23, 24, 25], [25])])
def decorumlaw05_UrlKeys.B7 : List Nat := [0, 1, 3, 7, 3, 31, 63, 127, 255, 511, 1023, 511, 4095, 8191, 16383, 32767, 65535, 131071, 65535, 524287, 1048575, 65535, 65535, 6356991, 16777215, 33554431, 67108863]
theorem decorumlaw05_UrlKeys.tab7 : rtab .any (opsOf Tryd.f6 7) = decorumlaw05_UrlKeys.T7 := by kernel_rfl
theorem decorumlaw05_UrlKeys.bits7 : waitsOk decorumlaw05_UrlKeys.T7.2 decorumlaw05_UrlKeys.B7 = true := by kernel_rfl
set_option maxHeartbeats 8000000 in
set_option maxRecDepth 100000 in
theorem decorumlaw05_UrlKeys.calls (k : Nat) (a0 : ByteArray) (a1 : ByteArray) (r : Bool) (w : World) (hG : Gl w) (h : decorumlaw05_UrlKeys.f k a0 a1 = some r) :
    Calls Tryd.prog 6 #[.string a0, .string a1] w fun e w' => e = .returned (.bool r) ∧ Below w.heap.size w w' := by
  have hu23 := Tryd.underlying23
  have HB := Aside0.mk (Below.refl w.heap.size w)
  have H : ((Go.Proofs.YtpnofnmecjagcaaDoor.Ext.url_Parse.f a0).bind fun bt183 => ((Go.Proofs.YtpnofnmecjagcaaDoor.Ext.url_Parse.f a1).bind fun bt191 => (if bt183.2.2.2.2.2.2 = 0 then (decorumlaw05_UrlKeys.j0 k (bt191.2.2.2.2.2.2 != 0) bt183.1 bt183.2.1 bt183.2.2.1 bt183.2.2.2.1 bt183.2.2.2.2.1 bt183.2.2.2.2.2.1 bt191.1 bt191.2.1 bt191.2.2.1 bt191.2.2.2.1 bt191.2.2.2.2.1 bt191.2.2.2.2.2.1) else (decorumlaw05_UrlKeys.j0 k true bt183.1 bt183.2.1 bt183.2.2.1 bt183.2.2.2.1 bt183.2.2.2.2.1 bt183.2.2.2.2.2.1 bt191.1 bt191.2.1 bt191.2.2.1 bt191.2.2.2.1 bt191.2.2.2.2.1 bt191.2.2.2.2.2.1)))) = some r := h
  clear h
  replace H := Option.bind_eq_some_iff.mp H
  obtain ⟨⟨t183, t184, t185, t186, t187, t188, t189⟩, A30, H⟩ := H
  replace H : ((Go.Proofs.YtpnofnmecjagcaaDoor.Ext.url_Parse.f a1).bind fun bt191 => (if t189 = 0 then (decorumlaw05_UrlKeys.j0 k (bt191.2.2.2.2.2.2 != 0) t183 t184 t185 t186 t187 t188 bt191.1 bt191.2.1 bt191.2.2.1 bt191.2.2.2.1 bt191.2.2.2.2.1 bt191.2.2.2.2.2.1) else (decorumlaw05_UrlKeys.j0 k true t183 t184 t185 t186 t187 t188 bt191.1 bt191.2.1 bt191.2.2.1 bt191.2.2.2.1 bt191.2.2.2.2.1 bt191.2.2.2.2.2.1))) = some r := H
  have A3 := Aside0.mk A30
  clear A30
  replace H := Option.bind_eq_some_iff.mp H
  obtain ⟨⟨t191, t192, t193, t194, t195, t196, t197⟩, A40, H⟩ := H
  replace H : (if t189 = 0 then (decorumlaw05_UrlKeys.j0 k (t197 != 0) t183 t184 t185 t186 t187 t188 t191 t192 t193 t194 t195 t196) else (decorumlaw05_UrlKeys.j0 k true t183 t184 t185 t186 t187 t188 t191 t192 t193 t194 t195 t196)) = some r := H
  have A4 := Aside0.mk A40
  clear A40
  have HC5 := Aside0.mk H
  clear H
  go_enter Tryd.func6, Tryd.ntmps6
  go_upto_region 3 with (first | ((with_reducible refine gate_callee (f := 15) rfl ?_); refine goesL_ (some 12) rfl rfl Tryd.func15 (by kernel_rfl) rfl #[.string a0] rfl (by (try simp only [List.map_toArray, List.map_cons, List.map_nil]); first | done | rfl | (simp only [List.length_drop, List.length_take]; rfl)) ?_; (with_reducible refine (Go.Proofs.YtpnofnmecjagcaaDoor.Ext.url_Parse.calls a0 t183 t184 t185 t186 t187 t188 t189 _ ?side1 A3.out).mono ?_); (case side1 => exact Gl.below hG (by repeat (first | (with_reducible first | exact HB.out | apply below_alloc | apply pw_below_drewN | apply below_drew1) | exact HB.out))); rintro e w6 ⟨rfl, hb⟩; refine ⟨_, rfl, ?_⟩; have n0_ := Aside0.mk (below_step (by repeat (first | (with_reducible first | exact HB.out | apply below_alloc | apply pw_below_drewN | apply below_drew1) | exact HB.out)) hb); clear HB; have HB := n0_; clear n0_; (try clear hb); (try clear hb2); (try clear hk); (try clear hi)) | ((with_reducible refine gate_dst (N := 5) rfl ?_); refine box_event ?hg (N := 5) ?hd (cs := #[.string (⟨#[]⟩ : ByteArray), .string (⟨#[]⟩ : ByteArray), .int .i64 0, .string (⟨#[]⟩ : ByteArray), .string (⟨#[]⟩ : ByteArray), .bool false]) (t := 23) ?hr ?_; (case hd => rfl); (case hg => rfl); (case hr => first | (go_simp; done) | (go_simp; rfl)); intro gb190 hg w7 hbox hb; have n0_ := Aside0.mk (below_step (by repeat (first | (with_reducible first | exact HB.out | apply below_alloc | apply pw_below_drewN | apply below_drew1) | exact HB.out)) hb); have n1_ := Aside0.mk (hbox); have n2_ := Aside0.mk ((by rw [hg]; exact (below_size (by repeat (first | (with_reducible first | exact HB.out | apply below_alloc | apply pw_below_drewN | apply below_drew1) | exact HB.out))) : w.heap.size ≤ gb190)); have n3_ := Aside0.mk ((by rw [hg]; exact (below_size (by repeat (first | (with_reducible first | exact HB.out | apply below_alloc | apply pw_below_drewN | apply below_drew1) | exact HB.out))) : w.heap.size ≤ gb190)); clear HB; have HB := n0_; have BK190 := n1_; have GW190 := n2_; have GE190 := n3_; clear n0_ n1_ n2_ n3_; clear hb hbox hg; have hcz8_0 : w7.cell? ⟨gb190, 0, none⟩ = some (.string (⟨#[]⟩ : ByteArray)) := (blk_cell BK190.out 0).trans rfl; have hcz8_1 : w7.cell? ⟨gb190, 1, none⟩ = some (.string (⟨#[]⟩ : ByteArray)) := (blk_cell BK190.out 1).trans rfl; have hcz8_2 : w7.cell? ⟨gb190, 2, none⟩ = some (.int .i64 0) := (blk_cell BK190.out 2).trans rfl; have hcz8_3 : w7.cell? ⟨gb190, 3, none⟩ = some (.string (⟨#[]⟩ : ByteArray)) := (blk_cell BK190.out 3).trans rfl; have hcz8_4 : w7.cell? ⟨gb190, 4, none⟩ = some (.string (⟨#[]⟩ : ByteArray)) := (blk_cell BK190.out 4).trans rfl; have hcz8_5 : w7.cell? ⟨gb190, 5, none⟩ = some (.bool false) := (blk_cell BK190.out 5).trans rfl; have hfz8_0 := blk_frozen BK190.out 0; have hfz8_1 := blk_frozen BK190.out 1; have hfz8_2 := blk_frozen BK190.out 2; have hfz8_3 := blk_frozen BK190.out 3; have hfz8_4 := blk_frozen BK190.out 4; have hfz8_5 := blk_frozen BK190.out 5) | ((with_reducible refine gate_callee (f := 15) rfl ?_); refine goesL_ (some 17) rfl rfl Tryd.func15 (by kernel_rfl) rfl #[.string a1] rfl (by (try simp only [List.map_toArray, List.map_cons, List.map_nil]); first | done | rfl | (simp only [List.length_drop, List.length_take]; rfl)) ?_; (with_reducible refine (Go.Proofs.YtpnofnmecjagcaaDoor.Ext.url_Parse.calls a1 t191 t192 t193 t194 t195 t196 t197 _ ?side1 A4.out).mono ?_); (case side1 => exact Gl.below hG (by repeat (first | (with_reducible first | exact HB.out | apply below_alloc | apply pw_below_drewN | apply below_drew1 | refine below_set ?_ GE190.out) | exact HB.out))); rintro e w9 ⟨rfl, hb⟩; refine ⟨_, rfl, ?_⟩; have n0_ := Aside0.mk (blk_below (g := gb190) (o := .cells #[.string t183, .string t184, .int .i64 t185, .string t186, .string t187, .bool t188] 23 (0, 0)) (by (with_reducible repeat (first | refine blk_drewN ?_ _ | refine blk_drew ?_ | refine blk_alloc ?_ _)); refine blk_put (cs := #[.string t183, .string t184, .int .i64 t185, .string t186, .string t187, .bool false]) ?_ 5 _ rfl; (with_reducible repeat (first | refine blk_drewN ?_ _ | refine blk_drew ?_ | refine blk_alloc ?_ _)); refine blk_put (cs := #[.string t183, .string t184, .int .i64 t185, .string t186, .string (⟨#[]⟩ : ByteArray), .bool false]) ?_ 4 _ rfl; (with_reducible repeat (first | refine blk_drewN ?_ _ | refine blk_drew ?_ | refine blk_alloc ?_ _)); refine blk_put (cs := #[.string t183, .string t184, .int .i64 t185, .string (⟨#[]⟩ : ByteArray), .string (⟨#[]⟩ : ByteArray), .bool false]) ?_ 3 _ rfl; (with_reducible repeat (first | refine blk_drewN ?_ _ | refine blk_drew ?_ | refine blk_alloc ?_ _)); refine blk_put (cs := #[.string t183, .string t184, .int .i64 0, .string (⟨#[]⟩ : ByteArray), .string (⟨#[]⟩ : ByteArray), .bool false]) ?_ 2 _ rfl; (with_reducible repeat (first | refine blk_drewN ?_ _ | refine blk_drew ?_ | refine blk_alloc ?_ _)); refine blk_put (cs := #[.string t183, .string (⟨#[]⟩ : ByteArray), .int .i64 0, .string (⟨#[]⟩ : ByteArray), .string (⟨#[]⟩ : ByteArray), .bool false]) ?_ 1 _ rfl; (with_reducible repeat (first | refine blk_drewN ?_ _ | refine blk_drew ?_ | refine blk_alloc ?_ _)); refine blk_put (cs := #[.string (⟨#[]⟩ : ByteArray), .string (⟨#[]⟩ : ByteArray), .int .i64 0, .string (⟨#[]⟩ : ByteArray), .string (⟨#[]⟩ : ByteArray), .bool false]) ?_ 0 _ rfl; (with_reducible repeat (first | refine blk_drewN ?_ _ | refine blk_drew ?_ | refine blk_alloc ?_ _)); exact BK190.out) hb); have n1_ := Aside0.mk (below_step (by repeat (first | (with_reducible first | exact HB.out | apply below_alloc | apply pw_below_drewN | apply below_drew1 | refine below_set ?_ GE190.out) | exact HB.out)) hb); clear BK190; clear HB; have BK190 := n0_; have HB := n1_; clear n0_ n1_; (try clear hb); (try clear hb2); (try clear hk); (try clear hi)) | ((with_reducible refine gate_dst (N := 7) rfl ?_); refine box_event ?hg (N := 7) ?hd (cs := #[.string (⟨#[]⟩ : ByteArray), .string (⟨#[]⟩ : ByteArray), .int .i64 0, .string (⟨#[]⟩ : ByteArray), .string (⟨#[]⟩ : ByteArray), .bool false]) (t := 23) ?hr ?_; (case hd => rfl); (case hg => rfl); (case hr => first | (go_simp; done) | (go_simp; rfl)); intro gb198 hg w10 hbox hb; have n0_ := Aside0.mk (blk_below (g := gb190) (o := .cells #[.string t183, .string t184, .int .i64 t185, .string t186, .string t187, .bool t188] 23 (0, 0)) (by (with_reducible repeat (first | refine blk_drewN ?_ _ | refine blk_drew ?_ | refine blk_alloc ?_ _)); exact BK190.out) hb); have n1_ := Aside0.mk (below_step (by repeat (first | (with_reducible first | exact HB.out | apply below_alloc | apply pw_below_drewN | apply below_drew1 | refine below_set ?_ GE190.out) | exact HB.out)) hb); have n2_ := Aside0.mk (hbox); have n3_ := Aside0.mk ((by rw [hg]; exact (below_size (by repeat (first | (with_reducible first | exact HB.out | apply below_alloc | apply pw_below_drewN | apply below_drew1 | refine below_set ?_ GE190.out) | exact HB.out))) : w.heap.size ≤ gb198)); have n4_ := Aside0.mk ((by rw [hg]; exact (below_size (by repeat (first | (with_reducible first | exact HB.out | apply below_alloc | apply pw_below_drewN | apply below_drew1 | refine below_set ?_ GE190.out) | exact HB.out))) : w.heap.size ≤ gb198)); have n5_ := Aside0.mk ((by rw [hg]; exact Nat.ne_of_lt (blk_lt (g := gb190) (o := .cells #[.string t183, .string t184, .int .i64 t185, .string t186, .string t187, .bool t188] 23 (0, 0)) (by (with_reducible repeat (first | refine blk_drewN ?_ _ | refine blk_drew ?_ | refine blk_alloc ?_ _)); exact BK190.out)) : gb190 ≠ gb198)); have n6_ := Aside0.mk ((by rw [hg]; exact Nat.ne_of_gt (blk_lt (g := gb190) (o := .cells #[.string t183, .string t184, .int .i64 t185, .string t186, .string t187, .bool t188] 23 (0, 0)) (by (with_reducible repeat (first | refine blk_drewN ?_ _ | refine blk_drew ?_ | refine blk_alloc ?_ _)); exact BK190.out)) : gb198 ≠ gb190)); clear BK190; clear HB; have BK190 := n0_; have HB := n1_; have BK198 := n2_; have GW198 := n3_; have GE198 := n4_; have NB190_198 := n5_; have NB198_190 := n6_; clear n0_ n1_ n2_ n3_ n4_ n5_ n6_; clear hb hbox hg; have hnb11 := NB198_190.out; have hnc11 := NB190_198.out; have hcz12_0 : w10.cell? ⟨gb198, 0, none⟩ = some (.string (⟨#[]⟩ : ByteArray)) := (blk_cell BK198.out 0).trans rfl; have hcz12_1 : w10.cell? ⟨gb198, 1, none⟩ = some (.string (⟨#[]⟩ : ByteArray)) := (blk_cell BK198.out 1).trans rfl; have hcz12_2 : w10.cell? ⟨gb198, 2, none⟩ = some (.int .i64 0) := (blk_cell BK198.out 2).trans rfl; have hcz12_3 : w10.cell? ⟨gb198, 3, none⟩ = some (.string (⟨#[]⟩ : ByteArray)) := (blk_cell BK198.out 3).trans rfl; have hcz12_4 : w10.cell? ⟨gb198, 4, none⟩ = some (.string (⟨#[]⟩ : ByteArray)) := (blk_cell BK198.out 4).trans rfl; have hcz12_5 : w10.cell? ⟨gb198, 5, none⟩ = some (.bool false) := (blk_cell BK198.out 5).trans rfl; have hfz12_0 := blk_frozen BK198.out 0; have hfz12_1 := blk_frozen BK198.out 1; have hfz12_2 := blk_frozen BK198.out 2; have hfz12_3 := blk_frozen BK198.out 3; have hfz12_4 := blk_frozen BK198.out 4; have hfz12_5 := blk_frozen BK198.out 5))
  (try simp only [Act.put, List.setIfInBounds_toArray, List.set_cons_zero, List.set_cons_succ])
  go_cut [25] (fun v25 wc => ∃ (kq : Nat) (x25_4 : Bool), v25 = .bool x25_4 ∧ Aside0 (decorumlaw05_UrlKeys.j0 kq x25_4 t183 t184 t185 t186 t187 t188 t191 t192 t193 t194 t195 t196 = some r) ∧ Aside0 (kq ≤ k) ∧ Aside0 (wc.heap[gb190]? = some (.cells #[.string t183, .string t184, .int .i64 t185, .string t186, .string t187, .bool t188] 23 (0, 0))) ∧ Aside0 (wc.heap[gb198]? = some (.cells #[.string t191, .string t192, .int .i64 t193, .string t194, .string t195, .bool t196] 23 (0, 0))) ∧ Aside0 (Below w.heap.size w wc))
  case first =>
    have H := HC5.out
    clear HC5
    by_cases c13 : t189 = 0
    · rw [if_pos c13] at H
      have c13b0 : (t189 == 0) = true := beq_iff_eq.mpr c13
      have c13b1 : (t189 != 0) = false := bne_eq_false_iff_eq.mpr c13
      clear c13
      (first | rw [c13b0] | (simp only [i64_w, i32_w]; rw [c13b0]) | skip)
      have H' := Aside0.mk H
      clear H
      go_wp2
      go_meet
      case rel => exact ⟨_, ((t197 != 0)), (by first | rfl | (simp; done) | (simp [*]; done)), H', ⟨by first | omega | exact Nat.le_refl _⟩, ⟨by (with_reducible repeat (first | refine blk_drewN ?_ _ | refine blk_drew ?_ | refine blk_alloc ?_ _)); refine blk_far ?_ NB190_198.out _; (with_reducible repeat (first | refine blk_drewN ?_ _ | refine blk_drew ?_ | refine blk_alloc ?_ _)); refine blk_far ?_ NB190_198.out _; (with_reducible repeat (first | refine blk_drewN ?_ _ | refine blk_drew ?_ | refine blk_alloc ?_ _)); refine blk_far ?_ NB190_198.out _; (with_reducible repeat (first | refine blk_drewN ?_ _ | refine blk_drew ?_ | refine blk_alloc ?_ _)); refine blk_far ?_ NB190_198.out _; (with_reducible repeat (first | refine blk_drewN ?_ _ | refine blk_drew ?_ | refine blk_alloc ?_ _)); refine blk_far ?_ NB190_198.out _; (with_reducible repeat (first | refine blk_drewN ?_ _ | refine blk_drew ?_ | refine blk_alloc ?_ _)); refine blk_far ?_ NB190_198.out _; (with_reducible repeat (first | refine blk_drewN ?_ _ | refine blk_drew ?_ | refine blk_alloc ?_ _)); exact BK190.out⟩, ⟨by (with_reducible repeat (first | refine blk_drewN ?_ _ | refine blk_drew ?_ | refine blk_alloc ?_ _)); refine blk_put (cs := #[.string t191, .string t192, .int .i64 t193, .string t194, .string t195, .bool false]) ?_ 5 _ rfl; (with_reducible repeat (first | refine blk_drewN ?_ _ | refine blk_drew ?_ | refine blk_alloc ?_ _)); refine blk_put (cs := #[.string t191, .string t192, .int .i64 t193, .string t194, .string (⟨#[]⟩ : ByteArray), .bool false]) ?_ 4 _ rfl; (with_reducible repeat (first | refine blk_drewN ?_ _ | refine blk_drew ?_ | refine blk_alloc ?_ _)); refine blk_put (cs := #[.string t191, .string t192, .int .i64 t193, .string (⟨#[]⟩ : ByteArray), .string (⟨#[]⟩ : ByteArray), .bool false]) ?_ 3 _ rfl; (with_reducible repeat (first | refine blk_drewN ?_ _ | refine blk_drew ?_ | refine blk_alloc ?_ _)); refine blk_put (cs := #[.string t191, .string t192, .int .i64 0, .string (⟨#[]⟩ : ByteArray), .string (⟨#[]⟩ : ByteArray), .bool false]) ?_ 2 _ rfl; (with_reducible repeat (first | refine blk_drewN ?_ _ | refine blk_drew ?_ | refine blk_alloc ?_ _)); refine blk_put (cs := #[.string t191, .string (⟨#[]⟩ : ByteArray), .int .i64 0, .string (⟨#[]⟩ : ByteArray), .string (⟨#[]⟩ : ByteArray), .bool false]) ?_ 1 _ rfl; (with_reducible repeat (first | refine blk_drewN ?_ _ | refine blk_drew ?_ | refine blk_alloc ?_ _)); refine blk_put (cs := #[.string (⟨#[]⟩ : ByteArray), .string (⟨#[]⟩ : ByteArray), .int .i64 0, .string (⟨#[]⟩ : ByteArray), .string (⟨#[]⟩ : ByteArray), .bool false]) ?_ 0 _ rfl; (with_reducible repeat (first | refine blk_drewN ?_ _ | refine blk_drew ?_ | refine blk_alloc ?_ _)); exact BK198.out⟩, ⟨by repeat (first | (with_reducible first | exact HB.out | apply below_alloc | apply pw_below_drewN | apply below_drew1 | refine below_set ?_ GE190.out | refine below_set ?_ GE198.out) | exact HB.out)⟩⟩
    · rw [if_neg c13] at H
      have c13b0 : (t189 == 0) = false := beq_eq_false_iff_ne.mpr c13
      have c13b1 : (t189 != 0) = true := bne_iff_ne.mpr c13
      (first | rw [c13b0] | (simp only [i64_w, i32_w]; rw [c13b0]) | skip)
      have H' := Aside0.mk H
      clear H
      go_wp2
      go_meet
      case rel => exact ⟨_, (true), (by first | rfl | (simp; done) | (simp [*]; done)), H', ⟨by first | omega | exact Nat.le_refl _⟩, ⟨by (with_reducible repeat (first | refine blk_drewN ?_ _ | refine blk_drew ?_ | refine blk_alloc ?_ _)); refine blk_far ?_ NB190_198.out _; (with_reducible repeat (first | refine blk_drewN ?_ _ | refine blk_drew ?_ | refine blk_alloc ?_ _)); refine blk_far ?_ NB190_198.out _; (with_reducible repeat (first | refine blk_drewN ?_ _ | refine blk_drew ?_ | refine blk_alloc ?_ _)); refine blk_far ?_ NB190_198.out _; (with_reducible repeat (first | refine blk_drewN ?_ _ | refine blk_drew ?_ | refine blk_alloc ?_ _)); refine blk_far ?_ NB190_198.out _; (with_reducible repeat (first | refine blk_drewN ?_ _ | refine blk_drew ?_ | refine blk_alloc ?_ _)); refine blk_far ?_ NB190_198.out _; (with_reducible repeat (first | refine blk_drewN ?_ _ | refine blk_drew ?_ | refine blk_alloc ?_ _)); refine blk_far ?_ NB190_198.out _; (with_reducible repeat (first | refine blk_drewN ?_ _ | refine blk_drew ?_ | refine blk_alloc ?_ _)); exact BK190.out⟩, ⟨by (with_reducible repeat (first | refine blk_drewN ?_ _ | refine blk_drew ?_ | refine blk_alloc ?_ _)); refine blk_put (cs := #[.string t191, .string t192, .int .i64 t193, .string t194, .string t195, .bool false]) ?_ 5 _ rfl; (with_reducible repeat (first | refine blk_drewN ?_ _ | refine blk_drew ?_ | refine blk_alloc ?_ _)); refine blk_put (cs := #[.string t191, .string t192, .int .i64 t193, .string t194, .string (⟨#[]⟩ : ByteArray), .bool false]) ?_ 4 _ rfl; (with_reducible repeat (first | refine blk_drewN ?_ _ | refine blk_drew ?_ | refine blk_alloc ?_ _)); refine blk_put (cs := #[.string t191, .string t192, .int .i64 t193, .string (⟨#[]⟩ : ByteArray), .string (⟨#[]⟩ : ByteArray), .bool false]) ?_ 3 _ rfl; (with_reducible repeat (first | refine blk_drewN ?_ _ | refine blk_drew ?_ | refine blk_alloc ?_ _)); refine blk_put (cs := #[.string t191, .string t192, .int .i64 0, .string (⟨#[]⟩ : ByteArray), .string (⟨#[]⟩ : ByteArray), .bool false]) ?_ 2 _ rfl; (with_reducible repeat (first | refine blk_drewN ?_ _ | refine blk_drew ?_ | refine blk_alloc ?_ _)); refine blk_put (cs := #[.string t191, .string (⟨#[]⟩ : ByteArray), .int .i64 0, .string (⟨#[]⟩ : ByteArray), .string (⟨#[]⟩ : ByteArray), .bool false]) ?_ 1 _ rfl; (with_reducible repeat (first | refine blk_drewN ?_ _ | refine blk_drew ?_ | refine blk_alloc ?_ _)); refine blk_put (cs := #[.string (⟨#[]⟩ : ByteArray), .string (⟨#[]⟩ : ByteArray), .int .i64 0, .string (⟨#[]⟩ : ByteArray), .string (⟨#[]⟩ : ByteArray), .bool false]) ?_ 0 _ rfl; (with_reducible repeat (first | refine blk_drewN ?_ _ | refine blk_drew ?_ | refine blk_alloc ?_ _)); exact BK198.out⟩, ⟨by repeat (first | (with_reducible first | exact HB.out | apply below_alloc | apply pw_below_drewN | apply below_drew1 | refine below_set ?_ GE190.out | refine below_set ?_ GE198.out) | exact HB.out)⟩⟩
  case rest =>
    clear HC5
    try clear c1
    try clear p2
    try clear c6
    try clear c11
    try clear c13
    try clear c13b0
    try clear c13b1
    try clear hcz12_0
    try clear hcz12_1
    try clear hcz12_2
    try clear hcz12_3
    try clear hcz12_4
    try clear hcz12_5
    try clear hcz8_0
    try clear hcz8_1
    try clear hcz8_2
    try clear hcz8_3
    try clear hcz8_4
    try clear hcz8_5
    try clear hfz12_0
    try clear hfz12_1
    try clear hfz12_2
    try clear hfz12_3
    try clear hfz12_4
    try clear hfz12_5
    try clear hfz8_0
    try clear hfz8_1
    try clear hfz8_2
    try clear hfz8_3
    try clear hfz8_4
    try clear hfz8_5
    obtain ⟨kq, x25_4, rfl, HA, HJ4, BK190, BK198, HB⟩ := hcut
    cases kq with
    | zero => exact absurd HA.out (by simp [decorumlaw05_UrlKeys.j0])
    | succ kj4 =>
      have H := HA.out
      clear HA
      simp only [decorumlaw05_UrlKeys.j0] at H
      by_cases c14 : x25_4 = true
      · subst c14
        have H1 : ((decorumlaw05_awake.f).bind fun t199 => (some t199)) = some r := by rw [if_pos rfl] at H; exact H
        clear H
        have H := H1
        clear H1
        replace H := Option.bind_eq_some_iff.mp H
        obtain ⟨t199, A150, H⟩ := H
        replace H : (some t199) = some r := H
        have A15 := Aside0.mk A150
        clear A150
        obtain rfl := Option.some.inj H
        go_wp2_with (first | ((with_reducible refine gate_callee (f := 7) rfl ?_); refine goesL_ (some 26) rfl rfl Tryd.func7 (by kernel_rfl) rfl #[] rfl (by (try simp only [List.map_toArray, List.map_cons, List.map_nil]); first | done | rfl | (simp only [List.length_drop, List.length_take]; rfl)) ?_; (with_reducible refine (decorumlaw05_awake.calls  t199 _ ?side1 A15.out).mono ?_); (case side1 => exact Gl.below hG (by repeat (first | (with_reducible first | exact HB.out | apply below_alloc | apply pw_below_drewN | apply below_drew1 | refine below_set ?_ GE190.out | refine below_set ?_ GE198.out) | exact HB.out))); rintro e w16 ⟨rfl, hb⟩; refine ⟨_, rfl, ?_⟩; have n0_ := Aside0.mk (blk_below (g := gb190) (o := .cells #[.string t183, .string t184, .int .i64 t185, .string t186, .string t187, .bool t188] 23 (0, 0)) (by (with_reducible repeat (first | refine blk_drewN ?_ _ | refine blk_drew ?_ | refine blk_alloc ?_ _)); exact BK190.out) hb); have n1_ := Aside0.mk (blk_below (g := gb198) (o := .cells #[.string t191, .string t192, .int .i64 t193, .string t194, .string t195, .bool t196] 23 (0, 0)) (by (with_reducible repeat (first | refine blk_drewN ?_ _ | refine blk_drew ?_ | refine blk_alloc ?_ _)); exact BK198.out) hb); have n2_ := Aside0.mk (below_step (by repeat (first | (with_reducible first | exact HB.out | apply below_alloc | apply pw_below_drewN | apply below_drew1 | refine below_set ?_ GE190.out | refine below_set ?_ GE198.out) | exact HB.out)) hb); clear BK190; clear BK198; clear HB; have BK190 := n0_; have BK198 := n1_; have HB := n2_; clear n0_ n1_ n2_; (try clear hb); (try clear hb2); (try clear hk); (try clear hi)))
        go_ret
        exact ⟨by first | rfl | (simp [errW_none, errW_some] <;> rfl) | (simp [*, errW_none, errW_some] <;> rfl), by repeat (first | (with_reducible first | exact HB.out | apply below_alloc | apply pw_below_drewN | apply below_drew1 | refine below_set ?_ GE190.out | refine below_set ?_ GE198.out) | exact HB.out)⟩
      · replace c14 := Bool.eq_false_iff.mpr c14
        subst c14
        have H1 : ((decorumlaw05_awake.f).bind fun t201 => (if t201 = true then ((Go.Proofs.YtpnofnmecjagcaaDoor.XB.url_Key.f t183 t184 t185 t194 t195 t196).bind fun t202 => ((Go.Proofs.YtpnofnmecjagcaaDoor.XB.url_Key.f t183 t184 t185 t186 t187 t188).bind fun t203 => (if t202.toList = t203.toList then ((Go.Proofs.YtpnofnmecjagcaaDoor.XB.url_Target.f t183 t184 t185 t194 t195 t196).bind fun t204 => ((Go.Proofs.YtpnofnmecjagcaaDoor.XB.url_Target.f t191 t192 t193 t194 t195 t196).bind fun t205 => (if t204.toList = t205.toList then ((Go.Proofs.YtpnofnmecjagcaaDoor.XB.url_String.f t183 t184 t185 t186 t187 t188).bind fun t206 => ((Go.Proofs.YtpnofnmecjagcaaDoor.XB.url_String.f t191 t192 t193 t194 t195 t196).bind fun t207 => (some ((t206.toList == t207.toList) == (t183.toList == t191.toList && (t184.toList == t192.toList && (t185 == t193 && (t186.toList == t194.toList && (t187.toList == t195.toList && (t188 == t196)))))))))) else (some false)))) else (some false)))) else (some false))) = some r := by rw [if_neg (show ¬ (false = true) by decide)] at H; exact H
        clear H
        have H := H1
        clear H1
        replace H := Option.bind_eq_some_iff.mp H
        obtain ⟨t201, A170, H⟩ := H
        replace H : (if t201 = true then ((Go.Proofs.YtpnofnmecjagcaaDoor.XB.url_Key.f t183 t184 t185 t194 t195 t196).bind fun t202 => ((Go.Proofs.YtpnofnmecjagcaaDoor.XB.url_Key.f t183 t184 t185 t186 t187 t188).bind fun t203 => (if t202.toList = t203.toList then ((Go.Proofs.YtpnofnmecjagcaaDoor.XB.url_Target.f t183 t184 t185 t194 t195 t196).bind fun t204 => ((Go.Proofs.YtpnofnmecjagcaaDoor.XB.url_Target.f t191 t192 t193 t194 t195 t196).bind fun t205 => (if t204.toList = t205.toList then ((Go.Proofs.YtpnofnmecjagcaaDoor.XB.url_String.f t183 t184 t185 t186 t187 t188).bind fun t206 => ((Go.Proofs.YtpnofnmecjagcaaDoor.XB.url_String.f t191 t192 t193 t194 t195 t196).bind fun t207 => (some ((t206.toList == t207.toList) == (t183.toList == t191.toList && (t184.toList == t192.toList && (t185 == t193 && (t186.toList == t194.toList && (t187.toList == t195.toList && (t188 == t196)))))))))) else (some false)))) else (some false)))) else (some false)) = some r := H
        have A17 := Aside0.mk A170
        clear A170
        by_cases c18 : t201 = true
        · subst c18
          have H1 : ((Go.Proofs.YtpnofnmecjagcaaDoor.XB.url_Key.f t183 t184 t185 t194 t195 t196).bind fun t202 => ((Go.Proofs.YtpnofnmecjagcaaDoor.XB.url_Key.f t183 t184 t185 t186 t187 t188).bind fun t203 => (if t202.toList = t203.toList then ((Go.Proofs.YtpnofnmecjagcaaDoor.XB.url_Target.f t183 t184 t185 t194 t195 t196).bind fun t204 => ((Go.Proofs.YtpnofnmecjagcaaDoor.XB.url_Target.f t191 t192 t193 t194 t195 t196).bind fun t205 => (if t204.toList = t205.toList then ((Go.Proofs.YtpnofnmecjagcaaDoor.XB.url_String.f t183 t184 t185 t186 t187 t188).bind fun t206 => ((Go.Proofs.YtpnofnmecjagcaaDoor.XB.url_String.f t191 t192 t193 t194 t195 t196).bind fun t207 => (some ((t206.toList == t207.toList) == (t183.toList == t191.toList && (t184.toList == t192.toList && (t185 == t193 && (t186.toList == t194.toList && (t187.toList == t195.toList && (t188 == t196)))))))))) else (some false)))) else (some false)))) = some r := by rw [if_pos rfl] at H; exact H
          clear H
          have H := H1
          clear H1
          replace H := Option.bind_eq_some_iff.mp H
          obtain ⟨t202, A190, H⟩ := H
          replace H : ((Go.Proofs.YtpnofnmecjagcaaDoor.XB.url_Key.f t183 t184 t185 t186 t187 t188).bind fun t203 => (if t202.toList = t203.toList then ((Go.Proofs.YtpnofnmecjagcaaDoor.XB.url_Target.f t183 t184 t185 t194 t195 t196).bind fun t204 => ((Go.Proofs.YtpnofnmecjagcaaDoor.XB.url_Target.f t191 t192 t193 t194 t195 t196).bind fun t205 => (if t204.toList = t205.toList then ((Go.Proofs.YtpnofnmecjagcaaDoor.XB.url_String.f t183 t184 t185 t186 t187 t188).bind fun t206 => ((Go.Proofs.YtpnofnmecjagcaaDoor.XB.url_String.f t191 t192 t193 t194 t195 t196).bind fun t207 => (some ((t206.toList == t207.toList) == (t183.toList == t191.toList && (t184.toList == t192.toList && (t185 == t193 && (t186.toList == t194.toList && (t187.toList == t195.toList && (t188 == t196)))))))))) else (some false)))) else (some false))) = some r := H
          have A19 := Aside0.mk A190
          clear A190
          replace H := Option.bind_eq_some_iff.mp H
          obtain ⟨t203, A200, H⟩ := H
          replace H : (if t202.toList = t203.toList then ((Go.Proofs.YtpnofnmecjagcaaDoor.XB.url_Target.f t183 t184 t185 t194 t195 t196).bind fun t204 => ((Go.Proofs.YtpnofnmecjagcaaDoor.XB.url_Target.f t191 t192 t193 t194 t195 t196).bind fun t205 => (if t204.toList = t205.toList then ((Go.Proofs.YtpnofnmecjagcaaDoor.XB.url_String.f t183 t184 t185 t186 t187 t188).bind fun t206 => ((Go.Proofs.YtpnofnmecjagcaaDoor.XB.url_String.f t191 t192 t193 t194 t195 t196).bind fun t207 => (some ((t206.toList == t207.toList) == (t183.toList == t191.toList && (t184.toList == t192.toList && (t185 == t193 && (t186.toList == t194.toList && (t187.toList == t195.toList && (t188 == t196)))))))))) else (some false)))) else (some false)) = some r := H
          have A20 := Aside0.mk A200
          clear A200
          by_cases c21 : t202.toList = t203.toList
          · rw [if_pos c21] at H
            have c21b0 : (t202.toList == t203.toList) = true := beq_iff_eq.mpr c21
            have c21b1 : (t202.toList != t203.toList) = false := bne_eq_false_iff_eq.mpr c21
            clear c21
            replace H := Option.bind_eq_some_iff.mp H
            obtain ⟨t204, A220, H⟩ := H
            replace H : ((Go.Proofs.YtpnofnmecjagcaaDoor.XB.url_Target.f t191 t192 t193 t194 t195 t196).bind fun t205 => (if t204.toList = t205.toList then ((Go.Proofs.YtpnofnmecjagcaaDoor.XB.url_String.f t183 t184 t185 t186 t187 t188).bind fun t206 => ((Go.Proofs.YtpnofnmecjagcaaDoor.XB.url_String.f t191 t192 t193 t194 t195 t196).bind fun t207 => (some ((t206.toList == t207.toList) == (t183.toList == t191.toList && (t184.toList == t192.toList && (t185 == t193 && (t186.toList == t194.toList && (t187.toList == t195.toList && (t188 == t196)))))))))) else (some false))) = some r := H
            have A22 := Aside0.mk A220
            clear A220
            replace H := Option.bind_eq_some_iff.mp H
            obtain ⟨t205, A230, H⟩ := H
            replace H : (if t204.toList = t205.toList then ((Go.Proofs.YtpnofnmecjagcaaDoor.XB.url_String.f t183 t184 t185 t186 t187 t188).bind fun t206 => ((Go.Proofs.YtpnofnmecjagcaaDoor.XB.url_String.f t191 t192 t193 t194 t195 t196).bind fun t207 => (some ((t206.toList == t207.toList) == (t183.toList == t191.toList && (t184.toList == t192.toList && (t185 == t193 && (t186.toList == t194.toList && (t187.toList == t195.toList && (t188 == t196)))))))))) else (some false)) = some r := H
            have A23 := Aside0.mk A230
            clear A230
            by_cases c24 : t204.toList = t205.toList
            · rw [if_pos c24] at H
              have c24b0 : (t204.toList == t205.toList) = true := beq_iff_eq.mpr c24
              have c24b1 : (t204.toList != t205.toList) = false := bne_eq_false_iff_eq.mpr c24
              clear c24
              replace H := Option.bind_eq_some_iff.mp H
              obtain ⟨t206, A250, H⟩ := H
              replace H : ((Go.Proofs.YtpnofnmecjagcaaDoor.XB.url_String.f t191 t192 t193 t194 t195 t196).bind fun t207 => (some ((t206.toList == t207.toList) == (t183.toList == t191.toList && (t184.toList == t192.toList && (t185 == t193 && (t186.toList == t194.toList && (t187.toList == t195.toList && (t188 == t196))))))))) = some r := H
              have A25 := Aside0.mk A250
              clear A250
              replace H := Option.bind_eq_some_iff.mp H
              obtain ⟨t207, A260, H⟩ := H
              replace H : (some ((t206.toList == t207.toList) == (t183.toList == t191.toList && (t184.toList == t192.toList && (t185 == t193 && (t186.toList == t194.toList && (t187.toList == t195.toList && (t188 == t196)))))))) = some r := H
              have A26 := Aside0.mk A260
              clear A260
              obtain rfl := Option.some.inj H
              have hnb27 := NB190_198.out
              have hnc27 := NB198_190.out
              have hcz28_0 : wc.cell? ⟨gb190, 0, none⟩ = some (.string t183) := (blk_cell BK190.out 0).trans rfl
              have hcz28_1 : wc.cell? ⟨gb190, 1, none⟩ = some (.string t184) := (blk_cell BK190.out 1).trans rfl
              have hcz28_2 : wc.cell? ⟨gb190, 2, none⟩ = some (.int .i64 t185) := (blk_cell BK190.out 2).trans rfl
              have hcz28_3 : wc.cell? ⟨gb190, 3, none⟩ = some (.string t186) := (blk_cell BK190.out 3).trans rfl
              have hcz28_4 : wc.cell? ⟨gb190, 4, none⟩ = some (.string t187) := (blk_cell BK190.out 4).trans rfl
              have hcz28_5 : wc.cell? ⟨gb190, 5, none⟩ = some (.bool t188) := (blk_cell BK190.out 5).trans rfl
              have hfz28_0 := blk_frozen BK190.out 0
              have hfz28_1 := blk_frozen BK190.out 1
              have hfz28_2 := blk_frozen BK190.out 2
              have hfz28_3 := blk_frozen BK190.out 3
              have hfz28_4 := blk_frozen BK190.out 4
              have hfz28_5 := blk_frozen BK190.out 5
              try go_wp2_with (first | ((with_reducible refine gate_dst (N := 9) rfl ?_); refine box_event ?hg (N := 9) ?hd (cs := #[.string (⟨#[]⟩ : ByteArray), .string (⟨#[]⟩ : ByteArray), .int .i64 0, .string (⟨#[]⟩ : ByteArray), .string (⟨#[]⟩ : ByteArray), .bool false]) (t := 23) ?hr ?_; (case hd => rfl); (case hg => rfl); (case hr => first | (go_simp; done) | (go_simp; rfl)); intro gb200 hg w29 hbox hb; have n0_ := Aside0.mk (blk_below (g := gb190) (o := .cells #[.string t183, .string t184, .int .i64 t185, .string t186, .string t187, .bool t188] 23 (0, 0)) (by (with_reducible repeat (first | refine blk_drewN ?_ _ | refine blk_drew ?_ | refine blk_alloc ?_ _)); exact BK190.out) hb); have n1_ := Aside0.mk (blk_below (g := gb198) (o := .cells #[.string t191, .string t192, .int .i64 t193, .string t194, .string t195, .bool t196] 23 (0, 0)) (by (with_reducible repeat (first | refine blk_drewN ?_ _ | refine blk_drew ?_ | refine blk_alloc ?_ _)); exact BK198.out) hb); have n2_ := Aside0.mk (below_step (by repeat (first | (with_reducible first | exact HB.out | apply below_alloc | apply pw_below_drewN | apply below_drew1 | refine below_set ?_ GE190.out | refine below_set ?_ GE198.out) | exact HB.out)) hb); have n3_ := Aside0.mk (hbox); have n4_ := Aside0.mk ((by rw [hg]; exact (below_size (by repeat (first | (with_reducible first | exact HB.out | apply below_alloc | apply pw_below_drewN | apply below_drew1 | refine below_set ?_ GE190.out | refine below_set ?_ GE198.out) | exact HB.out))) : w.heap.size ≤ gb200)); have n5_ := Aside0.mk ((by rw [hg]; exact (below_size (by repeat (first | (with_reducible first | exact HB.out | apply below_alloc | apply pw_below_drewN | apply below_drew1 | refine below_set ?_ GE190.out | refine below_set ?_ GE198.out) | exact HB.out))) : w.heap.size ≤ gb200)); have n6_ := Aside0.mk ((by rw [hg]; exact Nat.ne_of_lt (blk_lt (g := gb190) (o := .cells #[.string t183, .string t184, .int .i64 t185, .string t186, .string t187, .bool t188] 23 (0, 0)) (by (with_reducible repeat (first | refine blk_drewN ?_ _ | refine blk_drew ?_ | refine blk_alloc ?_ _)); exact BK190.out)) : gb190 ≠ gb200)); have n7_ := Aside0.mk ((by rw [hg]; exact Nat.ne_of_gt (blk_lt (g := gb190) (o := .cells #[.string t183, .string t184, .int .i64 t185, .string t186, .string t187, .bool t188] 23 (0, 0)) (by (with_reducible repeat (first | refine blk_drewN ?_ _ | refine blk_drew ?_ | refine blk_alloc ?_ _)); exact BK190.out)) : gb200 ≠ gb190)); have n8_ := Aside0.mk ((by rw [hg]; exact Nat.ne_of_lt (blk_lt (g := gb198) (o := .cells #[.string t191, .string t192, .int .i64 t193, .string t194, .string t195, .bool t196] 23 (0, 0)) (by (with_reducible repeat (first | refine blk_drewN ?_ _ | refine blk_drew ?_ | refine blk_alloc ?_ _)); exact BK198.out)) : gb198 ≠ gb200)); have n9_ := Aside0.mk ((by rw [hg]; exact Nat.ne_of_gt (blk_lt (g := gb198) (o := .cells #[.string t191, .string t192, .int .i64 t193, .string t194, .string t195, .bool t196] 23 (0, 0)) (by (with_reducible repeat (first | refine blk_drewN ?_ _ | refine blk_drew ?_ | refine blk_alloc ?_ _)); exact BK198.out)) : gb200 ≠ gb198)); clear BK190; clear BK198; clear HB; have BK190 := n0_; have BK198 := n1_; have HB := n2_; have BK200 := n3_; have GW200 := n4_; have GE200 := n5_; have NB190_200 := n6_; have NB200_190 := n7_; have NB198_200 := n8_; have NB200_198 := n9_; clear n0_ n1_ n2_ n3_ n4_ n5_ n6_ n7_ n8_ n9_; clear hb hbox hg; have hnb30 := NB200_190.out; have hnc30 := NB190_200.out; have hnb31 := NB200_198.out; have hnc31 := NB198_200.out; have hcz32_0 : w29.cell? ⟨gb200, 0, none⟩ = some (.string (⟨#[]⟩ : ByteArray)) := (blk_cell BK200.out 0).trans rfl; have hcz32_1 : w29.cell? ⟨gb200, 1, none⟩ = some (.string (⟨#[]⟩ : ByteArray)) := (blk_cell BK200.out 1).trans rfl; have hcz32_2 : w29.cell? ⟨gb200, 2, none⟩ = some (.int .i64 0) := (blk_cell BK200.out 2).trans rfl; have hcz32_3 : w29.cell? ⟨gb200, 3, none⟩ = some (.string (⟨#[]⟩ : ByteArray)) := (blk_cell BK200.out 3).trans rfl; have hcz32_4 : w29.cell? ⟨gb200, 4, none⟩ = some (.string (⟨#[]⟩ : ByteArray)) := (blk_cell BK200.out 4).trans rfl; have hcz32_5 : w29.cell? ⟨gb200, 5, none⟩ = some (.bool false) := (blk_cell BK200.out 5).trans rfl; have hfz32_0 := blk_frozen BK200.out 0; have hfz32_1 := blk_frozen BK200.out 1; have hfz32_2 := blk_frozen BK200.out 2; have hfz32_3 := blk_frozen BK200.out 3; have hfz32_4 := blk_frozen BK200.out 4; have hfz32_5 := blk_frozen BK200.out 5))
              have n0_ : Aside0 (((((((w29.setCell ⟨gb200, 0, none⟩ (.string t183)).setCell ⟨gb200, 1, none⟩ (.string t184)).setCell ⟨gb200, 2, none⟩ (.int .i64 t185)).setCell ⟨gb200, 3, none⟩ (.string t186)).setCell ⟨gb200, 4, none⟩ (.string t187)).setCell ⟨gb200, 5, none⟩ (.bool t188)).heap[gb190]? = some (.cells #[.string t183, .string t184, .int .i64 t185, .string t186, .string t187, .bool t188] 23 (0, 0))) := ⟨by (with_reducible repeat (first | refine blk_drewN ?_ _ | refine blk_drew ?_ | refine blk_alloc ?_ _)); refine blk_far ?_ NB190_200.out _; (with_reducible repeat (first | refine blk_drewN ?_ _ | refine blk_drew ?_ | refine blk_alloc ?_ _)); refine blk_far ?_ NB190_200.out _; (with_reducible repeat (first | refine blk_drewN ?_ _ | refine blk_drew ?_ | refine blk_alloc ?_ _)); refine blk_far ?_ NB190_200.out _; (with_reducible repeat (first | refine blk_drewN ?_ _ | refine blk_drew ?_ | refine blk_alloc ?_ _)); refine blk_far ?_ NB190_200.out _; (with_reducible repeat (first | refine blk_drewN ?_ _ | refine blk_drew ?_ | refine blk_alloc ?_ _)); refine blk_far ?_ NB190_200.out _; (with_reducible repeat (first | refine blk_drewN ?_ _ | refine blk_drew ?_ | refine blk_alloc ?_ _)); refine blk_far ?_ NB190_200.out _; (with_reducible repeat (first | refine blk_drewN ?_ _ | refine blk_drew ?_ | refine blk_alloc ?_ _)); exact BK190.out⟩
              have n1_ : Aside0 (((((((w29.setCell ⟨gb200, 0, none⟩ (.string t183)).setCell ⟨gb200, 1, none⟩ (.string t184)).setCell ⟨gb200, 2, none⟩ (.int .i64 t185)).setCell ⟨gb200, 3, none⟩ (.string t186)).setCell ⟨gb200, 4, none⟩ (.string t187)).setCell ⟨gb200, 5, none⟩ (.bool t188)).heap[gb198]? = some (.cells #[.string t191, .string t192, .int .i64 t193, .string t194, .string t195, .bool t196] 23 (0, 0))) := ⟨by (with_reducible repeat (first | refine blk_drewN ?_ _ | refine blk_drew ?_ | refine blk_alloc ?_ _)); refine blk_far ?_ NB198_200.out _; (with_reducible repeat (first | refine blk_drewN ?_ _ | refine blk_drew ?_ | refine blk_alloc ?_ _)); refine blk_far ?_ NB198_200.out _; (with_reducible repeat (first | refine blk_drewN ?_ _ | refine blk_drew ?_ | refine blk_alloc ?_ _)); refine blk_far ?_ NB198_200.out _; (with_reducible repeat (first | refine blk_drewN ?_ _ | refine blk_drew ?_ | refine blk_alloc ?_ _)); refine blk_far ?_ NB198_200.out _; (with_reducible repeat (first | refine blk_drewN ?_ _ | refine blk_drew ?_ | refine blk_alloc ?_ _)); refine blk_far ?_ NB198_200.out _; (with_reducible repeat (first | refine blk_drewN ?_ _ | refine blk_drew ?_ | refine blk_alloc ?_ _)); refine blk_far ?_ NB198_200.out _; (with_reducible repeat (first | refine blk_drewN ?_ _ | refine blk_drew ?_ | refine blk_alloc ?_ _)); exact BK198.out⟩
              have n2_ : Aside0 (((((((w29.setCell ⟨gb200, 0, none⟩ (.string t183)).setCell ⟨gb200, 1, none⟩ (.string t184)).setCell ⟨gb200, 2, none⟩ (.int .i64 t185)).setCell ⟨gb200, 3, none⟩ (.string t186)).setCell ⟨gb200, 4, none⟩ (.string t187)).setCell ⟨gb200, 5, none⟩ (.bool t188)).heap[gb200]? = some (.cells #[.string t183, .string t184, .int .i64 t185, .string t186, .string t187, .bool t188] 23 (0, 0))) := ⟨by (with_reducible repeat (first | refine blk_drewN ?_ _ | refine blk_drew ?_ | refine blk_alloc ?_ _)); refine blk_put (cs := #[.string t183, .string t184, .int .i64 t185, .string t186, .string t187, .bool false]) ?_ 5 _ rfl; (with_reducible repeat (first | refine blk_drewN ?_ _ | refine blk_drew ?_ | refine blk_alloc ?_ _)); refine blk_put (cs := #[.string t183, .string t184, .int .i64 t185, .string t186, .string (⟨#[]⟩ : ByteArray), .bool false]) ?_ 4 _ rfl; (with_reducible repeat (first | refine blk_drewN ?_ _ | refine blk_drew ?_ | refine blk_alloc ?_ _)); refine blk_put (cs := #[.string t183, .string t184, .int .i64 t185, .string (⟨#[]⟩ : ByteArray), .string (⟨#[]⟩ : ByteArray), .bool false]) ?_ 3 _ rfl; (with_reducible repeat (first | refine blk_drewN ?_ _ | refine blk_drew ?_ | refine blk_alloc ?_ _)); refine blk_put (cs := #[.string t183, .string t184, .int .i64 0, .string (⟨#[]⟩ : ByteArray), .string (⟨#[]⟩ : ByteArray), .bool false]) ?_ 2 _ rfl; (with_reducible repeat (first | refine blk_drewN ?_ _ | refine blk_drew ?_ | refine blk_alloc ?_ _)); refine blk_put (cs := #[.string t183, .string (⟨#[]⟩ : ByteArray), .int .i64 0, .string (⟨#[]⟩ : ByteArray), .string (⟨#[]⟩ : ByteArray), .bool false]) ?_ 1 _ rfl; (with_reducible repeat (first | refine blk_drewN ?_ _ | refine blk_drew ?_ | refine blk_alloc ?_ _)); refine blk_put (cs := #[.string (⟨#[]⟩ : ByteArray), .string (⟨#[]⟩ : ByteArray), .int .i64 0, .string (⟨#[]⟩ : ByteArray), .string (⟨#[]⟩ : ByteArray), .bool false]) ?_ 0 _ rfl; (with_reducible repeat (first | refine blk_drewN ?_ _ | refine blk_drew ?_ | refine blk_alloc ?_ _)); exact BK200.out⟩
              have n3_ : Aside0 (Below w.heap.size w ((((((w29.setCell ⟨gb200, 0, none⟩ (.string t183)).setCell ⟨gb200, 1, none⟩ (.string t184)).setCell ⟨gb200, 2, none⟩ (.int .i64 t185)).setCell ⟨gb200, 3, none⟩ (.string t186)).setCell ⟨gb200, 4, none⟩ (.string t187)).setCell ⟨gb200, 5, none⟩ (.bool t188))) := ⟨by repeat (first | (with_reducible first | exact HB.out | apply below_alloc | apply pw_below_drewN | apply below_drew1 | refine below_set ?_ GE190.out | refine below_set ?_ GE198.out | refine below_set ?_ GE200.out) | exact HB.out)⟩
              (try clear BK190)
              (try clear BK198)
              (try clear BK200)
              (try clear HB)
              generalize ((((((w29.setCell ⟨gb200, 0, none⟩ (.string t183)).setCell ⟨gb200, 1, none⟩ (.string t184)).setCell ⟨gb200, 2, none⟩ (.int .i64 t185)).setCell ⟨gb200, 3, none⟩ (.string t186)).setCell ⟨gb200, 4, none⟩ (.string t187)).setCell ⟨gb200, 5, none⟩ (.bool t188)) = w33 at n0_ n1_ n2_ n3_ ⊢
              have BK190 := n0_
              have BK198 := n1_
              have BK200 := n2_
              have HB := n3_
              clear n0_ n1_ n2_ n3_
              have n0_ := Aside0.mk (blk_drew BK190.out)
              have n1_ := Aside0.mk (blk_drew BK198.out)
              have n2_ := Aside0.mk (blk_drew BK200.out)
              have n3_ := Aside0.mk (below_drew1 HB.out)
              clear BK190
              clear BK198
              clear BK200
              clear HB
              have BK190 := n0_
              have BK198 := n1_
              have BK200 := n2_
              have HB := n3_
              clear n0_ n1_ n2_ n3_
              refine start_ (n := 12) (S := fun w' => w'.cell? ⟨gb198, 0, none⟩ = some (.string t191) ∧ w'.cell? ⟨gb198, 1, none⟩ = some (.string t192) ∧ w'.cell? ⟨gb198, 2, none⟩ = some (.int .i64 t193) ∧ w'.cell? ⟨gb198, 3, none⟩ = some (.string t194) ∧ w'.cell? ⟨gb198, 4, none⟩ = some (.string t195) ∧ w'.cell? ⟨gb198, 5, none⟩ = some (.bool t196)) (ds := []) #[false, false, false, false, false, false, false, false, false, false, false, false] (by kernel_rfl) rfl rfl ⟨(blk_cell BK198.out 0).trans rfl, (blk_cell BK198.out 1).trans rfl, (blk_cell BK198.out 2).trans rfl, (blk_cell BK198.out 3).trans rfl, (blk_cell BK198.out 4).trans rfl, (blk_cell BK198.out 5).trans rfl⟩ (fun hHeld => ?_); refine with_tabW decorumlaw05_UrlKeys.tab6 decorumlaw05_UrlKeys.bits6 (fun HT_ HW_ => ?_)
              generalize w33.drew = w34 at BK190 BK198 BK200 HB hHeld ⊢
              refine pure_ (i := 0) (N := some 28) (v := ?_) (a' := ?_) #[true, false, false, false, false, false, false, false, false, false, false, false] rfl rfl (any_of HT_.out (by kernel_rfl)) (fun _ _ _ h => h) (Or.inl ⟨by rfl, ?_⟩) ?_ ?_
              rotate_left
              · intro w'
                go_simp
                with_reducible rfl
              rotate_left
              · simp only [Act.put, List.setIfInBounds_toArray, List.set_cons_zero, List.set_cons_succ, i64_w, i32_w]
                rfl
              refine pure_ (i := 2) (N := some 30) (v := ?_) (a' := ?_) #[true, false, true, false, false, false, false, false, false, false, false, false] rfl rfl (any_of HT_.out (by kernel_rfl)) (fun _ _ _ h => h) (Or.inl ⟨by rfl, ?_⟩) ?_ ?_
              rotate_left
              · intro w'
                go_simp
                with_reducible rfl
              rotate_left
              · simp only [Act.put, List.setIfInBounds_toArray, List.set_cons_zero, List.set_cons_succ, i64_w, i32_w]
                rfl
              refine pure_ (i := 4) (N := some 32) (v := ?_) (a' := ?_) #[true, false, true, false, true, false, false, false, false, false, false, false] rfl rfl (any_of HT_.out (by kernel_rfl)) (fun _ _ _ h => h) (Or.inl ⟨by rfl, ?_⟩) ?_ ?_
              rotate_left
              · intro w'
                go_simp
                with_reducible rfl
              rotate_left
              · simp only [Act.put, List.setIfInBounds_toArray, List.set_cons_zero, List.set_cons_succ, i64_w, i32_w]
                rfl
              refine take_ (i := 1) (N := some 29) (v := ?_) (a' := ?_) #[true, true, true, false, true, false, false, false, false, false, false, false] rfl rfl (take_ofW HT_.out HW_.out (by kernel_rfl)) (fun _ _ _ h => h) (Or.inl ⟨by rfl, ?_⟩) hHeld ?_ ?_
              rotate_left
              · rintro w' ⟨s0, s1, s2, s3, s4, s5⟩
                go_simp
                with_reducible rfl
              rotate_left
              · simp only [Act.put, List.setIfInBounds_toArray, List.set_cons_zero, List.set_cons_succ, i64_w, i32_w]
                rfl
              refine pure_ (i := 6) (N := some 34) (v := ?_) (a' := ?_) #[true, true, true, false, true, false, true, false, false, false, false, false] rfl rfl (any_of HT_.out (by kernel_rfl)) (fun _ _ _ h => h) (Or.inl ⟨by rfl, ?_⟩) ?_ ?_
              rotate_left
              · intro w'
                go_simp
                with_reducible rfl
              rotate_left
              · simp only [Act.put, List.setIfInBounds_toArray, List.set_cons_zero, List.set_cons_succ, i64_w, i32_w]
                rfl
              refine take_ (i := 3) (N := some 31) (v := ?_) (a' := ?_) #[true, true, true, true, true, false, true, false, false, false, false, false] rfl rfl (take_ofW HT_.out HW_.out (by kernel_rfl)) (fun _ _ _ h => h) (Or.inl ⟨by rfl, ?_⟩) hHeld ?_ ?_
              rotate_left
              · rintro w' ⟨s0, s1, s2, s3, s4, s5⟩
                go_simp
                with_reducible rfl
              rotate_left
              · simp only [Act.put, List.setIfInBounds_toArray, List.set_cons_zero, List.set_cons_succ, i64_w, i32_w]
                rfl
              refine take_ (i := 5) (N := some 33) (v := ?_) (a' := ?_) #[true, true, true, true, true, true, true, false, false, false, false, false] rfl rfl (take_ofW HT_.out HW_.out (by kernel_rfl)) (fun _ _ _ h => h) (Or.inl ⟨by rfl, ?_⟩) hHeld ?_ ?_
              rotate_left
              · rintro w' ⟨s0, s1, s2, s3, s4, s5⟩
                go_simp
                with_reducible rfl
              rotate_left
              · simp only [Act.put, List.setIfInBounds_toArray, List.set_cons_zero, List.set_cons_succ, i64_w, i32_w]
                rfl
              refine one_ (i := 7) (N := none) #[true, true, true, true, true, true, true, true, false, false, false, false] rfl rfl (one_of HT_.out (by kernel_rfl)) (by decide) (fun K hK => ?_)
              have hs35 : w34.cell? ⟨gb200, 3, none⟩ = some (.string t186) := (blk_cell BK200.out 3).trans rfl
              have hfs35 := blk_frozen BK200.out 3
              have hns35_0 := NB190_200.out
              have hns35_1 := NB198_200.out
              have hms35_0 := NB200_190.out
              have hms35_1 := NB200_198.out
              refine skip_ (w1 := ?_) (by rfl) rfl ?_ ?_
              rotate_left
              · go_simp
                rfl
              refine hK.out _ _ ⟨((cell_far (p := ⟨gb200, _, none⟩) NB198_200.out _).trans (hHeld.1)), ((cell_far (p := ⟨gb200, _, none⟩) NB198_200.out _).trans (hHeld.2.1)), ((cell_far (p := ⟨gb200, _, none⟩) NB198_200.out _).trans (hHeld.2.2.1)), ((cell_far (p := ⟨gb200, _, none⟩) NB198_200.out _).trans (hHeld.2.2.2.1)), ((cell_far (p := ⟨gb200, _, none⟩) NB198_200.out _).trans (hHeld.2.2.2.2.1)), ((cell_far (p := ⟨gb200, _, none⟩) NB198_200.out _).trans (hHeld.2.2.2.2.2))⟩ (fun hHeld => ?_)
              clear hK K
              refine pure_ (i := 8) (N := some 35) (v := ?_) (a' := ?_) #[true, true, true, true, true, true, true, true, true, false, false, false] rfl rfl (any_of HT_.out (by kernel_rfl)) (fun _ _ _ h => h) (Or.inl ⟨by rfl, ?_⟩) ?_ ?_
              rotate_left
              · intro w'
                go_simp
                with_reducible rfl
              rotate_left
              · simp only [Act.put, List.setIfInBounds_toArray, List.set_cons_zero, List.set_cons_succ, i64_w, i32_w]
                rfl
              refine one_ (i := 9) (N := none) #[true, true, true, true, true, true, true, true, true, true, false, false] rfl rfl (one_of HT_.out (by kernel_rfl)) (by decide) (fun K hK => ?_)
              have hs36 : w34.cell? ⟨gb200, 4, none⟩ = some (.string t187) := (blk_cell BK200.out 4).trans rfl
              have hfs36 := blk_frozen BK200.out 4
              have hns36_0 := NB190_200.out
              have hns36_1 := NB198_200.out
              have hms36_0 := NB200_190.out
              have hms36_1 := NB200_198.out
              refine skip_ (w1 := ?_) (by rfl) rfl ?_ ?_
              rotate_left
              · go_simp
                rfl
              refine hK.out _ _ ⟨((cell_far (p := ⟨gb200, _, none⟩) NB198_200.out _).trans (hHeld.1)), ((cell_far (p := ⟨gb200, _, none⟩) NB198_200.out _).trans (hHeld.2.1)), ((cell_far (p := ⟨gb200, _, none⟩) NB198_200.out _).trans (hHeld.2.2.1)), ((cell_far (p := ⟨gb200, _, none⟩) NB198_200.out _).trans (hHeld.2.2.2.1)), ((cell_far (p := ⟨gb200, _, none⟩) NB198_200.out _).trans (hHeld.2.2.2.2.1)), ((cell_far (p := ⟨gb200, _, none⟩) NB198_200.out _).trans (hHeld.2.2.2.2.2))⟩ (fun hHeld => ?_)
              clear hK K
              refine pure_ (i := 10) (N := some 36) (v := ?_) (a' := ?_) #[true, true, true, true, true, true, true, true, true, true, true, false] rfl rfl (any_of HT_.out (by kernel_rfl)) (fun _ _ _ h => h) (Or.inl ⟨by rfl, ?_⟩) ?_ ?_
              rotate_left
              · intro w'
                go_simp
                with_reducible rfl
              rotate_left
              · simp only [Act.put, List.setIfInBounds_toArray, List.set_cons_zero, List.set_cons_succ, i64_w, i32_w]
                rfl
              refine one_ (i := 11) (N := none) #[true, true, true, true, true, true, true, true, true, true, true, true] rfl rfl (one_of HT_.out (by kernel_rfl)) (by decide) (fun K hK => ?_)
              have hs37 : w34.cell? ⟨gb200, 5, none⟩ = some (.bool t188) := (blk_cell BK200.out 5).trans rfl
              have hfs37 := blk_frozen BK200.out 5
              have hns37_0 := NB190_200.out
              have hns37_1 := NB198_200.out
              have hms37_0 := NB200_190.out
              have hms37_1 := NB200_198.out
              refine skip_ (w1 := ?_) (by rfl) rfl ?_ ?_
              rotate_left
              · go_simp
                rfl
              refine hK.out _ _ ⟨((cell_far (p := ⟨gb200, _, none⟩) NB198_200.out _).trans (hHeld.1)), ((cell_far (p := ⟨gb200, _, none⟩) NB198_200.out _).trans (hHeld.2.1)), ((cell_far (p := ⟨gb200, _, none⟩) NB198_200.out _).trans (hHeld.2.2.1)), ((cell_far (p := ⟨gb200, _, none⟩) NB198_200.out _).trans (hHeld.2.2.2.1)), ((cell_far (p := ⟨gb200, _, none⟩) NB198_200.out _).trans (hHeld.2.2.2.2.1)), ((cell_far (p := ⟨gb200, _, none⟩) NB198_200.out _).trans (hHeld.2.2.2.2.2))⟩ (fun hHeld => ?_)
              clear hK K
              refine done_ (done_of HT_.out (by kernel_rfl)) ?_
              try go_wp2
              have n0_ : Aside0 ((((w34.setCell ⟨gb200, 3, none⟩ (.string t194)).setCell ⟨gb200, 4, none⟩ (.string t195)).setCell ⟨gb200, 5, none⟩ (.bool t196)).heap[gb190]? = some (.cells #[.string t183, .string t184, .int .i64 t185, .string t186, .string t187, .bool t188] 23 (0, 0))) := ⟨by (with_reducible repeat (first | refine blk_drewN ?_ _ | refine blk_drew ?_ | refine blk_alloc ?_ _)); refine blk_far ?_ NB190_200.out _; (with_reducible repeat (first | refine blk_drewN ?_ _ | refine blk_drew ?_ | refine blk_alloc ?_ _)); refine blk_far ?_ NB190_200.out _; (with_reducible repeat (first | refine blk_drewN ?_ _ | refine blk_drew ?_ | refine blk_alloc ?_ _)); refine blk_far ?_ NB190_200.out _; (with_reducible repeat (first | refine blk_drewN ?_ _ | refine blk_drew ?_ | refine blk_alloc ?_ _)); exact BK190.out⟩
              have n1_ : Aside0 ((((w34.setCell ⟨gb200, 3, none⟩ (.string t194)).setCell ⟨gb200, 4, none⟩ (.string t195)).setCell ⟨gb200, 5, none⟩ (.bool t196)).heap[gb198]? = some (.cells #[.string t191, .string t192, .int .i64 t193, .string t194, .string t195, .bool t196] 23 (0, 0))) := ⟨by (with_reducible repeat (first | refine blk_drewN ?_ _ | refine blk_drew ?_ | refine blk_alloc ?_ _)); refine blk_far ?_ NB198_200.out _; (with_reducible repeat (first | refine blk_drewN ?_ _ | refine blk_drew ?_ | refine blk_alloc ?_ _)); refine blk_far ?_ NB198_200.out _; (with_reducible repeat (first | refine blk_drewN ?_ _ | refine blk_drew ?_ | refine blk_alloc ?_ _)); refine blk_far ?_ NB198_200.out _; (with_reducible repeat (first | refine blk_drewN ?_ _ | refine blk_drew ?_ | refine blk_alloc ?_ _)); exact BK198.out⟩
              have n2_ : Aside0 ((((w34.setCell ⟨gb200, 3, none⟩ (.string t194)).setCell ⟨gb200, 4, none⟩ (.string t195)).setCell ⟨gb200, 5, none⟩ (.bool t196)).heap[gb200]? = some (.cells #[.string t183, .string t184, .int .i64 t185, .string t194, .string t195, .bool t196] 23 (0, 0))) := ⟨by (with_reducible repeat (first | refine blk_drewN ?_ _ | refine blk_drew ?_ | refine blk_alloc ?_ _)); refine blk_put (cs := #[.string t183, .string t184, .int .i64 t185, .string t194, .string t195, .bool t188]) ?_ 5 _ rfl; (with_reducible repeat (first | refine blk_drewN ?_ _ | refine blk_drew ?_ | refine blk_alloc ?_ _)); refine blk_put (cs := #[.string t183, .string t184, .int .i64 t185, .string t194, .string t187, .bool t188]) ?_ 4 _ rfl; (with_reducible repeat (first | refine blk_drewN ?_ _ | refine blk_drew ?_ | refine blk_alloc ?_ _)); refine blk_put (cs := #[.string t183, .string t184, .int .i64 t185, .string t186, .string t187, .bool t188]) ?_ 3 _ rfl; (with_reducible repeat (first | refine blk_drewN ?_ _ | refine blk_drew ?_ | refine blk_alloc ?_ _)); exact BK200.out⟩
              have n3_ : Aside0 (Below w.heap.size w (((w34.setCell ⟨gb200, 3, none⟩ (.string t194)).setCell ⟨gb200, 4, none⟩ (.string t195)).setCell ⟨gb200, 5, none⟩ (.bool t196))) := ⟨by repeat (first | (with_reducible first | exact HB.out | apply below_alloc | apply pw_below_drewN | apply below_drew1 | refine below_set ?_ GE190.out | refine below_set ?_ GE198.out | refine below_set ?_ GE200.out) | exact HB.out)⟩
              (try clear BK190)
              (try clear BK198)
              (try clear BK200)
              (try clear HB)
              generalize (((w34.setCell ⟨gb200, 3, none⟩ (.string t194)).setCell ⟨gb200, 4, none⟩ (.string t195)).setCell ⟨gb200, 5, none⟩ (.bool t196)) = w38 at n0_ n1_ n2_ n3_ ⊢
              have BK190 := n0_
              have BK198 := n1_
              have BK200 := n2_
              have HB := n3_
              clear n0_ n1_ n2_ n3_
              have n0_ := Aside0.mk (blk_drew BK190.out)
              have n1_ := Aside0.mk (blk_drew BK198.out)
              have n2_ := Aside0.mk (blk_drew BK200.out)
              have n3_ := Aside0.mk (below_drew1 HB.out)
              clear BK190
              clear BK198
              clear BK200
              clear HB
              have BK190 := n0_
              have BK198 := n1_
              have BK200 := n2_
              have HB := n3_
              clear n0_ n1_ n2_ n3_
              refine start_ (n := 27) (S := fun w' => w'.cell? ⟨gb200, 0, none⟩ = some (.string t183) ∧ w'.cell? ⟨gb200, 1, none⟩ = some (.string t184) ∧ w'.cell? ⟨gb200, 2, none⟩ = some (.int .i64 t185) ∧ w'.cell? ⟨gb200, 3, none⟩ = some (.string t194) ∧ w'.cell? ⟨gb200, 4, none⟩ = some (.string t195) ∧ w'.cell? ⟨gb200, 5, none⟩ = some (.bool t196) ∧ w'.cell? ⟨gb190, 0, none⟩ = some (.string t183) ∧ w'.cell? ⟨gb190, 1, none⟩ = some (.string t184) ∧ w'.cell? ⟨gb190, 2, none⟩ = some (.int .i64 t185) ∧ w'.cell? ⟨gb190, 3, none⟩ = some (.string t186) ∧ w'.cell? ⟨gb190, 4, none⟩ = some (.string t187) ∧ w'.cell? ⟨gb190, 5, none⟩ = some (.bool t188) ∧ w'.cell? ⟨gb198, 0, none⟩ = some (.string t191) ∧ w'.cell? ⟨gb198, 1, none⟩ = some (.string t192) ∧ w'.cell? ⟨gb198, 2, none⟩ = some (.int .i64 t193) ∧ w'.cell? ⟨gb198, 3, none⟩ = some (.string t194) ∧ w'.cell? ⟨gb198, 4, none⟩ = some (.string t195) ∧ w'.cell? ⟨gb198, 5, none⟩ = some (.bool t196)) (ds := []) #[false, false, false, false, false, false, false, false, false, false, false, false, false, false, false, false, false, false, false, false, false, false, false, false, false, false, false] (by kernel_rfl) rfl rfl ⟨(blk_cell BK200.out 0).trans rfl, (blk_cell BK200.out 1).trans rfl, (blk_cell BK200.out 2).trans rfl, (blk_cell BK200.out 3).trans rfl, (blk_cell BK200.out 4).trans rfl, (blk_cell BK200.out 5).trans rfl, (blk_cell BK190.out 0).trans rfl, (blk_cell BK190.out 1).trans rfl, (blk_cell BK190.out 2).trans rfl, (blk_cell BK190.out 3).trans rfl, (blk_cell BK190.out 4).trans rfl, (blk_cell BK190.out 5).trans rfl, (blk_cell BK198.out 0).trans rfl, (blk_cell BK198.out 1).trans rfl, (blk_cell BK198.out 2).trans rfl, (blk_cell BK198.out 3).trans rfl, (blk_cell BK198.out 4).trans rfl, (blk_cell BK198.out 5).trans rfl⟩ (fun hHeld => ?_); refine with_tabW decorumlaw05_UrlKeys.tab7 decorumlaw05_UrlKeys.bits7 (fun HT_ HW_ => ?_)
              generalize w38.drew = w39 at BK190 BK198 BK200 HB hHeld ⊢
              refine one_ (i := 0) (N := some 37) #[true, false, false, false, false, false, false, false, false, false, false, false, false, false, false, false, false, false, false, false, false, false, false, false, false, false, false] rfl rfl (one_of HT_.out (by kernel_rfl)) (by decide) (fun K hK => ?_)
              refine goes_ Tryd.func7 (by kernel_rfl) rfl #[] (by rfl) rfl rfl (by (try simp only [List.map_toArray, List.map_cons, List.map_nil]); first | done | rfl | (simp only [List.length_drop, List.length_take]; rfl)) ?_
              with_reducible refine (decorumlaw05_awake.calls  true _ ?side1 A17.out).mono ?_
              (case side1 => exact Gl.below hG (by repeat (first | (with_reducible first | exact HB.out | apply below_alloc | apply pw_below_drewN | apply below_drew1 | refine below_set ?_ GE190.out | refine below_set ?_ GE198.out | refine below_set ?_ GE200.out) | exact HB.out)))
              rintro e w40 ⟨rfl, hb⟩
              refine ⟨_, rfl, ?_⟩
              have n0_ := Aside0.mk (blk_below (g := gb190) (o := .cells #[.string t183, .string t184, .int .i64 t185, .string t186, .string t187, .bool t188] 23 (0, 0)) (by (with_reducible repeat (first | refine blk_drewN ?_ _ | refine blk_drew ?_ | refine blk_alloc ?_ _)); exact BK190.out) hb)
              have n1_ := Aside0.mk (blk_below (g := gb198) (o := .cells #[.string t191, .string t192, .int .i64 t193, .string t194, .string t195, .bool t196] 23 (0, 0)) (by (with_reducible repeat (first | refine blk_drewN ?_ _ | refine blk_drew ?_ | refine blk_alloc ?_ _)); exact BK198.out) hb)
              have n2_ := Aside0.mk (blk_below (g := gb200) (o := .cells #[.string t183, .string t184, .int .i64 t185, .string t194, .string t195, .bool t196] 23 (0, 0)) (by (with_reducible repeat (first | refine blk_drewN ?_ _ | refine blk_drew ?_ | refine blk_alloc ?_ _)); exact BK200.out) hb)
              have n3_ := Aside0.mk (below_step (by repeat (first | (with_reducible first | exact HB.out | apply below_alloc | apply pw_below_drewN | apply below_drew1 | refine below_set ?_ GE190.out | refine below_set ?_ GE198.out | refine below_set ?_ GE200.out) | exact HB.out)) hb)
              clear BK190
              clear BK198
              clear BK200
              clear HB
              have BK190 := n0_
              have BK198 := n1_
              have BK200 := n2_
              have HB := n3_
              clear n0_ n1_ n2_ n3_
              (try clear hb)
              (try clear hb2)
              (try clear hk)
              (try clear hi)
              refine hK.out _ _ ⟨(blk_cell BK200.out 0).trans rfl, (blk_cell BK200.out 1).trans rfl, (blk_cell BK200.out 2).trans rfl, (blk_cell BK200.out 3).trans rfl, (blk_cell BK200.out 4).trans rfl, (blk_cell BK200.out 5).trans rfl, (blk_cell BK190.out 0).trans rfl, (blk_cell BK190.out 1).trans rfl, (blk_cell BK190.out 2).trans rfl, (blk_cell BK190.out 3).trans rfl, (blk_cell BK190.out 4).trans rfl, (blk_cell BK190.out 5).trans rfl, (blk_cell BK198.out 0).trans rfl, (blk_cell BK198.out 1).trans rfl, (blk_cell BK198.out 2).trans rfl, (blk_cell BK198.out 3).trans rfl, (blk_cell BK198.out 4).trans rfl, (blk_cell BK198.out 5).trans rfl⟩ (fun hHeld => ?_)
              clear hK K
              refine norm_ (a' := ?_) ?_ ?_
              rotate_left
              · show Act.put _ (some 37) _ = _
                simp only [Act.put, List.setIfInBounds_toArray, List.set_cons_zero, List.set_cons_succ, i64_w, i32_w]
                rfl
              refine pure_ (i := 1) (N := some 38) (v := ?_) (a' := ?_) #[true, true, false, false, false, false, false, false, false, false, false, false, false, false, false, false, false, false, false, false, false, false, false, false, false, false, false] rfl rfl (any_of HT_.out (by kernel_rfl)) (fun _ _ _ h => h) (Or.inl ⟨by rfl, ?_⟩) ?_ ?_
              rotate_left
              · intro w'
                go_simp
                with_reducible rfl
              rotate_left
              · simp only [Act.put, List.setIfInBounds_toArray, List.set_cons_zero, List.set_cons_succ, i64_w, i32_w]
                rfl
              refine take_ (i := 2) (N := some 39) (v := ?_) (a' := ?_) #[true, true, true, false, false, false, false, false, false, false, false, false, false, false, false, false, false, false, false, false, false, false, false, false, false, false, false] rfl rfl (take_ofW HT_.out HW_.out (by kernel_rfl)) (fun _ _ _ h => h) (Or.inl ⟨by rfl, ?_⟩) hHeld ?_ ?_
              rotate_left
              · rintro w' ⟨s0, s1, s2, s3, s4, s5, s6, s7, s8, s9, s10, s11, s12, s13, s14, s15, s16, s17⟩
                go_simp
                with_reducible rfl
              rotate_left
              · simp only [Act.put, List.setIfInBounds_toArray, List.set_cons_zero, List.set_cons_succ, i64_w, i32_w]
                rfl
              refine take_ (i := 4) (N := some 41) (v := ?_) (a' := ?_) #[true, true, true, false, true, false, false, false, false, false, false, false, false, false, false, false, false, false, false, false, false, false, false, false, false, false, false] rfl rfl (take_ofW HT_.out HW_.out (by kernel_rfl)) (fun _ _ _ h => h) (Or.inl ⟨by rfl, ?_⟩) hHeld ?_ ?_
              rotate_left
              · rintro w' ⟨s0, s1, s2, s3, s4, s5, s6, s7, s8, s9, s10, s11, s12, s13, s14, s15, s16, s17⟩
                go_simp
                with_reducible rfl
              rotate_left
              · simp only [Act.put, List.setIfInBounds_toArray, List.set_cons_zero, List.set_cons_succ, i64_w, i32_w]
                rfl
              refine one_ (i := 3) (N := some 40) #[true, true, true, true, true, false, false, false, false, false, false, false, false, false, false, false, false, false, false, false, false, false, false, false, false, false, false] rfl rfl (one_of HT_.out (by kernel_rfl)) (by decide) (fun K hK => ?_)
              refine goes_ Tryd.func8 (by kernel_rfl) rfl #[.agg #[.string t183, .string t184, .int .i64 t185, .string t194, .string t195, .bool t196]] (by rfl) rfl rfl (by (try simp only [List.map_toArray, List.map_cons, List.map_nil]); first | done | rfl | (simp only [List.length_drop, List.length_take]; rfl)) ?_
              with_reducible refine (Go.Proofs.YtpnofnmecjagcaaDoor.XB.url_Key.calls t183 t184 t185 t194 t195 t196 t202 _ ?side1 A19.out).mono ?_
              (case side1 => exact Gl.below hG (by repeat (first | (with_reducible first | exact HB.out | apply below_alloc | apply pw_below_drewN | apply below_drew1 | refine below_set ?_ GE190.out | refine below_set ?_ GE198.out | refine below_set ?_ GE200.out) | exact HB.out)))
              rintro e w41 ⟨rfl, hb⟩
              refine ⟨_, rfl, ?_⟩
              have n0_ := Aside0.mk (blk_below (g := gb190) (o := .cells #[.string t183, .string t184, .int .i64 t185, .string t186, .string t187, .bool t188] 23 (0, 0)) (by (with_reducible repeat (first | refine blk_drewN ?_ _ | refine blk_drew ?_ | refine blk_alloc ?_ _)); exact BK190.out) hb)
              have n1_ := Aside0.mk (blk_below (g := gb198) (o := .cells #[.string t191, .string t192, .int .i64 t193, .string t194, .string t195, .bool t196] 23 (0, 0)) (by (with_reducible repeat (first | refine blk_drewN ?_ _ | refine blk_drew ?_ | refine blk_alloc ?_ _)); exact BK198.out) hb)
              have n2_ := Aside0.mk (blk_below (g := gb200) (o := .cells #[.string t183, .string t184, .int .i64 t185, .string t194, .string t195, .bool t196] 23 (0, 0)) (by (with_reducible repeat (first | refine blk_drewN ?_ _ | refine blk_drew ?_ | refine blk_alloc ?_ _)); exact BK200.out) hb)
              have n3_ := Aside0.mk (below_step (by repeat (first | (with_reducible first | exact HB.out | apply below_alloc | apply pw_below_drewN | apply below_drew1 | refine below_set ?_ GE190.out | refine below_set ?_ GE198.out | refine below_set ?_ GE200.out) | exact HB.out)) hb)
              clear BK190
              clear BK198
              clear BK200
              clear HB
              have BK190 := n0_
              have BK198 := n1_
              have BK200 := n2_
              have HB := n3_
              clear n0_ n1_ n2_ n3_
              (try clear hb)
              (try clear hb2)
              (try clear hk)
              (try clear hi)
              refine hK.out _ _ ⟨(blk_cell BK200.out 0).trans rfl, (blk_cell BK200.out 1).trans rfl, (blk_cell BK200.out 2).trans rfl, (blk_cell BK200.out 3).trans rfl, (blk_cell BK200.out 4).trans rfl, (blk_cell BK200.out 5).trans rfl, (blk_cell BK190.out 0).trans rfl, (blk_cell BK190.out 1).trans rfl, (blk_cell BK190.out 2).trans rfl, (blk_cell BK190.out 3).trans rfl, (blk_cell BK190.out 4).trans rfl, (blk_cell BK190.out 5).trans rfl, (blk_cell BK198.out 0).trans rfl, (blk_cell BK198.out 1).trans rfl, (blk_cell BK198.out 2).trans rfl, (blk_cell BK198.out 3).trans rfl, (blk_cell BK198.out 4).trans rfl, (blk_cell BK198.out 5).trans rfl⟩ (fun hHeld => ?_)
              clear hK K
              refine norm_ (a' := ?_) ?_ ?_
              rotate_left
              · show Act.put _ (some 40) _ = _
                simp only [Act.put, List.setIfInBounds_toArray, List.set_cons_zero, List.set_cons_succ, i64_w, i32_w]
                rfl
              refine one_ (i := 5) (N := some 42) #[true, true, true, true, true, true, false, false, false, false, false, false, false, false, false, false, false, false, false, false, false, false, false, false, false, false, false] rfl rfl (one_of HT_.out (by kernel_rfl)) (by decide) (fun K hK => ?_)
              refine goes_ Tryd.func8 (by kernel_rfl) rfl #[.agg #[.string t183, .string t184, .int .i64 t185, .string t186, .string t187, .bool t188]] (by rfl) rfl rfl (by (try simp only [List.map_toArray, List.map_cons, List.map_nil]); first | done | rfl | (simp only [List.length_drop, List.length_take]; rfl)) ?_
              with_reducible refine (Go.Proofs.YtpnofnmecjagcaaDoor.XB.url_Key.calls t183 t184 t185 t186 t187 t188 t203 _ ?side1 A20.out).mono ?_
              (case side1 => exact Gl.below hG (by repeat (first | (with_reducible first | exact HB.out | apply below_alloc | apply pw_below_drewN | apply below_drew1 | refine below_set ?_ GE190.out | refine below_set ?_ GE198.out | refine below_set ?_ GE200.out) | exact HB.out)))
              rintro e w42 ⟨rfl, hb⟩
              refine ⟨_, rfl, ?_⟩
              have n0_ := Aside0.mk (blk_below (g := gb190) (o := .cells #[.string t183, .string t184, .int .i64 t185, .string t186, .string t187, .bool t188] 23 (0, 0)) (by (with_reducible repeat (first | refine blk_drewN ?_ _ | refine blk_drew ?_ | refine blk_alloc ?_ _)); exact BK190.out) hb)
              have n1_ := Aside0.mk (blk_below (g := gb198) (o := .cells #[.string t191, .string t192, .int .i64 t193, .string t194, .string t195, .bool t196] 23 (0, 0)) (by (with_reducible repeat (first | refine blk_drewN ?_ _ | refine blk_drew ?_ | refine blk_alloc ?_ _)); exact BK198.out) hb)
              have n2_ := Aside0.mk (blk_below (g := gb200) (o := .cells #[.string t183, .string t184, .int .i64 t185, .string t194, .string t195, .bool t196] 23 (0, 0)) (by (with_reducible repeat (first | refine blk_drewN ?_ _ | refine blk_drew ?_ | refine blk_alloc ?_ _)); exact BK200.out) hb)
              have n3_ := Aside0.mk (below_step (by repeat (first | (with_reducible first | exact HB.out | apply below_alloc | apply pw_below_drewN | apply below_drew1 | refine below_set ?_ GE190.out | refine below_set ?_ GE198.out | refine below_set ?_ GE200.out) | exact HB.out)) hb)
              clear BK190
              clear BK198
              clear BK200
              clear HB
              have BK190 := n0_
              have BK198 := n1_
              have BK200 := n2_
              have HB := n3_
              clear n0_ n1_ n2_ n3_
              (try clear hb)
              (try clear hb2)
              (try clear hk)
              (try clear hi)
              refine hK.out _ _ ⟨(blk_cell BK200.out 0).trans rfl, (blk_cell BK200.out 1).trans rfl, (blk_cell BK200.out 2).trans rfl, (blk_cell BK200.out 3).trans rfl, (blk_cell BK200.out 4).trans rfl, (blk_cell BK200.out 5).trans rfl, (blk_cell BK190.out 0).trans rfl, (blk_cell BK190.out 1).trans rfl, (blk_cell BK190.out 2).trans rfl, (blk_cell BK190.out 3).trans rfl, (blk_cell BK190.out 4).trans rfl, (blk_cell BK190.out 5).trans rfl, (blk_cell BK198.out 0).trans rfl, (blk_cell BK198.out 1).trans rfl, (blk_cell BK198.out 2).trans rfl, (blk_cell BK198.out 3).trans rfl, (blk_cell BK198.out 4).trans rfl, (blk_cell BK198.out 5).trans rfl⟩ (fun hHeld => ?_)
              clear hK K
              refine norm_ (a' := ?_) ?_ ?_
              rotate_left
              · show Act.put _ (some 42) _ = _
                simp only [Act.put, List.setIfInBounds_toArray, List.set_cons_zero, List.set_cons_succ, i64_w, i32_w]
                rfl
              refine pure_ (i := 6) (N := some 43) (v := ?_) (a' := ?_) #[true, true, true, true, true, true, true, false, false, false, false, false, false, false, false, false, false, false, false, false, false, false, false, false, false, false, false] rfl rfl (any_of HT_.out (by kernel_rfl)) (fun _ _ _ h => h) (Or.inl ⟨by rfl, ?_⟩) ?_ ?_
              rotate_left
              · intro w'
                go_simp
                with_reducible rfl
              rotate_left
              · simp only [Act.put, List.setIfInBounds_toArray, List.set_cons_zero, List.set_cons_succ, i64_w, i32_w]
                rfl
              refine pure_ (i := 7) (N := some 44) (v := ?_) (a' := ?_) #[true, true, true, true, true, true, true, true, false, false, false, false, false, false, false, false, false, false, false, false, false, false, false, false, false, false, false] rfl rfl (any_of HT_.out (by kernel_rfl)) (fun _ _ _ h => h) (Or.inl ⟨by rfl, ?_⟩) ?_ ?_
              rotate_left
              · intro w'
                go_simp
                with_reducible rfl
              rotate_left
              · simp only [Act.put, List.setIfInBounds_toArray, List.set_cons_zero, List.set_cons_succ, i64_w, i32_w]
                rfl
              refine pure_ (i := 8) (N := some 45) (v := ?_) (a' := ?_) #[true, true, true, true, true, true, true, true, true, false, false, false, false, false, false, false, false, false, false, false, false, false, false, false, false, false, false] rfl rfl (any_of HT_.out (by kernel_rfl)) (fun _ _ _ h => h) (Or.inl ⟨by rfl, ?_⟩) ?_ ?_
              rotate_left
              · intro w'
                go_simp
                with_reducible rfl
              rotate_left
              · simp only [Act.put, List.setIfInBounds_toArray, List.set_cons_zero, List.set_cons_succ, i64_w, i32_w]
                rfl
              refine take_ (i := 9) (N := some 46) (v := ?_) (a' := ?_) #[true, true, true, true, true, true, true, true, true, true, false, false, false, false, false, false, false, false, false, false, false, false, false, false, false, false, false] rfl rfl (take_ofW HT_.out HW_.out (by kernel_rfl)) (fun _ _ _ h => h) (Or.inl ⟨by rfl, ?_⟩) hHeld ?_ ?_
              rotate_left
              · rintro w' ⟨s0, s1, s2, s3, s4, s5, s6, s7, s8, s9, s10, s11, s12, s13, s14, s15, s16, s17⟩
                go_simp
                with_reducible rfl
              rotate_left
              · simp only [Act.put, List.setIfInBounds_toArray, List.set_cons_zero, List.set_cons_succ, i64_w, i32_w]
                rfl
              refine take_ (i := 11) (N := some 48) (v := ?_) (a' := ?_) #[true, true, true, true, true, true, true, true, true, true, false, true, false, false, false, false, false, false, false, false, false, false, false, false, false, false, false] rfl rfl (take_ofW HT_.out HW_.out (by kernel_rfl)) (fun _ _ _ h => h) (Or.inl ⟨by rfl, ?_⟩) hHeld ?_ ?_
              rotate_left
              · rintro w' ⟨s0, s1, s2, s3, s4, s5, s6, s7, s8, s9, s10, s11, s12, s13, s14, s15, s16, s17⟩
                go_simp
                with_reducible rfl
              rotate_left
              · simp only [Act.put, List.setIfInBounds_toArray, List.set_cons_zero, List.set_cons_succ, i64_w, i32_w]
                rfl
              refine one_ (i := 10) (N := some 47) #[true, true, true, true, true, true, true, true, true, true, true, true, false, false, false, false, false, false, false, false, false, false, false, false, false, false, false] rfl rfl (one_of HT_.out (by kernel_rfl)) (by decide) (fun K hK => ?_)
              refine goes_ Tryd.func10 (by kernel_rfl) rfl #[.agg #[.string t183, .string t184, .int .i64 t185, .string t194, .string t195, .bool t196]] (by rfl) rfl rfl (by (try simp only [List.map_toArray, List.map_cons, List.map_nil]); first | done | rfl | (simp only [List.length_drop, List.length_take]; rfl)) ?_
              with_reducible refine (Go.Proofs.YtpnofnmecjagcaaDoor.XB.url_Target.calls t183 t184 t185 t194 t195 t196 t204 _ A22.out).mono ?_
              rintro e w43 ⟨rfl, hb⟩
              refine ⟨_, rfl, ?_⟩
              have n0_ := Aside0.mk (blk_below (g := gb190) (o := .cells #[.string t183, .string t184, .int .i64 t185, .string t186, .string t187, .bool t188] 23 (0, 0)) (by (with_reducible repeat (first | refine blk_drewN ?_ _ | refine blk_drew ?_ | refine blk_alloc ?_ _)); exact BK190.out) hb)
              have n1_ := Aside0.mk (blk_below (g := gb198) (o := .cells #[.string t191, .string t192, .int .i64 t193, .string t194, .string t195, .bool t196] 23 (0, 0)) (by (with_reducible repeat (first | refine blk_drewN ?_ _ | refine blk_drew ?_ | refine blk_alloc ?_ _)); exact BK198.out) hb)
              have n2_ := Aside0.mk (blk_below (g := gb200) (o := .cells #[.string t183, .string t184, .int .i64 t185, .string t194, .string t195, .bool t196] 23 (0, 0)) (by (with_reducible repeat (first | refine blk_drewN ?_ _ | refine blk_drew ?_ | refine blk_alloc ?_ _)); exact BK200.out) hb)
              have n3_ := Aside0.mk (below_step (by repeat (first | (with_reducible first | exact HB.out | apply below_alloc | apply pw_below_drewN | apply below_drew1 | refine below_set ?_ GE190.out | refine below_set ?_ GE198.out | refine below_set ?_ GE200.out) | exact HB.out)) hb)
              clear BK190
              clear BK198
              clear BK200
              clear HB
              have BK190 := n0_
              have BK198 := n1_
              have BK200 := n2_
              have HB := n3_
              clear n0_ n1_ n2_ n3_
              (try clear hb)
              (try clear hb2)
              (try clear hk)
              (try clear hi)
              refine hK.out _ _ ⟨(blk_cell BK200.out 0).trans rfl, (blk_cell BK200.out 1).trans rfl, (blk_cell BK200.out 2).trans rfl, (blk_cell BK200.out 3).trans rfl, (blk_cell BK200.out 4).trans rfl, (blk_cell BK200.out 5).trans rfl, (blk_cell BK190.out 0).trans rfl, (blk_cell BK190.out 1).trans rfl, (blk_cell BK190.out 2).trans rfl, (blk_cell BK190.out 3).trans rfl, (blk_cell BK190.out 4).trans rfl, (blk_cell BK190.out 5).trans rfl, (blk_cell BK198.out 0).trans rfl, (blk_cell BK198.out 1).trans rfl, (blk_cell BK198.out 2).trans rfl, (blk_cell BK198.out 3).trans rfl, (blk_cell BK198.out 4).trans rfl, (blk_cell BK198.out 5).trans rfl⟩ (fun hHeld => ?_)
              clear hK K
              refine norm_ (a' := ?_) ?_ ?_
              rotate_left
              · show Act.put _ (some 47) _ = _
                simp only [Act.put, List.setIfInBounds_toArray, List.set_cons_zero, List.set_cons_succ, i64_w, i32_w]
                rfl
              refine one_ (i := 12) (N := some 49) #[true, true, true, true, true, true, true, true, true, true, true, true, true, false, false, false, false, false, false, false, false, false, false, false, false, false, false] rfl rfl (one_of HT_.out (by kernel_rfl)) (by decide) (fun K hK => ?_)
              refine goes_ Tryd.func10 (by kernel_rfl) rfl #[.agg #[.string t191, .string t192, .int .i64 t193, .string t194, .string t195, .bool t196]] (by rfl) rfl rfl (by (try simp only [List.map_toArray, List.map_cons, List.map_nil]); first | done | rfl | (simp only [List.length_drop, List.length_take]; rfl)) ?_
              with_reducible refine (Go.Proofs.YtpnofnmecjagcaaDoor.XB.url_Target.calls t191 t192 t193 t194 t195 t196 t205 _ A23.out).mono ?_
              rintro e w44 ⟨rfl, hb⟩
              refine ⟨_, rfl, ?_⟩
              have n0_ := Aside0.mk (blk_below (g := gb190) (o := .cells #[.string t183, .string t184, .int .i64 t185, .string t186, .string t187, .bool t188] 23 (0, 0)) (by (with_reducible repeat (first | refine blk_drewN ?_ _ | refine blk_drew ?_ | refine blk_alloc ?_ _)); exact BK190.out) hb)
              have n1_ := Aside0.mk (blk_below (g := gb198) (o := .cells #[.string t191, .string t192, .int .i64 t193, .string t194, .string t195, .bool t196] 23 (0, 0)) (by (with_reducible repeat (first | refine blk_drewN ?_ _ | refine blk_drew ?_ | refine blk_alloc ?_ _)); exact BK198.out) hb)
              have n2_ := Aside0.mk (blk_below (g := gb200) (o := .cells #[.string t183, .string t184, .int .i64 t185, .string t194, .string t195, .bool t196] 23 (0, 0)) (by (with_reducible repeat (first | refine blk_drewN ?_ _ | refine blk_drew ?_ | refine blk_alloc ?_ _)); exact BK200.out) hb)
              have n3_ := Aside0.mk (below_step (by repeat (first | (with_reducible first | exact HB.out | apply below_alloc | apply pw_below_drewN | apply below_drew1 | refine below_set ?_ GE190.out | refine below_set ?_ GE198.out | refine below_set ?_ GE200.out) | exact HB.out)) hb)
              clear BK190
              clear BK198
              clear BK200
              clear HB
              have BK190 := n0_
              have BK198 := n1_
              have BK200 := n2_
              have HB := n3_
              clear n0_ n1_ n2_ n3_
              (try clear hb)
              (try clear hb2)
              (try clear hk)
              (try clear hi)
              refine hK.out _ _ ⟨(blk_cell BK200.out 0).trans rfl, (blk_cell BK200.out 1).trans rfl, (blk_cell BK200.out 2).trans rfl, (blk_cell BK200.out 3).trans rfl, (blk_cell BK200.out 4).trans rfl, (blk_cell BK200.out 5).trans rfl, (blk_cell BK190.out 0).trans rfl, (blk_cell BK190.out 1).trans rfl, (blk_cell BK190.out 2).trans rfl, (blk_cell BK190.out 3).trans rfl, (blk_cell BK190.out 4).trans rfl, (blk_cell BK190.out 5).trans rfl, (blk_cell BK198.out 0).trans rfl, (blk_cell BK198.out 1).trans rfl, (blk_cell BK198.out 2).trans rfl, (blk_cell BK198.out 3).trans rfl, (blk_cell BK198.out 4).trans rfl, (blk_cell BK198.out 5).trans rfl⟩ (fun hHeld => ?_)
              clear hK K
              refine norm_ (a' := ?_) ?_ ?_
              rotate_left
              · show Act.put _ (some 49) _ = _
                simp only [Act.put, List.setIfInBounds_toArray, List.set_cons_zero, List.set_cons_succ, i64_w, i32_w]
                rfl
              refine pure_ (i := 13) (N := some 50) (v := ?_) (a' := ?_) #[true, true, true, true, true, true, true, true, true, true, true, true, true, true, false, false, false, false, false, false, false, false, false, false, false, false, false] rfl rfl (any_of HT_.out (by kernel_rfl)) (fun _ _ _ h => h) (Or.inl ⟨by rfl, ?_⟩) ?_ ?_
              rotate_left
              · intro w'
                go_simp
                with_reducible rfl
              rotate_left
              · simp only [Act.put, List.setIfInBounds_toArray, List.set_cons_zero, List.set_cons_succ, i64_w, i32_w]
                rfl
              refine pure_ (i := 14) (N := some 51) (v := ?_) (a' := ?_) #[true, true, true, true, true, true, true, true, true, true, true, true, true, true, true, false, false, false, false, false, false, false, false, false, false, false, false] rfl rfl (any_of HT_.out (by kernel_rfl)) (fun _ _ _ h => h) (Or.inl ⟨by rfl, ?_⟩) ?_ ?_
              rotate_left
              · intro w'
                go_simp
                with_reducible rfl
              rotate_left
              · simp only [Act.put, List.setIfInBounds_toArray, List.set_cons_zero, List.set_cons_succ, i64_w, i32_w]
                rfl
              refine pure_ (i := 15) (N := some 52) (v := ?_) (a' := ?_) #[true, true, true, true, true, true, true, true, true, true, true, true, true, true, true, true, false, false, false, false, false, false, false, false, false, false, false] rfl rfl (any_of HT_.out (by kernel_rfl)) (fun _ _ _ h => h) (Or.inl ⟨by rfl, ?_⟩) ?_ ?_
              rotate_left
              · intro w'
                go_simp
                with_reducible rfl
              rotate_left
              · simp only [Act.put, List.setIfInBounds_toArray, List.set_cons_zero, List.set_cons_succ, i64_w, i32_w]
                rfl
              refine take_ (i := 16) (N := some 53) (v := ?_) (a' := ?_) #[true, true, true, true, true, true, true, true, true, true, true, true, true, true, true, true, true, false, false, false, false, false, false, false, false, false, false] rfl rfl (take_ofW HT_.out HW_.out (by kernel_rfl)) (fun _ _ _ h => h) (Or.inl ⟨by rfl, ?_⟩) hHeld ?_ ?_
              rotate_left
              · rintro w' ⟨s0, s1, s2, s3, s4, s5, s6, s7, s8, s9, s10, s11, s12, s13, s14, s15, s16, s17⟩
                go_simp
                with_reducible rfl
              rotate_left
              · simp only [Act.put, List.setIfInBounds_toArray, List.set_cons_zero, List.set_cons_succ, i64_w, i32_w]
                rfl
              refine take_ (i := 18) (N := some 55) (v := ?_) (a' := ?_) #[true, true, true, true, true, true, true, true, true, true, true, true, true, true, true, true, true, false, true, false, false, false, false, false, false, false, false] rfl rfl (take_ofW HT_.out HW_.out (by kernel_rfl)) (fun _ _ _ h => h) (Or.inl ⟨by rfl, ?_⟩) hHeld ?_ ?_
              rotate_left
              · rintro w' ⟨s0, s1, s2, s3, s4, s5, s6, s7, s8, s9, s10, s11, s12, s13, s14, s15, s16, s17⟩
                go_simp
                with_reducible rfl
              rotate_left
              · simp only [Act.put, List.setIfInBounds_toArray, List.set_cons_zero, List.set_cons_succ, i64_w, i32_w]
                rfl
              refine take_ (i := 21) (N := some 58) (v := ?_) (a' := ?_) #[true, true, true, true, true, true, true, true, true, true, true, true, true, true, true, true, true, false, true, false, false, true, false, false, false, false, false] rfl rfl (take_ofW HT_.out HW_.out (by kernel_rfl)) (fun _ _ _ h => h) (Or.inl ⟨by rfl, ?_⟩) hHeld ?_ ?_
              rotate_left
              · rintro w' ⟨s0, s1, s2, s3, s4, s5, s6, s7, s8, s9, s10, s11, s12, s13, s14, s15, s16, s17⟩
                go_simp
                with_reducible rfl
              rotate_left
              · simp only [Act.put, List.setIfInBounds_toArray, List.set_cons_zero, List.set_cons_succ, i64_w, i32_w]
                rfl
              refine take_ (i := 22) (N := some 59) (v := ?_) (a' := ?_) #[true, true, true, true, true, true, true, true, true, true, true, true, true, true, true, true, true, false, true, false, false, true, true, false, false, false, false] rfl rfl (take_ofW HT_.out HW_.out (by kernel_rfl)) (fun _ _ _ h => h) (Or.inl ⟨by rfl, ?_⟩) hHeld ?_ ?_
              rotate_left
              · rintro w' ⟨s0, s1, s2, s3, s4, s5, s6, s7, s8, s9, s10, s11, s12, s13, s14, s15, s16, s17⟩
                go_simp
                with_reducible rfl
              rotate_left
              · simp only [Act.put, List.setIfInBounds_toArray, List.set_cons_zero, List.set_cons_succ, i64_w, i32_w]
                rfl
              refine pure_ (i := 23) (N := some 60) (v := ?_) (a' := ?_) #[true, true, true, true, true, true, true, true, true, true, true, true, true, true, true, true, true, false, true, false, false, true, true, true, false, false, false] rfl rfl (any_of HT_.out (by kernel_rfl)) (fun _ _ _ h => h) (Or.inl ⟨by rfl, ?_⟩) ?_ ?_
              rotate_left
              · intro w'
                go_simp
                with_reducible rfl
              rotate_left
              · simp only [Act.put, List.setIfInBounds_toArray, List.set_cons_zero, List.set_cons_succ, i64_w, i32_w]
                rfl
              refine one_ (i := 17) (N := some 54) #[true, true, true, true, true, true, true, true, true, true, true, true, true, true, true, true, true, true, true, false, false, true, true, true, false, false, false] rfl rfl (one_of HT_.out (by kernel_rfl)) (by decide) (fun K hK => ?_)
              refine goes_ Tryd.func12 (by kernel_rfl) rfl #[.agg #[.string t183, .string t184, .int .i64 t185, .string t186, .string t187, .bool t188]] (by rfl) rfl rfl (by (try simp only [List.map_toArray, List.map_cons, List.map_nil]); first | done | rfl | (simp only [List.length_drop, List.length_take]; rfl)) ?_
              with_reducible refine (Go.Proofs.YtpnofnmecjagcaaDoor.XB.url_String.calls t183 t184 t185 t186 t187 t188 t206 _ ?side1 A25.out).mono ?_
              (case side1 => exact Gl.below hG (by repeat (first | (with_reducible first | exact HB.out | apply below_alloc | apply pw_below_drewN | apply below_drew1 | refine below_set ?_ GE190.out | refine below_set ?_ GE198.out | refine below_set ?_ GE200.out) | exact HB.out)))
              rintro e w45 ⟨rfl, hb⟩
              refine ⟨_, rfl, ?_⟩
              have n0_ := Aside0.mk (blk_below (g := gb190) (o := .cells #[.string t183, .string t184, .int .i64 t185, .string t186, .string t187, .bool t188] 23 (0, 0)) (by (with_reducible repeat (first | refine blk_drewN ?_ _ | refine blk_drew ?_ | refine blk_alloc ?_ _)); exact BK190.out) hb)
              have n1_ := Aside0.mk (blk_below (g := gb198) (o := .cells #[.string t191, .string t192, .int .i64 t193, .string t194, .string t195, .bool t196] 23 (0, 0)) (by (with_reducible repeat (first | refine blk_drewN ?_ _ | refine blk_drew ?_ | refine blk_alloc ?_ _)); exact BK198.out) hb)
              have n2_ := Aside0.mk (blk_below (g := gb200) (o := .cells #[.string t183, .string t184, .int .i64 t185, .string t194, .string t195, .bool t196] 23 (0, 0)) (by (with_reducible repeat (first | refine blk_drewN ?_ _ | refine blk_drew ?_ | refine blk_alloc ?_ _)); exact BK200.out) hb)
              have n3_ := Aside0.mk (below_step (by repeat (first | (with_reducible first | exact HB.out | apply below_alloc | apply pw_below_drewN | apply below_drew1 | refine below_set ?_ GE190.out | refine below_set ?_ GE198.out | refine below_set ?_ GE200.out) | exact HB.out)) hb)
              clear BK190
              clear BK198
              clear BK200
              clear HB
              have BK190 := n0_
              have BK198 := n1_
              have BK200 := n2_
              have HB := n3_
              clear n0_ n1_ n2_ n3_
              (try clear hb)
              (try clear hb2)
              (try clear hk)
              (try clear hi)
              refine hK.out _ _ ⟨(blk_cell BK200.out 0).trans rfl, (blk_cell BK200.out 1).trans rfl, (blk_cell BK200.out 2).trans rfl, (blk_cell BK200.out 3).trans rfl, (blk_cell BK200.out 4).trans rfl, (blk_cell BK200.out 5).trans rfl, (blk_cell BK190.out 0).trans rfl, (blk_cell BK190.out 1).trans rfl, (blk_cell BK190.out 2).trans rfl, (blk_cell BK190.out 3).trans rfl, (blk_cell BK190.out 4).trans rfl, (blk_cell BK190.out 5).trans rfl, (blk_cell BK198.out 0).trans rfl, (blk_cell BK198.out 1).trans rfl, (blk_cell BK198.out 2).trans rfl, (blk_cell BK198.out 3).trans rfl, (blk_cell BK198.out 4).trans rfl, (blk_cell BK198.out 5).trans rfl⟩ (fun hHeld => ?_)
              clear hK K
              refine norm_ (a' := ?_) ?_ ?_
              rotate_left
              · show Act.put _ (some 54) _ = _
                simp only [Act.put, List.setIfInBounds_toArray, List.set_cons_zero, List.set_cons_succ, i64_w, i32_w]
                rfl
              refine one_ (i := 19) (N := some 56) #[true, true, true, true, true, true, true, true, true, true, true, true, true, true, true, true, true, true, true, true, false, true, true, true, false, false, false] rfl rfl (one_of HT_.out (by kernel_rfl)) (by decide) (fun K hK => ?_)
              refine goes_ Tryd.func12 (by kernel_rfl) rfl #[.agg #[.string t191, .string t192, .int .i64 t193, .string t194, .string t195, .bool t196]] (by rfl) rfl rfl (by (try simp only [List.map_toArray, List.map_cons, List.map_nil]); first | done | rfl | (simp only [List.length_drop, List.length_take]; rfl)) ?_
              with_reducible refine (Go.Proofs.YtpnofnmecjagcaaDoor.XB.url_String.calls t191 t192 t193 t194 t195 t196 t207 _ ?side1 A26.out).mono ?_
              (case side1 => exact Gl.below hG (by repeat (first | (with_reducible first | exact HB.out | apply below_alloc | apply pw_below_drewN | apply below_drew1 | refine below_set ?_ GE190.out | refine below_set ?_ GE198.out | refine below_set ?_ GE200.out) | exact HB.out)))
              rintro e w46 ⟨rfl, hb⟩
              refine ⟨_, rfl, ?_⟩
              have n0_ := Aside0.mk (blk_below (g := gb190) (o := .cells #[.string t183, .string t184, .int .i64 t185, .string t186, .string t187, .bool t188] 23 (0, 0)) (by (with_reducible repeat (first | refine blk_drewN ?_ _ | refine blk_drew ?_ | refine blk_alloc ?_ _)); exact BK190.out) hb)
              have n1_ := Aside0.mk (blk_below (g := gb198) (o := .cells #[.string t191, .string t192, .int .i64 t193, .string t194, .string t195, .bool t196] 23 (0, 0)) (by (with_reducible repeat (first | refine blk_drewN ?_ _ | refine blk_drew ?_ | refine blk_alloc ?_ _)); exact BK198.out) hb)
              have n2_ := Aside0.mk (blk_below (g := gb200) (o := .cells #[.string t183, .string t184, .int .i64 t185, .string t194, .string t195, .bool t196] 23 (0, 0)) (by (with_reducible repeat (first | refine blk_drewN ?_ _ | refine blk_drew ?_ | refine blk_alloc ?_ _)); exact BK200.out) hb)
              have n3_ := Aside0.mk (below_step (by repeat (first | (with_reducible first | exact HB.out | apply below_alloc | apply pw_below_drewN | apply below_drew1 | refine below_set ?_ GE190.out | refine below_set ?_ GE198.out | refine below_set ?_ GE200.out) | exact HB.out)) hb)
              clear BK190
              clear BK198
              clear BK200
              clear HB
              have BK190 := n0_
              have BK198 := n1_
              have BK200 := n2_
              have HB := n3_
              clear n0_ n1_ n2_ n3_
              (try clear hb)
              (try clear hb2)
              (try clear hk)
              (try clear hi)
              refine hK.out _ _ ⟨(blk_cell BK200.out 0).trans rfl, (blk_cell BK200.out 1).trans rfl, (blk_cell BK200.out 2).trans rfl, (blk_cell BK200.out 3).trans rfl, (blk_cell BK200.out 4).trans rfl, (blk_cell BK200.out 5).trans rfl, (blk_cell BK190.out 0).trans rfl, (blk_cell BK190.out 1).trans rfl, (blk_cell BK190.out 2).trans rfl, (blk_cell BK190.out 3).trans rfl, (blk_cell BK190.out 4).trans rfl, (blk_cell BK190.out 5).trans rfl, (blk_cell BK198.out 0).trans rfl, (blk_cell BK198.out 1).trans rfl, (blk_cell BK198.out 2).trans rfl, (blk_cell BK198.out 3).trans rfl, (blk_cell BK198.out 4).trans rfl, (blk_cell BK198.out 5).trans rfl⟩ (fun hHeld => ?_)
              clear hK K
              refine norm_ (a' := ?_) ?_ ?_
              rotate_left
              · show Act.put _ (some 56) _ = _
                simp only [Act.put, List.setIfInBounds_toArray, List.set_cons_zero, List.set_cons_succ, i64_w, i32_w]
                rfl
              refine pure_ (i := 20) (N := some 57) (v := ?_) (a' := ?_) #[true, true, true, true, true, true, true, true, true, true, true, true, true, true, true, true, true, true, true, true, true, true, true, true, false, false, false] rfl rfl (any_of HT_.out (by kernel_rfl)) (fun _ _ _ h => h) (Or.inl ⟨by rfl, ?_⟩) ?_ ?_
              rotate_left
              · intro w'
                go_simp
                with_reducible rfl
              rotate_left
              · simp only [Act.put, List.setIfInBounds_toArray, List.set_cons_zero, List.set_cons_succ, i64_w, i32_w]
                rfl
              refine pure_ (i := 24) (N := some 61) (v := ?_) (a' := ?_) #[true, true, true, true, true, true, true, true, true, true, true, true, true, true, true, true, true, true, true, true, true, true, true, true, true, false, false] rfl rfl (any_of HT_.out (by kernel_rfl)) (fun _ _ _ h => h) (Or.inl ⟨by rfl, ?_⟩) ?_ ?_
              rotate_left
              · intro w'
                go_simp
                with_reducible rfl
              rotate_left
              · simp only [Act.put, List.setIfInBounds_toArray, List.set_cons_zero, List.set_cons_succ, i64_w, i32_w]
                rfl
              refine pure_ (i := 25) (N := some 62) (v := ?_) (a' := ?_) #[true, true, true, true, true, true, true, true, true, true, true, true, true, true, true, true, true, true, true, true, true, true, true, true, true, true, false] rfl rfl (any_of HT_.out (by kernel_rfl)) (fun _ _ _ h => h) (Or.inl ⟨by rfl, ?_⟩) ?_ ?_
              rotate_left
              · intro w'
                go_simp
                with_reducible rfl
              rotate_left
              · simp only [Act.put, List.setIfInBounds_toArray, List.set_cons_zero, List.set_cons_succ, i64_w, i32_w]
                rfl
              refine pure_ (i := 26) (N := some 4) (v := ?_) (a' := ?_) #[true, true, true, true, true, true, true, true, true, true, true, true, true, true, true, true, true, true, true, true, true, true, true, true, true, true, true] rfl rfl (any_of HT_.out (by kernel_rfl)) (fun _ _ _ h => h) (Or.inl ⟨by rfl, ?_⟩) ?_ ?_
              rotate_left
              · intro w'
                go_simp
                with_reducible rfl
              rotate_left
              · simp only [Act.put, List.setIfInBounds_toArray, List.set_cons_zero, List.set_cons_succ, i64_w, i32_w]
                rfl
              refine done_ (done_of HT_.out (by kernel_rfl)) ?_
              try go_wp2
              go_ret
              exact ⟨by first | rfl | (simp [errW_none, errW_some] <;> rfl) | (simp [*, errW_none, errW_some] <;> rfl), by repeat (first | (with_reducible first | exact HB.out | apply below_alloc | apply pw_below_drewN | apply below_drew1 | refine below_set ?_ GE190.out | refine below_set ?_ GE198.out | refine below_set ?_ GE200.out) | exact HB.out)⟩
            · rw [if_neg c24] at H
              have c24b0 : (t204.toList == t205.toList) = false := beq_eq_false_iff_ne.mpr c24
              have c24b1 : (t204.toList != t205.toList) = true := bne_iff_ne.mpr c24
              obtain rfl := Option.some.inj H
              have hnb47 := NB190_198.out
              have hnc47 := NB198_190.out
              have hcz48_0 : wc.cell? ⟨gb190, 0, none⟩ = some (.string t183) := (blk_cell BK190.out 0).trans rfl
              have hcz48_1 : wc.cell? ⟨gb190, 1, none⟩ = some (.string t184) := (blk_cell BK190.out 1).trans rfl
              have hcz48_2 : wc.cell? ⟨gb190, 2, none⟩ = some (.int .i64 t185) := (blk_cell BK190.out 2).trans rfl
              have hcz48_3 : wc.cell? ⟨gb190, 3, none⟩ = some (.string t186) := (blk_cell BK190.out 3).trans rfl
              have hcz48_4 : wc.cell? ⟨gb190, 4, none⟩ = some (.string t187) := (blk_cell BK190.out 4).trans rfl
              have hcz48_5 : wc.cell? ⟨gb190, 5, none⟩ = some (.bool t188) := (blk_cell BK190.out 5).trans rfl
              have hfz48_0 := blk_frozen BK190.out 0
              have hfz48_1 := blk_frozen BK190.out 1
              have hfz48_2 := blk_frozen BK190.out 2
              have hfz48_3 := blk_frozen BK190.out 3
              have hfz48_4 := blk_frozen BK190.out 4
              have hfz48_5 := blk_frozen BK190.out 5
              try go_wp2_with (first | ((with_reducible refine gate_dst (N := 9) rfl ?_); refine box_event ?hg (N := 9) ?hd (cs := #[.string (⟨#[]⟩ : ByteArray), .string (⟨#[]⟩ : ByteArray), .int .i64 0, .string (⟨#[]⟩ : ByteArray), .string (⟨#[]⟩ : ByteArray), .bool false]) (t := 23) ?hr ?_; (case hd => rfl); (case hg => rfl); (case hr => first | (go_simp; done) | (go_simp; rfl)); intro gb200 hg w49 hbox hb; have n0_ := Aside0.mk (blk_below (g := gb190) (o := .cells #[.string t183, .string t184, .int .i64 t185, .string t186, .string t187, .bool t188] 23 (0, 0)) (by (with_reducible repeat (first | refine blk_drewN ?_ _ | refine blk_drew ?_ | refine blk_alloc ?_ _)); exact BK190.out) hb); have n1_ := Aside0.mk (blk_below (g := gb198) (o := .cells #[.string t191, .string t192, .int .i64 t193, .string t194, .string t195, .bool t196] 23 (0, 0)) (by (with_reducible repeat (first | refine blk_drewN ?_ _ | refine blk_drew ?_ | refine blk_alloc ?_ _)); exact BK198.out) hb); have n2_ := Aside0.mk (below_step (by repeat (first | (with_reducible first | exact HB.out | apply below_alloc | apply pw_below_drewN | apply below_drew1 | refine below_set ?_ GE190.out | refine below_set ?_ GE198.out) | exact HB.out)) hb); have n3_ := Aside0.mk (hbox); have n4_ := Aside0.mk ((by rw [hg]; exact (below_size (by repeat (first | (with_reducible first | exact HB.out | apply below_alloc | apply pw_below_drewN | apply below_drew1 | refine below_set ?_ GE190.out | refine below_set ?_ GE198.out) | exact HB.out))) : w.heap.size ≤ gb200)); have n5_ := Aside0.mk ((by rw [hg]; exact (below_size (by repeat (first | (with_reducible first | exact HB.out | apply below_alloc | apply pw_below_drewN | apply below_drew1 | refine below_set ?_ GE190.out | refine below_set ?_ GE198.out) | exact HB.out))) : w.heap.size ≤ gb200)); have n6_ := Aside0.mk ((by rw [hg]; exact Nat.ne_of_lt (blk_lt (g := gb190) (o := .cells #[.string t183, .string t184, .int .i64 t185, .string t186, .string t187, .bool t188] 23 (0, 0)) (by (with_reducible repeat (first | refine blk_drewN ?_ _ | refine blk_drew ?_ | refine blk_alloc ?_ _)); exact BK190.out)) : gb190 ≠ gb200)); have n7_ := Aside0.mk ((by rw [hg]; exact Nat.ne_of_gt (blk_lt (g := gb190) (o := .cells #[.string t183, .string t184, .int .i64 t185, .string t186, .string t187, .bool t188] 23 (0, 0)) (by (with_reducible repeat (first | refine blk_drewN ?_ _ | refine blk_drew ?_ | refine blk_alloc ?_ _)); exact BK190.out)) : gb200 ≠ gb190)); have n8_ := Aside0.mk ((by rw [hg]; exact Nat.ne_of_lt (blk_lt (g := gb198) (o := .cells #[.string t191, .string t192, .int .i64 t193, .string t194, .string t195, .bool t196] 23 (0, 0)) (by (with_reducible repeat (first | refine blk_drewN ?_ _ | refine blk_drew ?_ | refine blk_alloc ?_ _)); exact BK198.out)) : gb198 ≠ gb200)); have n9_ := Aside0.mk ((by rw [hg]; exact Nat.ne_of_gt (blk_lt (g := gb198) (o := .cells #[.string t191, .string t192, .int .i64 t193, .string t194, .string t195, .bool t196] 23 (0, 0)) (by (with_reducible repeat (first | refine blk_drewN ?_ _ | refine blk_drew ?_ | refine blk_alloc ?_ _)); exact BK198.out)) : gb200 ≠ gb198)); clear BK190; clear BK198; clear HB; have BK190 := n0_; have BK198 := n1_; have HB := n2_; have BK200 := n3_; have GW200 := n4_; have GE200 := n5_; have NB190_200 := n6_; have NB200_190 := n7_; have NB198_200 := n8_; have NB200_198 := n9_; clear n0_ n1_ n2_ n3_ n4_ n5_ n6_ n7_ n8_ n9_; clear hb hbox hg; have hnb50 := NB200_190.out; have hnc50 := NB190_200.out; have hnb51 := NB200_198.out; have hnc51 := NB198_200.out; have hcz52_0 : w49.cell? ⟨gb200, 0, none⟩ = some (.string (⟨#[]⟩ : ByteArray)) := (blk_cell BK200.out 0).trans rfl; have hcz52_1 : w49.cell? ⟨gb200, 1, none⟩ = some (.string (⟨#[]⟩ : ByteArray)) := (blk_cell BK200.out 1).trans rfl; have hcz52_2 : w49.cell? ⟨gb200, 2, none⟩ = some (.int .i64 0) := (blk_cell BK200.out 2).trans rfl; have hcz52_3 : w49.cell? ⟨gb200, 3, none⟩ = some (.string (⟨#[]⟩ : ByteArray)) := (blk_cell BK200.out 3).trans rfl; have hcz52_4 : w49.cell? ⟨gb200, 4, none⟩ = some (.string (⟨#[]⟩ : ByteArray)) := (blk_cell BK200.out 4).trans rfl; have hcz52_5 : w49.cell? ⟨gb200, 5, none⟩ = some (.bool false) := (blk_cell BK200.out 5).trans rfl; have hfz52_0 := blk_frozen BK200.out 0; have hfz52_1 := blk_frozen BK200.out 1; have hfz52_2 := blk_frozen BK200.out 2; have hfz52_3 := blk_frozen BK200.out 3; have hfz52_4 := blk_frozen BK200.out 4; have hfz52_5 := blk_frozen BK200.out 5))
              have n0_ : Aside0 (((((((w49.setCell ⟨gb200, 0, none⟩ (.string t183)).setCell ⟨gb200, 1, none⟩ (.string t184)).setCell ⟨gb200, 2, none⟩ (.int .i64 t185)).setCell ⟨gb200, 3, none⟩ (.string t186)).setCell ⟨gb200, 4, none⟩ (.string t187)).setCell ⟨gb200, 5, none⟩ (.bool t188)).heap[gb190]? = some (.cells #[.string t183, .string t184, .int .i64 t185, .string t186, .string t187, .bool t188] 23 (0, 0))) := ⟨by (with_reducible repeat (first | refine blk_drewN ?_ _ | refine blk_drew ?_ | refine blk_alloc ?_ _)); refine blk_far ?_ NB190_200.out _; (with_reducible repeat (first | refine blk_drewN ?_ _ | refine blk_drew ?_ | refine blk_alloc ?_ _)); refine blk_far ?_ NB190_200.out _; (with_reducible repeat (first | refine blk_drewN ?_ _ | refine blk_drew ?_ | refine blk_alloc ?_ _)); refine blk_far ?_ NB190_200.out _; (with_reducible repeat (first | refine blk_drewN ?_ _ | refine blk_drew ?_ | refine blk_alloc ?_ _)); refine blk_far ?_ NB190_200.out _; (with_reducible repeat (first | refine blk_drewN ?_ _ | refine blk_drew ?_ | refine blk_alloc ?_ _)); refine blk_far ?_ NB190_200.out _; (with_reducible repeat (first | refine blk_drewN ?_ _ | refine blk_drew ?_ | refine blk_alloc ?_ _)); refine blk_far ?_ NB190_200.out _; (with_reducible repeat (first | refine blk_drewN ?_ _ | refine blk_drew ?_ | refine blk_alloc ?_ _)); exact BK190.out⟩
              have n1_ : Aside0 (((((((w49.setCell ⟨gb200, 0, none⟩ (.string t183)).setCell ⟨gb200, 1, none⟩ (.string t184)).setCell ⟨gb200, 2, none⟩ (.int .i64 t185)).setCell ⟨gb200, 3, none⟩ (.string t186)).setCell ⟨gb200, 4, none⟩ (.string t187)).setCell ⟨gb200, 5, none⟩ (.bool t188)).heap[gb198]? = some (.cells #[.string t191, .string t192, .int .i64 t193, .string t194, .string t195, .bool t196] 23 (0, 0))) := ⟨by (with_reducible repeat (first | refine blk_drewN ?_ _ | refine blk_drew ?_ | refine blk_alloc ?_ _)); refine blk_far ?_ NB198_200.out _; (with_reducible repeat (first | refine blk_drewN ?_ _ | refine blk_drew ?_ | refine blk_alloc ?_ _)); refine blk_far ?_ NB198_200.out _; (with_reducible repeat (first | refine blk_drewN ?_ _ | refine blk_drew ?_ | refine blk_alloc ?_ _)); refine blk_far ?_ NB198_200.out _; (with_reducible repeat (first | refine blk_drewN ?_ _ | refine blk_drew ?_ | refine blk_alloc ?_ _)); refine blk_far ?_ NB198_200.out _; (with_reducible repeat (first | refine blk_drewN ?_ _ | refine blk_drew ?_ | refine blk_alloc ?_ _)); refine blk_far ?_ NB198_200.out _; (with_reducible repeat (first | refine blk_drewN ?_ _ | refine blk_drew ?_ | refine blk_alloc ?_ _)); refine blk_far ?_ NB198_200.out _; (with_reducible repeat (first | refine blk_drewN ?_ _ | refine blk_drew ?_ | refine blk_alloc ?_ _)); exact BK198.out⟩
              have n2_ : Aside0 (((((((w49.setCell ⟨gb200, 0, none⟩ (.string t183)).setCell ⟨gb200, 1, none⟩ (.string t184)).setCell ⟨gb200, 2, none⟩ (.int .i64 t185)).setCell ⟨gb200, 3, none⟩ (.string t186)).setCell ⟨gb200, 4, none⟩ (.string t187)).setCell ⟨gb200, 5, none⟩ (.bool t188)).heap[gb200]? = some (.cells #[.string t183, .string t184, .int .i64 t185, .string t186, .string t187, .bool t188] 23 (0, 0))) := ⟨by (with_reducible repeat (first | refine blk_drewN ?_ _ | refine blk_drew ?_ | refine blk_alloc ?_ _)); refine blk_put (cs := #[.string t183, .string t184, .int .i64 t185, .string t186, .string t187, .bool false]) ?_ 5 _ rfl; (with_reducible repeat (first | refine blk_drewN ?_ _ | refine blk_drew ?_ | refine blk_alloc ?_ _)); refine blk_put (cs := #[.string t183, .string t184, .int .i64 t185, .string t186, .string (⟨#[]⟩ : ByteArray), .bool false]) ?_ 4 _ rfl; (with_reducible repeat (first | refine blk_drewN ?_ _ | refine blk_drew ?_ | refine blk_alloc ?_ _)); refine blk_put (cs := #[.string t183, .string t184, .int .i64 t185, .string (⟨#[]⟩ : ByteArray), .string (⟨#[]⟩ : ByteArray), .bool false]) ?_ 3 _ rfl; (with_reducible repeat (first | refine blk_drewN ?_ _ | refine blk_drew ?_ | refine blk_alloc ?_ _)); refine blk_put (cs := #[.string t183, .string t184, .int .i64 0, .string (⟨#[]⟩ : ByteArray), .string (⟨#[]⟩ : ByteArray), .bool false]) ?_ 2 _ rfl; (with_reducible repeat (first | refine blk_drewN ?_ _ | refine blk_drew ?_ | refine blk_alloc ?_ _)); refine blk_put (cs := #[.string t183, .string (⟨#[]⟩ : ByteArray), .int .i64 0, .string (⟨#[]⟩ : ByteArray), .string (⟨#[]⟩ : ByteArray), .bool false]) ?_ 1 _ rfl; (with_reducible repeat (first | refine blk_drewN ?_ _ | refine blk_drew ?_ | refine blk_alloc ?_ _)); refine blk_put (cs := #[.string (⟨#[]⟩ : ByteArray), .string (⟨#[]⟩ : ByteArray), .int .i64 0, .string (⟨#[]⟩ : ByteArray), .string (⟨#[]⟩ : ByteArray), .bool false]) ?_ 0 _ rfl; (with_reducible repeat (first | refine blk_drewN ?_ _ | refine blk_drew ?_ | refine blk_alloc ?_ _)); exact BK200.out⟩
              have n3_ : Aside0 (Below w.heap.size w ((((((w49.setCell ⟨gb200, 0, none⟩ (.string t183)).setCell ⟨gb200, 1, none⟩ (.string t184)).setCell ⟨gb200, 2, none⟩ (.int .i64 t185)).setCell ⟨gb200, 3, none⟩ (.string t186)).setCell ⟨gb200, 4, none⟩ (.string t187)).setCell ⟨gb200, 5, none⟩ (.bool t188))) := ⟨by repeat (first | (with_reducible first | exact HB.out | apply below_alloc | apply pw_below_drewN | apply below_drew1 | refine below_set ?_ GE190.out | refine below_set ?_ GE198.out | refine below_set ?_ GE200.out) | exact HB.out)⟩
              (try clear BK190)
              (try clear BK198)
              (try clear BK200)
              (try clear HB)
              generalize ((((((w49.setCell ⟨gb200, 0, none⟩ (.string t183)).setCell ⟨gb200, 1, none⟩ (.string t184)).setCell ⟨gb200, 2, none⟩ (.int .i64 t185)).setCell ⟨gb200, 3, none⟩ (.string t186)).setCell ⟨gb200, 4, none⟩ (.string t187)).setCell ⟨gb200, 5, none⟩ (.bool t188)) = w53 at n0_ n1_ n2_ n3_ ⊢
              have BK190 := n0_
              have BK198 := n1_
              have BK200 := n2_
              have HB := n3_
              clear n0_ n1_ n2_ n3_
              have n0_ := Aside0.mk (blk_drew BK190.out)
              have n1_ := Aside0.mk (blk_drew BK198.out)
              have n2_ := Aside0.mk (blk_drew BK200.out)
              have n3_ := Aside0.mk (below_drew1 HB.out)
              clear BK190
              clear BK198
              clear BK200
              clear HB
              have BK190 := n0_
              have BK198 := n1_
              have BK200 := n2_
              have HB := n3_
              clear n0_ n1_ n2_ n3_
              refine start_ (n := 12) (S := fun w' => w'.cell? ⟨gb198, 0, none⟩ = some (.string t191) ∧ w'.cell? ⟨gb198, 1, none⟩ = some (.string t192) ∧ w'.cell? ⟨gb198, 2, none⟩ = some (.int .i64 t193) ∧ w'.cell? ⟨gb198, 3, none⟩ = some (.string t194) ∧ w'.cell? ⟨gb198, 4, none⟩ = some (.string t195) ∧ w'.cell? ⟨gb198, 5, none⟩ = some (.bool t196)) (ds := []) #[false, false, false, false, false, false, false, false, false, false, false, false] (by kernel_rfl) rfl rfl ⟨(blk_cell BK198.out 0).trans rfl, (blk_cell BK198.out 1).trans rfl, (blk_cell BK198.out 2).trans rfl, (blk_cell BK198.out 3).trans rfl, (blk_cell BK198.out 4).trans rfl, (blk_cell BK198.out 5).trans rfl⟩ (fun hHeld => ?_); refine with_tabW decorumlaw05_UrlKeys.tab6 decorumlaw05_UrlKeys.bits6 (fun HT_ HW_ => ?_)
              generalize w53.drew = w54 at BK190 BK198 BK200 HB hHeld ⊢
              refine pure_ (i := 0) (N := some 28) (v := ?_) (a' := ?_) #[true, false, false, false, false, false, false, false, false, false, false, false] rfl rfl (any_of HT_.out (by kernel_rfl)) (fun _ _ _ h => h) (Or.inl ⟨by rfl, ?_⟩) ?_ ?_
              rotate_left
              · intro w'
                go_simp
                with_reducible rfl
              rotate_left
              · simp only [Act.put, List.setIfInBounds_toArray, List.set_cons_zero, List.set_cons_succ, i64_w, i32_w]
                rfl
              refine pure_ (i := 2) (N := some 30) (v := ?_) (a' := ?_) #[true, false, true, false, false, false, false, false, false, false, false, false] rfl rfl (any_of HT_.out (by kernel_rfl)) (fun _ _ _ h => h) (Or.inl ⟨by rfl, ?_⟩) ?_ ?_
              rotate_left
              · intro w'
                go_simp
                with_reducible rfl
              rotate_left
              · simp only [Act.put, List.setIfInBounds_toArray, List.set_cons_zero, List.set_cons_succ, i64_w, i32_w]
                rfl
              refine pure_ (i := 4) (N := some 32) (v := ?_) (a' := ?_) #[true, false, true, false, true, false, false, false, false, false, false, false] rfl rfl (any_of HT_.out (by kernel_rfl)) (fun _ _ _ h => h) (Or.inl ⟨by rfl, ?_⟩) ?_ ?_
              rotate_left
              · intro w'
                go_simp
                with_reducible rfl
              rotate_left
              · simp only [Act.put, List.setIfInBounds_toArray, List.set_cons_zero, List.set_cons_succ, i64_w, i32_w]
                rfl
              refine take_ (i := 1) (N := some 29) (v := ?_) (a' := ?_) #[true, true, true, false, true, false, false, false, false, false, false, false] rfl rfl (take_ofW HT_.out HW_.out (by kernel_rfl)) (fun _ _ _ h => h) (Or.inl ⟨by rfl, ?_⟩) hHeld ?_ ?_
              rotate_left
              · rintro w' ⟨s0, s1, s2, s3, s4, s5⟩
                go_simp
                with_reducible rfl
              rotate_left
              · simp only [Act.put, List.setIfInBounds_toArray, List.set_cons_zero, List.set_cons_succ, i64_w, i32_w]
                rfl
              refine pure_ (i := 6) (N := some 34) (v := ?_) (a' := ?_) #[true, true, true, false, true, false, true, false, false, false, false, false] rfl rfl (any_of HT_.out (by kernel_rfl)) (fun _ _ _ h => h) (Or.inl ⟨by rfl, ?_⟩) ?_ ?_
              rotate_left
              · intro w'
                go_simp
                with_reducible rfl
              rotate_left
              · simp only [Act.put, List.setIfInBounds_toArray, List.set_cons_zero, List.set_cons_succ, i64_w, i32_w]
                rfl
              refine take_ (i := 3) (N := some 31) (v := ?_) (a' := ?_) #[true, true, true, true, true, false, true, false, false, false, false, false] rfl rfl (take_ofW HT_.out HW_.out (by kernel_rfl)) (fun _ _ _ h => h) (Or.inl ⟨by rfl, ?_⟩) hHeld ?_ ?_
              rotate_left
              · rintro w' ⟨s0, s1, s2, s3, s4, s5⟩
                go_simp
                with_reducible rfl
              rotate_left
              · simp only [Act.put, List.setIfInBounds_toArray, List.set_cons_zero, List.set_cons_succ, i64_w, i32_w]
                rfl
              refine take_ (i := 5) (N := some 33) (v := ?_) (a' := ?_) #[true, true, true, true, true, true, true, false, false, false, false, false] rfl rfl (take_ofW HT_.out HW_.out (by kernel_rfl)) (fun _ _ _ h => h) (Or.inl ⟨by rfl, ?_⟩) hHeld ?_ ?_
              rotate_left
              · rintro w' ⟨s0, s1, s2, s3, s4, s5⟩
                go_simp
                with_reducible rfl
              rotate_left
              · simp only [Act.put, List.setIfInBounds_toArray, List.set_cons_zero, List.set_cons_succ, i64_w, i32_w]
                rfl
              refine one_ (i := 7) (N := none) #[true, true, true, true, true, true, true, true, false, false, false, false] rfl rfl (one_of HT_.out (by kernel_rfl)) (by decide) (fun K hK => ?_)
              have hs55 : w54.cell? ⟨gb200, 3, none⟩ = some (.string t186) := (blk_cell BK200.out 3).trans rfl
              have hfs55 := blk_frozen BK200.out 3
              have hns55_0 := NB190_200.out
              have hns55_1 := NB198_200.out
              have hms55_0 := NB200_190.out
              have hms55_1 := NB200_198.out
              refine skip_ (w1 := ?_) (by rfl) rfl ?_ ?_
              rotate_left
              · go_simp
                rfl
              refine hK.out _ _ ⟨((cell_far (p := ⟨gb200, _, none⟩) NB198_200.out _).trans (hHeld.1)), ((cell_far (p := ⟨gb200, _, none⟩) NB198_200.out _).trans (hHeld.2.1)), ((cell_far (p := ⟨gb200, _, none⟩) NB198_200.out _).trans (hHeld.2.2.1)), ((cell_far (p := ⟨gb200, _, none⟩) NB198_200.out _).trans (hHeld.2.2.2.1)), ((cell_far (p := ⟨gb200, _, none⟩) NB198_200.out _).trans (hHeld.2.2.2.2.1)), ((cell_far (p := ⟨gb200, _, none⟩) NB198_200.out _).trans (hHeld.2.2.2.2.2))⟩ (fun hHeld => ?_)
              clear hK K
              refine pure_ (i := 8) (N := some 35) (v := ?_) (a' := ?_) #[true, true, true, true, true, true, true, true, true, false, false, false] rfl rfl (any_of HT_.out (by kernel_rfl)) (fun _ _ _ h => h) (Or.inl ⟨by rfl, ?_⟩) ?_ ?_
              rotate_left
              · intro w'
                go_simp
                with_reducible rfl
              rotate_left
              · simp only [Act.put, List.setIfInBounds_toArray, List.set_cons_zero, List.set_cons_succ, i64_w, i32_w]
                rfl
              refine one_ (i := 9) (N := none) #[true, true, true, true, true, true, true, true, true, true, false, false] rfl rfl (one_of HT_.out (by kernel_rfl)) (by decide) (fun K hK => ?_)
              have hs56 : w54.cell? ⟨gb200, 4, none⟩ = some (.string t187) := (blk_cell BK200.out 4).trans rfl
              have hfs56 := blk_frozen BK200.out 4
              have hns56_0 := NB190_200.out
              have hns56_1 := NB198_200.out
              have hms56_0 := NB200_190.out
              have hms56_1 := NB200_198.out
              refine skip_ (w1 := ?_) (by rfl) rfl ?_ ?_
              rotate_left
              · go_simp
                rfl
              refine hK.out _ _ ⟨((cell_far (p := ⟨gb200, _, none⟩) NB198_200.out _).trans (hHeld.1)), ((cell_far (p := ⟨gb200, _, none⟩) NB198_200.out _).trans (hHeld.2.1)), ((cell_far (p := ⟨gb200, _, none⟩) NB198_200.out _).trans (hHeld.2.2.1)), ((cell_far (p := ⟨gb200, _, none⟩) NB198_200.out _).trans (hHeld.2.2.2.1)), ((cell_far (p := ⟨gb200, _, none⟩) NB198_200.out _).trans (hHeld.2.2.2.2.1)), ((cell_far (p := ⟨gb200, _, none⟩) NB198_200.out _).trans (hHeld.2.2.2.2.2))⟩ (fun hHeld => ?_)
              clear hK K
              refine pure_ (i := 10) (N := some 36) (v := ?_) (a' := ?_) #[true, true, true, true, true, true, true, true, true, true, true, false] rfl rfl (any_of HT_.out (by kernel_rfl)) (fun _ _ _ h => h) (Or.inl ⟨by rfl, ?_⟩) ?_ ?_
              rotate_left
              · intro w'
                go_simp
                with_reducible rfl
              rotate_left
              · simp only [Act.put, List.setIfInBounds_toArray, List.set_cons_zero, List.set_cons_succ, i64_w, i32_w]
                rfl
              refine one_ (i := 11) (N := none) #[true, true, true, true, true, true, true, true, true, true, true, true] rfl rfl (one_of HT_.out (by kernel_rfl)) (by decide) (fun K hK => ?_)
              have hs57 : w54.cell? ⟨gb200, 5, none⟩ = some (.bool t188) := (blk_cell BK200.out 5).trans rfl
              have hfs57 := blk_frozen BK200.out 5
              have hns57_0 := NB190_200.out
              have hns57_1 := NB198_200.out
              have hms57_0 := NB200_190.out
              have hms57_1 := NB200_198.out
              refine skip_ (w1 := ?_) (by rfl) rfl ?_ ?_
              rotate_left
              · go_simp
                rfl
              refine hK.out _ _ ⟨((cell_far (p := ⟨gb200, _, none⟩) NB198_200.out _).trans (hHeld.1)), ((cell_far (p := ⟨gb200, _, none⟩) NB198_200.out _).trans (hHeld.2.1)), ((cell_far (p := ⟨gb200, _, none⟩) NB198_200.out _).trans (hHeld.2.2.1)), ((cell_far (p := ⟨gb200, _, none⟩) NB198_200.out _).trans (hHeld.2.2.2.1)), ((cell_far (p := ⟨gb200, _, none⟩) NB198_200.out _).trans (hHeld.2.2.2.2.1)), ((cell_far (p := ⟨gb200, _, none⟩) NB198_200.out _).trans (hHeld.2.2.2.2.2))⟩ (fun hHeld => ?_)
              clear hK K
              refine done_ (done_of HT_.out (by kernel_rfl)) ?_
              try go_wp2
              have n0_ : Aside0 ((((w54.setCell ⟨gb200, 3, none⟩ (.string t194)).setCell ⟨gb200, 4, none⟩ (.string t195)).setCell ⟨gb200, 5, none⟩ (.bool t196)).heap[gb190]? = some (.cells #[.string t183, .string t184, .int .i64 t185, .string t186, .string t187, .bool t188] 23 (0, 0))) := ⟨by (with_reducible repeat (first | refine blk_drewN ?_ _ | refine blk_drew ?_ | refine blk_alloc ?_ _)); refine blk_far ?_ NB190_200.out _; (with_reducible repeat (first | refine blk_drewN ?_ _ | refine blk_drew ?_ | refine blk_alloc ?_ _)); refine blk_far ?_ NB190_200.out _; (with_reducible repeat (first | refine blk_drewN ?_ _ | refine blk_drew ?_ | refine blk_alloc ?_ _)); refine blk_far ?_ NB190_200.out _; (with_reducible repeat (first | refine blk_drewN ?_ _ | refine blk_drew ?_ | refine blk_alloc ?_ _)); exact BK190.out⟩
              have n1_ : Aside0 ((((w54.setCell ⟨gb200, 3, none⟩ (.string t194)).setCell ⟨gb200, 4, none⟩ (.string t195)).setCell ⟨gb200, 5, none⟩ (.bool t196)).heap[gb198]? = some (.cells #[.string t191, .string t192, .int .i64 t193, .string t194, .string t195, .bool t196] 23 (0, 0))) := ⟨by (with_reducible repeat (first | refine blk_drewN ?_ _ | refine blk_drew ?_ | refine blk_alloc ?_ _)); refine blk_far ?_ NB198_200.out _; (with_reducible repeat (first | refine blk_drewN ?_ _ | refine blk_drew ?_ | refine blk_alloc ?_ _)); refine blk_far ?_ NB198_200.out _; (with_reducible repeat (first | refine blk_drewN ?_ _ | refine blk_drew ?_ | refine blk_alloc ?_ _)); refine blk_far ?_ NB198_200.out _; (with_reducible repeat (first | refine blk_drewN ?_ _ | refine blk_drew ?_ | refine blk_alloc ?_ _)); exact BK198.out⟩
              have n2_ : Aside0 ((((w54.setCell ⟨gb200, 3, none⟩ (.string t194)).setCell ⟨gb200, 4, none⟩ (.string t195)).setCell ⟨gb200, 5, none⟩ (.bool t196)).heap[gb200]? = some (.cells #[.string t183, .string t184, .int .i64 t185, .string t194, .string t195, .bool t196] 23 (0, 0))) := ⟨by (with_reducible repeat (first | refine blk_drewN ?_ _ | refine blk_drew ?_ | refine blk_alloc ?_ _)); refine blk_put (cs := #[.string t183, .string t184, .int .i64 t185, .string t194, .string t195, .bool t188]) ?_ 5 _ rfl; (with_reducible repeat (first | refine blk_drewN ?_ _ | refine blk_drew ?_ | refine blk_alloc ?_ _)); refine blk_put (cs := #[.string t183, .string t184, .int .i64 t185, .string t194, .string t187, .bool t188]) ?_ 4 _ rfl; (with_reducible repeat (first | refine blk_drewN ?_ _ | refine blk_drew ?_ | refine blk_alloc ?_ _)); refine blk_put (cs := #[.string t183, .string t184, .int .i64 t185, .string t186, .string t187, .bool t188]) ?_ 3 _ rfl; (with_reducible repeat (first | refine blk_drewN ?_ _ | refine blk_drew ?_ | refine blk_alloc ?_ _)); exact BK200.out⟩
              have n3_ : Aside0 (Below w.heap.size w (((w54.setCell ⟨gb200, 3, none⟩ (.string t194)).setCell ⟨gb200, 4, none⟩ (.string t195)).setCell ⟨gb200, 5, none⟩ (.bool t196))) := ⟨by repeat (first | (with_reducible first | exact HB.out | apply below_alloc | apply pw_below_drewN | apply below_drew1 | refine below_set ?_ GE190.out | refine below_set ?_ GE198.out | refine below_set ?_ GE200.out) | exact HB.out)⟩
              (try clear BK190)
              (try clear BK198)
              (try clear BK200)
              (try clear HB)
              generalize (((w54.setCell ⟨gb200, 3, none⟩ (.string t194)).setCell ⟨gb200, 4, none⟩ (.string t195)).setCell ⟨gb200, 5, none⟩ (.bool t196)) = w58 at n0_ n1_ n2_ n3_ ⊢
              have BK190 := n0_
              have BK198 := n1_
              have BK200 := n2_
              have HB := n3_
              clear n0_ n1_ n2_ n3_
              have n0_ := Aside0.mk (blk_drew BK190.out)
              have n1_ := Aside0.mk (blk_drew BK198.out)
              have n2_ := Aside0.mk (blk_drew BK200.out)
              have n3_ := Aside0.mk (below_drew1 HB.out)
              clear BK190
              clear BK198
              clear BK200
              clear HB
              have BK190 := n0_
              have BK198 := n1_
              have BK200 := n2_
              have HB := n3_
              clear n0_ n1_ n2_ n3_
              refine start_ (n := 27) (S := fun w' => w'.cell? ⟨gb200, 0, none⟩ = some (.string t183) ∧ w'.cell? ⟨gb200, 1, none⟩ = some (.string t184) ∧ w'.cell? ⟨gb200, 2, none⟩ = some (.int .i64 t185) ∧ w'.cell? ⟨gb200, 3, none⟩ = some (.string t194) ∧ w'.cell? ⟨gb200, 4, none⟩ = some (.string t195) ∧ w'.cell? ⟨gb200, 5, none⟩ = some (.bool t196) ∧ w'.cell? ⟨gb190, 0, none⟩ = some (.string t183) ∧ w'.cell? ⟨gb190, 1, none⟩ = some (.string t184) ∧ w'.cell? ⟨gb190, 2, none⟩ = some (.int .i64 t185) ∧ w'.cell? ⟨gb190, 3, none⟩ = some (.string t186) ∧ w'.cell? ⟨gb190, 4, none⟩ = some (.string t187) ∧ w'.cell? ⟨gb190, 5, none⟩ = some (.bool t188) ∧ w'.cell? ⟨gb198, 0, none⟩ = some (.string t191) ∧ w'.cell? ⟨gb198, 1, none⟩ = some (.string t192) ∧ w'.cell? ⟨gb198, 2, none⟩ = some (.int .i64 t193) ∧ w'.cell? ⟨gb198, 3, none⟩ = some (.string t194) ∧ w'.cell? ⟨gb198, 4, none⟩ = some (.string t195) ∧ w'.cell? ⟨gb198, 5, none⟩ = some (.bool t196)) (ds := []) #[false, false, false, false, false, false, false, false, false, false, false, false, false, false, false, false, false, false, false, false, false, false, false, false, false, false, false] (by kernel_rfl) rfl rfl ⟨(blk_cell BK200.out 0).trans rfl, (blk_cell BK200.out 1).trans rfl, (blk_cell BK200.out 2).trans rfl, (blk_cell BK200.out 3).trans rfl, (blk_cell BK200.out 4).trans rfl, (blk_cell BK200.out 5).trans rfl, (blk_cell BK190.out 0).trans rfl, (blk_cell BK190.out 1).trans rfl, (blk_cell BK190.out 2).trans rfl, (blk_cell BK190.out 3).trans rfl, (blk_cell BK190.out 4).trans rfl, (blk_cell BK190.out 5).trans rfl, (blk_cell BK198.out 0).trans rfl, (blk_cell BK198.out 1).trans rfl, (blk_cell BK198.out 2).trans rfl, (blk_cell BK198.out 3).trans rfl, (blk_cell BK198.out 4).trans rfl, (blk_cell BK198.out 5).trans rfl⟩ (fun hHeld => ?_); refine with_tabW decorumlaw05_UrlKeys.tab7 decorumlaw05_UrlKeys.bits7 (fun HT_ HW_ => ?_)
              generalize w58.drew = w59 at BK190 BK198 BK200 HB hHeld ⊢
              refine one_ (i := 0) (N := some 37) #[true, false, false, false, false, false, false, false, false, false, false, false, false, false, false, false, false, false, false, false, false, false, false, false, false, false, false] rfl rfl (one_of HT_.out (by kernel_rfl)) (by decide) (fun K hK => ?_)
              refine goes_ Tryd.func7 (by kernel_rfl) rfl #[] (by rfl) rfl rfl (by (try simp only [List.map_toArray, List.map_cons, List.map_nil]); first | done | rfl | (simp only [List.length_drop, List.length_take]; rfl)) ?_
              with_reducible refine (decorumlaw05_awake.calls  true _ ?side1 A17.out).mono ?_
              (case side1 => exact Gl.below hG (by repeat (first | (with_reducible first | exact HB.out | apply below_alloc | apply pw_below_drewN | apply below_drew1 | refine below_set ?_ GE190.out | refine below_set ?_ GE198.out | refine below_set ?_ GE200.out) | exact HB.out)))
              rintro e w60 ⟨rfl, hb⟩
              refine ⟨_, rfl, ?_⟩
              have n0_ := Aside0.mk (blk_below (g := gb190) (o := .cells #[.string t183, .string t184, .int .i64 t185, .string t186, .string t187, .bool t188] 23 (0, 0)) (by (with_reducible repeat (first | refine blk_drewN ?_ _ | refine blk_drew ?_ | refine blk_alloc ?_ _)); exact BK190.out) hb)
              have n1_ := Aside0.mk (blk_below (g := gb198) (o := .cells #[.string t191, .string t192, .int .i64 t193, .string t194, .string t195, .bool t196] 23 (0, 0)) (by (with_reducible repeat (first | refine blk_drewN ?_ _ | refine blk_drew ?_ | refine blk_alloc ?_ _)); exact BK198.out) hb)
              have n2_ := Aside0.mk (blk_below (g := gb200) (o := .cells #[.string t183, .string t184, .int .i64 t185, .string t194, .string t195, .bool t196] 23 (0, 0)) (by (with_reducible repeat (first | refine blk_drewN ?_ _ | refine blk_drew ?_ | refine blk_alloc ?_ _)); exact BK200.out) hb)
              have n3_ := Aside0.mk (below_step (by repeat (first | (with_reducible first | exact HB.out | apply below_alloc | apply pw_below_drewN | apply below_drew1 | refine below_set ?_ GE190.out | refine below_set ?_ GE198.out | refine below_set ?_ GE200.out) | exact HB.out)) hb)
              clear BK190
              clear BK198
              clear BK200
              clear HB
              have BK190 := n0_
              have BK198 := n1_
              have BK200 := n2_
              have HB := n3_
              clear n0_ n1_ n2_ n3_
              (try clear hb)
              (try clear hb2)
              (try clear hk)
              (try clear hi)
              refine hK.out _ _ ⟨(blk_cell BK200.out 0).trans rfl, (blk_cell BK200.out 1).trans rfl, (blk_cell BK200.out 2).trans rfl, (blk_cell BK200.out 3).trans rfl, (blk_cell BK200.out 4).trans rfl, (blk_cell BK200.out 5).trans rfl, (blk_cell BK190.out 0).trans rfl, (blk_cell BK190.out 1).trans rfl, (blk_cell BK190.out 2).trans rfl, (blk_cell BK190.out 3).trans rfl, (blk_cell BK190.out 4).trans rfl, (blk_cell BK190.out 5).trans rfl, (blk_cell BK198.out 0).trans rfl, (blk_cell BK198.out 1).trans rfl, (blk_cell BK198.out 2).trans rfl, (blk_cell BK198.out 3).trans rfl, (blk_cell BK198.out 4).trans rfl, (blk_cell BK198.out 5).trans rfl⟩ (fun hHeld => ?_)
              clear hK K
              refine norm_ (a' := ?_) ?_ ?_
              rotate_left
              · show Act.put _ (some 37) _ = _
                simp only [Act.put, List.setIfInBounds_toArray, List.set_cons_zero, List.set_cons_succ, i64_w, i32_w]
                rfl
              refine pure_ (i := 1) (N := some 38) (v := ?_) (a' := ?_) #[true, true, false, false, false, false, false, false, false, false, false, false, false, false, false, false, false, false, false, false, false, false, false, false, false, false, false] rfl rfl (any_of HT_.out (by kernel_rfl)) (fun _ _ _ h => h) (Or.inl ⟨by rfl, ?_⟩) ?_ ?_
              rotate_left
              · intro w'
                go_simp
                with_reducible rfl
              rotate_left
              · simp only [Act.put, List.setIfInBounds_toArray, List.set_cons_zero, List.set_cons_succ, i64_w, i32_w]
                rfl
              refine take_ (i := 2) (N := some 39) (v := ?_) (a' := ?_) #[true, true, true, false, false, false, false, false, false, false, false, false, false, false, false, false, false, false, false, false, false, false, false, false, false, false, false] rfl rfl (take_ofW HT_.out HW_.out (by kernel_rfl)) (fun _ _ _ h => h) (Or.inl ⟨by rfl, ?_⟩) hHeld ?_ ?_
              rotate_left
              · rintro w' ⟨s0, s1, s2, s3, s4, s5, s6, s7, s8, s9, s10, s11, s12, s13, s14, s15, s16, s17⟩
                go_simp
                with_reducible rfl
              rotate_left
              · simp only [Act.put, List.setIfInBounds_toArray, List.set_cons_zero, List.set_cons_succ, i64_w, i32_w]
                rfl
              refine take_ (i := 4) (N := some 41) (v := ?_) (a' := ?_) #[true, true, true, false, true, false, false, false, false, false, false, false, false, false, false, false, false, false, false, false, false, false, false, false, false, false, false] rfl rfl (take_ofW HT_.out HW_.out (by kernel_rfl)) (fun _ _ _ h => h) (Or.inl ⟨by rfl, ?_⟩) hHeld ?_ ?_
              rotate_left
              · rintro w' ⟨s0, s1, s2, s3, s4, s5, s6, s7, s8, s9, s10, s11, s12, s13, s14, s15, s16, s17⟩
                go_simp
                with_reducible rfl
              rotate_left
              · simp only [Act.put, List.setIfInBounds_toArray, List.set_cons_zero, List.set_cons_succ, i64_w, i32_w]
                rfl
              refine one_ (i := 3) (N := some 40) #[true, true, true, true, true, false, false, false, false, false, false, false, false, false, false, false, false, false, false, false, false, false, false, false, false, false, false] rfl rfl (one_of HT_.out (by kernel_rfl)) (by decide) (fun K hK => ?_)
              refine goes_ Tryd.func8 (by kernel_rfl) rfl #[.agg #[.string t183, .string t184, .int .i64 t185, .string t194, .string t195, .bool t196]] (by rfl) rfl rfl (by (try simp only [List.map_toArray, List.map_cons, List.map_nil]); first | done | rfl | (simp only [List.length_drop, List.length_take]; rfl)) ?_
              with_reducible refine (Go.Proofs.YtpnofnmecjagcaaDoor.XB.url_Key.calls t183 t184 t185 t194 t195 t196 t202 _ ?side1 A19.out).mono ?_
              (case side1 => exact Gl.below hG (by repeat (first | (with_reducible first | exact HB.out | apply below_alloc | apply pw_below_drewN | apply below_drew1 | refine below_set ?_ GE190.out | refine below_set ?_ GE198.out | refine below_set ?_ GE200.out) | exact HB.out)))
              rintro e w61 ⟨rfl, hb⟩
              refine ⟨_, rfl, ?_⟩
              have n0_ := Aside0.mk (blk_below (g := gb190) (o := .cells #[.string t183, .string t184, .int .i64 t185, .string t186, .string t187, .bool t188] 23 (0, 0)) (by (with_reducible repeat (first | refine blk_drewN ?_ _ | refine blk_drew ?_ | refine blk_alloc ?_ _)); exact BK190.out) hb)
              have n1_ := Aside0.mk (blk_below (g := gb198) (o := .cells #[.string t191, .string t192, .int .i64 t193, .string t194, .string t195, .bool t196] 23 (0, 0)) (by (with_reducible repeat (first | refine blk_drewN ?_ _ | refine blk_drew ?_ | refine blk_alloc ?_ _)); exact BK198.out) hb)
              have n2_ := Aside0.mk (blk_below (g := gb200) (o := .cells #[.string t183, .string t184, .int .i64 t185, .string t194, .string t195, .bool t196] 23 (0, 0)) (by (with_reducible repeat (first | refine blk_drewN ?_ _ | refine blk_drew ?_ | refine blk_alloc ?_ _)); exact BK200.out) hb)
              have n3_ := Aside0.mk (below_step (by repeat (first | (with_reducible first | exact HB.out | apply below_alloc | apply pw_below_drewN | apply below_drew1 | refine below_set ?_ GE190.out | refine below_set ?_ GE198.out | refine below_set ?_ GE200.out) | exact HB.out)) hb)
              clear BK190
              clear BK198
              clear BK200
              clear HB
              have BK190 := n0_
              have BK198 := n1_
              have BK200 := n2_
              have HB := n3_
              clear n0_ n1_ n2_ n3_
              (try clear hb)
              (try clear hb2)
              (try clear hk)
              (try clear hi)
              refine hK.out _ _ ⟨(blk_cell BK200.out 0).trans rfl, (blk_cell BK200.out 1).trans rfl, (blk_cell BK200.out 2).trans rfl, (blk_cell BK200.out 3).trans rfl, (blk_cell BK200.out 4).trans rfl, (blk_cell BK200.out 5).trans rfl, (blk_cell BK190.out 0).trans rfl, (blk_cell BK190.out 1).trans rfl, (blk_cell BK190.out 2).trans rfl, (blk_cell BK190.out 3).trans rfl, (blk_cell BK190.out 4).trans rfl, (blk_cell BK190.out 5).trans rfl, (blk_cell BK198.out 0).trans rfl, (blk_cell BK198.out 1).trans rfl, (blk_cell BK198.out 2).trans rfl, (blk_cell BK198.out 3).trans rfl, (blk_cell BK198.out 4).trans rfl, (blk_cell BK198.out 5).trans rfl⟩ (fun hHeld => ?_)
              clear hK K
              refine norm_ (a' := ?_) ?_ ?_
              rotate_left
              · show Act.put _ (some 40) _ = _
                simp only [Act.put, List.setIfInBounds_toArray, List.set_cons_zero, List.set_cons_succ, i64_w, i32_w]
                rfl
              refine one_ (i := 5) (N := some 42) #[true, true, true, true, true, true, false, false, false, false, false, false, false, false, false, false, false, false, false, false, false, false, false, false, false, false, false] rfl rfl (one_of HT_.out (by kernel_rfl)) (by decide) (fun K hK => ?_)
              refine goes_ Tryd.func8 (by kernel_rfl) rfl #[.agg #[.string t183, .string t184, .int .i64 t185, .string t186, .string t187, .bool t188]] (by rfl) rfl rfl (by (try simp only [List.map_toArray, List.map_cons, List.map_nil]); first | done | rfl | (simp only [List.length_drop, List.length_take]; rfl)) ?_
              with_reducible refine (Go.Proofs.YtpnofnmecjagcaaDoor.XB.url_Key.calls t183 t184 t185 t186 t187 t188 t203 _ ?side1 A20.out).mono ?_
              (case side1 => exact Gl.below hG (by repeat (first | (with_reducible first | exact HB.out | apply below_alloc | apply pw_below_drewN | apply below_drew1 | refine below_set ?_ GE190.out | refine below_set ?_ GE198.out | refine below_set ?_ GE200.out) | exact HB.out)))
              rintro e w62 ⟨rfl, hb⟩
              refine ⟨_, rfl, ?_⟩
              have n0_ := Aside0.mk (blk_below (g := gb190) (o := .cells #[.string t183, .string t184, .int .i64 t185, .string t186, .string t187, .bool t188] 23 (0, 0)) (by (with_reducible repeat (first | refine blk_drewN ?_ _ | refine blk_drew ?_ | refine blk_alloc ?_ _)); exact BK190.out) hb)
              have n1_ := Aside0.mk (blk_below (g := gb198) (o := .cells #[.string t191, .string t192, .int .i64 t193, .string t194, .string t195, .bool t196] 23 (0, 0)) (by (with_reducible repeat (first | refine blk_drewN ?_ _ | refine blk_drew ?_ | refine blk_alloc ?_ _)); exact BK198.out) hb)
              have n2_ := Aside0.mk (blk_below (g := gb200) (o := .cells #[.string t183, .string t184, .int .i64 t185, .string t194, .string t195, .bool t196] 23 (0, 0)) (by (with_reducible repeat (first | refine blk_drewN ?_ _ | refine blk_drew ?_ | refine blk_alloc ?_ _)); exact BK200.out) hb)
              have n3_ := Aside0.mk (below_step (by repeat (first | (with_reducible first | exact HB.out | apply below_alloc | apply pw_below_drewN | apply below_drew1 | refine below_set ?_ GE190.out | refine below_set ?_ GE198.out | refine below_set ?_ GE200.out) | exact HB.out)) hb)
              clear BK190
              clear BK198
              clear BK200
              clear HB
              have BK190 := n0_
              have BK198 := n1_
              have BK200 := n2_
              have HB := n3_
              clear n0_ n1_ n2_ n3_
              (try clear hb)
              (try clear hb2)
              (try clear hk)
              (try clear hi)
              refine hK.out _ _ ⟨(blk_cell BK200.out 0).trans rfl, (blk_cell BK200.out 1).trans rfl, (blk_cell BK200.out 2).trans rfl, (blk_cell BK200.out 3).trans rfl, (blk_cell BK200.out 4).trans rfl, (blk_cell BK200.out 5).trans rfl, (blk_cell BK190.out 0).trans rfl, (blk_cell BK190.out 1).trans rfl, (blk_cell BK190.out 2).trans rfl, (blk_cell BK190.out 3).trans rfl, (blk_cell BK190.out 4).trans rfl, (blk_cell BK190.out 5).trans rfl, (blk_cell BK198.out 0).trans rfl, (blk_cell BK198.out 1).trans rfl, (blk_cell BK198.out 2).trans rfl, (blk_cell BK198.out 3).trans rfl, (blk_cell BK198.out 4).trans rfl, (blk_cell BK198.out 5).trans rfl⟩ (fun hHeld => ?_)
              clear hK K
              refine norm_ (a' := ?_) ?_ ?_
              rotate_left
              · show Act.put _ (some 42) _ = _
                simp only [Act.put, List.setIfInBounds_toArray, List.set_cons_zero, List.set_cons_succ, i64_w, i32_w]
                rfl
              refine pure_ (i := 6) (N := some 43) (v := ?_) (a' := ?_) #[true, true, true, true, true, true, true, false, false, false, false, false, false, false, false, false, false, false, false, false, false, false, false, false, false, false, false] rfl rfl (any_of HT_.out (by kernel_rfl)) (fun _ _ _ h => h) (Or.inl ⟨by rfl, ?_⟩) ?_ ?_
              rotate_left
              · intro w'
                go_simp
                with_reducible rfl
              rotate_left
              · simp only [Act.put, List.setIfInBounds_toArray, List.set_cons_zero, List.set_cons_succ, i64_w, i32_w]
                rfl
              refine pure_ (i := 7) (N := some 44) (v := ?_) (a' := ?_) #[true, true, true, true, true, true, true, true, false, false, false, false, false, false, false, false, false, false, false, false, false, false, false, false, false, false, false] rfl rfl (any_of HT_.out (by kernel_rfl)) (fun _ _ _ h => h) (Or.inl ⟨by rfl, ?_⟩) ?_ ?_
              rotate_left
              · intro w'
                go_simp
                with_reducible rfl
              rotate_left
              · simp only [Act.put, List.setIfInBounds_toArray, List.set_cons_zero, List.set_cons_succ, i64_w, i32_w]
                rfl
              refine pure_ (i := 8) (N := some 45) (v := ?_) (a' := ?_) #[true, true, true, true, true, true, true, true, true, false, false, false, false, false, false, false, false, false, false, false, false, false, false, false, false, false, false] rfl rfl (any_of HT_.out (by kernel_rfl)) (fun _ _ _ h => h) (Or.inl ⟨by rfl, ?_⟩) ?_ ?_
              rotate_left
              · intro w'
                go_simp
                with_reducible rfl
              rotate_left
              · simp only [Act.put, List.setIfInBounds_toArray, List.set_cons_zero, List.set_cons_succ, i64_w, i32_w]
                rfl
              refine take_ (i := 9) (N := some 46) (v := ?_) (a' := ?_) #[true, true, true, true, true, true, true, true, true, true, false, false, false, false, false, false, false, false, false, false, false, false, false, false, false, false, false] rfl rfl (take_ofW HT_.out HW_.out (by kernel_rfl)) (fun _ _ _ h => h) (Or.inl ⟨by rfl, ?_⟩) hHeld ?_ ?_
              rotate_left
              · rintro w' ⟨s0, s1, s2, s3, s4, s5, s6, s7, s8, s9, s10, s11, s12, s13, s14, s15, s16, s17⟩
                go_simp
                with_reducible rfl
              rotate_left
              · simp only [Act.put, List.setIfInBounds_toArray, List.set_cons_zero, List.set_cons_succ, i64_w, i32_w]
                rfl
              refine take_ (i := 11) (N := some 48) (v := ?_) (a' := ?_) #[true, true, true, true, true, true, true, true, true, true, false, true, false, false, false, false, false, false, false, false, false, false, false, false, false, false, false] rfl rfl (take_ofW HT_.out HW_.out (by kernel_rfl)) (fun _ _ _ h => h) (Or.inl ⟨by rfl, ?_⟩) hHeld ?_ ?_
              rotate_left
              · rintro w' ⟨s0, s1, s2, s3, s4, s5, s6, s7, s8, s9, s10, s11, s12, s13, s14, s15, s16, s17⟩
                go_simp
                with_reducible rfl
              rotate_left
              · simp only [Act.put, List.setIfInBounds_toArray, List.set_cons_zero, List.set_cons_succ, i64_w, i32_w]
                rfl
              refine one_ (i := 10) (N := some 47) #[true, true, true, true, true, true, true, true, true, true, true, true, false, false, false, false, false, false, false, false, false, false, false, false, false, false, false] rfl rfl (one_of HT_.out (by kernel_rfl)) (by decide) (fun K hK => ?_)
              refine goes_ Tryd.func10 (by kernel_rfl) rfl #[.agg #[.string t183, .string t184, .int .i64 t185, .string t194, .string t195, .bool t196]] (by rfl) rfl rfl (by (try simp only [List.map_toArray, List.map_cons, List.map_nil]); first | done | rfl | (simp only [List.length_drop, List.length_take]; rfl)) ?_
              with_reducible refine (Go.Proofs.YtpnofnmecjagcaaDoor.XB.url_Target.calls t183 t184 t185 t194 t195 t196 t204 _ A22.out).mono ?_
              rintro e w63 ⟨rfl, hb⟩
              refine ⟨_, rfl, ?_⟩
              have n0_ := Aside0.mk (blk_below (g := gb190) (o := .cells #[.string t183, .string t184, .int .i64 t185, .string t186, .string t187, .bool t188] 23 (0, 0)) (by (with_reducible repeat (first | refine blk_drewN ?_ _ | refine blk_drew ?_ | refine blk_alloc ?_ _)); exact BK190.out) hb)
              have n1_ := Aside0.mk (blk_below (g := gb198) (o := .cells #[.string t191, .string t192, .int .i64 t193, .string t194, .string t195, .bool t196] 23 (0, 0)) (by (with_reducible repeat (first | refine blk_drewN ?_ _ | refine blk_drew ?_ | refine blk_alloc ?_ _)); exact BK198.out) hb)
              have n2_ := Aside0.mk (blk_below (g := gb200) (o := .cells #[.string t183, .string t184, .int .i64 t185, .string t194, .string t195, .bool t196] 23 (0, 0)) (by (with_reducible repeat (first | refine blk_drewN ?_ _ | refine blk_drew ?_ | refine blk_alloc ?_ _)); exact BK200.out) hb)
              have n3_ := Aside0.mk (below_step (by repeat (first | (with_reducible first | exact HB.out | apply below_alloc | apply pw_below_drewN | apply below_drew1 | refine below_set ?_ GE190.out | refine below_set ?_ GE198.out | refine below_set ?_ GE200.out) | exact HB.out)) hb)
              clear BK190
              clear BK198
              clear BK200
              clear HB
              have BK190 := n0_
              have BK198 := n1_
              have BK200 := n2_
              have HB := n3_
              clear n0_ n1_ n2_ n3_
              (try clear hb)
              (try clear hb2)
              (try clear hk)
              (try clear hi)
              refine hK.out _ _ ⟨(blk_cell BK200.out 0).trans rfl, (blk_cell BK200.out 1).trans rfl, (blk_cell BK200.out 2).trans rfl, (blk_cell BK200.out 3).trans rfl, (blk_cell BK200.out 4).trans rfl, (blk_cell BK200.out 5).trans rfl, (blk_cell BK190.out 0).trans rfl, (blk_cell BK190.out 1).trans rfl, (blk_cell BK190.out 2).trans rfl, (blk_cell BK190.out 3).trans rfl, (blk_cell BK190.out 4).trans rfl, (blk_cell BK190.out 5).trans rfl, (blk_cell BK198.out 0).trans rfl, (blk_cell BK198.out 1).trans rfl, (blk_cell BK198.out 2).trans rfl, (blk_cell BK198.out 3).trans rfl, (blk_cell BK198.out 4).trans rfl, (blk_cell BK198.out 5).trans rfl⟩ (fun hHeld => ?_)
              clear hK K
              refine norm_ (a' := ?_) ?_ ?_
              rotate_left
              · show Act.put _ (some 47) _ = _
                simp only [Act.put, List.setIfInBounds_toArray, List.set_cons_zero, List.set_cons_succ, i64_w, i32_w]
                rfl
              refine one_ (i := 12) (N := some 49) #[true, true, true, true, true, true, true, true, true, true, true, true, true, false, false, false, false, false, false, false, false, false, false, false, false, false, false] rfl rfl (one_of HT_.out (by kernel_rfl)) (by decide) (fun K hK => ?_)
              refine goes_ Tryd.func10 (by kernel_rfl) rfl #[.agg #[.string t191, .string t192, .int .i64 t193, .string t194, .string t195, .bool t196]] (by rfl) rfl rfl (by (try simp only [List.map_toArray, List.map_cons, List.map_nil]); first | done | rfl | (simp only [List.length_drop, List.length_take]; rfl)) ?_
              with_reducible refine (Go.Proofs.YtpnofnmecjagcaaDoor.XB.url_Target.calls t191 t192 t193 t194 t195 t196 t205 _ A23.out).mono ?_
              rintro e w64 ⟨rfl, hb⟩
              refine ⟨_, rfl, ?_⟩
              have n0_ := Aside0.mk (blk_below (g := gb190) (o := .cells #[.string t183, .string t184, .int .i64 t185, .string t186, .string t187, .bool t188] 23 (0, 0)) (by (with_reducible repeat (first | refine blk_drewN ?_ _ | refine blk_drew ?_ | refine blk_alloc ?_ _)); exact BK190.out) hb)
              have n1_ := Aside0.mk (blk_below (g := gb198) (o := .cells #[.string t191, .string t192, .int .i64 t193, .string t194, .string t195, .bool t196] 23 (0, 0)) (by (with_reducible repeat (first | refine blk_drewN ?_ _ | refine blk_drew ?_ | refine blk_alloc ?_ _)); exact BK198.out) hb)
              have n2_ := Aside0.mk (blk_below (g := gb200) (o := .cells #[.string t183, .string t184, .int .i64 t185, .string t194, .string t195, .bool t196] 23 (0, 0)) (by (with_reducible repeat (first | refine blk_drewN ?_ _ | refine blk_drew ?_ | refine blk_alloc ?_ _)); exact BK200.out) hb)
              have n3_ := Aside0.mk (below_step (by repeat (first | (with_reducible first | exact HB.out | apply below_alloc | apply pw_below_drewN | apply below_drew1 | refine below_set ?_ GE190.out | refine below_set ?_ GE198.out | refine below_set ?_ GE200.out) | exact HB.out)) hb)
              clear BK190
              clear BK198
              clear BK200
              clear HB
              have BK190 := n0_
              have BK198 := n1_
              have BK200 := n2_
              have HB := n3_
              clear n0_ n1_ n2_ n3_
              (try clear hb)
              (try clear hb2)
              (try clear hk)
              (try clear hi)
              refine hK.out _ _ ⟨(blk_cell BK200.out 0).trans rfl, (blk_cell BK200.out 1).trans rfl, (blk_cell BK200.out 2).trans rfl, (blk_cell BK200.out 3).trans rfl, (blk_cell BK200.out 4).trans rfl, (blk_cell BK200.out 5).trans rfl, (blk_cell BK190.out 0).trans rfl, (blk_cell BK190.out 1).trans rfl, (blk_cell BK190.out 2).trans rfl, (blk_cell BK190.out 3).trans rfl, (blk_cell BK190.out 4).trans rfl, (blk_cell BK190.out 5).trans rfl, (blk_cell BK198.out 0).trans rfl, (blk_cell BK198.out 1).trans rfl, (blk_cell BK198.out 2).trans rfl, (blk_cell BK198.out 3).trans rfl, (blk_cell BK198.out 4).trans rfl, (blk_cell BK198.out 5).trans rfl⟩ (fun hHeld => ?_)
              clear hK K
              refine norm_ (a' := ?_) ?_ ?_
              rotate_left
              · show Act.put _ (some 49) _ = _
                simp only [Act.put, List.setIfInBounds_toArray, List.set_cons_zero, List.set_cons_succ, i64_w, i32_w]
                rfl
              refine pure_ (i := 13) (N := some 50) (v := ?_) (a' := ?_) #[true, true, true, true, true, true, true, true, true, true, true, true, true, true, false, false, false, false, false, false, false, false, false, false, false, false, false] rfl rfl (any_of HT_.out (by kernel_rfl)) (fun _ _ _ h => h) (Or.inl ⟨by rfl, ?_⟩) ?_ ?_
              rotate_left
              · intro w'
                go_simp
                with_reducible rfl
              rotate_left
              · simp only [Act.put, List.setIfInBounds_toArray, List.set_cons_zero, List.set_cons_succ, i64_w, i32_w]
                rfl
              refine pure_ (i := 14) (N := some 51) (v := ?_) (a' := ?_) #[true, true, true, true, true, true, true, true, true, true, true, true, true, true, true, false, false, false, false, false, false, false, false, false, false, false, false] rfl rfl (any_of HT_.out (by kernel_rfl)) (fun _ _ _ h => h) (Or.inl ⟨by rfl, ?_⟩) ?_ ?_
              rotate_left
              · intro w'
                go_simp
                with_reducible rfl
              rotate_left
              · simp only [Act.put, List.setIfInBounds_toArray, List.set_cons_zero, List.set_cons_succ, i64_w, i32_w]
                rfl
              refine pure_ (i := 15) (N := some 52) (v := ?_) (a' := ?_) #[true, true, true, true, true, true, true, true, true, true, true, true, true, true, true, true, false, false, false, false, false, false, false, false, false, false, false] rfl rfl (any_of HT_.out (by kernel_rfl)) (fun _ _ _ h => h) (Or.inl ⟨by rfl, ?_⟩) ?_ ?_
              rotate_left
              · intro w'
                go_simp
                with_reducible rfl
              rotate_left
              · simp only [Act.put, List.setIfInBounds_toArray, List.set_cons_zero, List.set_cons_succ, i64_w, i32_w]
                rfl
              refine pure_ (i := 16) (N := some 53) (v := undef) (a' := ?_) #[true, true, true, true, true, true, true, true, true, true, true, true, true, true, true, true, true, false, false, false, false, false, false, false, false, false, false] rfl rfl (any_of HT_.out (by kernel_rfl)) (fun _ _ _ h => h) (Or.inr ⟨by rfl, rfl⟩) ?_ ?_
              rotate_left
              · simp only [Act.put, List.setIfInBounds_toArray, List.set_cons_zero, List.set_cons_succ, i64_w, i32_w]
                rfl
              refine pure_ (i := 17) (N := some 54) (v := undef) (a' := ?_) #[true, true, true, true, true, true, true, true, true, true, true, true, true, true, true, true, true, true, false, false, false, false, false, false, false, false, false] rfl rfl (any_of HT_.out (by kernel_rfl)) (fun _ _ _ h => h) (Or.inr ⟨by rfl, rfl⟩) ?_ ?_
              rotate_left
              · simp only [Act.put, List.setIfInBounds_toArray, List.set_cons_zero, List.set_cons_succ, i64_w, i32_w]
                rfl
              refine pure_ (i := 18) (N := some 55) (v := undef) (a' := ?_) #[true, true, true, true, true, true, true, true, true, true, true, true, true, true, true, true, true, true, true, false, false, false, false, false, false, false, false] rfl rfl (any_of HT_.out (by kernel_rfl)) (fun _ _ _ h => h) (Or.inr ⟨by rfl, rfl⟩) ?_ ?_
              rotate_left
              · simp only [Act.put, List.setIfInBounds_toArray, List.set_cons_zero, List.set_cons_succ, i64_w, i32_w]
                rfl
              refine pure_ (i := 19) (N := some 56) (v := undef) (a' := ?_) #[true, true, true, true, true, true, true, true, true, true, true, true, true, true, true, true, true, true, true, true, false, false, false, false, false, false, false] rfl rfl (any_of HT_.out (by kernel_rfl)) (fun _ _ _ h => h) (Or.inr ⟨by rfl, rfl⟩) ?_ ?_
              rotate_left
              · simp only [Act.put, List.setIfInBounds_toArray, List.set_cons_zero, List.set_cons_succ, i64_w, i32_w]
                rfl
              refine pure_ (i := 20) (N := some 57) (v := undef) (a' := ?_) #[true, true, true, true, true, true, true, true, true, true, true, true, true, true, true, true, true, true, true, true, true, false, false, false, false, false, false] rfl rfl (any_of HT_.out (by kernel_rfl)) (fun _ _ _ h => h) (Or.inr ⟨by rfl, rfl⟩) ?_ ?_
              rotate_left
              · simp only [Act.put, List.setIfInBounds_toArray, List.set_cons_zero, List.set_cons_succ, i64_w, i32_w]
                rfl
              refine pure_ (i := 21) (N := some 58) (v := undef) (a' := ?_) #[true, true, true, true, true, true, true, true, true, true, true, true, true, true, true, true, true, true, true, true, true, true, false, false, false, false, false] rfl rfl (any_of HT_.out (by kernel_rfl)) (fun _ _ _ h => h) (Or.inr ⟨by rfl, rfl⟩) ?_ ?_
              rotate_left
              · simp only [Act.put, List.setIfInBounds_toArray, List.set_cons_zero, List.set_cons_succ, i64_w, i32_w]
                rfl
              refine pure_ (i := 22) (N := some 59) (v := undef) (a' := ?_) #[true, true, true, true, true, true, true, true, true, true, true, true, true, true, true, true, true, true, true, true, true, true, true, false, false, false, false] rfl rfl (any_of HT_.out (by kernel_rfl)) (fun _ _ _ h => h) (Or.inr ⟨by rfl, rfl⟩) ?_ ?_
              rotate_left
              · simp only [Act.put, List.setIfInBounds_toArray, List.set_cons_zero, List.set_cons_succ, i64_w, i32_w]
                rfl
              refine pure_ (i := 23) (N := some 60) (v := undef) (a' := ?_) #[true, true, true, true, true, true, true, true, true, true, true, true, true, true, true, true, true, true, true, true, true, true, true, true, false, false, false] rfl rfl (any_of HT_.out (by kernel_rfl)) (fun _ _ _ h => h) (Or.inr ⟨by rfl, rfl⟩) ?_ ?_
              rotate_left
              · simp only [Act.put, List.setIfInBounds_toArray, List.set_cons_zero, List.set_cons_succ, i64_w, i32_w]
                rfl
              refine pure_ (i := 24) (N := some 61) (v := undef) (a' := ?_) #[true, true, true, true, true, true, true, true, true, true, true, true, true, true, true, true, true, true, true, true, true, true, true, true, true, false, false] rfl rfl (any_of HT_.out (by kernel_rfl)) (fun _ _ _ h => h) (Or.inr ⟨by rfl, rfl⟩) ?_ ?_
              rotate_left
              · simp only [Act.put, List.setIfInBounds_toArray, List.set_cons_zero, List.set_cons_succ, i64_w, i32_w]
                rfl
              refine pure_ (i := 25) (N := some 62) (v := ?_) (a' := ?_) #[true, true, true, true, true, true, true, true, true, true, true, true, true, true, true, true, true, true, true, true, true, true, true, true, true, true, false] rfl rfl (any_of HT_.out (by kernel_rfl)) (fun _ _ _ h => h) (Or.inl ⟨by rfl, ?_⟩) ?_ ?_
              rotate_left
              · intro w'
                go_simp
                with_reducible rfl
              rotate_left
              · simp only [Act.put, List.setIfInBounds_toArray, List.set_cons_zero, List.set_cons_succ, i64_w, i32_w]
                rfl
              refine pure_ (i := 26) (N := some 4) (v := ?_) (a' := ?_) #[true, true, true, true, true, true, true, true, true, true, true, true, true, true, true, true, true, true, true, true, true, true, true, true, true, true, true] rfl rfl (any_of HT_.out (by kernel_rfl)) (fun _ _ _ h => h) (Or.inl ⟨by rfl, ?_⟩) ?_ ?_
              rotate_left
              · intro w'
                go_simp
                with_reducible rfl
              rotate_left
              · simp only [Act.put, List.setIfInBounds_toArray, List.set_cons_zero, List.set_cons_succ, i64_w, i32_w]
                rfl
              refine done_ (done_of HT_.out (by kernel_rfl)) ?_
              try go_wp2
              go_ret
              exact ⟨by first | rfl | (simp [errW_none, errW_some] <;> rfl) | (simp [*, errW_none, errW_some] <;> rfl), by repeat (first | (with_reducible first | exact HB.out | apply below_alloc | apply pw_below_drewN | apply below_drew1 | refine below_set ?_ GE190.out | refine below_set ?_ GE198.out | refine below_set ?_ GE200.out) | exact HB.out)⟩
          · rw [if_neg c21] at H
            have c21b0 : (t202.toList == t203.toList) = false := beq_eq_false_iff_ne.mpr c21
            have c21b1 : (t202.toList != t203.toList) = true := bne_iff_ne.mpr c21
            obtain rfl := Option.some.inj H
            have hnb65 := NB190_198.out
            have hnc65 := NB198_190.out
            have hcz66_0 : wc.cell? ⟨gb190, 0, none⟩ = some (.string t183) := (blk_cell BK190.out 0).trans rfl
            have hcz66_1 : wc.cell? ⟨gb190, 1, none⟩ = some (.string t184) := (blk_cell BK190.out 1).trans rfl
            have hcz66_2 : wc.cell? ⟨gb190, 2, none⟩ = some (.int .i64 t185) := (blk_cell BK190.out 2).trans rfl
            have hcz66_3 : wc.cell? ⟨gb190, 3, none⟩ = some (.string t186) := (blk_cell BK190.out 3).trans rfl
            have hcz66_4 : wc.cell? ⟨gb190, 4, none⟩ = some (.string t187) := (blk_cell BK190.out 4).trans rfl
            have hcz66_5 : wc.cell? ⟨gb190, 5, none⟩ = some (.bool t188) := (blk_cell BK190.out 5).trans rfl
            have hfz66_0 := blk_frozen BK190.out 0
            have hfz66_1 := blk_frozen BK190.out 1
            have hfz66_2 := blk_frozen BK190.out 2
            have hfz66_3 := blk_frozen BK190.out 3
            have hfz66_4 := blk_frozen BK190.out 4
            have hfz66_5 := blk_frozen BK190.out 5
            try go_wp2_with (first | ((with_reducible refine gate_dst (N := 9) rfl ?_); refine box_event ?hg (N := 9) ?hd (cs := #[.string (⟨#[]⟩ : ByteArray), .string (⟨#[]⟩ : ByteArray), .int .i64 0, .string (⟨#[]⟩ : ByteArray), .string (⟨#[]⟩ : ByteArray), .bool false]) (t := 23) ?hr ?_; (case hd => rfl); (case hg => rfl); (case hr => first | (go_simp; done) | (go_simp; rfl)); intro gb200 hg w67 hbox hb; have n0_ := Aside0.mk (blk_below (g := gb190) (o := .cells #[.string t183, .string t184, .int .i64 t185, .string t186, .string t187, .bool t188] 23 (0, 0)) (by (with_reducible repeat (first | refine blk_drewN ?_ _ | refine blk_drew ?_ | refine blk_alloc ?_ _)); exact BK190.out) hb); have n1_ := Aside0.mk (blk_below (g := gb198) (o := .cells #[.string t191, .string t192, .int .i64 t193, .string t194, .string t195, .bool t196] 23 (0, 0)) (by (with_reducible repeat (first | refine blk_drewN ?_ _ | refine blk_drew ?_ | refine blk_alloc ?_ _)); exact BK198.out) hb); have n2_ := Aside0.mk (below_step (by repeat (first | (with_reducible first | exact HB.out | apply below_alloc | apply pw_below_drewN | apply below_drew1 | refine below_set ?_ GE190.out | refine below_set ?_ GE198.out) | exact HB.out)) hb); have n3_ := Aside0.mk (hbox); have n4_ := Aside0.mk ((by rw [hg]; exact (below_size (by repeat (first | (with_reducible first | exact HB.out | apply below_alloc | apply pw_below_drewN | apply below_drew1 | refine below_set ?_ GE190.out | refine below_set ?_ GE198.out) | exact HB.out))) : w.heap.size ≤ gb200)); have n5_ := Aside0.mk ((by rw [hg]; exact (below_size (by repeat (first | (with_reducible first | exact HB.out | apply below_alloc | apply pw_below_drewN | apply below_drew1 | refine below_set ?_ GE190.out | refine below_set ?_ GE198.out) | exact HB.out))) : w.heap.size ≤ gb200)); have n6_ := Aside0.mk ((by rw [hg]; exact Nat.ne_of_lt (blk_lt (g := gb190) (o := .cells #[.string t183, .string t184, .int .i64 t185, .string t186, .string t187, .bool t188] 23 (0, 0)) (by (with_reducible repeat (first | refine blk_drewN ?_ _ | refine blk_drew ?_ | refine blk_alloc ?_ _)); exact BK190.out)) : gb190 ≠ gb200)); have n7_ := Aside0.mk ((by rw [hg]; exact Nat.ne_of_gt (blk_lt (g := gb190) (o := .cells #[.string t183, .string t184, .int .i64 t185, .string t186, .string t187, .bool t188] 23 (0, 0)) (by (with_reducible repeat (first | refine blk_drewN ?_ _ | refine blk_drew ?_ | refine blk_alloc ?_ _)); exact BK190.out)) : gb200 ≠ gb190)); have n8_ := Aside0.mk ((by rw [hg]; exact Nat.ne_of_lt (blk_lt (g := gb198) (o := .cells #[.string t191, .string t192, .int .i64 t193, .string t194, .string t195, .bool t196] 23 (0, 0)) (by (with_reducible repeat (first | refine blk_drewN ?_ _ | refine blk_drew ?_ | refine blk_alloc ?_ _)); exact BK198.out)) : gb198 ≠ gb200)); have n9_ := Aside0.mk ((by rw [hg]; exact Nat.ne_of_gt (blk_lt (g := gb198) (o := .cells #[.string t191, .string t192, .int .i64 t193, .string t194, .string t195, .bool t196] 23 (0, 0)) (by (with_reducible repeat (first | refine blk_drewN ?_ _ | refine blk_drew ?_ | refine blk_alloc ?_ _)); exact BK198.out)) : gb200 ≠ gb198)); clear BK190; clear BK198; clear HB; have BK190 := n0_; have BK198 := n1_; have HB := n2_; have BK200 := n3_; have GW200 := n4_; have GE200 := n5_; have NB190_200 := n6_; have NB200_190 := n7_; have NB198_200 := n8_; have NB200_198 := n9_; clear n0_ n1_ n2_ n3_ n4_ n5_ n6_ n7_ n8_ n9_; clear hb hbox hg; have hnb68 := NB200_190.out; have hnc68 := NB190_200.out; have hnb69 := NB200_198.out; have hnc69 := NB198_200.out; have hcz70_0 : w67.cell? ⟨gb200, 0, none⟩ = some (.string (⟨#[]⟩ : ByteArray)) := (blk_cell BK200.out 0).trans rfl; have hcz70_1 : w67.cell? ⟨gb200, 1, none⟩ = some (.string (⟨#[]⟩ : ByteArray)) := (blk_cell BK200.out 1).trans rfl; have hcz70_2 : w67.cell? ⟨gb200, 2, none⟩ = some (.int .i64 0) := (blk_cell BK200.out 2).trans rfl; have hcz70_3 : w67.cell? ⟨gb200, 3, none⟩ = some (.string (⟨#[]⟩ : ByteArray)) := (blk_cell BK200.out 3).trans rfl; have hcz70_4 : w67.cell? ⟨gb200, 4, none⟩ = some (.string (⟨#[]⟩ : ByteArray)) := (blk_cell BK200.out 4).trans rfl; have hcz70_5 : w67.cell? ⟨gb200, 5, none⟩ = some (.bool false) := (blk_cell BK200.out 5).trans rfl; have hfz70_0 := blk_frozen BK200.out 0; have hfz70_1 := blk_frozen BK200.out 1; have hfz70_2 := blk_frozen BK200.out 2; have hfz70_3 := blk_frozen BK200.out 3; have hfz70_4 := blk_frozen BK200.out 4; have hfz70_5 := blk_frozen BK200.out 5))
            have n0_ : Aside0 (((((((w67.setCell ⟨gb200, 0, none⟩ (.string t183)).setCell ⟨gb200, 1, none⟩ (.string t184)).setCell ⟨gb200, 2, none⟩ (.int .i64 t185)).setCell ⟨gb200, 3, none⟩ (.string t186)).setCell ⟨gb200, 4, none⟩ (.string t187)).setCell ⟨gb200, 5, none⟩ (.bool t188)).heap[gb190]? = some (.cells #[.string t183, .string t184, .int .i64 t185, .string t186, .string t187, .bool t188] 23 (0, 0))) := ⟨by (with_reducible repeat (first | refine blk_drewN ?_ _ | refine blk_drew ?_ | refine blk_alloc ?_ _)); refine blk_far ?_ NB190_200.out _; (with_reducible repeat (first | refine blk_drewN ?_ _ | refine blk_drew ?_ | refine blk_alloc ?_ _)); refine blk_far ?_ NB190_200.out _; (with_reducible repeat (first | refine blk_drewN ?_ _ | refine blk_drew ?_ | refine blk_alloc ?_ _)); refine blk_far ?_ NB190_200.out _; (with_reducible repeat (first | refine blk_drewN ?_ _ | refine blk_drew ?_ | refine blk_alloc ?_ _)); refine blk_far ?_ NB190_200.out _; (with_reducible repeat (first | refine blk_drewN ?_ _ | refine blk_drew ?_ | refine blk_alloc ?_ _)); refine blk_far ?_ NB190_200.out _; (with_reducible repeat (first | refine blk_drewN ?_ _ | refine blk_drew ?_ | refine blk_alloc ?_ _)); refine blk_far ?_ NB190_200.out _; (with_reducible repeat (first | refine blk_drewN ?_ _ | refine blk_drew ?_ | refine blk_alloc ?_ _)); exact BK190.out⟩
            have n1_ : Aside0 (((((((w67.setCell ⟨gb200, 0, none⟩ (.string t183)).setCell ⟨gb200, 1, none⟩ (.string t184)).setCell ⟨gb200, 2, none⟩ (.int .i64 t185)).setCell ⟨gb200, 3, none⟩ (.string t186)).setCell ⟨gb200, 4, none⟩ (.string t187)).setCell ⟨gb200, 5, none⟩ (.bool t188)).heap[gb198]? = some (.cells #[.string t191, .string t192, .int .i64 t193, .string t194, .string t195, .bool t196] 23 (0, 0))) := ⟨by (with_reducible repeat (first | refine blk_drewN ?_ _ | refine blk_drew ?_ | refine blk_alloc ?_ _)); refine blk_far ?_ NB198_200.out _; (with_reducible repeat (first | refine blk_drewN ?_ _ | refine blk_drew ?_ | refine blk_alloc ?_ _)); refine blk_far ?_ NB198_200.out _; (with_reducible repeat (first | refine blk_drewN ?_ _ | refine blk_drew ?_ | refine blk_alloc ?_ _)); refine blk_far ?_ NB198_200.out _; (with_reducible repeat (first | refine blk_drewN ?_ _ | refine blk_drew ?_ | refine blk_alloc ?_ _)); refine blk_far ?_ NB198_200.out _; (with_reducible repeat (first | refine blk_drewN ?_ _ | refine blk_drew ?_ | refine blk_alloc ?_ _)); refine blk_far ?_ NB198_200.out _; (with_reducible repeat (first | refine blk_drewN ?_ _ | refine blk_drew ?_ | refine blk_alloc ?_ _)); refine blk_far ?_ NB198_200.out _; (with_reducible repeat (first | refine blk_drewN ?_ _ | refine blk_drew ?_ | refine blk_alloc ?_ _)); exact BK198.out⟩
            have n2_ : Aside0 (((((((w67.setCell ⟨gb200, 0, none⟩ (.string t183)).setCell ⟨gb200, 1, none⟩ (.string t184)).setCell ⟨gb200, 2, none⟩ (.int .i64 t185)).setCell ⟨gb200, 3, none⟩ (.string t186)).setCell ⟨gb200, 4, none⟩ (.string t187)).setCell ⟨gb200, 5, none⟩ (.bool t188)).heap[gb200]? = some (.cells #[.string t183, .string t184, .int .i64 t185, .string t186, .string t187, .bool t188] 23 (0, 0))) := ⟨by (with_reducible repeat (first | refine blk_drewN ?_ _ | refine blk_drew ?_ | refine blk_alloc ?_ _)); refine blk_put (cs := #[.string t183, .string t184, .int .i64 t185, .string t186, .string t187, .bool false]) ?_ 5 _ rfl; (with_reducible repeat (first | refine blk_drewN ?_ _ | refine blk_drew ?_ | refine blk_alloc ?_ _)); refine blk_put (cs := #[.string t183, .string t184, .int .i64 t185, .string t186, .string (⟨#[]⟩ : ByteArray), .bool false]) ?_ 4 _ rfl; (with_reducible repeat (first | refine blk_drewN ?_ _ | refine blk_drew ?_ | refine blk_alloc ?_ _)); refine blk_put (cs := #[.string t183, .string t184, .int .i64 t185, .string (⟨#[]⟩ : ByteArray), .string (⟨#[]⟩ : ByteArray), .bool false]) ?_ 3 _ rfl; (with_reducible repeat (first | refine blk_drewN ?_ _ | refine blk_drew ?_ | refine blk_alloc ?_ _)); refine blk_put (cs := #[.string t183, .string t184, .int .i64 0, .string (⟨#[]⟩ : ByteArray), .string (⟨#[]⟩ : ByteArray), .bool false]) ?_ 2 _ rfl; (with_reducible repeat (first | refine blk_drewN ?_ _ | refine blk_drew ?_ | refine blk_alloc ?_ _)); refine blk_put (cs := #[.string t183, .string (⟨#[]⟩ : ByteArray), .int .i64 0, .string (⟨#[]⟩ : ByteArray), .string (⟨#[]⟩ : ByteArray), .bool false]) ?_ 1 _ rfl; (with_reducible repeat (first | refine blk_drewN ?_ _ | refine blk_drew ?_ | refine blk_alloc ?_ _)); refine blk_put (cs := #[.string (⟨#[]⟩ : ByteArray), .string (⟨#[]⟩ : ByteArray), .int .i64 0, .string (⟨#[]⟩ : ByteArray), .string (⟨#[]⟩ : ByteArray), .bool false]) ?_ 0 _ rfl; (with_reducible repeat (first | refine blk_drewN ?_ _ | refine blk_drew ?_ | refine blk_alloc ?_ _)); exact BK200.out⟩
            have n3_ : Aside0 (Below w.heap.size w ((((((w67.setCell ⟨gb200, 0, none⟩ (.string t183)).setCell ⟨gb200, 1, none⟩ (.string t184)).setCell ⟨gb200, 2, none⟩ (.int .i64 t185)).setCell ⟨gb200, 3, none⟩ (.string t186)).setCell ⟨gb200, 4, none⟩ (.string t187)).setCell ⟨gb200, 5, none⟩ (.bool t188))) := ⟨by repeat (first | (with_reducible first | exact HB.out | apply below_alloc | apply pw_below_drewN | apply below_drew1 | refine below_set ?_ GE190.out | refine below_set ?_ GE198.out | refine below_set ?_ GE200.out) | exact HB.out)⟩
            (try clear BK190)
            (try clear BK198)
            (try clear BK200)
            (try clear HB)
            generalize ((((((w67.setCell ⟨gb200, 0, none⟩ (.string t183)).setCell ⟨gb200, 1, none⟩ (.string t184)).setCell ⟨gb200, 2, none⟩ (.int .i64 t185)).setCell ⟨gb200, 3, none⟩ (.string t186)).setCell ⟨gb200, 4, none⟩ (.string t187)).setCell ⟨gb200, 5, none⟩ (.bool t188)) = w71 at n0_ n1_ n2_ n3_ ⊢
            have BK190 := n0_
            have BK198 := n1_
            have BK200 := n2_
            have HB := n3_
            clear n0_ n1_ n2_ n3_
            have n0_ := Aside0.mk (blk_drew BK190.out)
            have n1_ := Aside0.mk (blk_drew BK198.out)
            have n2_ := Aside0.mk (blk_drew BK200.out)
            have n3_ := Aside0.mk (below_drew1 HB.out)
            clear BK190
            clear BK198
            clear BK200
            clear HB
            have BK190 := n0_
            have BK198 := n1_
            have BK200 := n2_
            have HB := n3_
            clear n0_ n1_ n2_ n3_
            refine start_ (n := 12) (S := fun w' => w'.cell? ⟨gb198, 0, none⟩ = some (.string t191) ∧ w'.cell? ⟨gb198, 1, none⟩ = some (.string t192) ∧ w'.cell? ⟨gb198, 2, none⟩ = some (.int .i64 t193) ∧ w'.cell? ⟨gb198, 3, none⟩ = some (.string t194) ∧ w'.cell? ⟨gb198, 4, none⟩ = some (.string t195) ∧ w'.cell? ⟨gb198, 5, none⟩ = some (.bool t196)) (ds := []) #[false, false, false, false, false, false, false, false, false, false, false, false] (by kernel_rfl) rfl rfl ⟨(blk_cell BK198.out 0).trans rfl, (blk_cell BK198.out 1).trans rfl, (blk_cell BK198.out 2).trans rfl, (blk_cell BK198.out 3).trans rfl, (blk_cell BK198.out 4).trans rfl, (blk_cell BK198.out 5).trans rfl⟩ (fun hHeld => ?_); refine with_tabW decorumlaw05_UrlKeys.tab6 decorumlaw05_UrlKeys.bits6 (fun HT_ HW_ => ?_)
            generalize w71.drew = w72 at BK190 BK198 BK200 HB hHeld ⊢
            refine pure_ (i := 0) (N := some 28) (v := ?_) (a' := ?_) #[true, false, false, false, false, false, false, false, false, false, false, false] rfl rfl (any_of HT_.out (by kernel_rfl)) (fun _ _ _ h => h) (Or.inl ⟨by rfl, ?_⟩) ?_ ?_
            rotate_left
            · intro w'
              go_simp
              with_reducible rfl
            rotate_left
            · simp only [Act.put, List.setIfInBounds_toArray, List.set_cons_zero, List.set_cons_succ, i64_w, i32_w]
              rfl
            refine pure_ (i := 2) (N := some 30) (v := ?_) (a' := ?_) #[true, false, true, false, false, false, false, false, false, false, false, false] rfl rfl (any_of HT_.out (by kernel_rfl)) (fun _ _ _ h => h) (Or.inl ⟨by rfl, ?_⟩) ?_ ?_
            rotate_left
            · intro w'
              go_simp
              with_reducible rfl
            rotate_left
            · simp only [Act.put, List.setIfInBounds_toArray, List.set_cons_zero, List.set_cons_succ, i64_w, i32_w]
              rfl
            refine pure_ (i := 4) (N := some 32) (v := ?_) (a' := ?_) #[true, false, true, false, true, false, false, false, false, false, false, false] rfl rfl (any_of HT_.out (by kernel_rfl)) (fun _ _ _ h => h) (Or.inl ⟨by rfl, ?_⟩) ?_ ?_
            rotate_left
            · intro w'
              go_simp
              with_reducible rfl
            rotate_left
            · simp only [Act.put, List.setIfInBounds_toArray, List.set_cons_zero, List.set_cons_succ, i64_w, i32_w]
              rfl
            refine take_ (i := 1) (N := some 29) (v := ?_) (a' := ?_) #[true, true, true, false, true, false, false, false, false, false, false, false] rfl rfl (take_ofW HT_.out HW_.out (by kernel_rfl)) (fun _ _ _ h => h) (Or.inl ⟨by rfl, ?_⟩) hHeld ?_ ?_
            rotate_left
            · rintro w' ⟨s0, s1, s2, s3, s4, s5⟩
              go_simp
              with_reducible rfl
            rotate_left
            · simp only [Act.put, List.setIfInBounds_toArray, List.set_cons_zero, List.set_cons_succ, i64_w, i32_w]
              rfl
            refine pure_ (i := 6) (N := some 34) (v := ?_) (a' := ?_) #[true, true, true, false, true, false, true, false, false, false, false, false] rfl rfl (any_of HT_.out (by kernel_rfl)) (fun _ _ _ h => h) (Or.inl ⟨by rfl, ?_⟩) ?_ ?_
            rotate_left
            · intro w'
              go_simp
              with_reducible rfl
            rotate_left
            · simp only [Act.put, List.setIfInBounds_toArray, List.set_cons_zero, List.set_cons_succ, i64_w, i32_w]
              rfl
            refine take_ (i := 3) (N := some 31) (v := ?_) (a' := ?_) #[true, true, true, true, true, false, true, false, false, false, false, false] rfl rfl (take_ofW HT_.out HW_.out (by kernel_rfl)) (fun _ _ _ h => h) (Or.inl ⟨by rfl, ?_⟩) hHeld ?_ ?_
            rotate_left
            · rintro w' ⟨s0, s1, s2, s3, s4, s5⟩
              go_simp
              with_reducible rfl
            rotate_left
            · simp only [Act.put, List.setIfInBounds_toArray, List.set_cons_zero, List.set_cons_succ, i64_w, i32_w]
              rfl
            refine take_ (i := 5) (N := some 33) (v := ?_) (a' := ?_) #[true, true, true, true, true, true, true, false, false, false, false, false] rfl rfl (take_ofW HT_.out HW_.out (by kernel_rfl)) (fun _ _ _ h => h) (Or.inl ⟨by rfl, ?_⟩) hHeld ?_ ?_
            rotate_left
            · rintro w' ⟨s0, s1, s2, s3, s4, s5⟩
              go_simp
              with_reducible rfl
            rotate_left
            · simp only [Act.put, List.setIfInBounds_toArray, List.set_cons_zero, List.set_cons_succ, i64_w, i32_w]
              rfl
            refine one_ (i := 7) (N := none) #[true, true, true, true, true, true, true, true, false, false, false, false] rfl rfl (one_of HT_.out (by kernel_rfl)) (by decide) (fun K hK => ?_)
            have hs73 : w72.cell? ⟨gb200, 3, none⟩ = some (.string t186) := (blk_cell BK200.out 3).trans rfl
            have hfs73 := blk_frozen BK200.out 3
            have hns73_0 := NB190_200.out
            have hns73_1 := NB198_200.out
            have hms73_0 := NB200_190.out
            have hms73_1 := NB200_198.out
            refine skip_ (w1 := ?_) (by rfl) rfl ?_ ?_
            rotate_left
            · go_simp
              rfl
            refine hK.out _ _ ⟨((cell_far (p := ⟨gb200, _, none⟩) NB198_200.out _).trans (hHeld.1)), ((cell_far (p := ⟨gb200, _, none⟩) NB198_200.out _).trans (hHeld.2.1)), ((cell_far (p := ⟨gb200, _, none⟩) NB198_200.out _).trans (hHeld.2.2.1)), ((cell_far (p := ⟨gb200, _, none⟩) NB198_200.out _).trans (hHeld.2.2.2.1)), ((cell_far (p := ⟨gb200, _, none⟩) NB198_200.out _).trans (hHeld.2.2.2.2.1)), ((cell_far (p := ⟨gb200, _, none⟩) NB198_200.out _).trans (hHeld.2.2.2.2.2))⟩ (fun hHeld => ?_)
            clear hK K
            refine pure_ (i := 8) (N := some 35) (v := ?_) (a' := ?_) #[true, true, true, true, true, true, true, true, true, false, false, false] rfl rfl (any_of HT_.out (by kernel_rfl)) (fun _ _ _ h => h) (Or.inl ⟨by rfl, ?_⟩) ?_ ?_
            rotate_left
            · intro w'
              go_simp
              with_reducible rfl
            rotate_left
            · simp only [Act.put, List.setIfInBounds_toArray, List.set_cons_zero, List.set_cons_succ, i64_w, i32_w]
              rfl
            refine one_ (i := 9) (N := none) #[true, true, true, true, true, true, true, true, true, true, false, false] rfl rfl (one_of HT_.out (by kernel_rfl)) (by decide) (fun K hK => ?_)
            have hs74 : w72.cell? ⟨gb200, 4, none⟩ = some (.string t187) := (blk_cell BK200.out 4).trans rfl
            have hfs74 := blk_frozen BK200.out 4
            have hns74_0 := NB190_200.out
            have hns74_1 := NB198_200.out
            have hms74_0 := NB200_190.out
            have hms74_1 := NB200_198.out
            refine skip_ (w1 := ?_) (by rfl) rfl ?_ ?_
            rotate_left
            · go_simp
              rfl
            refine hK.out _ _ ⟨((cell_far (p := ⟨gb200, _, none⟩) NB198_200.out _).trans (hHeld.1)), ((cell_far (p := ⟨gb200, _, none⟩) NB198_200.out _).trans (hHeld.2.1)), ((cell_far (p := ⟨gb200, _, none⟩) NB198_200.out _).trans (hHeld.2.2.1)), ((cell_far (p := ⟨gb200, _, none⟩) NB198_200.out _).trans (hHeld.2.2.2.1)), ((cell_far (p := ⟨gb200, _, none⟩) NB198_200.out _).trans (hHeld.2.2.2.2.1)), ((cell_far (p := ⟨gb200, _, none⟩) NB198_200.out _).trans (hHeld.2.2.2.2.2))⟩ (fun hHeld => ?_)
            clear hK K
            refine pure_ (i := 10) (N := some 36) (v := ?_) (a' := ?_) #[true, true, true, true, true, true, true, true, true, true, true, false] rfl rfl (any_of HT_.out (by kernel_rfl)) (fun _ _ _ h => h) (Or.inl ⟨by rfl, ?_⟩) ?_ ?_
            rotate_left
            · intro w'
              go_simp
              with_reducible rfl
            rotate_left
            · simp only [Act.put, List.setIfInBounds_toArray, List.set_cons_zero, List.set_cons_succ, i64_w, i32_w]
              rfl
            refine one_ (i := 11) (N := none) #[true, true, true, true, true, true, true, true, true, true, true, true] rfl rfl (one_of HT_.out (by kernel_rfl)) (by decide) (fun K hK => ?_)
            have hs75 : w72.cell? ⟨gb200, 5, none⟩ = some (.bool t188) := (blk_cell BK200.out 5).trans rfl
            have hfs75 := blk_frozen BK200.out 5
            have hns75_0 := NB190_200.out
            have hns75_1 := NB198_200.out
            have hms75_0 := NB200_190.out
            have hms75_1 := NB200_198.out
            refine skip_ (w1 := ?_) (by rfl) rfl ?_ ?_
            rotate_left
            · go_simp
              rfl
            refine hK.out _ _ ⟨((cell_far (p := ⟨gb200, _, none⟩) NB198_200.out _).trans (hHeld.1)), ((cell_far (p := ⟨gb200, _, none⟩) NB198_200.out _).trans (hHeld.2.1)), ((cell_far (p := ⟨gb200, _, none⟩) NB198_200.out _).trans (hHeld.2.2.1)), ((cell_far (p := ⟨gb200, _, none⟩) NB198_200.out _).trans (hHeld.2.2.2.1)), ((cell_far (p := ⟨gb200, _, none⟩) NB198_200.out _).trans (hHeld.2.2.2.2.1)), ((cell_far (p := ⟨gb200, _, none⟩) NB198_200.out _).trans (hHeld.2.2.2.2.2))⟩ (fun hHeld => ?_)
            clear hK K
            refine done_ (done_of HT_.out (by kernel_rfl)) ?_
            try go_wp2
            have n0_ : Aside0 ((((w72.setCell ⟨gb200, 3, none⟩ (.string t194)).setCell ⟨gb200, 4, none⟩ (.string t195)).setCell ⟨gb200, 5, none⟩ (.bool t196)).heap[gb190]? = some (.cells #[.string t183, .string t184, .int .i64 t185, .string t186, .string t187, .bool t188] 23 (0, 0))) := ⟨by (with_reducible repeat (first | refine blk_drewN ?_ _ | refine blk_drew ?_ | refine blk_alloc ?_ _)); refine blk_far ?_ NB190_200.out _; (with_reducible repeat (first | refine blk_drewN ?_ _ | refine blk_drew ?_ | refine blk_alloc ?_ _)); refine blk_far ?_ NB190_200.out _; (with_reducible repeat (first | refine blk_drewN ?_ _ | refine blk_drew ?_ | refine blk_alloc ?_ _)); refine blk_far ?_ NB190_200.out _; (with_reducible repeat (first | refine blk_drewN ?_ _ | refine blk_drew ?_ | refine blk_alloc ?_ _)); exact BK190.out⟩
            have n1_ : Aside0 ((((w72.setCell ⟨gb200, 3, none⟩ (.string t194)).setCell ⟨gb200, 4, none⟩ (.string t195)).setCell ⟨gb200, 5, none⟩ (.bool t196)).heap[gb198]? = some (.cells #[.string t191, .string t192, .int .i64 t193, .string t194, .string t195, .bool t196] 23 (0, 0))) := ⟨by (with_reducible repeat (first | refine blk_drewN ?_ _ | refine blk_drew ?_ | refine blk_alloc ?_ _)); refine blk_far ?_ NB198_200.out _; (with_reducible repeat (first | refine blk_drewN ?_ _ | refine blk_drew ?_ | refine blk_alloc ?_ _)); refine blk_far ?_ NB198_200.out _; (with_reducible repeat (first | refine blk_drewN ?_ _ | refine blk_drew ?_ | refine blk_alloc ?_ _)); refine blk_far ?_ NB198_200.out _; (with_reducible repeat (first | refine blk_drewN ?_ _ | refine blk_drew ?_ | refine blk_alloc ?_ _)); exact BK198.out⟩
            have n2_ : Aside0 ((((w72.setCell ⟨gb200, 3, none⟩ (.string t194)).setCell ⟨gb200, 4, none⟩ (.string t195)).setCell ⟨gb200, 5, none⟩ (.bool t196)).heap[gb200]? = some (.cells #[.string t183, .string t184, .int .i64 t185, .string t194, .string t195, .bool t196] 23 (0, 0))) := ⟨by (with_reducible repeat (first | refine blk_drewN ?_ _ | refine blk_drew ?_ | refine blk_alloc ?_ _)); refine blk_put (cs := #[.string t183, .string t184, .int .i64 t185, .string t194, .string t195, .bool t188]) ?_ 5 _ rfl; (with_reducible repeat (first | refine blk_drewN ?_ _ | refine blk_drew ?_ | refine blk_alloc ?_ _)); refine blk_put (cs := #[.string t183, .string t184, .int .i64 t185, .string t194, .string t187, .bool t188]) ?_ 4 _ rfl; (with_reducible repeat (first | refine blk_drewN ?_ _ | refine blk_drew ?_ | refine blk_alloc ?_ _)); refine blk_put (cs := #[.string t183, .string t184, .int .i64 t185, .string t186, .string t187, .bool t188]) ?_ 3 _ rfl; (with_reducible repeat (first | refine blk_drewN ?_ _ | refine blk_drew ?_ | refine blk_alloc ?_ _)); exact BK200.out⟩
            have n3_ : Aside0 (Below w.heap.size w (((w72.setCell ⟨gb200, 3, none⟩ (.string t194)).setCell ⟨gb200, 4, none⟩ (.string t195)).setCell ⟨gb200, 5, none⟩ (.bool t196))) := ⟨by repeat (first | (with_reducible first | exact HB.out | apply below_alloc | apply pw_below_drewN | apply below_drew1 | refine below_set ?_ GE190.out | refine below_set ?_ GE198.out | refine below_set ?_ GE200.out) | exact HB.out)⟩
            (try clear BK190)
            (try clear BK198)
            (try clear BK200)
            (try clear HB)
            generalize (((w72.setCell ⟨gb200, 3, none⟩ (.string t194)).setCell ⟨gb200, 4, none⟩ (.string t195)).setCell ⟨gb200, 5, none⟩ (.bool t196)) = w76 at n0_ n1_ n2_ n3_ ⊢
            have BK190 := n0_
            have BK198 := n1_
            have BK200 := n2_
            have HB := n3_
            clear n0_ n1_ n2_ n3_
            have n0_ := Aside0.mk (blk_drew BK190.out)
            have n1_ := Aside0.mk (blk_drew BK198.out)
            have n2_ := Aside0.mk (blk_drew BK200.out)
            have n3_ := Aside0.mk (below_drew1 HB.out)
            clear BK190
            clear BK198
            clear BK200
            clear HB
            have BK190 := n0_
            have BK198 := n1_
            have BK200 := n2_
            have HB := n3_
            clear n0_ n1_ n2_ n3_
            refine start_ (n := 27) (S := fun w' => w'.cell? ⟨gb200, 0, none⟩ = some (.string t183) ∧ w'.cell? ⟨gb200, 1, none⟩ = some (.string t184) ∧ w'.cell? ⟨gb200, 2, none⟩ = some (.int .i64 t185) ∧ w'.cell? ⟨gb200, 3, none⟩ = some (.string t194) ∧ w'.cell? ⟨gb200, 4, none⟩ = some (.string t195) ∧ w'.cell? ⟨gb200, 5, none⟩ = some (.bool t196) ∧ w'.cell? ⟨gb190, 0, none⟩ = some (.string t183) ∧ w'.cell? ⟨gb190, 1, none⟩ = some (.string t184) ∧ w'.cell? ⟨gb190, 2, none⟩ = some (.int .i64 t185) ∧ w'.cell? ⟨gb190, 3, none⟩ = some (.string t186) ∧ w'.cell? ⟨gb190, 4, none⟩ = some (.string t187) ∧ w'.cell? ⟨gb190, 5, none⟩ = some (.bool t188)) (ds := []) #[false, false, false, false, false, false, false, false, false, false, false, false, false, false, false, false, false, false, false, false, false, false, false, false, false, false, false] (by kernel_rfl) rfl rfl ⟨(blk_cell BK200.out 0).trans rfl, (blk_cell BK200.out 1).trans rfl, (blk_cell BK200.out 2).trans rfl, (blk_cell BK200.out 3).trans rfl, (blk_cell BK200.out 4).trans rfl, (blk_cell BK200.out 5).trans rfl, (blk_cell BK190.out 0).trans rfl, (blk_cell BK190.out 1).trans rfl, (blk_cell BK190.out 2).trans rfl, (blk_cell BK190.out 3).trans rfl, (blk_cell BK190.out 4).trans rfl, (blk_cell BK190.out 5).trans rfl⟩ (fun hHeld => ?_); refine with_tabW decorumlaw05_UrlKeys.tab7 decorumlaw05_UrlKeys.bits7 (fun HT_ HW_ => ?_)
            generalize w76.drew = w77 at BK190 BK198 BK200 HB hHeld ⊢
            refine one_ (i := 0) (N := some 37) #[true, false, false, false, false, false, false, false, false, false, false, false, false, false, false, false, false, false, false, false, false, false, false, false, false, false, false] rfl rfl (one_of HT_.out (by kernel_rfl)) (by decide) (fun K hK => ?_)
            refine goes_ Tryd.func7 (by kernel_rfl) rfl #[] (by rfl) rfl rfl (by (try simp only [List.map_toArray, List.map_cons, List.map_nil]); first | done | rfl | (simp only [List.length_drop, List.length_take]; rfl)) ?_
            with_reducible refine (decorumlaw05_awake.calls  true _ ?side1 A17.out).mono ?_
            (case side1 => exact Gl.below hG (by repeat (first | (with_reducible first | exact HB.out | apply below_alloc | apply pw_below_drewN | apply below_drew1 | refine below_set ?_ GE190.out | refine below_set ?_ GE198.out | refine below_set ?_ GE200.out) | exact HB.out)))
            rintro e w78 ⟨rfl, hb⟩
            refine ⟨_, rfl, ?_⟩
            have n0_ := Aside0.mk (blk_below (g := gb190) (o := .cells #[.string t183, .string t184, .int .i64 t185, .string t186, .string t187, .bool t188] 23 (0, 0)) (by (with_reducible repeat (first | refine blk_drewN ?_ _ | refine blk_drew ?_ | refine blk_alloc ?_ _)); exact BK190.out) hb)
            have n1_ := Aside0.mk (blk_below (g := gb198) (o := .cells #[.string t191, .string t192, .int .i64 t193, .string t194, .string t195, .bool t196] 23 (0, 0)) (by (with_reducible repeat (first | refine blk_drewN ?_ _ | refine blk_drew ?_ | refine blk_alloc ?_ _)); exact BK198.out) hb)
            have n2_ := Aside0.mk (blk_below (g := gb200) (o := .cells #[.string t183, .string t184, .int .i64 t185, .string t194, .string t195, .bool t196] 23 (0, 0)) (by (with_reducible repeat (first | refine blk_drewN ?_ _ | refine blk_drew ?_ | refine blk_alloc ?_ _)); exact BK200.out) hb)
            have n3_ := Aside0.mk (below_step (by repeat (first | (with_reducible first | exact HB.out | apply below_alloc | apply pw_below_drewN | apply below_drew1 | refine below_set ?_ GE190.out | refine below_set ?_ GE198.out | refine below_set ?_ GE200.out) | exact HB.out)) hb)
            clear BK190
            clear BK198
            clear BK200
            clear HB
            have BK190 := n0_
            have BK198 := n1_
            have BK200 := n2_
            have HB := n3_
            clear n0_ n1_ n2_ n3_
            (try clear hb)
            (try clear hb2)
            (try clear hk)
            (try clear hi)
            refine hK.out _ _ ⟨(blk_cell BK200.out 0).trans rfl, (blk_cell BK200.out 1).trans rfl, (blk_cell BK200.out 2).trans rfl, (blk_cell BK200.out 3).trans rfl, (blk_cell BK200.out 4).trans rfl, (blk_cell BK200.out 5).trans rfl, (blk_cell BK190.out 0).trans rfl, (blk_cell BK190.out 1).trans rfl, (blk_cell BK190.out 2).trans rfl, (blk_cell BK190.out 3).trans rfl, (blk_cell BK190.out 4).trans rfl, (blk_cell BK190.out 5).trans rfl⟩ (fun hHeld => ?_)
            clear hK K
            refine norm_ (a' := ?_) ?_ ?_
            rotate_left
            · show Act.put _ (some 37) _ = _
              simp only [Act.put, List.setIfInBounds_toArray, List.set_cons_zero, List.set_cons_succ, i64_w, i32_w]
              rfl
            refine pure_ (i := 1) (N := some 38) (v := ?_) (a' := ?_) #[true, true, false, false, false, false, false, false, false, false, false, false, false, false, false, false, false, false, false, false, false, false, false, false, false, false, false] rfl rfl (any_of HT_.out (by kernel_rfl)) (fun _ _ _ h => h) (Or.inl ⟨by rfl, ?_⟩) ?_ ?_
            rotate_left
            · intro w'
              go_simp
              with_reducible rfl
            rotate_left
            · simp only [Act.put, List.setIfInBounds_toArray, List.set_cons_zero, List.set_cons_succ, i64_w, i32_w]
              rfl
            refine take_ (i := 2) (N := some 39) (v := ?_) (a' := ?_) #[true, true, true, false, false, false, false, false, false, false, false, false, false, false, false, false, false, false, false, false, false, false, false, false, false, false, false] rfl rfl (take_ofW HT_.out HW_.out (by kernel_rfl)) (fun _ _ _ h => h) (Or.inl ⟨by rfl, ?_⟩) hHeld ?_ ?_
            rotate_left
            · rintro w' ⟨s0, s1, s2, s3, s4, s5, s6, s7, s8, s9, s10, s11⟩
              go_simp
              with_reducible rfl
            rotate_left
            · simp only [Act.put, List.setIfInBounds_toArray, List.set_cons_zero, List.set_cons_succ, i64_w, i32_w]
              rfl
            refine take_ (i := 4) (N := some 41) (v := ?_) (a' := ?_) #[true, true, true, false, true, false, false, false, false, false, false, false, false, false, false, false, false, false, false, false, false, false, false, false, false, false, false] rfl rfl (take_ofW HT_.out HW_.out (by kernel_rfl)) (fun _ _ _ h => h) (Or.inl ⟨by rfl, ?_⟩) hHeld ?_ ?_
            rotate_left
            · rintro w' ⟨s0, s1, s2, s3, s4, s5, s6, s7, s8, s9, s10, s11⟩
              go_simp
              with_reducible rfl
            rotate_left
            · simp only [Act.put, List.setIfInBounds_toArray, List.set_cons_zero, List.set_cons_succ, i64_w, i32_w]
              rfl
            refine one_ (i := 3) (N := some 40) #[true, true, true, true, true, false, false, false, false, false, false, false, false, false, false, false, false, false, false, false, false, false, false, false, false, false, false] rfl rfl (one_of HT_.out (by kernel_rfl)) (by decide) (fun K hK => ?_)
            refine goes_ Tryd.func8 (by kernel_rfl) rfl #[.agg #[.string t183, .string t184, .int .i64 t185, .string t194, .string t195, .bool t196]] (by rfl) rfl rfl (by (try simp only [List.map_toArray, List.map_cons, List.map_nil]); first | done | rfl | (simp only [List.length_drop, List.length_take]; rfl)) ?_
            with_reducible refine (Go.Proofs.YtpnofnmecjagcaaDoor.XB.url_Key.calls t183 t184 t185 t194 t195 t196 t202 _ ?side1 A19.out).mono ?_
            (case side1 => exact Gl.below hG (by repeat (first | (with_reducible first | exact HB.out | apply below_alloc | apply pw_below_drewN | apply below_drew1 | refine below_set ?_ GE190.out | refine below_set ?_ GE198.out | refine below_set ?_ GE200.out) | exact HB.out)))
            rintro e w79 ⟨rfl, hb⟩
            refine ⟨_, rfl, ?_⟩
            have n0_ := Aside0.mk (blk_below (g := gb190) (o := .cells #[.string t183, .string t184, .int .i64 t185, .string t186, .string t187, .bool t188] 23 (0, 0)) (by (with_reducible repeat (first | refine blk_drewN ?_ _ | refine blk_drew ?_ | refine blk_alloc ?_ _)); exact BK190.out) hb)
            have n1_ := Aside0.mk (blk_below (g := gb198) (o := .cells #[.string t191, .string t192, .int .i64 t193, .string t194, .string t195, .bool t196] 23 (0, 0)) (by (with_reducible repeat (first | refine blk_drewN ?_ _ | refine blk_drew ?_ | refine blk_alloc ?_ _)); exact BK198.out) hb)
            have n2_ := Aside0.mk (blk_below (g := gb200) (o := .cells #[.string t183, .string t184, .int .i64 t185, .string t194, .string t195, .bool t196] 23 (0, 0)) (by (with_reducible repeat (first | refine blk_drewN ?_ _ | refine blk_drew ?_ | refine blk_alloc ?_ _)); exact BK200.out) hb)
            have n3_ := Aside0.mk (below_step (by repeat (first | (with_reducible first | exact HB.out | apply below_alloc | apply pw_below_drewN | apply below_drew1 | refine below_set ?_ GE190.out | refine below_set ?_ GE198.out | refine below_set ?_ GE200.out) | exact HB.out)) hb)
            clear BK190
            clear BK198
            clear BK200
            clear HB
            have BK190 := n0_
            have BK198 := n1_
            have BK200 := n2_
            have HB := n3_
            clear n0_ n1_ n2_ n3_
            (try clear hb)
            (try clear hb2)
            (try clear hk)
            (try clear hi)
            refine hK.out _ _ ⟨(blk_cell BK200.out 0).trans rfl, (blk_cell BK200.out 1).trans rfl, (blk_cell BK200.out 2).trans rfl, (blk_cell BK200.out 3).trans rfl, (blk_cell BK200.out 4).trans rfl, (blk_cell BK200.out 5).trans rfl, (blk_cell BK190.out 0).trans rfl, (blk_cell BK190.out 1).trans rfl, (blk_cell BK190.out 2).trans rfl, (blk_cell BK190.out 3).trans rfl, (blk_cell BK190.out 4).trans rfl, (blk_cell BK190.out 5).trans rfl⟩ (fun hHeld => ?_)
            clear hK K
            refine norm_ (a' := ?_) ?_ ?_
            rotate_left
            · show Act.put _ (some 40) _ = _
              simp only [Act.put, List.setIfInBounds_toArray, List.set_cons_zero, List.set_cons_succ, i64_w, i32_w]
              rfl
            refine one_ (i := 5) (N := some 42) #[true, true, true, true, true, true, false, false, false, false, false, false, false, false, false, false, false, false, false, false, false, false, false, false, false, false, false] rfl rfl (one_of HT_.out (by kernel_rfl)) (by decide) (fun K hK => ?_)
            refine goes_ Tryd.func8 (by kernel_rfl) rfl #[.agg #[.string t183, .string t184, .int .i64 t185, .string t186, .string t187, .bool t188]] (by rfl) rfl rfl (by (try simp only [List.map_toArray, List.map_cons, List.map_nil]); first | done | rfl | (simp only [List.length_drop, List.length_take]; rfl)) ?_
            with_reducible refine (Go.Proofs.YtpnofnmecjagcaaDoor.XB.url_Key.calls t183 t184 t185 t186 t187 t188 t203 _ ?side1 A20.out).mono ?_
            (case side1 => exact Gl.below hG (by repeat (first | (with_reducible first | exact HB.out | apply below_alloc | apply pw_below_drewN | apply below_drew1 | refine below_set ?_ GE190.out | refine below_set ?_ GE198.out | refine below_set ?_ GE200.out) | exact HB.out)))
            rintro e w80 ⟨rfl, hb⟩
            refine ⟨_, rfl, ?_⟩
            have n0_ := Aside0.mk (blk_below (g := gb190) (o := .cells #[.string t183, .string t184, .int .i64 t185, .string t186, .string t187, .bool t188] 23 (0, 0)) (by (with_reducible repeat (first | refine blk_drewN ?_ _ | refine blk_drew ?_ | refine blk_alloc ?_ _)); exact BK190.out) hb)
            have n1_ := Aside0.mk (blk_below (g := gb198) (o := .cells #[.string t191, .string t192, .int .i64 t193, .string t194, .string t195, .bool t196] 23 (0, 0)) (by (with_reducible repeat (first | refine blk_drewN ?_ _ | refine blk_drew ?_ | refine blk_alloc ?_ _)); exact BK198.out) hb)
            have n2_ := Aside0.mk (blk_below (g := gb200) (o := .cells #[.string t183, .string t184, .int .i64 t185, .string t194, .string t195, .bool t196] 23 (0, 0)) (by (with_reducible repeat (first | refine blk_drewN ?_ _ | refine blk_drew ?_ | refine blk_alloc ?_ _)); exact BK200.out) hb)
            have n3_ := Aside0.mk (below_step (by repeat (first | (with_reducible first | exact HB.out | apply below_alloc | apply pw_below_drewN | apply below_drew1 | refine below_set ?_ GE190.out | refine below_set ?_ GE198.out | refine below_set ?_ GE200.out) | exact HB.out)) hb)
            clear BK190
            clear BK198
            clear BK200
            clear HB
            have BK190 := n0_
            have BK198 := n1_
            have BK200 := n2_
            have HB := n3_
            clear n0_ n1_ n2_ n3_
            (try clear hb)
            (try clear hb2)
            (try clear hk)
            (try clear hi)
            refine hK.out _ _ ⟨(blk_cell BK200.out 0).trans rfl, (blk_cell BK200.out 1).trans rfl, (blk_cell BK200.out 2).trans rfl, (blk_cell BK200.out 3).trans rfl, (blk_cell BK200.out 4).trans rfl, (blk_cell BK200.out 5).trans rfl, (blk_cell BK190.out 0).trans rfl, (blk_cell BK190.out 1).trans rfl, (blk_cell BK190.out 2).trans rfl, (blk_cell BK190.out 3).trans rfl, (blk_cell BK190.out 4).trans rfl, (blk_cell BK190.out 5).trans rfl⟩ (fun hHeld => ?_)
            clear hK K
            refine norm_ (a' := ?_) ?_ ?_
            rotate_left
            · show Act.put _ (some 42) _ = _
              simp only [Act.put, List.setIfInBounds_toArray, List.set_cons_zero, List.set_cons_succ, i64_w, i32_w]
              rfl
            refine pure_ (i := 6) (N := some 43) (v := ?_) (a' := ?_) #[true, true, true, true, true, true, true, false, false, false, false, false, false, false, false, false, false, false, false, false, false, false, false, false, false, false, false] rfl rfl (any_of HT_.out (by kernel_rfl)) (fun _ _ _ h => h) (Or.inl ⟨by rfl, ?_⟩) ?_ ?_
            rotate_left
            · intro w'
              go_simp
              with_reducible rfl
            rotate_left
            · simp only [Act.put, List.setIfInBounds_toArray, List.set_cons_zero, List.set_cons_succ, i64_w, i32_w]
              rfl
            refine pure_ (i := 7) (N := some 44) (v := ?_) (a' := ?_) #[true, true, true, true, true, true, true, true, false, false, false, false, false, false, false, false, false, false, false, false, false, false, false, false, false, false, false] rfl rfl (any_of HT_.out (by kernel_rfl)) (fun _ _ _ h => h) (Or.inl ⟨by rfl, ?_⟩) ?_ ?_
            rotate_left
            · intro w'
              go_simp
              with_reducible rfl
            rotate_left
            · simp only [Act.put, List.setIfInBounds_toArray, List.set_cons_zero, List.set_cons_succ, i64_w, i32_w]
              rfl
            refine pure_ (i := 8) (N := some 45) (v := ?_) (a' := ?_) #[true, true, true, true, true, true, true, true, true, false, false, false, false, false, false, false, false, false, false, false, false, false, false, false, false, false, false] rfl rfl (any_of HT_.out (by kernel_rfl)) (fun _ _ _ h => h) (Or.inl ⟨by rfl, ?_⟩) ?_ ?_
            rotate_left
            · intro w'
              go_simp
              with_reducible rfl
            rotate_left
            · simp only [Act.put, List.setIfInBounds_toArray, List.set_cons_zero, List.set_cons_succ, i64_w, i32_w]
              rfl
            refine pure_ (i := 9) (N := some 46) (v := undef) (a' := ?_) #[true, true, true, true, true, true, true, true, true, true, false, false, false, false, false, false, false, false, false, false, false, false, false, false, false, false, false] rfl rfl (any_of HT_.out (by kernel_rfl)) (fun _ _ _ h => h) (Or.inr ⟨by rfl, rfl⟩) ?_ ?_
            rotate_left
            · simp only [Act.put, List.setIfInBounds_toArray, List.set_cons_zero, List.set_cons_succ, i64_w, i32_w]
              rfl
            refine pure_ (i := 10) (N := some 47) (v := undef) (a' := ?_) #[true, true, true, true, true, true, true, true, true, true, true, false, false, false, false, false, false, false, false, false, false, false, false, false, false, false, false] rfl rfl (any_of HT_.out (by kernel_rfl)) (fun _ _ _ h => h) (Or.inr ⟨by rfl, rfl⟩) ?_ ?_
            rotate_left
            · simp only [Act.put, List.setIfInBounds_toArray, List.set_cons_zero, List.set_cons_succ, i64_w, i32_w]
              rfl
            refine pure_ (i := 11) (N := some 48) (v := undef) (a' := ?_) #[true, true, true, true, true, true, true, true, true, true, true, true, false, false, false, false, false, false, false, false, false, false, false, false, false, false, false] rfl rfl (any_of HT_.out (by kernel_rfl)) (fun _ _ _ h => h) (Or.inr ⟨by rfl, rfl⟩) ?_ ?_
            rotate_left
            · simp only [Act.put, List.setIfInBounds_toArray, List.set_cons_zero, List.set_cons_succ, i64_w, i32_w]
              rfl
            refine pure_ (i := 12) (N := some 49) (v := undef) (a' := ?_) #[true, true, true, true, true, true, true, true, true, true, true, true, true, false, false, false, false, false, false, false, false, false, false, false, false, false, false] rfl rfl (any_of HT_.out (by kernel_rfl)) (fun _ _ _ h => h) (Or.inr ⟨by rfl, rfl⟩) ?_ ?_
            rotate_left
            · simp only [Act.put, List.setIfInBounds_toArray, List.set_cons_zero, List.set_cons_succ, i64_w, i32_w]
              rfl
            refine pure_ (i := 13) (N := some 50) (v := undef) (a' := ?_) #[true, true, true, true, true, true, true, true, true, true, true, true, true, true, false, false, false, false, false, false, false, false, false, false, false, false, false] rfl rfl (any_of HT_.out (by kernel_rfl)) (fun _ _ _ h => h) (Or.inr ⟨by rfl, rfl⟩) ?_ ?_
            rotate_left
            · simp only [Act.put, List.setIfInBounds_toArray, List.set_cons_zero, List.set_cons_succ, i64_w, i32_w]
              rfl
            refine pure_ (i := 14) (N := some 51) (v := ?_) (a' := ?_) #[true, true, true, true, true, true, true, true, true, true, true, true, true, true, true, false, false, false, false, false, false, false, false, false, false, false, false] rfl rfl (any_of HT_.out (by kernel_rfl)) (fun _ _ _ h => h) (Or.inl ⟨by rfl, ?_⟩) ?_ ?_
            rotate_left
            · intro w'
              go_simp
              with_reducible rfl
            rotate_left
            · simp only [Act.put, List.setIfInBounds_toArray, List.set_cons_zero, List.set_cons_succ, i64_w, i32_w]
              rfl
            refine pure_ (i := 15) (N := some 52) (v := ?_) (a' := ?_) #[true, true, true, true, true, true, true, true, true, true, true, true, true, true, true, true, false, false, false, false, false, false, false, false, false, false, false] rfl rfl (any_of HT_.out (by kernel_rfl)) (fun _ _ _ h => h) (Or.inl ⟨by rfl, ?_⟩) ?_ ?_
            rotate_left
            · intro w'
              go_simp
              with_reducible rfl
            rotate_left
            · simp only [Act.put, List.setIfInBounds_toArray, List.set_cons_zero, List.set_cons_succ, i64_w, i32_w]
              rfl
            refine pure_ (i := 16) (N := some 53) (v := undef) (a' := ?_) #[true, true, true, true, true, true, true, true, true, true, true, true, true, true, true, true, true, false, false, false, false, false, false, false, false, false, false] rfl rfl (any_of HT_.out (by kernel_rfl)) (fun _ _ _ h => h) (Or.inr ⟨by rfl, rfl⟩) ?_ ?_
            rotate_left
            · simp only [Act.put, List.setIfInBounds_toArray, List.set_cons_zero, List.set_cons_succ, i64_w, i32_w]
              rfl
            refine pure_ (i := 17) (N := some 54) (v := undef) (a' := ?_) #[true, true, true, true, true, true, true, true, true, true, true, true, true, true, true, true, true, true, false, false, false, false, false, false, false, false, false] rfl rfl (any_of HT_.out (by kernel_rfl)) (fun _ _ _ h => h) (Or.inr ⟨by rfl, rfl⟩) ?_ ?_
            rotate_left
            · simp only [Act.put, List.setIfInBounds_toArray, List.set_cons_zero, List.set_cons_succ, i64_w, i32_w]
              rfl
            refine pure_ (i := 18) (N := some 55) (v := undef) (a' := ?_) #[true, true, true, true, true, true, true, true, true, true, true, true, true, true, true, true, true, true, true, false, false, false, false, false, false, false, false] rfl rfl (any_of HT_.out (by kernel_rfl)) (fun _ _ _ h => h) (Or.inr ⟨by rfl, rfl⟩) ?_ ?_
            rotate_left
            · simp only [Act.put, List.setIfInBounds_toArray, List.set_cons_zero, List.set_cons_succ, i64_w, i32_w]
              rfl
            refine pure_ (i := 19) (N := some 56) (v := undef) (a' := ?_) #[true, true, true, true, true, true, true, true, true, true, true, true, true, true, true, true, true, true, true, true, false, false, false, false, false, false, false] rfl rfl (any_of HT_.out (by kernel_rfl)) (fun _ _ _ h => h) (Or.inr ⟨by rfl, rfl⟩) ?_ ?_
            rotate_left
            · simp only [Act.put, List.setIfInBounds_toArray, List.set_cons_zero, List.set_cons_succ, i64_w, i32_w]
              rfl
            refine pure_ (i := 20) (N := some 57) (v := undef) (a' := ?_) #[true, true, true, true, true, true, true, true, true, true, true, true, true, true, true, true, true, true, true, true, true, false, false, false, false, false, false] rfl rfl (any_of HT_.out (by kernel_rfl)) (fun _ _ _ h => h) (Or.inr ⟨by rfl, rfl⟩) ?_ ?_
            rotate_left
            · simp only [Act.put, List.setIfInBounds_toArray, List.set_cons_zero, List.set_cons_succ, i64_w, i32_w]
              rfl
            refine pure_ (i := 21) (N := some 58) (v := undef) (a' := ?_) #[true, true, true, true, true, true, true, true, true, true, true, true, true, true, true, true, true, true, true, true, true, true, false, false, false, false, false] rfl rfl (any_of HT_.out (by kernel_rfl)) (fun _ _ _ h => h) (Or.inr ⟨by rfl, rfl⟩) ?_ ?_
            rotate_left
            · simp only [Act.put, List.setIfInBounds_toArray, List.set_cons_zero, List.set_cons_succ, i64_w, i32_w]
              rfl
            refine pure_ (i := 22) (N := some 59) (v := undef) (a' := ?_) #[true, true, true, true, true, true, true, true, true, true, true, true, true, true, true, true, true, true, true, true, true, true, true, false, false, false, false] rfl rfl (any_of HT_.out (by kernel_rfl)) (fun _ _ _ h => h) (Or.inr ⟨by rfl, rfl⟩) ?_ ?_
            rotate_left
            · simp only [Act.put, List.setIfInBounds_toArray, List.set_cons_zero, List.set_cons_succ, i64_w, i32_w]
              rfl
            refine pure_ (i := 23) (N := some 60) (v := undef) (a' := ?_) #[true, true, true, true, true, true, true, true, true, true, true, true, true, true, true, true, true, true, true, true, true, true, true, true, false, false, false] rfl rfl (any_of HT_.out (by kernel_rfl)) (fun _ _ _ h => h) (Or.inr ⟨by rfl, rfl⟩) ?_ ?_
            rotate_left
            · simp only [Act.put, List.setIfInBounds_toArray, List.set_cons_zero, List.set_cons_succ, i64_w, i32_w]
              rfl
            refine pure_ (i := 24) (N := some 61) (v := undef) (a' := ?_) #[true, true, true, true, true, true, true, true, true, true, true, true, true, true, true, true, true, true, true, true, true, true, true, true, true, false, false] rfl rfl (any_of HT_.out (by kernel_rfl)) (fun _ _ _ h => h) (Or.inr ⟨by rfl, rfl⟩) ?_ ?_
            rotate_left
            · simp only [Act.put, List.setIfInBounds_toArray, List.set_cons_zero, List.set_cons_succ, i64_w, i32_w]
              rfl
            refine pure_ (i := 25) (N := some 62) (v := ?_) (a' := ?_) #[true, true, true, true, true, true, true, true, true, true, true, true, true, true, true, true, true, true, true, true, true, true, true, true, true, true, false] rfl rfl (any_of HT_.out (by kernel_rfl)) (fun _ _ _ h => h) (Or.inl ⟨by rfl, ?_⟩) ?_ ?_
            rotate_left
            · intro w'
              go_simp
              with_reducible rfl
            rotate_left
            · simp only [Act.put, List.setIfInBounds_toArray, List.set_cons_zero, List.set_cons_succ, i64_w, i32_w]
              rfl
            refine pure_ (i := 26) (N := some 4) (v := ?_) (a' := ?_) #[true, true, true, true, true, true, true, true, true, true, true, true, true, true, true, true, true, true, true, true, true, true, true, true, true, true, true] rfl rfl (any_of HT_.out (by kernel_rfl)) (fun _ _ _ h => h) (Or.inl ⟨by rfl, ?_⟩) ?_ ?_
            rotate_left
            · intro w'
              go_simp
              with_reducible rfl
            rotate_left
            · simp only [Act.put, List.setIfInBounds_toArray, List.set_cons_zero, List.set_cons_succ, i64_w, i32_w]
              rfl
            refine done_ (done_of HT_.out (by kernel_rfl)) ?_
            try go_wp2
            go_ret
            exact ⟨by first | rfl | (simp [errW_none, errW_some] <;> rfl) | (simp [*, errW_none, errW_some] <;> rfl), by repeat (first | (with_reducible first | exact HB.out | apply below_alloc | apply pw_below_drewN | apply below_drew1 | refine below_set ?_ GE190.out | refine below_set ?_ GE198.out | refine below_set ?_ GE200.out) | exact HB.out)⟩
        · replace c18 := Bool.eq_false_iff.mpr c18
          subst c18
          have H1 : (some false) = some r := by rw [if_neg (show ¬ (false = true) by decide)] at H; exact H
          clear H
          have H := H1
          clear H1
          obtain rfl := Option.some.inj H
          have hnb81 := NB190_198.out
          have hnc81 := NB198_190.out
          have hcz82_0 : wc.cell? ⟨gb190, 0, none⟩ = some (.string t183) := (blk_cell BK190.out 0).trans rfl
          have hcz82_1 : wc.cell? ⟨gb190, 1, none⟩ = some (.string t184) := (blk_cell BK190.out 1).trans rfl
          have hcz82_2 : wc.cell? ⟨gb190, 2, none⟩ = some (.int .i64 t185) := (blk_cell BK190.out 2).trans rfl
          have hcz82_3 : wc.cell? ⟨gb190, 3, none⟩ = some (.string t186) := (blk_cell BK190.out 3).trans rfl
          have hcz82_4 : wc.cell? ⟨gb190, 4, none⟩ = some (.string t187) := (blk_cell BK190.out 4).trans rfl
          have hcz82_5 : wc.cell? ⟨gb190, 5, none⟩ = some (.bool t188) := (blk_cell BK190.out 5).trans rfl
          have hfz82_0 := blk_frozen BK190.out 0
          have hfz82_1 := blk_frozen BK190.out 1
          have hfz82_2 := blk_frozen BK190.out 2
          have hfz82_3 := blk_frozen BK190.out 3
          have hfz82_4 := blk_frozen BK190.out 4
          have hfz82_5 := blk_frozen BK190.out 5
          try go_wp2_with (first | ((with_reducible refine gate_dst (N := 9) rfl ?_); refine box_event ?hg (N := 9) ?hd (cs := #[.string (⟨#[]⟩ : ByteArray), .string (⟨#[]⟩ : ByteArray), .int .i64 0, .string (⟨#[]⟩ : ByteArray), .string (⟨#[]⟩ : ByteArray), .bool false]) (t := 23) ?hr ?_; (case hd => rfl); (case hg => rfl); (case hr => first | (go_simp; done) | (go_simp; rfl)); intro gb200 hg w83 hbox hb; have n0_ := Aside0.mk (blk_below (g := gb190) (o := .cells #[.string t183, .string t184, .int .i64 t185, .string t186, .string t187, .bool t188] 23 (0, 0)) (by (with_reducible repeat (first | refine blk_drewN ?_ _ | refine blk_drew ?_ | refine blk_alloc ?_ _)); exact BK190.out) hb); have n1_ := Aside0.mk (blk_below (g := gb198) (o := .cells #[.string t191, .string t192, .int .i64 t193, .string t194, .string t195, .bool t196] 23 (0, 0)) (by (with_reducible repeat (first | refine blk_drewN ?_ _ | refine blk_drew ?_ | refine blk_alloc ?_ _)); exact BK198.out) hb); have n2_ := Aside0.mk (below_step (by repeat (first | (with_reducible first | exact HB.out | apply below_alloc | apply pw_below_drewN | apply below_drew1 | refine below_set ?_ GE190.out | refine below_set ?_ GE198.out) | exact HB.out)) hb); have n3_ := Aside0.mk (hbox); have n4_ := Aside0.mk ((by rw [hg]; exact (below_size (by repeat (first | (with_reducible first | exact HB.out | apply below_alloc | apply pw_below_drewN | apply below_drew1 | refine below_set ?_ GE190.out | refine below_set ?_ GE198.out) | exact HB.out))) : w.heap.size ≤ gb200)); have n5_ := Aside0.mk ((by rw [hg]; exact (below_size (by repeat (first | (with_reducible first | exact HB.out | apply below_alloc | apply pw_below_drewN | apply below_drew1 | refine below_set ?_ GE190.out | refine below_set ?_ GE198.out) | exact HB.out))) : w.heap.size ≤ gb200)); have n6_ := Aside0.mk ((by rw [hg]; exact Nat.ne_of_lt (blk_lt (g := gb190) (o := .cells #[.string t183, .string t184, .int .i64 t185, .string t186, .string t187, .bool t188] 23 (0, 0)) (by (with_reducible repeat (first | refine blk_drewN ?_ _ | refine blk_drew ?_ | refine blk_alloc ?_ _)); exact BK190.out)) : gb190 ≠ gb200)); have n7_ := Aside0.mk ((by rw [hg]; exact Nat.ne_of_gt (blk_lt (g := gb190) (o := .cells #[.string t183, .string t184, .int .i64 t185, .string t186, .string t187, .bool t188] 23 (0, 0)) (by (with_reducible repeat (first | refine blk_drewN ?_ _ | refine blk_drew ?_ | refine blk_alloc ?_ _)); exact BK190.out)) : gb200 ≠ gb190)); have n8_ := Aside0.mk ((by rw [hg]; exact Nat.ne_of_lt (blk_lt (g := gb198) (o := .cells #[.string t191, .string t192, .int .i64 t193, .string t194, .string t195, .bool t196] 23 (0, 0)) (by (with_reducible repeat (first | refine blk_drewN ?_ _ | refine blk_drew ?_ | refine blk_alloc ?_ _)); exact BK198.out)) : gb198 ≠ gb200)); have n9_ := Aside0.mk ((by rw [hg]; exact Nat.ne_of_gt (blk_lt (g := gb198) (o := .cells #[.string t191, .string t192, .int .i64 t193, .string t194, .string t195, .bool t196] 23 (0, 0)) (by (with_reducible repeat (first | refine blk_drewN ?_ _ | refine blk_drew ?_ | refine blk_alloc ?_ _)); exact BK198.out)) : gb200 ≠ gb198)); clear BK190; clear BK198; clear HB; have BK190 := n0_; have BK198 := n1_; have HB := n2_; have BK200 := n3_; have GW200 := n4_; have GE200 := n5_; have NB190_200 := n6_; have NB200_190 := n7_; have NB198_200 := n8_; have NB200_198 := n9_; clear n0_ n1_ n2_ n3_ n4_ n5_ n6_ n7_ n8_ n9_; clear hb hbox hg; have hnb84 := NB200_190.out; have hnc84 := NB190_200.out; have hnb85 := NB200_198.out; have hnc85 := NB198_200.out; have hcz86_0 : w83.cell? ⟨gb200, 0, none⟩ = some (.string (⟨#[]⟩ : ByteArray)) := (blk_cell BK200.out 0).trans rfl; have hcz86_1 : w83.cell? ⟨gb200, 1, none⟩ = some (.string (⟨#[]⟩ : ByteArray)) := (blk_cell BK200.out 1).trans rfl; have hcz86_2 : w83.cell? ⟨gb200, 2, none⟩ = some (.int .i64 0) := (blk_cell BK200.out 2).trans rfl; have hcz86_3 : w83.cell? ⟨gb200, 3, none⟩ = some (.string (⟨#[]⟩ : ByteArray)) := (blk_cell BK200.out 3).trans rfl; have hcz86_4 : w83.cell? ⟨gb200, 4, none⟩ = some (.string (⟨#[]⟩ : ByteArray)) := (blk_cell BK200.out 4).trans rfl; have hcz86_5 : w83.cell? ⟨gb200, 5, none⟩ = some (.bool false) := (blk_cell BK200.out 5).trans rfl; have hfz86_0 := blk_frozen BK200.out 0; have hfz86_1 := blk_frozen BK200.out 1; have hfz86_2 := blk_frozen BK200.out 2; have hfz86_3 := blk_frozen BK200.out 3; have hfz86_4 := blk_frozen BK200.out 4; have hfz86_5 := blk_frozen BK200.out 5))
          have n0_ : Aside0 (((((((w83.setCell ⟨gb200, 0, none⟩ (.string t183)).setCell ⟨gb200, 1, none⟩ (.string t184)).setCell ⟨gb200, 2, none⟩ (.int .i64 t185)).setCell ⟨gb200, 3, none⟩ (.string t186)).setCell ⟨gb200, 4, none⟩ (.string t187)).setCell ⟨gb200, 5, none⟩ (.bool t188)).heap[gb190]? = some (.cells #[.string t183, .string t184, .int .i64 t185, .string t186, .string t187, .bool t188] 23 (0, 0))) := ⟨by (with_reducible repeat (first | refine blk_drewN ?_ _ | refine blk_drew ?_ | refine blk_alloc ?_ _)); refine blk_far ?_ NB190_200.out _; (with_reducible repeat (first | refine blk_drewN ?_ _ | refine blk_drew ?_ | refine blk_alloc ?_ _)); refine blk_far ?_ NB190_200.out _; (with_reducible repeat (first | refine blk_drewN ?_ _ | refine blk_drew ?_ | refine blk_alloc ?_ _)); refine blk_far ?_ NB190_200.out _; (with_reducible repeat (first | refine blk_drewN ?_ _ | refine blk_drew ?_ | refine blk_alloc ?_ _)); refine blk_far ?_ NB190_200.out _; (with_reducible repeat (first | refine blk_drewN ?_ _ | refine blk_drew ?_ | refine blk_alloc ?_ _)); refine blk_far ?_ NB190_200.out _; (with_reducible repeat (first | refine blk_drewN ?_ _ | refine blk_drew ?_ | refine blk_alloc ?_ _)); refine blk_far ?_ NB190_200.out _; (with_reducible repeat (first | refine blk_drewN ?_ _ | refine blk_drew ?_ | refine blk_alloc ?_ _)); exact BK190.out⟩
          have n1_ : Aside0 (((((((w83.setCell ⟨gb200, 0, none⟩ (.string t183)).setCell ⟨gb200, 1, none⟩ (.string t184)).setCell ⟨gb200, 2, none⟩ (.int .i64 t185)).setCell ⟨gb200, 3, none⟩ (.string t186)).setCell ⟨gb200, 4, none⟩ (.string t187)).setCell ⟨gb200, 5, none⟩ (.bool t188)).heap[gb198]? = some (.cells #[.string t191, .string t192, .int .i64 t193, .string t194, .string t195, .bool t196] 23 (0, 0))) := ⟨by (with_reducible repeat (first | refine blk_drewN ?_ _ | refine blk_drew ?_ | refine blk_alloc ?_ _)); refine blk_far ?_ NB198_200.out _; (with_reducible repeat (first | refine blk_drewN ?_ _ | refine blk_drew ?_ | refine blk_alloc ?_ _)); refine blk_far ?_ NB198_200.out _; (with_reducible repeat (first | refine blk_drewN ?_ _ | refine blk_drew ?_ | refine blk_alloc ?_ _)); refine blk_far ?_ NB198_200.out _; (with_reducible repeat (first | refine blk_drewN ?_ _ | refine blk_drew ?_ | refine blk_alloc ?_ _)); refine blk_far ?_ NB198_200.out _; (with_reducible repeat (first | refine blk_drewN ?_ _ | refine blk_drew ?_ | refine blk_alloc ?_ _)); refine blk_far ?_ NB198_200.out _; (with_reducible repeat (first | refine blk_drewN ?_ _ | refine blk_drew ?_ | refine blk_alloc ?_ _)); refine blk_far ?_ NB198_200.out _; (with_reducible repeat (first | refine blk_drewN ?_ _ | refine blk_drew ?_ | refine blk_alloc ?_ _)); exact BK198.out⟩
          have n2_ : Aside0 (((((((w83.setCell ⟨gb200, 0, none⟩ (.string t183)).setCell ⟨gb200, 1, none⟩ (.string t184)).setCell ⟨gb200, 2, none⟩ (.int .i64 t185)).setCell ⟨gb200, 3, none⟩ (.string t186)).setCell ⟨gb200, 4, none⟩ (.string t187)).setCell ⟨gb200, 5, none⟩ (.bool t188)).heap[gb200]? = some (.cells #[.string t183, .string t184, .int .i64 t185, .string t186, .string t187, .bool t188] 23 (0, 0))) := ⟨by (with_reducible repeat (first | refine blk_drewN ?_ _ | refine blk_drew ?_ | refine blk_alloc ?_ _)); refine blk_put (cs := #[.string t183, .string t184, .int .i64 t185, .string t186, .string t187, .bool false]) ?_ 5 _ rfl; (with_reducible repeat (first | refine blk_drewN ?_ _ | refine blk_drew ?_ | refine blk_alloc ?_ _)); refine blk_put (cs := #[.string t183, .string t184, .int .i64 t185, .string t186, .string (⟨#[]⟩ : ByteArray), .bool false]) ?_ 4 _ rfl; (with_reducible repeat (first | refine blk_drewN ?_ _ | refine blk_drew ?_ | refine blk_alloc ?_ _)); refine blk_put (cs := #[.string t183, .string t184, .int .i64 t185, .string (⟨#[]⟩ : ByteArray), .string (⟨#[]⟩ : ByteArray), .bool false]) ?_ 3 _ rfl; (with_reducible repeat (first | refine blk_drewN ?_ _ | refine blk_drew ?_ | refine blk_alloc ?_ _)); refine blk_put (cs := #[.string t183, .string t184, .int .i64 0, .string (⟨#[]⟩ : ByteArray), .string (⟨#[]⟩ : ByteArray), .bool false]) ?_ 2 _ rfl; (with_reducible repeat (first | refine blk_drewN ?_ _ | refine blk_drew ?_ | refine blk_alloc ?_ _)); refine blk_put (cs := #[.string t183, .string (⟨#[]⟩ : ByteArray), .int .i64 0, .string (⟨#[]⟩ : ByteArray), .string (⟨#[]⟩ : ByteArray), .bool false]) ?_ 1 _ rfl; (with_reducible repeat (first | refine blk_drewN ?_ _ | refine blk_drew ?_ | refine blk_alloc ?_ _)); refine blk_put (cs := #[.string (⟨#[]⟩ : ByteArray), .string (⟨#[]⟩ : ByteArray), .int .i64 0, .string (⟨#[]⟩ : ByteArray), .string (⟨#[]⟩ : ByteArray), .bool false]) ?_ 0 _ rfl; (with_reducible repeat (first | refine blk_drewN ?_ _ | refine blk_drew ?_ | refine blk_alloc ?_ _)); exact BK200.out⟩
          have n3_ : Aside0 (Below w.heap.size w ((((((w83.setCell ⟨gb200, 0, none⟩ (.string t183)).setCell ⟨gb200, 1, none⟩ (.string t184)).setCell ⟨gb200, 2, none⟩ (.int .i64 t185)).setCell ⟨gb200, 3, none⟩ (.string t186)).setCell ⟨gb200, 4, none⟩ (.string t187)).setCell ⟨gb200, 5, none⟩ (.bool t188))) := ⟨by repeat (first | (with_reducible first | exact HB.out | apply below_alloc | apply pw_below_drewN | apply below_drew1 | refine below_set ?_ GE190.out | refine below_set ?_ GE198.out | refine below_set ?_ GE200.out) | exact HB.out)⟩
          (try clear BK190)
          (try clear BK198)
          (try clear BK200)
          (try clear HB)
          generalize ((((((w83.setCell ⟨gb200, 0, none⟩ (.string t183)).setCell ⟨gb200, 1, none⟩ (.string t184)).setCell ⟨gb200, 2, none⟩ (.int .i64 t185)).setCell ⟨gb200, 3, none⟩ (.string t186)).setCell ⟨gb200, 4, none⟩ (.string t187)).setCell ⟨gb200, 5, none⟩ (.bool t188)) = w87 at n0_ n1_ n2_ n3_ ⊢
          have BK190 := n0_
          have BK198 := n1_
          have BK200 := n2_
          have HB := n3_
          clear n0_ n1_ n2_ n3_
          have n0_ := Aside0.mk (blk_drew BK190.out)
          have n1_ := Aside0.mk (blk_drew BK198.out)
          have n2_ := Aside0.mk (blk_drew BK200.out)
          have n3_ := Aside0.mk (below_drew1 HB.out)
          clear BK190
          clear BK198
          clear BK200
          clear HB
          have BK190 := n0_
          have BK198 := n1_
          have BK200 := n2_
          have HB := n3_
          clear n0_ n1_ n2_ n3_
          refine start_ (n := 12) (S := fun w' => w'.cell? ⟨gb198, 0, none⟩ = some (.string t191) ∧ w'.cell? ⟨gb198, 1, none⟩ = some (.string t192) ∧ w'.cell? ⟨gb198, 2, none⟩ = some (.int .i64 t193) ∧ w'.cell? ⟨gb198, 3, none⟩ = some (.string t194) ∧ w'.cell? ⟨gb198, 4, none⟩ = some (.string t195) ∧ w'.cell? ⟨gb198, 5, none⟩ = some (.bool t196)) (ds := []) #[false, false, false, false, false, false, false, false, false, false, false, false] (by kernel_rfl) rfl rfl ⟨(blk_cell BK198.out 0).trans rfl, (blk_cell BK198.out 1).trans rfl, (blk_cell BK198.out 2).trans rfl, (blk_cell BK198.out 3).trans rfl, (blk_cell BK198.out 4).trans rfl, (blk_cell BK198.out 5).trans rfl⟩ (fun hHeld => ?_); refine with_tabW decorumlaw05_UrlKeys.tab6 decorumlaw05_UrlKeys.bits6 (fun HT_ HW_ => ?_)
          generalize w87.drew = w88 at BK190 BK198 BK200 HB hHeld ⊢
          refine pure_ (i := 0) (N := some 28) (v := ?_) (a' := ?_) #[true, false, false, false, false, false, false, false, false, false, false, false] rfl rfl (any_of HT_.out (by kernel_rfl)) (fun _ _ _ h => h) (Or.inl ⟨by rfl, ?_⟩) ?_ ?_
          rotate_left
          · intro w'
            go_simp
            with_reducible rfl
          rotate_left
          · simp only [Act.put, List.setIfInBounds_toArray, List.set_cons_zero, List.set_cons_succ, i64_w, i32_w]
            rfl
          refine pure_ (i := 2) (N := some 30) (v := ?_) (a' := ?_) #[true, false, true, false, false, false, false, false, false, false, false, false] rfl rfl (any_of HT_.out (by kernel_rfl)) (fun _ _ _ h => h) (Or.inl ⟨by rfl, ?_⟩) ?_ ?_
          rotate_left
          · intro w'
            go_simp
            with_reducible rfl
          rotate_left
          · simp only [Act.put, List.setIfInBounds_toArray, List.set_cons_zero, List.set_cons_succ, i64_w, i32_w]
            rfl
          refine pure_ (i := 4) (N := some 32) (v := ?_) (a' := ?_) #[true, false, true, false, true, false, false, false, false, false, false, false] rfl rfl (any_of HT_.out (by kernel_rfl)) (fun _ _ _ h => h) (Or.inl ⟨by rfl, ?_⟩) ?_ ?_
          rotate_left
          · intro w'
            go_simp
            with_reducible rfl
          rotate_left
          · simp only [Act.put, List.setIfInBounds_toArray, List.set_cons_zero, List.set_cons_succ, i64_w, i32_w]
            rfl
          refine take_ (i := 1) (N := some 29) (v := ?_) (a' := ?_) #[true, true, true, false, true, false, false, false, false, false, false, false] rfl rfl (take_ofW HT_.out HW_.out (by kernel_rfl)) (fun _ _ _ h => h) (Or.inl ⟨by rfl, ?_⟩) hHeld ?_ ?_
          rotate_left
          · rintro w' ⟨s0, s1, s2, s3, s4, s5⟩
            go_simp
            with_reducible rfl
          rotate_left
          · simp only [Act.put, List.setIfInBounds_toArray, List.set_cons_zero, List.set_cons_succ, i64_w, i32_w]
            rfl
          refine pure_ (i := 6) (N := some 34) (v := ?_) (a' := ?_) #[true, true, true, false, true, false, true, false, false, false, false, false] rfl rfl (any_of HT_.out (by kernel_rfl)) (fun _ _ _ h => h) (Or.inl ⟨by rfl, ?_⟩) ?_ ?_
          rotate_left
          · intro w'
            go_simp
            with_reducible rfl
          rotate_left
          · simp only [Act.put, List.setIfInBounds_toArray, List.set_cons_zero, List.set_cons_succ, i64_w, i32_w]
            rfl
          refine take_ (i := 3) (N := some 31) (v := ?_) (a' := ?_) #[true, true, true, true, true, false, true, false, false, false, false, false] rfl rfl (take_ofW HT_.out HW_.out (by kernel_rfl)) (fun _ _ _ h => h) (Or.inl ⟨by rfl, ?_⟩) hHeld ?_ ?_
          rotate_left
          · rintro w' ⟨s0, s1, s2, s3, s4, s5⟩
            go_simp
            with_reducible rfl
          rotate_left
          · simp only [Act.put, List.setIfInBounds_toArray, List.set_cons_zero, List.set_cons_succ, i64_w, i32_w]
            rfl
          refine take_ (i := 5) (N := some 33) (v := ?_) (a' := ?_) #[true, true, true, true, true, true, true, false, false, false, false, false] rfl rfl (take_ofW HT_.out HW_.out (by kernel_rfl)) (fun _ _ _ h => h) (Or.inl ⟨by rfl, ?_⟩) hHeld ?_ ?_
          rotate_left
          · rintro w' ⟨s0, s1, s2, s3, s4, s5⟩
            go_simp
            with_reducible rfl
          rotate_left
          · simp only [Act.put, List.setIfInBounds_toArray, List.set_cons_zero, List.set_cons_succ, i64_w, i32_w]
            rfl
          refine one_ (i := 7) (N := none) #[true, true, true, true, true, true, true, true, false, false, false, false] rfl rfl (one_of HT_.out (by kernel_rfl)) (by decide) (fun K hK => ?_)
          have hs89 : w88.cell? ⟨gb200, 3, none⟩ = some (.string t186) := (blk_cell BK200.out 3).trans rfl
          have hfs89 := blk_frozen BK200.out 3
          have hns89_0 := NB190_200.out
          have hns89_1 := NB198_200.out
          have hms89_0 := NB200_190.out
          have hms89_1 := NB200_198.out
          refine skip_ (w1 := ?_) (by rfl) rfl ?_ ?_
          rotate_left
          · go_simp
            rfl
          refine hK.out _ _ ⟨((cell_far (p := ⟨gb200, _, none⟩) NB198_200.out _).trans (hHeld.1)), ((cell_far (p := ⟨gb200, _, none⟩) NB198_200.out _).trans (hHeld.2.1)), ((cell_far (p := ⟨gb200, _, none⟩) NB198_200.out _).trans (hHeld.2.2.1)), ((cell_far (p := ⟨gb200, _, none⟩) NB198_200.out _).trans (hHeld.2.2.2.1)), ((cell_far (p := ⟨gb200, _, none⟩) NB198_200.out _).trans (hHeld.2.2.2.2.1)), ((cell_far (p := ⟨gb200, _, none⟩) NB198_200.out _).trans (hHeld.2.2.2.2.2))⟩ (fun hHeld => ?_)
          clear hK K
          refine pure_ (i := 8) (N := some 35) (v := ?_) (a' := ?_) #[true, true, true, true, true, true, true, true, true, false, false, false] rfl rfl (any_of HT_.out (by kernel_rfl)) (fun _ _ _ h => h) (Or.inl ⟨by rfl, ?_⟩) ?_ ?_
          rotate_left
          · intro w'
            go_simp
            with_reducible rfl
          rotate_left
          · simp only [Act.put, List.setIfInBounds_toArray, List.set_cons_zero, List.set_cons_succ, i64_w, i32_w]
            rfl
          refine one_ (i := 9) (N := none) #[true, true, true, true, true, true, true, true, true, true, false, false] rfl rfl (one_of HT_.out (by kernel_rfl)) (by decide) (fun K hK => ?_)
          have hs90 : w88.cell? ⟨gb200, 4, none⟩ = some (.string t187) := (blk_cell BK200.out 4).trans rfl
          have hfs90 := blk_frozen BK200.out 4
          have hns90_0 := NB190_200.out
          have hns90_1 := NB198_200.out
          have hms90_0 := NB200_190.out
          have hms90_1 := NB200_198.out
          refine skip_ (w1 := ?_) (by rfl) rfl ?_ ?_
          rotate_left
          · go_simp
            rfl
          refine hK.out _ _ ⟨((cell_far (p := ⟨gb200, _, none⟩) NB198_200.out _).trans (hHeld.1)), ((cell_far (p := ⟨gb200, _, none⟩) NB198_200.out _).trans (hHeld.2.1)), ((cell_far (p := ⟨gb200, _, none⟩) NB198_200.out _).trans (hHeld.2.2.1)), ((cell_far (p := ⟨gb200, _, none⟩) NB198_200.out _).trans (hHeld.2.2.2.1)), ((cell_far (p := ⟨gb200, _, none⟩) NB198_200.out _).trans (hHeld.2.2.2.2.1)), ((cell_far (p := ⟨gb200, _, none⟩) NB198_200.out _).trans (hHeld.2.2.2.2.2))⟩ (fun hHeld => ?_)
          clear hK K
          refine pure_ (i := 10) (N := some 36) (v := ?_) (a' := ?_) #[true, true, true, true, true, true, true, true, true, true, true, false] rfl rfl (any_of HT_.out (by kernel_rfl)) (fun _ _ _ h => h) (Or.inl ⟨by rfl, ?_⟩) ?_ ?_
          rotate_left
          · intro w'
            go_simp
            with_reducible rfl
          rotate_left
          · simp only [Act.put, List.setIfInBounds_toArray, List.set_cons_zero, List.set_cons_succ, i64_w, i32_w]
            rfl
          refine one_ (i := 11) (N := none) #[true, true, true, true, true, true, true, true, true, true, true, true] rfl rfl (one_of HT_.out (by kernel_rfl)) (by decide) (fun K hK => ?_)
          have hs91 : w88.cell? ⟨gb200, 5, none⟩ = some (.bool t188) := (blk_cell BK200.out 5).trans rfl
          have hfs91 := blk_frozen BK200.out 5
          have hns91_0 := NB190_200.out
          have hns91_1 := NB198_200.out
          have hms91_0 := NB200_190.out
          have hms91_1 := NB200_198.out
          refine skip_ (w1 := ?_) (by rfl) rfl ?_ ?_
          rotate_left
          · go_simp
            rfl
          refine hK.out _ _ ⟨((cell_far (p := ⟨gb200, _, none⟩) NB198_200.out _).trans (hHeld.1)), ((cell_far (p := ⟨gb200, _, none⟩) NB198_200.out _).trans (hHeld.2.1)), ((cell_far (p := ⟨gb200, _, none⟩) NB198_200.out _).trans (hHeld.2.2.1)), ((cell_far (p := ⟨gb200, _, none⟩) NB198_200.out _).trans (hHeld.2.2.2.1)), ((cell_far (p := ⟨gb200, _, none⟩) NB198_200.out _).trans (hHeld.2.2.2.2.1)), ((cell_far (p := ⟨gb200, _, none⟩) NB198_200.out _).trans (hHeld.2.2.2.2.2))⟩ (fun hHeld => ?_)
          clear hK K
          refine done_ (done_of HT_.out (by kernel_rfl)) ?_
          try go_wp2
          have n0_ : Aside0 ((((w88.setCell ⟨gb200, 3, none⟩ (.string t194)).setCell ⟨gb200, 4, none⟩ (.string t195)).setCell ⟨gb200, 5, none⟩ (.bool t196)).heap[gb190]? = some (.cells #[.string t183, .string t184, .int .i64 t185, .string t186, .string t187, .bool t188] 23 (0, 0))) := ⟨by (with_reducible repeat (first | refine blk_drewN ?_ _ | refine blk_drew ?_ | refine blk_alloc ?_ _)); refine blk_far ?_ NB190_200.out _; (with_reducible repeat (first | refine blk_drewN ?_ _ | refine blk_drew ?_ | refine blk_alloc ?_ _)); refine blk_far ?_ NB190_200.out _; (with_reducible repeat (first | refine blk_drewN ?_ _ | refine blk_drew ?_ | refine blk_alloc ?_ _)); refine blk_far ?_ NB190_200.out _; (with_reducible repeat (first | refine blk_drewN ?_ _ | refine blk_drew ?_ | refine blk_alloc ?_ _)); exact BK190.out⟩
          have n1_ : Aside0 ((((w88.setCell ⟨gb200, 3, none⟩ (.string t194)).setCell ⟨gb200, 4, none⟩ (.string t195)).setCell ⟨gb200, 5, none⟩ (.bool t196)).heap[gb198]? = some (.cells #[.string t191, .string t192, .int .i64 t193, .string t194, .string t195, .bool t196] 23 (0, 0))) := ⟨by (with_reducible repeat (first | refine blk_drewN ?_ _ | refine blk_drew ?_ | refine blk_alloc ?_ _)); refine blk_far ?_ NB198_200.out _; (with_reducible repeat (first | refine blk_drewN ?_ _ | refine blk_drew ?_ | refine blk_alloc ?_ _)); refine blk_far ?_ NB198_200.out _; (with_reducible repeat (first | refine blk_drewN ?_ _ | refine blk_drew ?_ | refine blk_alloc ?_ _)); refine blk_far ?_ NB198_200.out _; (with_reducible repeat (first | refine blk_drewN ?_ _ | refine blk_drew ?_ | refine blk_alloc ?_ _)); exact BK198.out⟩
          have n2_ : Aside0 ((((w88.setCell ⟨gb200, 3, none⟩ (.string t194)).setCell ⟨gb200, 4, none⟩ (.string t195)).setCell ⟨gb200, 5, none⟩ (.bool t196)).heap[gb200]? = some (.cells #[.string t183, .string t184, .int .i64 t185, .string t194, .string t195, .bool t196] 23 (0, 0))) := ⟨by (with_reducible repeat (first | refine blk_drewN ?_ _ | refine blk_drew ?_ | refine blk_alloc ?_ _)); refine blk_put (cs := #[.string t183, .string t184, .int .i64 t185, .string t194, .string t195, .bool t188]) ?_ 5 _ rfl; (with_reducible repeat (first | refine blk_drewN ?_ _ | refine blk_drew ?_ | refine blk_alloc ?_ _)); refine blk_put (cs := #[.string t183, .string t184, .int .i64 t185, .string t194, .string t187, .bool t188]) ?_ 4 _ rfl; (with_reducible repeat (first | refine blk_drewN ?_ _ | refine blk_drew ?_ | refine blk_alloc ?_ _)); refine blk_put (cs := #[.string t183, .string t184, .int .i64 t185, .string t186, .string t187, .bool t188]) ?_ 3 _ rfl; (with_reducible repeat (first | refine blk_drewN ?_ _ | refine blk_drew ?_ | refine blk_alloc ?_ _)); exact BK200.out⟩
          have n3_ : Aside0 (Below w.heap.size w (((w88.setCell ⟨gb200, 3, none⟩ (.string t194)).setCell ⟨gb200, 4, none⟩ (.string t195)).setCell ⟨gb200, 5, none⟩ (.bool t196))) := ⟨by repeat (first | (with_reducible first | exact HB.out | apply below_alloc | apply pw_below_drewN | apply below_drew1 | refine below_set ?_ GE190.out | refine below_set ?_ GE198.out | refine below_set ?_ GE200.out) | exact HB.out)⟩
          (try clear BK190)
          (try clear BK198)
          (try clear BK200)
          (try clear HB)
          generalize (((w88.setCell ⟨gb200, 3, none⟩ (.string t194)).setCell ⟨gb200, 4, none⟩ (.string t195)).setCell ⟨gb200, 5, none⟩ (.bool t196)) = w92 at n0_ n1_ n2_ n3_ ⊢
          have BK190 := n0_
          have BK198 := n1_
          have BK200 := n2_
          have HB := n3_
          clear n0_ n1_ n2_ n3_
          have n0_ := Aside0.mk (blk_drew BK190.out)
          have n1_ := Aside0.mk (blk_drew BK198.out)
          have n2_ := Aside0.mk (blk_drew BK200.out)
          have n3_ := Aside0.mk (below_drew1 HB.out)
          clear BK190
          clear BK198
          clear BK200
          clear HB
          have BK190 := n0_
          have BK198 := n1_
          have BK200 := n2_
          have HB := n3_
          clear n0_ n1_ n2_ n3_
          refine start_ (n := 27) (S := fun w' => True) (ds := []) #[false, false, false, false, false, false, false, false, false, false, false, false, false, false, false, false, false, false, false, false, false, false, false, false, false, false, false] (by kernel_rfl) rfl rfl trivial (fun hHeld => ?_); refine with_tabW decorumlaw05_UrlKeys.tab7 decorumlaw05_UrlKeys.bits7 (fun HT_ HW_ => ?_)
          generalize w92.drew = w93 at BK190 BK198 BK200 HB hHeld ⊢
          refine one_ (i := 0) (N := some 37) #[true, false, false, false, false, false, false, false, false, false, false, false, false, false, false, false, false, false, false, false, false, false, false, false, false, false, false] rfl rfl (one_of HT_.out (by kernel_rfl)) (by decide) (fun K hK => ?_)
          refine goes_ Tryd.func7 (by kernel_rfl) rfl #[] (by rfl) rfl rfl (by (try simp only [List.map_toArray, List.map_cons, List.map_nil]); first | done | rfl | (simp only [List.length_drop, List.length_take]; rfl)) ?_
          with_reducible refine (decorumlaw05_awake.calls  false _ ?side1 A17.out).mono ?_
          (case side1 => exact Gl.below hG (by repeat (first | (with_reducible first | exact HB.out | apply below_alloc | apply pw_below_drewN | apply below_drew1 | refine below_set ?_ GE190.out | refine below_set ?_ GE198.out | refine below_set ?_ GE200.out) | exact HB.out)))
          rintro e w94 ⟨rfl, hb⟩
          refine ⟨_, rfl, ?_⟩
          have n0_ := Aside0.mk (blk_below (g := gb190) (o := .cells #[.string t183, .string t184, .int .i64 t185, .string t186, .string t187, .bool t188] 23 (0, 0)) (by (with_reducible repeat (first | refine blk_drewN ?_ _ | refine blk_drew ?_ | refine blk_alloc ?_ _)); exact BK190.out) hb)
          have n1_ := Aside0.mk (blk_below (g := gb198) (o := .cells #[.string t191, .string t192, .int .i64 t193, .string t194, .string t195, .bool t196] 23 (0, 0)) (by (with_reducible repeat (first | refine blk_drewN ?_ _ | refine blk_drew ?_ | refine blk_alloc ?_ _)); exact BK198.out) hb)
          have n2_ := Aside0.mk (blk_below (g := gb200) (o := .cells #[.string t183, .string t184, .int .i64 t185, .string t194, .string t195, .bool t196] 23 (0, 0)) (by (with_reducible repeat (first | refine blk_drewN ?_ _ | refine blk_drew ?_ | refine blk_alloc ?_ _)); exact BK200.out) hb)
          have n3_ := Aside0.mk (below_step (by repeat (first | (with_reducible first | exact HB.out | apply below_alloc | apply pw_below_drewN | apply below_drew1 | refine below_set ?_ GE190.out | refine below_set ?_ GE198.out | refine below_set ?_ GE200.out) | exact HB.out)) hb)
          clear BK190
          clear BK198
          clear BK200
          clear HB
          have BK190 := n0_
          have BK198 := n1_
          have BK200 := n2_
          have HB := n3_
          clear n0_ n1_ n2_ n3_
          (try clear hb)
          (try clear hb2)
          (try clear hk)
          (try clear hi)
          refine hK.out _ _ trivial (fun hHeld => ?_)
          clear hK K
          refine norm_ (a' := ?_) ?_ ?_
          rotate_left
          · show Act.put _ (some 37) _ = _
            simp only [Act.put, List.setIfInBounds_toArray, List.set_cons_zero, List.set_cons_succ, i64_w, i32_w]
            rfl
          refine pure_ (i := 1) (N := some 38) (v := ?_) (a' := ?_) #[true, true, false, false, false, false, false, false, false, false, false, false, false, false, false, false, false, false, false, false, false, false, false, false, false, false, false] rfl rfl (any_of HT_.out (by kernel_rfl)) (fun _ _ _ h => h) (Or.inl ⟨by rfl, ?_⟩) ?_ ?_
          rotate_left
          · intro w'
            go_simp
            with_reducible rfl
          rotate_left
          · simp only [Act.put, List.setIfInBounds_toArray, List.set_cons_zero, List.set_cons_succ, i64_w, i32_w]
            rfl
          refine pure_ (i := 2) (N := some 39) (v := undef) (a' := ?_) #[true, true, true, false, false, false, false, false, false, false, false, false, false, false, false, false, false, false, false, false, false, false, false, false, false, false, false] rfl rfl (any_of HT_.out (by kernel_rfl)) (fun _ _ _ h => h) (Or.inr ⟨by rfl, rfl⟩) ?_ ?_
          rotate_left
          · simp only [Act.put, List.setIfInBounds_toArray, List.set_cons_zero, List.set_cons_succ, i64_w, i32_w]
            rfl
          refine pure_ (i := 3) (N := some 40) (v := undef) (a' := ?_) #[true, true, true, true, false, false, false, false, false, false, false, false, false, false, false, false, false, false, false, false, false, false, false, false, false, false, false] rfl rfl (any_of HT_.out (by kernel_rfl)) (fun _ _ _ h => h) (Or.inr ⟨by rfl, rfl⟩) ?_ ?_
          rotate_left
          · simp only [Act.put, List.setIfInBounds_toArray, List.set_cons_zero, List.set_cons_succ, i64_w, i32_w]
            rfl
          refine pure_ (i := 4) (N := some 41) (v := undef) (a' := ?_) #[true, true, true, true, true, false, false, false, false, false, false, false, false, false, false, false, false, false, false, false, false, false, false, false, false, false, false] rfl rfl (any_of HT_.out (by kernel_rfl)) (fun _ _ _ h => h) (Or.inr ⟨by rfl, rfl⟩) ?_ ?_
          rotate_left
          · simp only [Act.put, List.setIfInBounds_toArray, List.set_cons_zero, List.set_cons_succ, i64_w, i32_w]
            rfl
          refine pure_ (i := 5) (N := some 42) (v := undef) (a' := ?_) #[true, true, true, true, true, true, false, false, false, false, false, false, false, false, false, false, false, false, false, false, false, false, false, false, false, false, false] rfl rfl (any_of HT_.out (by kernel_rfl)) (fun _ _ _ h => h) (Or.inr ⟨by rfl, rfl⟩) ?_ ?_
          rotate_left
          · simp only [Act.put, List.setIfInBounds_toArray, List.set_cons_zero, List.set_cons_succ, i64_w, i32_w]
            rfl
          refine pure_ (i := 6) (N := some 43) (v := undef) (a' := ?_) #[true, true, true, true, true, true, true, false, false, false, false, false, false, false, false, false, false, false, false, false, false, false, false, false, false, false, false] rfl rfl (any_of HT_.out (by kernel_rfl)) (fun _ _ _ h => h) (Or.inr ⟨by rfl, rfl⟩) ?_ ?_
          rotate_left
          · simp only [Act.put, List.setIfInBounds_toArray, List.set_cons_zero, List.set_cons_succ, i64_w, i32_w]
            rfl
          refine pure_ (i := 7) (N := some 44) (v := ?_) (a' := ?_) #[true, true, true, true, true, true, true, true, false, false, false, false, false, false, false, false, false, false, false, false, false, false, false, false, false, false, false] rfl rfl (any_of HT_.out (by kernel_rfl)) (fun _ _ _ h => h) (Or.inl ⟨by rfl, ?_⟩) ?_ ?_
          rotate_left
          · intro w'
            go_simp
            with_reducible rfl
          rotate_left
          · simp only [Act.put, List.setIfInBounds_toArray, List.set_cons_zero, List.set_cons_succ, i64_w, i32_w]
            rfl
          refine pure_ (i := 8) (N := some 45) (v := ?_) (a' := ?_) #[true, true, true, true, true, true, true, true, true, false, false, false, false, false, false, false, false, false, false, false, false, false, false, false, false, false, false] rfl rfl (any_of HT_.out (by kernel_rfl)) (fun _ _ _ h => h) (Or.inl ⟨by rfl, ?_⟩) ?_ ?_
          rotate_left
          · intro w'
            go_simp
            with_reducible rfl
          rotate_left
          · simp only [Act.put, List.setIfInBounds_toArray, List.set_cons_zero, List.set_cons_succ, i64_w, i32_w]
            rfl
          refine pure_ (i := 9) (N := some 46) (v := undef) (a' := ?_) #[true, true, true, true, true, true, true, true, true, true, false, false, false, false, false, false, false, false, false, false, false, false, false, false, false, false, false] rfl rfl (any_of HT_.out (by kernel_rfl)) (fun _ _ _ h => h) (Or.inr ⟨by rfl, rfl⟩) ?_ ?_
          rotate_left
          · simp only [Act.put, List.setIfInBounds_toArray, List.set_cons_zero, List.set_cons_succ, i64_w, i32_w]
            rfl
          refine pure_ (i := 10) (N := some 47) (v := undef) (a' := ?_) #[true, true, true, true, true, true, true, true, true, true, true, false, false, false, false, false, false, false, false, false, false, false, false, false, false, false, false] rfl rfl (any_of HT_.out (by kernel_rfl)) (fun _ _ _ h => h) (Or.inr ⟨by rfl, rfl⟩) ?_ ?_
          rotate_left
          · simp only [Act.put, List.setIfInBounds_toArray, List.set_cons_zero, List.set_cons_succ, i64_w, i32_w]
            rfl
          refine pure_ (i := 11) (N := some 48) (v := undef) (a' := ?_) #[true, true, true, true, true, true, true, true, true, true, true, true, false, false, false, false, false, false, false, false, false, false, false, false, false, false, false] rfl rfl (any_of HT_.out (by kernel_rfl)) (fun _ _ _ h => h) (Or.inr ⟨by rfl, rfl⟩) ?_ ?_
          rotate_left
          · simp only [Act.put, List.setIfInBounds_toArray, List.set_cons_zero, List.set_cons_succ, i64_w, i32_w]
            rfl
          refine pure_ (i := 12) (N := some 49) (v := undef) (a' := ?_) #[true, true, true, true, true, true, true, true, true, true, true, true, true, false, false, false, false, false, false, false, false, false, false, false, false, false, false] rfl rfl (any_of HT_.out (by kernel_rfl)) (fun _ _ _ h => h) (Or.inr ⟨by rfl, rfl⟩) ?_ ?_
          rotate_left
          · simp only [Act.put, List.setIfInBounds_toArray, List.set_cons_zero, List.set_cons_succ, i64_w, i32_w]
            rfl
          refine pure_ (i := 13) (N := some 50) (v := undef) (a' := ?_) #[true, true, true, true, true, true, true, true, true, true, true, true, true, true, false, false, false, false, false, false, false, false, false, false, false, false, false] rfl rfl (any_of HT_.out (by kernel_rfl)) (fun _ _ _ h => h) (Or.inr ⟨by rfl, rfl⟩) ?_ ?_
          rotate_left
          · simp only [Act.put, List.setIfInBounds_toArray, List.set_cons_zero, List.set_cons_succ, i64_w, i32_w]
            rfl
          refine pure_ (i := 14) (N := some 51) (v := ?_) (a' := ?_) #[true, true, true, true, true, true, true, true, true, true, true, true, true, true, true, false, false, false, false, false, false, false, false, false, false, false, false] rfl rfl (any_of HT_.out (by kernel_rfl)) (fun _ _ _ h => h) (Or.inl ⟨by rfl, ?_⟩) ?_ ?_
          rotate_left
          · intro w'
            go_simp
            with_reducible rfl
          rotate_left
          · simp only [Act.put, List.setIfInBounds_toArray, List.set_cons_zero, List.set_cons_succ, i64_w, i32_w]
            rfl
          refine pure_ (i := 15) (N := some 52) (v := ?_) (a' := ?_) #[true, true, true, true, true, true, true, true, true, true, true, true, true, true, true, true, false, false, false, false, false, false, false, false, false, false, false] rfl rfl (any_of HT_.out (by kernel_rfl)) (fun _ _ _ h => h) (Or.inl ⟨by rfl, ?_⟩) ?_ ?_
          rotate_left
          · intro w'
            go_simp
            with_reducible rfl
          rotate_left
          · simp only [Act.put, List.setIfInBounds_toArray, List.set_cons_zero, List.set_cons_succ, i64_w, i32_w]
            rfl
          refine pure_ (i := 16) (N := some 53) (v := undef) (a' := ?_) #[true, true, true, true, true, true, true, true, true, true, true, true, true, true, true, true, true, false, false, false, false, false, false, false, false, false, false] rfl rfl (any_of HT_.out (by kernel_rfl)) (fun _ _ _ h => h) (Or.inr ⟨by rfl, rfl⟩) ?_ ?_
          rotate_left
          · simp only [Act.put, List.setIfInBounds_toArray, List.set_cons_zero, List.set_cons_succ, i64_w, i32_w]
            rfl
          refine pure_ (i := 17) (N := some 54) (v := undef) (a' := ?_) #[true, true, true, true, true, true, true, true, true, true, true, true, true, true, true, true, true, true, false, false, false, false, false, false, false, false, false] rfl rfl (any_of HT_.out (by kernel_rfl)) (fun _ _ _ h => h) (Or.inr ⟨by rfl, rfl⟩) ?_ ?_
          rotate_left
          · simp only [Act.put, List.setIfInBounds_toArray, List.set_cons_zero, List.set_cons_succ, i64_w, i32_w]
            rfl
          refine pure_ (i := 18) (N := some 55) (v := undef) (a' := ?_) #[true, true, true, true, true, true, true, true, true, true, true, true, true, true, true, true, true, true, true, false, false, false, false, false, false, false, false] rfl rfl (any_of HT_.out (by kernel_rfl)) (fun _ _ _ h => h) (Or.inr ⟨by rfl, rfl⟩) ?_ ?_
          rotate_left
          · simp only [Act.put, List.setIfInBounds_toArray, List.set_cons_zero, List.set_cons_succ, i64_w, i32_w]
            rfl
          refine pure_ (i := 19) (N := some 56) (v := undef) (a' := ?_) #[true, true, true, true, true, true, true, true, true, true, true, true, true, true, true, true, true, true, true, true, false, false, false, false, false, false, false] rfl rfl (any_of HT_.out (by kernel_rfl)) (fun _ _ _ h => h) (Or.inr ⟨by rfl, rfl⟩) ?_ ?_
          rotate_left
          · simp only [Act.put, List.setIfInBounds_toArray, List.set_cons_zero, List.set_cons_succ, i64_w, i32_w]
            rfl
          refine pure_ (i := 20) (N := some 57) (v := undef) (a' := ?_) #[true, true, true, true, true, true, true, true, true, true, true, true, true, true, true, true, true, true, true, true, true, false, false, false, false, false, false] rfl rfl (any_of HT_.out (by kernel_rfl)) (fun _ _ _ h => h) (Or.inr ⟨by rfl, rfl⟩) ?_ ?_
          rotate_left
          · simp only [Act.put, List.setIfInBounds_toArray, List.set_cons_zero, List.set_cons_succ, i64_w, i32_w]
            rfl
          refine pure_ (i := 21) (N := some 58) (v := undef) (a' := ?_) #[true, true, true, true, true, true, true, true, true, true, true, true, true, true, true, true, true, true, true, true, true, true, false, false, false, false, false] rfl rfl (any_of HT_.out (by kernel_rfl)) (fun _ _ _ h => h) (Or.inr ⟨by rfl, rfl⟩) ?_ ?_
          rotate_left
          · simp only [Act.put, List.setIfInBounds_toArray, List.set_cons_zero, List.set_cons_succ, i64_w, i32_w]
            rfl
          refine pure_ (i := 22) (N := some 59) (v := undef) (a' := ?_) #[true, true, true, true, true, true, true, true, true, true, true, true, true, true, true, true, true, true, true, true, true, true, true, false, false, false, false] rfl rfl (any_of HT_.out (by kernel_rfl)) (fun _ _ _ h => h) (Or.inr ⟨by rfl, rfl⟩) ?_ ?_
          rotate_left
          · simp only [Act.put, List.setIfInBounds_toArray, List.set_cons_zero, List.set_cons_succ, i64_w, i32_w]
            rfl
          refine pure_ (i := 23) (N := some 60) (v := undef) (a' := ?_) #[true, true, true, true, true, true, true, true, true, true, true, true, true, true, true, true, true, true, true, true, true, true, true, true, false, false, false] rfl rfl (any_of HT_.out (by kernel_rfl)) (fun _ _ _ h => h) (Or.inr ⟨by rfl, rfl⟩) ?_ ?_
          rotate_left
          · simp only [Act.put, List.setIfInBounds_toArray, List.set_cons_zero, List.set_cons_succ, i64_w, i32_w]
            rfl
          refine pure_ (i := 24) (N := some 61) (v := undef) (a' := ?_) #[true, true, true, true, true, true, true, true, true, true, true, true, true, true, true, true, true, true, true, true, true, true, true, true, true, false, false] rfl rfl (any_of HT_.out (by kernel_rfl)) (fun _ _ _ h => h) (Or.inr ⟨by rfl, rfl⟩) ?_ ?_
          rotate_left
          · simp only [Act.put, List.setIfInBounds_toArray, List.set_cons_zero, List.set_cons_succ, i64_w, i32_w]
            rfl
          refine pure_ (i := 25) (N := some 62) (v := ?_) (a' := ?_) #[true, true, true, true, true, true, true, true, true, true, true, true, true, true, true, true, true, true, true, true, true, true, true, true, true, true, false] rfl rfl (any_of HT_.out (by kernel_rfl)) (fun _ _ _ h => h) (Or.inl ⟨by rfl, ?_⟩) ?_ ?_
          rotate_left
          · intro w'
            go_simp
            with_reducible rfl
          rotate_left
          · simp only [Act.put, List.setIfInBounds_toArray, List.set_cons_zero, List.set_cons_succ, i64_w, i32_w]
            rfl
          refine pure_ (i := 26) (N := some 4) (v := ?_) (a' := ?_) #[true, true, true, true, true, true, true, true, true, true, true, true, true, true, true, true, true, true, true, true, true, true, true, true, true, true, true] rfl rfl (any_of HT_.out (by kernel_rfl)) (fun _ _ _ h => h) (Or.inl ⟨by rfl, ?_⟩) ?_ ?_
          rotate_left
          · intro w'
            go_simp
            with_reducible rfl
          rotate_left
          · simp only [Act.put, List.setIfInBounds_toArray, List.set_cons_zero, List.set_cons_succ, i64_w, i32_w]
            rfl
          refine done_ (done_of HT_.out (by kernel_rfl)) ?_
          try go_wp2
          go_ret
          exact ⟨by first | rfl | (simp [errW_none, errW_some] <;> rfl) | (simp [*, errW_none, errW_some] <;> rfl), by repeat (first | (with_reducible first | exact HB.out | apply below_alloc | apply pw_below_drewN | apply below_drew1 | refine below_set ?_ GE190.out | refine below_set ?_ GE198.out | refine below_set ?_ GE200.out) | exact HB.out)⟩
/-- THE ONE PURE STATEMENT of decorumlaw05_UrlKeys: yours. -/
def decorumlaw05_UrlKeys.Pure : Prop := ∀ (a0 : ByteArray) (a1 : ByteArray), a0.size ≤ 140737488351232 → a1.size ≤ 140737488351232 → ∃ k, decorumlaw05_UrlKeys.f k a0 a1 = some true
theorem decorumlaw05_UrlKeys.walk (P : decorumlaw05_UrlKeys.Pure) (a0 : ByteArray) (a1 : ByteArray) (w : World) (hG : Gl w) (w0 : a0.size ≤ 140737488351232) (w1 : a1.size ≤ 140737488351232) :
    Calls Tryd.prog 6 #[.string a0, .string a1] w fun e w' => e = .returned (.bool true) ∧ Below w.heap.size w w' := by
  obtain ⟨k, h⟩ := P a0 a1 w0 w1
  refine (decorumlaw05_UrlKeys.calls k a0 a1 true w hG h).mono ?_
  rintro e w' ⟨rfl, hd⟩
  exact ⟨rfl, hd⟩
end Go.Proofs.YtpnofnmecjagcaaDoor.XC
