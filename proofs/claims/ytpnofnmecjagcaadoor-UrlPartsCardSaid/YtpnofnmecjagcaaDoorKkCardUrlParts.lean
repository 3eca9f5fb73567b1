/- PROVED: decorum/decorumlaw05.UrlParts returns true for every input and leaves its arguments as they read, as the given tied card states it (UrlPartsCardSaid); its only conditions are the card's own. (Text written by wip/tools/cards.py.) -/
import Derived.Test.YtpnofnmecjagcaaDoorCards
import Derived.Test.YtpnofnmecjagcaaDoorTie
import Derived.Test.YtpnofnmecjagcaaDoorKkUrF
import Derived.Test.YtpnofnmecjagcaaDoorKkGl
import Derived.WalkKit
import Derived.ProofKit
import Derived.OpenShut
import Derived.ShutString
import Derived.Below
import Derived.SizedLaws
import Derived.Lay
import Derived.LaidLaws
import Derived.Carry
import Derived.Lib.SmallJoins
import Derived.Deep.Fields
import Derived.Shelf.Vars
import Derived.MakeChecks
import Derived.Lib.LaidU8
import Derived.Deep.DeepHandedRow
import Derived.Deep.DeepWitnessRowRef
-- 
namespace Go.Proofs.YtpnofnmecjagcaaDoor.urlParts
open Go.ChangeShapes Go.WideShapes Go.ChangeAt Go.RowKit Go.Proofs.YtpnofnmecjagcaaDoor.Ext
open Go.ChangeMaps (open_string shut_string)
set_option linter.unusedVariables false
theorem own : ownKnob Tryd.prog.godebug = none := by kernel_rfl
theorem tabIs_of_mem {P : Program} {W : World} {name : String} {k : IntKind} {zs : List Int} {l : List (String × DataW Unit)} {g : Nat} {t e : TypeId} {n : Nat}
    (hg : P.globalNamed name = some g) (hty : (P.globals[g]?).map (·.type) = some t) (ht : P.underlying t = some (.array n e)) (he : P.underlying e = some (.int k)) (hce : P.cellsOf e = 1) (hct : P.cellsOf t = n)
    (h : laidMet P l W) (hm : (name, Lib.tabData k zs) ∈ l) : Lib.TabIs P W name k zs := by
  obtain ⟨g', t', cs, fuel, p, hg', ht', hvar, hd⟩ := Lib.laidMet.reads h hm
  obtain rfl := Option.some.inj (hg.symm.trans hg')
  obtain rfl := Option.some.inj (hty.symm.trans ht')
  unfold Lib.TabIs
  rw [hvar, ← Lib.cells_of_tab ht he hce hct hd]
section
open Go.Joins Go.ChangeShapes Go.WideShapes Go.RowKit Go.Deep
variable {H : Type} {enc : TypeId × Value → H} {P : Program} {w : World} {base : Nat} {spare : Nat → Bool} {held : Bool}
theorem open_agg6 {r : Reach} {b0 : Nat} {t : TypeId} {f0 f1 f2 f3 f4 f5 : Field} {v : Value} {d : DataW H} {p : List MemPlace} (hs : P.underlying t = some (.struct #[f0, f1, f2, f3, f4, f5])) (hone : oneCellFields P #[f0, f1, f2, f3, f4, f5] = true) (hC : P.cellsOf t = 6)
    (hv : Value.okWide P w r b0 t v) (h : DataW.Trod enc P w base spare held t v d p) :
    ∃ (v0 v1 v2 v3 v4 v5 : Value) (y0 y1 y2 y3 y4 y5 : DataW H × List MemPlace) (n : Nat), v = .agg #[v0, v1, v2, v3, v4, v5] ∧ d = .agg [y0.1, y1.1, y2.1, y3.1, y4.1, y5.1] ∧ p = y0.2 ++ (y1.2 ++ (y2.2 ++ (y3.2 ++ (y4.2 ++ y5.2)))) ∧
      DataW.trod enc P w base spare held n f0.type [v0] = some y0 ∧ DataW.trod enc P w base spare held n f1.type [v1] = some y1 ∧ DataW.trod enc P w base spare held n f2.type [v2] = some y2 ∧ DataW.trod enc P w base spare held n f3.type [v3] = some y3 ∧ DataW.trod enc P w base spare held n f4.type [v4] = some y4 ∧ DataW.trod enc P w base spare held n f5.type [v5] = some y5 := by
  obtain ⟨cs, rfl, hsz⟩ := okWide_struct hs hv
  obtain ⟨l⟩ := cs
  match l, hsz.trans hC with
  | [c0, c1, c2, c3, c4, c5], _ =>
    obtain ⟨fuel, hf⟩ := h
    obtain ⟨xs, n, _, hx, _, hlen, hg⟩ := DataW.trod_struct hs hf
    obtain ⟨o0, k0⟩ := hone_of hone 0 f0 rfl
    obtain ⟨o1, k1⟩ := hone_of hone 1 f1 rfl
    obtain ⟨o2, k2⟩ := hone_of hone 2 f2 rfl
    obtain ⟨o3, k3⟩ := hone_of hone 3 f3 rfl
    obtain ⟨o4, k4⟩ := hone_of hone 4 f4 rfl
    obtain ⟨o5, k5⟩ := hone_of hone 5 f5 rfl
    match xs, hlen with
    | [y0, y1, y2, y3, y4, y5], _ =>
      simp only [Prod.mk.injEq] at hx
      exact ⟨c0, c1, c2, c3, c4, c5, y0, y1, y2, y3, y4, y5, n, rfl, by simpa using hx.1, by simpa using hx.2, by simpa [Value.cells, o0, k0] using hg 0 f0 rfl, by simpa [Value.cells, o1, k1] using hg 1 f1 rfl, by simpa [Value.cells, o2, k2] using hg 2 f2 rfl, by simpa [Value.cells, o3, k3] using hg 3 f3 rfl, by simpa [Value.cells, o4, k4] using hg 4 f4 rfl, by simpa [Value.cells, o5, k5] using hg 5 f5 rfl⟩
end
theorem var_iface {P : Program} {w : World} {name nm : String} {d : DataW Unit} {g : Nat} {t : TypeId} {ms : Array (String × TypeId)}
    (hg : P.globalNamed name = some g) (hty : (P.globals[g]?).map (·.type) = some t) (ht : P.underlying t = some (.interface ms)) (h : Lib.VarReads P w name (.iface nm d)) :
    ∃ v, w.cell? ⟨g, 0, none⟩ = some v ∧ (v = .nilIface ∨ ∃ te pe, v = .iface te pe) := by
  obtain ⟨g', t', cs, fuel, p, hg', ht', hvar, hd⟩ := h
  obtain rfl := Option.some.inj (hg.symm.trans hg')
  obtain rfl := Option.some.inj (hty.symm.trans ht')
  obtain ⟨_, u, v, hcs, _, _⟩ := iface_of_trod ht hd
  refine ⟨.iface u v, ?_, Or.inr ⟨u, v, rfl⟩⟩
  rw [World.var?_cell hg hvar 0, ← Array.getElem?_toList, hcs]
  rfl
theorem gl {W : World} (hsh : W.ShapedOpen Tryd.prog) (hL : laidMetH Tryd.prog Rows.urlPartsRow.laid W) : Gl W := by
  have hl : laidMet Tryd.prog Rows.urlPartsRow.laid W := by rw [← Go.MakeChecks.laidMetH_plain _ _ _ (by kernel_rfl)]; exact hL
  exact { maxlen := cell_of_shapedOpen_int (k := .i64) (t := 3) (zero := #[.int .i64 0]) hsh (by decide +kernel) (by kernel_rfl) rfl (by kernel_rfl) (by kernel_rfl) Tryd.underlying3
          pow10 := tabIs_of_mem (g := 1) (t := 98) (e := 86) (n := 20) (by kernel_rfl) (by kernel_rfl) (by kernel_rfl) (by kernel_rfl) (by kernel_rfl) (by kernel_rfl) hl (List.mem_of_getElem? (i := 2) (by kernel_rfl))
          utf8 := utf8Tabs_of_reads { Tryd.lays230 with } ⟨by kernel_rfl, by kernel_rfl, by kernel_rfl, by kernel_rfl, by kernel_rfl, by kernel_rfl, by kernel_rfl⟩ (Lib.laidMet.reads hl (List.mem_of_getElem? (i := 6) (by kernel_rfl))) (Lib.laidMet.reads hl (List.mem_of_getElem? (i := 3) (by kernel_rfl)))
          esyn := var_iface (name := "strconv.ErrSyntax") (nm := "*errors.errorString") (d := (.ptr (.agg [.lit (.string [105, 110, 118, 97, 108, 105, 100, 32, 115, 121, 110, 116, 97, 120])]))) (g := 4) (t := 52) (by kernel_rfl) (by kernel_rfl) Tryd.underlying52 (Lib.laidMet.reads hl (List.mem_of_getElem? (i := 5) (by kernel_rfl)))
          eran := var_iface (name := "strconv.ErrRange") (nm := "*errors.errorString") (d := (.ptr (.agg [.lit (.string [118, 97, 108, 117, 101, 32, 111, 117, 116, 32, 111, 102, 32, 114, 97, 110, 103, 101])]))) (g := 5) (t := 52) (by kernel_rfl) (by kernel_rfl) Tryd.underlying52 (Lib.laidMet.reads hl (List.mem_of_getElem? (i := 4) (by kernel_rfl))) }
noncomputable def laidWorld (os : Os) : World := World.laidAll Tryd.prog os Rows.urlPartsRow.laid
theorem laid_met (os : Os) (args : Array Value) : laidMet Tryd.prog Rows.urlPartsRow.laid ((laidWorld os).forCall (fun _ _ => 0) ⟨#[], args, []⟩).memory := laidMet_laidAll args (by kernel_rfl) (by kernel_rfl)
theorem witness_row (os : Os) {H : Type} (enc : TypeId × Value → H) :
    (OpenSpec.ofChange Rows.urlPartsSpec).preRow enc Tryd.prog Tryd.f3 Rows.urlPartsRow.domain false Rows.urlPartsRow.laid ((laidWorld os).forCall (fun _ _ => 0) ⟨#[], #[.agg #[.string ByteArray.empty, .string ByteArray.empty, .int .i64 0, .string ByteArray.empty, .string ByteArray.empty, .bool false]], []⟩).memory #[.agg #[.string ByteArray.empty, .string ByteArray.empty, .int .i64 0, .string ByteArray.empty, .string ByteArray.empty, .bool false]] := by
  have hw : (DataW.whole enc Tryd.prog ((laidWorld os).forCall (fun _ _ => 0) ⟨#[], #[.agg #[.string ByteArray.empty, .string ByteArray.empty, .int .i64 0, .string ByteArray.empty, .string ByteArray.empty, .bool false]], []⟩).memory Tryd.f3.params.toList Rows.urlPartsSpec.vars false (#[.agg #[.string ByteArray.empty, .string ByteArray.empty, .int .i64 0, .string ByteArray.empty, .string ByteArray.empty, .bool false]] : Array Value).toList 8).map (fun x => (x.1, x.2.1)) =
      some ([.agg [.lit (.string []), .lit (.string []), .lit (.int .i64 0), .lit (.string []), .lit (.string []), .lit (.bool false)]], []) := by kernel_rfl
  obtain ⟨⟨x1, x2, x3⟩, hx, hx1⟩ := Option.map_eq_some_iff.1 hw
  simp only [Prod.mk.injEq] at hx1
  obtain ⟨rfl, rfl⟩ := hx1
  exact OpenSpec.preRow_of_cond 8 hx (by kernel_rfl) (fun k hk => by cases hk) (by kernel_rfl) (laid_met os _)
set_option maxRecDepth 100000 in
theorem lifted (os : Os) (started : os.Started) (H : Type) (enc : TypeId × Value → H) (F : Stop.Interp) :
    ReturnsInHanded {} Tryd.checked os 3 .any ((OpenSpec.ofChange Rows.urlPartsSpec).preRow enc Tryd.prog Tryd.f3 Rows.urlPartsRow.domain false Rows.urlPartsRow.laid) (((OpenSpec.ofChange Rows.urlPartsSpec).at F).post enc Tryd.prog Tryd.f3 false true false false) := by
  refine returnsInHanded_of_row (C := Tryd.checked) (s := OpenSpec.ofChange Rows.urlPartsSpec) own started (by kernel_rfl) Tryd.func3
    (witness_row_atRef (enc := enc) (C := Tryd.checked) false (laidWorld os) #[.agg #[.string ByteArray.empty, .string ByteArray.empty, .int .i64 0, .string ByteArray.empty, .string ByteArray.empty, .bool false]] (World.laidAll_os _ _ _) (by kernel_rfl) (by kernel_rfl) (by kernel_rfl) (witness_row os enc)) ?_
  intro W base args ds gs before hval0 hW hcnd hcond hsz0 hL hsh _
  have hsz : (DataW.weightsEach Tryd.prog (Tryd.f3.params.toList ++ Rows.urlPartsSpec.plain.varTypes Tryd.prog) (ds ++ gs)).all (· ≤ reachBytes) = true := hsz0
  have hval : ∀ (j : Nat) t v, Tryd.f3.params[j]? = some t → args[j]? = some v → Value.okWide Tryd.prog W .any base t v := hval0
  have hW' := hW
  obtain ⟨p, q, hA0, hV, rfl, hfz, hnd⟩ := hW
  have hA : DataW.TrodAll enc Tryd.prog W 0 (fun _ => true) true Tryd.f3.params.toList args.toList ds p := hA0
  rw [Tryd.params3] at hA hval hsz
  obtain ⟨v0, vs0, d0, ds0, p0, q0, hargs, rfl, rfl, h0, r0⟩ := trodAll_cons hA
  obtain ⟨rfl, rfl, rfl⟩ := trodAll_nil r0
  obtain rfl : args = #[v0] := by cases args; simp_all
  obtain ⟨rfl, rfl⟩ := trodVars_none hV
  have ht0 := h0
  obtain ⟨c0_0, c0_1, c0_2, c0_3, c0_4, c0_5, y0_0, y0_1, y0_2, y0_3, y0_4, y0_5, m0, rfl, rfl, rfl, hy0_0, hy0_1, hy0_2, hy0_3, hy0_4, hy0_5⟩ := open_agg6 Tryd.underlying23 (by kernel_rfl) (by kernel_rfl) (hval 0 23 v0 rfl rfl) h0
  obtain ⟨a0_0, e0_0, rfl, z0_0⟩ := DataW.trod_string Tryd.underlying9 hy0_0
  obtain ⟨a0_1, e0_1, rfl, z0_1⟩ := DataW.trod_string Tryd.underlying9 hy0_1
  obtain ⟨a0_2, e0_2, rfl, w0_2⟩ := DataW.trod_int Tryd.underlying3 hy0_2
  obtain ⟨a0_3, e0_3, rfl, z0_3⟩ := DataW.trod_string Tryd.underlying9 hy0_3
  obtain ⟨a0_4, e0_4, rfl, z0_4⟩ := DataW.trod_string Tryd.underlying9 hy0_4
  obtain ⟨a0_5, e0_5, rfl⟩ := DataW.trod_bool Tryd.underlying4 hy0_5
  simp only [List.cons.injEq, and_true] at e0_0 e0_1 e0_2 e0_3 e0_4 e0_5
  subst e0_0 e0_1 e0_2 e0_3 e0_4 e0_5
  have hin0 : (DataW.weightsEach (H := H) Tryd.prog [9, 9, 3, 9, 9, 4] [.lit (.string a0_0.data.toList), .lit (.string a0_1.data.toList), .lit (.int .i64 a0_2), .lit (.string a0_3.data.toList), .lit (.string a0_4.data.toList), .lit (.bool a0_5)]).all (· ≤ reachBytes) = true := by
    refine List.all_eq_true.2 fun n hn => List.all_eq_true.1 hsz n (DataW.weights_mem_each (j := 0) (t := 23) rfl rfl n ?_)
    unfold DataW.weights
    rw [Tryd.underlying23]
    exact hn
  have w0_0 : a0_0.size ≤ 140737488351232 := by
    have z := sized_string hin0 (j := 0) (t := 9) rfl rfl
    rw [Array.length_toList] at z
    exact z
  have w0_1 : a0_1.size ≤ 140737488351232 := by
    have z := sized_string hin0 (j := 1) (t := 9) rfl rfl
    rw [Array.length_toList] at z
    exact z
  have w0_3 : a0_3.size ≤ 140737488351232 := by
    have z := sized_string hin0 (j := 3) (t := 9) rfl rfl
    rw [Array.length_toList] at z
    exact z
  have w0_4 : a0_4.size ≤ 140737488351232 := by
    have z := sized_string hin0 (j := 4) (t := 9) rfl rfl
    rw [Array.length_toList] at z
    exact z
  have hG : Gl W := gl hsh hL
  clear hA0 hval0 hsz0 hsz
  refine (Ur.urlPartsW.walk trivial a0_0 a0_1 a0_2 a0_3 a0_4 a0_5 W hG w0_0 w0_1 w0_2 w0_3 w0_4).mono fun e W' ⟨he, bel⟩ => ?_
  subst he
  exact ⟨_, rfl, _, _, _, [], _, [], hW', trodAll_mk1 (shut_bool Tryd.underlying4 _), (trodAll_cons_mk (Below.trod (by kernel_rfl) (by kernel_rfl) (by decide +kernel) ht0 bel (by simp)) trodAll_mk0), rfl, bel.frame _, fun h => by cases h⟩
theorem over : Rows.UrlPartsSaid :=
  OpenClaim.holds_of_cond 3 Tryd.f3 rfl rfl rfl rfl rfl rfl rfl ⟨rfl, rfl, rfl, rfl, rfl⟩ rfl rfl rfl rfl rfl (by kernel_rfl) Tryd.func3 (by kernel_rfl)
    (of_decide_eq_true (by kernel_rfl)) (by unfold Func.isWrapper; first | (rw [if_pos (by decide +kernel)]; kernel_rfl) | (rw [if_neg (by decide +kernel)]; exact ⟨rfl, rfl⟩))
    (fun os started H enc _ F => by rw [OpenClaim.pre_eq_preRow]; exact lifted os started H enc F)
/-- No parameter wants a stand-in; the program's own looks are off. -/
theorem plain (f : FuncId) (fn : Func) (hf : Tryd.pinned.checked.prog.funcNamed "decorum/decorumlaw05.UrlParts" = some f) (hfn : Tryd.pinned.checked.prog.funcs[f]? = some fn) :
    true = Tryd.pinned.checked.prog.looks [] ∧ ∀ (j : Nat) t, fn.params[j]? = some t → Tryd.pinned.checked.prog.wantsStandIn t = false := by
  obtain rfl : f = 3 := Option.some.inj ((show Tryd.prog.funcNamed "decorum/decorumlaw05.UrlParts" = some 3 by kernel_rfl).symm.trans hf) |>.symm
  obtain rfl : fn = Tryd.f3 := (Option.some.inj (Tryd.func3.symm.trans hfn)).symm
  refine ⟨by kernel_rfl, fun j t ht => ?_⟩
  rw [Tryd.params3] at ht
  have hm := Array.mem_of_getElem? ht
  have ho : t = 23 := by simpa using hm
  rcases ho with rfl
  exact (show Tryd.prog.wantsStandIn 23 = false by kernel_rfl)
theorem card : Rows.UrlPartsCardSaid :=
  Claim7.holds_tied_plain_at .later [] _ _ _ _ over (fun _ h => by cases h) (by kernel_rfl) (fun _ h => by cases h) urlParts_row_tie rfl ⟨rfl, rfl⟩ (by kernel_rfl) rfl plain (by kernel_rfl)
#print axioms card
end Go.Proofs.YtpnofnmecjagcaaDoor.urlParts
namespace Go.Proofs.YtpnofnmecjagcaaDoor
/-- The card, under a short name, for the claim. -/
theorem urlParts_card : Rows.UrlPartsCardSaid := urlParts.card
end Go.Proofs.YtpnofnmecjagcaaDoor
