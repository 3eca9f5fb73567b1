/- PROVED: decorum/decorumlaw05.UrlKeys returns true for every input and leaves its arguments as they read, as the given tied card states it (UrlKeysCardSaid); its only conditions are the card's own. (Text written by wip/tools/cards.py.) -/
import Derived.Test.YtpnofnmecjagcaaDoorCards
import Derived.Test.YtpnofnmecjagcaaDoorTie
import Derived.Test.YtpnofnmecjagcaaDoorKkXCx0
import Derived.Test.YtpnofnmecjagcaaDoorKkXCx1
import Derived.Test.YtpnofnmecjagcaaDoorKkXCx2
import Derived.Test.YtpnofnmecjagcaaDoorKkXCx3
import Derived.Test.YtpnofnmecjagcaaDoorKkXCx6
import Derived.Test.YtpnofnmecjagcaaDoorKkUrE
import Derived.Test.YtpnofnmecjagcaaDoorKkGl
import Derived.WalkKit
import Derived.ProofKit
import Derived.OpenShut
import Derived.ShutString
import Derived.Below
import Derived.SizedLaws
import Derived.Lay
import Derived.LaidLaws
import Derived.Carry
import Derived.Lib.SmallJoins
import Derived.Deep.Fields
import Derived.Shelf.Vars
import Derived.MakeChecks
import Derived.Lib.LaidU8
import Derived.Deep.DeepHandedRow
import Derived.Deep.DeepWitnessRowRef
-- 
namespace Go.Proofs.YtpnofnmecjagcaaDoor.urlKeys
open Go.ChangeShapes Go.WideShapes Go.ChangeAt Go.RowKit Go.Proofs.YtpnofnmecjagcaaDoor.Ext
open Go.ChangeMaps (open_string shut_string)
set_option linter.unusedVariables false
theorem own : ownKnob Tryd.prog.godebug = none := by kernel_rfl
theorem tabIs_of_mem {P : Program} {W : World} {name : String} {k : IntKind} {zs : List Int} {l : List (String × DataW Unit)} {g : Nat} {t e : TypeId} {n : Nat}
    (hg : P.globalNamed name = some g) (hty : (P.globals[g]?).map (·.type) = some t) (ht : P.underlying t = some (.array n e)) (he : P.underlying e = some (.int k)) (hce : P.cellsOf e = 1) (hct : P.cellsOf t = n)
    (h : laidMet P l W) (hm : (name, Lib.tabData k zs) ∈ l) : Lib.TabIs P W name k zs := by
  obtain ⟨g', t', cs, fuel, p, hg', ht', hvar, hd⟩ := Lib.laidMet.reads h hm
  obtain rfl := Option.some.inj (hg.symm.trans hg')
  obtain rfl := Option.some.inj (hty.symm.trans ht')
  unfold Lib.TabIs
  rw [hvar, ← Lib.cells_of_tab ht he hce hct hd]
theorem var_iface {P : Program} {w : World} {name nm : String} {d : DataW Unit} {g : Nat} {t : TypeId} {ms : Array (String × TypeId)}
    (hg : P.globalNamed name = some g) (hty : (P.globals[g]?).map (·.type) = some t) (ht : P.underlying t = some (.interface ms)) (h : Lib.VarReads P w name (.iface nm d)) :
    ∃ v, w.cell? ⟨g, 0, none⟩ = some v ∧ (v = .nilIface ∨ ∃ te pe, v = .iface te pe) := by
  obtain ⟨g', t', cs, fuel, p, hg', ht', hvar, hd⟩ := h
  obtain rfl := Option.some.inj (hg.symm.trans hg')
  obtain rfl := Option.some.inj (hty.symm.trans ht')
  obtain ⟨_, u, v, hcs, _, _⟩ := iface_of_trod ht hd
  refine ⟨.iface u v, ?_, Or.inr ⟨u, v, rfl⟩⟩
  rw [World.var?_cell hg hvar 0, ← Array.getElem?_toList, hcs]
  rfl
theorem gl {W : World} (hsh : W.ShapedOpen Tryd.prog) (hL : laidMetH Tryd.prog Rows.urlKeysRow.laid W) : Gl W := by
  have hl : laidMet Tryd.prog Rows.urlKeysRow.laid W := by rw [← Go.MakeChecks.laidMetH_plain _ _ _ (by kernel_rfl)]; exact hL
  exact { maxlen := cell_of_shapedOpen_int (k := .i64) (t := 3) (zero := #[.int .i64 0]) hsh (by decide +kernel) (by kernel_rfl) rfl (by kernel_rfl) (by kernel_rfl) Tryd.underlying3
          pow10 := tabIs_of_mem (g := 1) (t := 98) (e := 86) (n := 20) (by kernel_rfl) (by kernel_rfl) (by kernel_rfl) (by kernel_rfl) (by kernel_rfl) (by kernel_rfl) hl (List.mem_of_getElem? (i := 2) (by kernel_rfl))
          utf8 := utf8Tabs_of_reads { Tryd.lays230 with } ⟨by kernel_rfl, by kernel_rfl, by kernel_rfl, by kernel_rfl, by kernel_rfl, by kernel_rfl, by kernel_rfl⟩ (Lib.laidMet.reads hl (List.mem_of_getElem? (i := 6) (by kernel_rfl))) (Lib.laidMet.reads hl (List.mem_of_getElem? (i := 3) (by kernel_rfl)))
          esyn := var_iface (name := "strconv.ErrSyntax") (nm := "*errors.errorString") (d := (.ptr (.agg [.lit (.string [105, 110, 118, 97, 108, 105, 100, 32, 115, 121, 110, 116, 97, 120])]))) (g := 4) (t := 52) (by kernel_rfl) (by kernel_rfl) Tryd.underlying52 (Lib.laidMet.reads hl (List.mem_of_getElem? (i := 5) (by kernel_rfl)))
          eran := var_iface (name := "strconv.ErrRange") (nm := "*errors.errorString") (d := (.ptr (.agg [.lit (.string [118, 97, 108, 117, 101, 32, 111, 117, 116, 32, 111, 102, 32, 114, 97, 110, 103, 101])]))) (g := 5) (t := 52) (by kernel_rfl) (by kernel_rfl) Tryd.underlying52 (Lib.laidMet.reads hl (List.mem_of_getElem? (i := 4) (by kernel_rfl))) }
noncomputable def laidWorld (os : Os) : World := World.laidAll Tryd.prog os Rows.urlKeysRow.laid
theorem laid_met (os : Os) (args : Array Value) : laidMet Tryd.prog Rows.urlKeysRow.laid ((laidWorld os).forCall (fun _ _ => 0) ⟨#[], args, []⟩).memory := laidMet_laidAll args (by kernel_rfl) (by kernel_rfl)
theorem witness_row (os : Os) {H : Type} (enc : TypeId × Value → H) :
    (OpenSpec.ofChange Rows.urlKeysSpec).preRow enc Tryd.prog Tryd.f6 Rows.urlKeysRow.domain false Rows.urlKeysRow.laid ((laidWorld os).forCall (fun _ _ => 0) ⟨#[], #[.string ByteArray.empty, .string ByteArray.empty], []⟩).memory #[.string ByteArray.empty, .string ByteArray.empty] := by
  have hw : (DataW.whole enc Tryd.prog ((laidWorld os).forCall (fun _ _ => 0) ⟨#[], #[.string ByteArray.empty, .string ByteArray.empty], []⟩).memory Tryd.f6.params.toList Rows.urlKeysSpec.vars false (#[.string ByteArray.empty, .string ByteArray.empty] : Array Value).toList 8).map (fun x => (x.1, x.2.1)) =
      some ([.lit (.string []), .lit (.string [])], []) := by kernel_rfl
  obtain ⟨⟨x1, x2, x3⟩, hx, hx1⟩ := Option.map_eq_some_iff.1 hw
  simp only [Prod.mk.injEq] at hx1
  obtain ⟨rfl, rfl⟩ := hx1
  exact OpenSpec.preRow_of_cond 8 hx (by kernel_rfl) (fun k hk => by cases hk) (by kernel_rfl) (laid_met os _)
set_option maxRecDepth 100000 in
theorem lifted (os : Os) (started : os.Started) (H : Type) (enc : TypeId × Value → H) (F : Stop.Interp) :
    ReturnsInHanded {} Tryd.checked os 6 .any ((OpenSpec.ofChange Rows.urlKeysSpec).preRow enc Tryd.prog Tryd.f6 Rows.urlKeysRow.domain false Rows.urlKeysRow.laid) (((OpenSpec.ofChange Rows.urlKeysSpec).at F).post enc Tryd.prog Tryd.f6 false true false false) := by
  refine returnsInHanded_of_row (C := Tryd.checked) (s := OpenSpec.ofChange Rows.urlKeysSpec) own started (by kernel_rfl) Tryd.func6
    (witness_row_atRef (enc := enc) (C := Tryd.checked) false (laidWorld os) #[.string ByteArray.empty, .string ByteArray.empty] (World.laidAll_os _ _ _) (by kernel_rfl) (by kernel_rfl) (by kernel_rfl) (witness_row os enc)) ?_
  intro W base args ds gs before hval0 hW hcnd hcond hsz0 hL hsh _
  have hsz : (DataW.weightsEach Tryd.prog (Tryd.f6.params.toList ++ Rows.urlKeysSpec.plain.varTypes Tryd.prog) (ds ++ gs)).all (· ≤ reachBytes) = true := hsz0
  have hval : ∀ (j : Nat) t v, Tryd.f6.params[j]? = some t → args[j]? = some v → Value.okWide Tryd.prog W .any base t v := hval0
  have hW' := hW
  obtain ⟨p, q, hA0, hV, rfl, hfz, hnd⟩ := hW
  have hA : DataW.TrodAll enc Tryd.prog W 0 (fun _ => true) true Tryd.f6.params.toList args.toList ds p := hA0
  rw [Tryd.params6] at hA hval hsz
  obtain ⟨v0, vs0, d0, ds0, p0, q0, hargs, rfl, rfl, h0, r0⟩ := trodAll_cons hA
  obtain ⟨v1, vs1, d1, ds1, p1, q1, rfl, rfl, rfl, h1, r1⟩ := trodAll_cons r0
  obtain ⟨rfl, rfl, rfl⟩ := trodAll_nil r1
  obtain rfl : args = #[v0, v1] := by cases args; simp_all
  obtain ⟨rfl, rfl⟩ := trodVars_none hV
  obtain ⟨a0, rfl, rfl, rfl, y0⟩ := open_string Tryd.underlying9 (hval 0 9 v0 rfl rfl) h0
  have w0 : a0.size ≤ 140737488351232 := by
    have z := sized_string hsz (j := 0) (t := 9) rfl rfl
    rw [Array.length_toList] at z
    exact z
  obtain ⟨a1, rfl, rfl, rfl, y1⟩ := open_string Tryd.underlying9 (hval 1 9 v1 rfl rfl) h1
  have w1 : a1.size ≤ 140737488351232 := by
    have z := sized_string hsz (j := 1) (t := 9) rfl rfl
    rw [Array.length_toList] at z
    exact z
  have hG : Gl W := gl hsh hL
  clear hA0 hval0 hsz0 hsz
  refine (XC.decorumlaw05_UrlKeys.walk Ur.urlKeys a0 a1 W hG w0 w1).mono fun e W' ⟨he, bel⟩ => ?_
  subst he
  exact ⟨_, rfl, _, _, _, [], _, [], hW', trodAll_mk1 (shut_bool Tryd.underlying4 _), (trodAll_cons_mk (shut_string Tryd.underlying9 y0) (trodAll_cons_mk (shut_string Tryd.underlying9 y1) trodAll_mk0)), rfl, bel.frame _, fun h => by cases h⟩
theorem over : Rows.UrlKeysSaid :=
  OpenClaim.holds_of_cond 6 Tryd.f6 rfl rfl rfl rfl rfl rfl rfl ⟨rfl, rfl, rfl, rfl, rfl⟩ rfl rfl rfl rfl rfl (by kernel_rfl) Tryd.func6 (by kernel_rfl)
    (of_decide_eq_true (by kernel_rfl)) (by unfold Func.isWrapper; first | (rw [if_pos (by decide +kernel)]; kernel_rfl) | (rw [if_neg (by decide +kernel)]; exact ⟨rfl, rfl⟩))
    (fun os started H enc _ F => by rw [OpenClaim.pre_eq_preRow]; exact lifted os started H enc F)
/-- No parameter wants a stand-in; the program's own looks are off. -/
theorem plain (f : FuncId) (fn : Func) (hf : Tryd.pinned.checked.prog.funcNamed "decorum/decorumlaw05.UrlKeys" = some f) (hfn : Tryd.pinned.checked.prog.funcs[f]? = some fn) :
    true = Tryd.pinned.checked.prog.looks [] ∧ ∀ (j : Nat) t, fn.params[j]? = some t → Tryd.pinned.checked.prog.wantsStandIn t = false := by
  obtain rfl : f = 6 := Option.some.inj ((show Tryd.prog.funcNamed "decorum/decorumlaw05.UrlKeys" = some 6 by kernel_rfl).symm.trans hf) |>.symm
  obtain rfl : fn = Tryd.f6 := (Option.some.inj (Tryd.func6.symm.trans hfn)).symm
  refine ⟨by kernel_rfl, fun j t ht => ?_⟩
  rw [Tryd.params6] at ht
  have hm := Array.mem_of_getElem? ht
  have ho : t = 9 ∨ t = 9 := by simpa using hm
  rcases ho with rfl | rfl
  · exact (show Tryd.prog.wantsStandIn 9 = false by kernel_rfl)
  · exact (show Tryd.prog.wantsStandIn 9 = false by kernel_rfl)
theorem card : Rows.UrlKeysCardSaid :=
  Claim7.holds_tied_plain_at .later [] _ _ _ _ over (fun _ h => by cases h) (by kernel_rfl) (fun _ h => by cases h) urlKeys_row_tie rfl ⟨rfl, rfl⟩ (by kernel_rfl) rfl plain (by kernel_rfl)
#print axioms card
end Go.Proofs.YtpnofnmecjagcaaDoor.urlKeys
namespace Go.Proofs.YtpnofnmecjagcaaDoor
/-- The card, under a short name, for the claim. -/
theorem urlKeys_card : Rows.UrlKeysCardSaid := urlKeys.card
end Go.Proofs.YtpnofnmecjagcaaDoor
