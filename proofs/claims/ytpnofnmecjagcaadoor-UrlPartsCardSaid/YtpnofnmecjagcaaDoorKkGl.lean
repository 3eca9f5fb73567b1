import Derived.Test.YtpnofnmecjagcaaDoorProg
import Derived.WalkSmall
import Derived.Lib.LaidTab
import Derived.Lib.ItoaNum
import Derived.Lib.Fields
import Derived.Shelf.Unicode.IsSpaceAny
import Derived.Shelf.Unicode.DecodeSlow
/- What the package-level variables that library functions read hold (each as the row lists it, or as the world's shape gives it): kept by every call that lays new blocks alone. -/
namespace Go.Proofs.YtpnofnmecjagcaaDoor.Ext
open Go.RowKit
structure Gl (w : World) : Prop where
  maxlen : ∃ m, w.cell? ⟨0, 0, none⟩ = some (.int .i64 m)
  pow10 : Lib.TabIs Tryd.prog w "internal/strconv.uint64pow10" .u64 Lib.pow10Tab
  utf8 : Lib.Utf8Tabs 2 3 w
  esyn : ∃ v, w.cell? ⟨4, 0, none⟩ = some v ∧ (v = .nilIface ∨ ∃ te pe, v = .iface te pe)
  eran : ∃ v, w.cell? ⟨5, 0, none⟩ = some v ∧ (v = .nilIface ∨ ∃ te pe, v = .iface te pe)
theorem tab_below {P : Program} {w w' : World} {n : String} {k : IntKind} {zs : List Int} (h : Lib.TabIs P w n k zs) (hb : Below w.heap.size w w') : Lib.TabIs P w' n k zs := by
  cases hg : P.globalNamed n with
  | none => unfold Lib.TabIs World.var? at h; simp [hg] at h
  | some g =>
    have hlt : g < w.heap.size := by
      unfold Lib.TabIs World.var? at h
      simp only [hg, Option.bind_some] at h
      cases hh : w.heap[g]? with
      | none => simp [hh] at h
      | some o => exact (Array.getElem?_eq_some_iff.1 hh).1
    exact var?_below hb hg hlt h
theorem Gl.below {w w' : World} (h : Gl w) (hb : Below w.heap.size w w') : Gl w' where
  maxlen := by obtain ⟨m, hm⟩ := h.maxlen; exact ⟨m, (hb.cell (World.block_lt_of_cell? w _ hm)).trans hm⟩
  pow10 := tab_below h.pow10 hb
  utf8 := Utf8Tabs_below h.utf8 hb
  esyn := by obtain ⟨m, hm, hv⟩ := h.esyn; exact ⟨m, (hb.cell (World.block_lt_of_cell? w _ hm)).trans hm, hv⟩
  eran := by obtain ⟨m, hm, hv⟩ := h.eran; exact ⟨m, (hb.cell (World.block_lt_of_cell? w _ hm)).trans hm, hv⟩
end Go.Proofs.YtpnofnmecjagcaaDoor.Ext
