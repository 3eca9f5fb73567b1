import Derived.Test.YtpnofnmecjagcaaDoorKkGl
import Derived.Test.YtpnofnmecjagcaaDoorKkShelf
import Derived.Test.YtpnofnmecjagcaaDoorKkWWords
/- Contracts of library functions in the printed texts' form: strings.Split, strings.Fields, strconv.Itoa, strings.Repeat. Each says of which inputs it speaks ('.f' is none elsewhere). -/
namespace Go.Proofs.YtpnofnmecjagcaaDoor.Ext
open Go.RowKit Go.Proofs.YtpnofnmecjagcaaDoorW.PrintWords
theorem row_of_lit {w : World} (xs : List ByteArray) (e : Nat) (hm : xs.length ≤ maxLen) :
    Kd.R Kd.string e (w.alloc (.cells (xs.map Value.string).toArray e)) w.heap.size (fun _ => True) (.slice (some ⟨w.heap.size, 0, none⟩) xs.length xs.length) xs := by
  have ho := World.ownsRow_lit (base := w.heap.size) (e := e) (size := 1) w (xs.map Value.string).toArray xs.length (Nat.le_refl _) hm (by simp)
  exact Kd.R_of_own (enc := Value.string) (h1 := fun _ => rfl) (by simpa [encs] using ho) (fun _ _ => trivial)
/-- strings.Split at a separator that is not empty. -/
def strings_Split.f (s sep : ByteArray) : Option (List ByteArray) := if s.size < 4294967281 ∧ 1 ≤ sep.size then some (Lib.splitB sep 0 (Lib.countB s sep) s) else none
theorem strings_Split.calls (s sep : ByteArray) (r : List ByteArray) (w : World) (hG : Gl w) (h : strings_Split.f s sep = some r) :
    Calls Tryd.prog 19 #[.string s, .string sep] w fun e w' => ∃ v0_ : Value, e = .returned (v0_) ∧ Kd.R Kd.string 9 w' w.heap.size (fun _ => True) v0_ r ∧ Below w.heap.size w w' := by
  unfold strings_Split.f at h
  split at h
  · rename_i hk
    obtain ⟨m, hm⟩ := hG.maxlen
    have hr := Option.some.inj h
    have hl := Lib.splitB_all sep hk.2 0 _ s rfl
    have hc := Lib.countB_le sep hk.2 s.size s (Nat.le_refl _)
    refine (Tryd.strings_Split s sep m w hk.1 hm hk.2).mono fun e w' ⟨he, hw⟩ => ?_
    subst he hw
    rw [← hl, hr]
    exact ⟨_, rfl, row_of_lit r _ (by rw [← hr, hl]; unfold maxLen; omega), (Below.refl _ w).alloc (Nat.le_refl _) _⟩
  · cases h
theorem grow_below (w : World) (k : Nat) (os : Array Obj) : Below w.heap.size w (Sort.grow (w.drewN k) os) :=
  ⟨rfl, rfl, rfl, by simp [Sort.grow], fun j hj => by simp [Sort.grow, Array.getElem?_append, hj]⟩
/-- strconv.Itoa. -/
def strconv_Itoa.f (n : Int) : Option ByteArray := if -9223372036854775808 ≤ n ∧ n ≤ 9223372036854775807 then some ⟨(Lib.itoa n).toArray⟩ else none
theorem strconv_Itoa.calls (n : Int) (r : ByteArray) (w : World) (hG : Gl w) (h : strconv_Itoa.f n = some r) :
    Calls Tryd.prog 17 #[.int .i64 n] w fun e w' => e = .returned (.string r) ∧ Below w.heap.size w w' := by
  unfold strconv_Itoa.f at h
  split at h
  · rename_i hk
    have hr := Option.some.inj h
    refine (Tryd.strconv_Itoa n hk.1 hk.2 w hG.pow10).mono fun e w' ⟨he, hw⟩ => ?_
    obtain ⟨k, os, rfl⟩ := hw
    subst he hr
    exact ⟨rfl, grow_below w k os⟩
  · cases h
end Go.Proofs.YtpnofnmecjagcaaDoor.Ext
