import Derived.Test.YtpnofnmecjagcaaDoorKkUrlIdx
import Derived.Test.YtpnofnmecjagcaaDoorKkUrlLab
import Derived.Lib.Join
/- Contracts for package url: library functions in the printed texts' form; url.lower; url.port. -/
namespace Go.Proofs.YtpnofnmecjagcaaDoor.Ext
open Go.RowKit Go.Proofs.YtpnofnmecjagcaaDoorW.PrintWords
/-- strings.Cut. -/
def strings_Cut.f (s sep : ByteArray) : Option (ByteArray × ByteArray × Bool) :=
  if s.size < 4294967281 then some (⟨(Lib.cut s.data.toList sep.data.toList).1.toArray⟩, ⟨(Lib.cut s.data.toList sep.data.toList).2.1.toArray⟩, (Lib.cut s.data.toList sep.data.toList).2.2) else none
theorem strings_Cut.calls (s sep : ByteArray) (r1 r2 : ByteArray) (r3 : Bool) (w : World) (hG : Gl w) (h : strings_Cut.f s sep = some (r1, r2, r3)) :
    Calls Tryd.prog 23 #[.string s, .string sep] w fun e w' => e = .returned (.tuple #[.string r1, .string r2, .bool r3]) ∧ Below w.heap.size w w' := by
  unfold strings_Cut.f at h
  split at h
  · rename_i hk
    obtain ⟨m, hm⟩ := hG.maxlen
    have hr := Option.some.inj h
    injection hr with h1 h2
    injection h2 with h2 h3
    refine (Tryd.strings_Cut s sep m w hk hm).mono fun e w' ⟨he, hw⟩ => ?_
    obtain ⟨n, rfl⟩ := hw
    subst he h1 h2 h3
    exact ⟨rfl, pw_below_drewN (Below.refl _ w) _⟩
  · cases h
/-- strings.IndexByte. -/
def strings_IndexByte.f (s : ByteArray) (c : Int) : Option Int := some (Lib.indexByte s.data.toList c.toNat.toUInt8)
theorem strings_IndexByte.calls (s : ByteArray) (c r : Int) (w : World) (h : strings_IndexByte.f s c = some r) :
    Calls Tryd.prog 41 #[.string s, .int .u8 c] w fun e w' => e = .returned (.int .i64 r) ∧ Below w.heap.size w w' := by
  obtain rfl := Option.some.inj h
  refine (Tryd.strings_IndexByte s c w).mono fun e w' ⟨he, hw⟩ => ?_
  subst he hw
  exact ⟨rfl, Below.refl _ _⟩
/-- strings.ContainsRune at an ASCII sign. -/
def strings_ContainsRune.f (s : ByteArray) (c : Int) : Option Bool := if 0 ≤ c ∧ c < 128 then some (decide (0 ≤ Lib.indexByte s.data.toList c.toNat.toUInt8)) else none
theorem strings_ContainsRune.calls (s : ByteArray) (c : Int) (r : Bool) (w : World) (h : strings_ContainsRune.f s c = some r) :
    Calls Tryd.prog 66 #[.string s, .int .i32 c] w fun e w' => e = .returned (.bool r) ∧ Below w.heap.size w w' := by
  unfold strings_ContainsRune.f at h
  split at h
  · rename_i hk
    obtain rfl := Option.some.inj h
    refine (Tryd.strings_ContainsRune_ascii s c w hk.1 hk.2).mono fun e w' ⟨he, hw⟩ => ?_
    subst he hw
    exact ⟨rfl, Below.refl _ _⟩
  · cases h
/-- strings.Join. -/
def strings_Join.f (l : List ByteArray) (sep : ByteArray) : Option ByteArray :=
  if l.length ≤ 140737488355328 ∧ (Lib.join (l.map (·.data.toList)) sep.data.toList).length ≤ 140737488355328 then some ⟨(Lib.join (l.map (·.data.toList)) sep.data.toList).toArray⟩ else none
theorem strings_Join.calls (A0 : Option Addr) (c0 : Nat) (l0 : List ByteArray) (a1 : ByteArray) (r : ByteArray) (w : World) (hr0 : Kd.C Kd.string w A0 l0.length l0) (hc0 : l0.length ≤ c0) (h : strings_Join.f l0 a1 = some r) :
    Calls Tryd.prog 20 #[.slice A0 l0.length c0, .string a1] w fun e w' => e = .returned (.string r) ∧ Below w.heap.size w w' := by
  unfold strings_Join.f at h
  split at h
  · rename_i hk
    obtain rfl := Option.some.inj h
    by_cases hz : l0.length = 0
    · obtain rfl := List.length_eq_zero_iff.1 hz
      refine (Tryd.strings_Join_none A0 c0 a1 w).mono fun e w' ⟨he, hw⟩ => ?_
      subst he hw
      exact ⟨rfl, Below.refl _ _⟩
    · obtain ⟨ad, rfl, hcell⟩ := hr0.2.2 (by omega)
      obtain ⟨bk, o, sp⟩ := ad
      have hcl : ∀ (j : Nat) x, l0[j]? = some x → w.cell? ((⟨bk, o, sp⟩ : Addr).add j) = some (.string x) := fun j x hx => by
        obtain ⟨c, _, hc, hi⟩ := hcell j x hx
        obtain rfl : c = [.string x] := hc
        have := hi 0 (.string x) rfl
        simpa [Kd.string, Kd.scalar] using this
      obtain ⟨x0, hx0⟩ : ∃ x, l0[0]? = some x := ⟨_, List.getElem?_eq_getElem (by omega)⟩
      have h0 := hcl 0 x0 hx0
      have hsp : sp = none := by
        cases sp with
        | none => rfl
        | some k => unfold World.cell? at h0; split at h0 <;> simp_all [Addr.add]
      subst hsp
      refine Tryd.strings_Join bk o c0 l0 a1 w (fun j x hx => by have hh := hcl j x hx; by_cases hj : j = 0 <;> simpa [Addr.add, hj] using hh) (World.block_lt_of_cell? _ _ h0) hk.1 hc0 hk.2
  · cases h
/-- Small letters. -/
def lowU (x : Int) : Int := if 65 ≤ x ∧ x ≤ 90 then x + 32 else x
theorem lower_clo (x : Int) (w : World) (h0 : 0 ≤ x) (h1 : x ≤ 1114111) :
    Calls Tryd.prog 36 #[.int .i32 x] w fun e w' => e = .returned (.int .i32 (lowU x)) ∧ w' = w := by
  by_cases a : 65 ≤ x
  · by_cases b : x ≤ 90
    · have e : lowU x = x + 32 := by unfold lowU; rw [if_pos ⟨a, b⟩]
      rw [e]
      clear e
      go_enter Tryd.func36, Tryd.ntmps36
      go_wp2
      go_ret
      exact ⟨rfl, rfl⟩
    · have e : lowU x = x := by unfold lowU; rw [if_neg (by omega)]
      rw [e]
      clear e
      have b' : 90 < x := by omega
      clear b
      go_enter Tryd.func36, Tryd.ntmps36
      go_wp2
      go_ret
      exact ⟨rfl, rfl⟩
  · have e : lowU x = x := by unfold lowU; rw [if_neg (by omega)]
    rw [e]
    clear e
    have a' : x < 65 := by omega
    clear a
    go_enter Tryd.func36, Tryd.ntmps36
    go_wp2
    go_ret
    exact ⟨rfl, rfl⟩
def url_lower.f (s : ByteArray) : Option ByteArray := if s.size < 35184372088832 then some ⟨(Lib.mapD lowU s.data.toList).toArray⟩ else none
theorem url_lower.calls (s r : ByteArray) (w : World) (hG : Gl w) (h : url_lower.f s = some r) :
    Calls Tryd.prog 24 #[.string s] w fun e w' => e = .returned (.string r) ∧ Below w.heap.size w w' := by
  unfold url_lower.f at h
  split at h
  · rename_i hk
    obtain rfl := Option.some.inj h
    have hT := Lib.hid hG.utf8
    go_enter Tryd.func24, Tryd.ntmps24
    go_wp2_with (go_at_call 35; refine (Tryd.strings_Map_grows 36 #[] (enters_of Tryd.func36 (by kernel_rfl) rfl) lowU s w hk (fun W x hx _ => (lower_clo x W (by omega) (by omega)).mono fun e w' ⟨he, hw⟩ => ⟨he, hw ▸ Below.refl _ _⟩) (fun x hx => by unfold lowU; split <;> omega) hT.out).mono ?_; rintro e w' ⟨rfl, hb⟩)
    go_ret
    exact ⟨rfl, hb⟩
  · cases h
/-- url.port: the number of digits that are written as they are written; else 0. -/
def url_port.f (s : ByteArray) : Option Int :=
  if s.size ≤ 281474976710656 then (match Lib.atoiAll s.data.toList with
    | .ok v => if 1 ≤ v ∧ v ≤ 65535 ∧ Lib.itoa v = s.data.toList then some v else some 0
    | _ => some 0) else none
set_option maxHeartbeats 2000000 in
theorem url_port.calls (s : ByteArray) (r : Int) (w : World) (hG : Gl w) (h : url_port.f s = some r) :
    Calls Tryd.prog 42 #[.string s] w fun e w' => e = .returned (.int .i64 r) ∧ Below w.heap.size w w' := by
  unfold url_port.f at h
  split at h
  · rename_i hk
    match ha : Lib.atoiAll s.data.toList with
    | Lib.NumEnd.ok v =>
      rw [ha] at h
      have cA : Calls Tryd.prog 61 #[.string s] w fun e w' => e = .returned (.tuple #[.int .i64 v, .nilIface]) ∧ Below w.heap.size w w' :=
        (Tryd.strconv_Atoi_ok s (by omega) v ha w).mono fun e w' ⟨he, hw⟩ => ⟨he, by
          rcases hw with rfl | ⟨t, rfl⟩
          · exact Below.refl _ _
          · exact Lib.bytesWorld_below _ _ _⟩
      clear ha
      have HK := Lib.hid hk
      clear hk
      by_cases v1 : 1 ≤ v
      · by_cases v2 : v ≤ 65535
        · have hIt : ∀ w1, Below w.heap.size w w1 → Calls Tryd.prog 17 #[.int .i64 v] w1 fun e w' => e = .returned (.string ⟨(Lib.itoa v).toArray⟩) ∧ Below w1.heap.size w1 w' := fun w1 hb =>
            strconv_Itoa.calls v _ w1 (hG.below hb) (by unfold strconv_Itoa.f; rw [if_pos (by omega)])
          by_cases v3 : Lib.itoa v = s.data.toList
          · have : r = v := by simpa [v1, v2, v3] using h.symm
            subst this
            have e3 : (Lib.itoa r == s.toList) = true := by rw [v3, Lib.toList_data]; simp
            clear h v3
            go_enter Tryd.func42, Tryd.ntmps42
            go_wp2_with (first | (go_at_call 61; refine cA.mono ?_; rintro e w1 ⟨rfl, hb1⟩) | (go_at_call 17; refine (hIt _ (by assumption)).mono ?_; rintro e w2 ⟨rfl, hb2⟩))
            go_ret
            exact ⟨rfl, hb1.trans (hb2.mono hb1.size)⟩
          · have : r = 0 := by simpa [v1, v2, v3] using h.symm
            subst this
            have e3 : (Lib.itoa v == s.toList) = false := beq_eq_false_iff_ne.2 (fun e => v3 (by rw [e, Lib.toList_data]))
            clear h v3
            go_enter Tryd.func42, Tryd.ntmps42
            go_wp2_with (first | (go_at_call 61; refine cA.mono ?_; rintro e w1 ⟨rfl, hb1⟩) | (go_at_call 17; refine (hIt _ (by assumption)).mono ?_; rintro e w2 ⟨rfl, hb2⟩))
            go_ret
            exact ⟨rfl, hb1.trans (hb2.mono hb1.size)⟩
        · have : r = 0 := by simpa [v1, v2] using h.symm
          subst this
          have v2' : 65535 < v := by omega
          clear h v2
          go_enter Tryd.func42, Tryd.ntmps42
          go_wp2_with (go_at_call 61; refine cA.mono ?_; rintro e w1 ⟨rfl, hb1⟩)
          go_ret
          exact ⟨rfl, hb1⟩
      · have : r = 0 := by simpa [v1] using h.symm
        subst this
        have v1' : v < 1 := by omega
        clear h v1
        go_enter Tryd.func42, Tryd.ntmps42
        go_wp2_with (go_at_call 61; refine cA.mono ?_; rintro e w1 ⟨rfl, hb1⟩)
        go_ret
        exact ⟨rfl, hb1⟩
    | Lib.NumEnd.syntax =>
      rw [ha] at h
      obtain rfl := Option.some.inj h
      obtain ⟨ev, hv, hev⟩ := hG.esyn
      have cA := Tryd.strconv_Atoi_syntax s hk ha ev w hv hev
      clear ha hv hev h hk
      go_enter Tryd.func42, Tryd.ntmps42
      go_wp2_with (go_at_call 61; refine cA.mono ?_; rintro e w1 ⟨N, rfl, hN, hcell, hb1⟩)
      go_ret
      exact ⟨rfl, hb1⟩
    | Lib.NumEnd.range =>
      rw [ha] at h
      obtain rfl := Option.some.inj h
      obtain ⟨ev, hv, hev⟩ := hG.eran
      have cA := Tryd.strconv_Atoi_range s hk ha ev w hv hev
      clear ha hv hev h hk
      go_enter Tryd.func42, Tryd.ntmps42
      go_wp2_with (go_at_call 61; refine cA.mono ?_; rintro e w1 ⟨N, rfl, hN, hcell, hb1⟩)
      go_ret
      exact ⟨rfl, hb1⟩
  · cases h
end Go.Proofs.YtpnofnmecjagcaaDoor.Ext
