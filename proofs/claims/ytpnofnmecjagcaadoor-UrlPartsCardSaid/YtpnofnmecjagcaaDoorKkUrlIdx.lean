import Derived.Test.YtpnofnmecjagcaaDoorKkExtLib
import Derived.WalkKit
import Derived.Laws.RangeString
import Derived.Laws.RangeAny
import Derived.Laws.Runes
import Derived.Lib.Hide
import Derived.Lib.IndexAny
import Derived.IntWalk
import Derived.WalkMore
import Derived.Deep.QuietTactic
import Derived.BigQuiet
import Derived.Outline
import Derived.Deep.LoopGhost
import Derived.Shelf.Strings.MapGrows
/- strings.IndexRune at a rune that is not ASCII, in a text that is; strings.IndexAny with ASCII signs, at every text. -/
namespace Go.Proofs.YtpnofnmecjagcaaDoor.Ext
open Go.RowKit Go.Proofs.YtpnofnmecjagcaaDoorW.PrintWords
theorem quiet_add_same {P : Program} {f : FuncId} {args : Array Value} {w : World} {a n : Nat} {v : Value}
    (h : Calls P f args (w.drewN (a + n)) fun e w' => e = .returned v ∧ w' = w.drewN (a + n)) :
    Calls P f args (w.drewN (a + n)) fun e w'' => e = .returned v ∧ ∃ m, w'' = w.drewN (a + m) :=
  h.mono fun _ _ ⟨he, hm⟩ => ⟨he, n, hm⟩
def Asc (s : ByteArray) : Prop := ∀ (j : Nat) b, s.data.toList[j]? = some b → b.toNat < 128
theorem indexByte_miss (c : UInt8) (hc : 128 ≤ c.toNat) : ∀ l : List UInt8, (∀ b ∈ l, b.toNat < 128) → Lib.indexByte l c = -1
  | [], _ => rfl
  | b :: l, h => by
    have hb : b ≠ c := fun e => by have := h b List.mem_cons_self; rw [e] at this; omega
    have ih := indexByte_miss c hc l (fun x hx => h x (List.mem_cons_of_mem _ hx))
    simp [Lib.indexByte, hb, ih]
set_option maxRecDepth 100000 in
set_option maxHeartbeats 4000000 in
theorem strings_IndexRune_high (s : ByteArray) (r : Int) (w : World) (hs : Asc s) (h1 : 128 ≤ r) (h2 : r ≤ 2147483647) :
    Calls Tryd.prog 37 #[.string s, .int .i32 r] w fun e w' => e = .returned (.int .i64 (-1)) ∧ Below w.heap.size w w' := by
  have h0 : (0 : Int) ≤ r := by omega
  by_cases he : r = 65533
  · subst he
    have HS := Lib.hid hs
    clear hs
    go_enter Tryd.func37, Tryd.ntmps37
    go_wp2
    go_loopw [5, 6] (fun _ _ wr => ∃ (p : Nat), wr = w.iter s p ∧ p ≤ s.size) (fun _ _ wr => s.size - wr.iterPos w.heap.size)
    case atStart => exact ⟨0, rfl, Nat.zero_le _⟩
    case round =>
      obtain ⟨p, rfl, hp⟩ := hrel
      by_cases hlt : p < s.size
      · have hasc : (s[p]'hlt).toNat < 128 := HS.out p _ (by rw [← Lib.data_getElem? s p hlt])
        have hnx : ∀ ty, (Instr.next (.pointer (some ⟨w.heap.size, 0, none⟩)) true ty).run Tryd.prog (w.iter s p) = _ := fun ty => run_next_ascii w s p ty hlt hasc
        have e1 : (((s[p]'hlt).toNat : Int) == 65533) = false := beq_eq_false_iff_ne.2 (by omega)
        clear hasc
        go_wp2
        go_roundw
        case rel => exact ⟨p + 1, rfl, by omega⟩
        case measure => simp; omega
      · have hnx : ∀ ty, (Instr.next (.pointer (some ⟨w.heap.size, 0, none⟩)) true ty).run Tryd.prog (w.iter s p) = _ := fun ty => run_next_end w s p ty hlt
        go_wp2
        go_ret
        exact ⟨rfl, (Below.refl _ w).alloc (Nat.le_refl _) _⟩
  · have he' : (r == 65533) = false := beq_eq_false_iff_ne.2 he
    cases hv : Lib.validRune r with
    | false =>
      clear he
      go_enter Tryd.func37, Tryd.ntmps37
      go_wp2_with (go_at_call 57; refine (Tryd.utf8_ValidRune _ _).mono ?_; rintro e w' ⟨rfl, rfl⟩)
      go_ret
      exact ⟨rfl, Below.refl _ _⟩
    | true =>
      have hv' : Utf8.valid r = true := by rw [validRune_eq]; exact hv
      have hf := encode_facts r hv' h1
      obtain ⟨rs, hrs⟩ : ∃ rs, Utf8.encode r = rs := ⟨_, rfl⟩
      have hcv : ∀ w, (convert 21 9 (.int .i32 r)).run Tryd.prog w = .ok (.string rs) w := fun w => by rw [← hrs]; exact run_convert_int_string w _ _ _ _ (by kernel_rfl) (by kernel_rfl)
      rw [hrs] at hf
      obtain ⟨f1, f2, f3⟩ := hf
      obtain ⟨n, hn⟩ : ∃ n, rs.size = n + 1 := ⟨rs.size - 1, by omega⟩
      have hw1 : IntKind.i64.wrap ((rs.size : Int) - 1) = (n : Int) := by rw [IntWalk.i64_in _ (by omega)]; omega
      have f4 : n < rs.size := by omega
      have f5 : 128 ≤ (rs[n]'f4).toNat := by have := f3 (by omega); simpa [hn] using this
      clear f3 hrs hv' he
      by_cases hl : n < s.size
      · have hasc : (s[n]'hl).toNat < 128 := hs n _ (by rw [← Lib.data_getElem? s _ hl])
        have e1 : (((s[n]'hl).toNat : Int) != ((rs[n]'f4).toNat : Int)) = true := bne_iff_ne.2 (by omega)
        have HM := Lib.hid (show Lib.indexByte (s.extract (n + 1) s.size).data.toList ((rs[n]'f4).toNat : Int).toNat.toUInt8 = -1 from by
          refine indexByte_miss _ (by simpa using f5) _ (fun b hb => ?_)
          have hm := mem_extract hb
          obtain ⟨j, hj⟩ := List.getElem?_of_mem hm
          exact hs j b hj)
        have hw2 : IntKind.i64.wrap ((n : Int) + 1) = (n : Int) + 1 := by rw [IntWalk.i64_in _ (by omega)]
        have hw3 : (0 : Int) ≤ (n : Int) + 1 := by omega
        have hw4 : ((n : Int) + 1).toNat = n + 1 := by omega
        have hw5 : (n : Int) + 1 ≤ (s.size : Int) := by omega
        have hn0 : (n : Int) ≤ 3 := by omega
        have hidx : ∀ w, Calls Tryd.prog 41 #[.string (s.extract (n + 1) s.size), .int .u8 ((rs[n]'f4).toNat : Int)] w fun e w' => e = .returned (.int .i64 (-1)) ∧ w' = w := fun w =>
          (Tryd.strings_IndexByte _ _ w).mono fun e w' ⟨h1, h2⟩ => ⟨by rw [h1, HM.out], h2⟩
        clear hs hasc f5 hn f1 f2 HM
        go_enter Tryd.func37, Tryd.ntmps37
        go_wp2_with (go_at_call 57; refine (Tryd.utf8_ValidRune _ _).mono ?_; rintro e w' ⟨rfl, rfl⟩)
        go_step3
        go_wp2
        refine wp_loop_rounds 1 ?_
        rw [rounds_succ]
        go_wp2
        go_step3
        go_wp2
        go_quiet (fail)
        go_wp2
        go_quiet ((go_at_call 41; exact quiet_add_same (hidx _)))
        go_wp2
        rw [Exit.noGoto_ret]
        go_wp2
        rw [Exit.noGoto_ret]
        go_wp2
        go_ret
        exact ⟨rfl, pw_below_drewN (Below.refl _ _) _⟩
      · clear hs f5 hn f1 f2
        go_enter Tryd.func37, Tryd.ntmps37
        go_wp2_with (go_at_call 57; refine (Tryd.utf8_ValidRune _ _).mono ?_; rintro e w' ⟨rfl, rfl⟩)
        go_step3
        go_wp2
        refine wp_loop_rounds 1 ?_
        rw [rounds_succ]
        go_wp2
        rw [Exit.noGoto_ret]
        go_ret
        exact ⟨rfl, Below.refl _ _⟩
theorem emp_of {chars : ByteArray} (h2 : 2 ≤ chars.size) : chars.toList.isEmpty = false := by
  rw [Lib.toList_data]
  cases h : chars.data.toList with
  | nil => have := Lib.size_eq chars; rw [h, List.length_nil] at this; omega
  | cons _ _ => rfl
theorem asc_bad {chars : ByteArray} (hc : Asc chars) {x : UInt8} (hx : 128 ≤ x.toNat) : chars.data.toList.contains x = false := by
  cases hh : chars.data.toList.contains x with
  | false => rfl
  | true =>
    obtain ⟨j, hj⟩ := List.getElem?_of_mem (List.contains_iff_mem.1 hh)
    have := hc j x hj; omega
theorem encode_high (r : Int) (h : 128 ≤ r) : ∀ b ∈ Lib.encodeRune r, 128 ≤ b.toNat := by
  intro b hb
  unfold Lib.encodeRune at hb
  obtain ⟨x, hx, rfl⟩ := List.mem_map.1 hb
  have hx2 : 128 ≤ x ∧ x ≤ 255 := by
    unfold Lib.encodeRuneZ at hx
    split at hx
    · omega
    · split at hx
      · simp only [List.mem_cons, List.not_mem_nil, or_false] at hx; rcases hx with rfl | rfl <;> omega
      · split at hx
        · simp only [List.mem_cons, List.not_mem_nil, or_false] at hx; rcases hx with rfl | rfl | rfl <;> omega
        · split at hx
          · simp only [List.mem_cons, List.not_mem_nil, or_false] at hx; rcases hx with rfl | rfl | rfl | rfl <;> omega
          · simp only [List.mem_cons, List.not_mem_nil, or_false] at hx; rcases hx with rfl | rfl | rfl <;> omega
  rw [Nat.toUInt8, UInt8.toNat_ofNat']
  have : x.toNat < 256 := by omega
  rw [Nat.mod_eq_of_lt this]; omega
/-- A sign that is not ASCII: all its bytes are 128 or more. -/
theorem rune_high (s : ByteArray) (i : Nat) (hi : i < s.size) (ha : 128 ≤ (s[i]'hi).toNat) : 128 ≤ (Utf8.decode s i).1 ∧ 1 ≤ (Utf8.decode s i).2 ∧ i + (Utf8.decode s i).2 ≤ s.size ∧
    ∀ j, i ≤ j → j < i + (Utf8.decode s i).2 → ∀ b, s.data.toList[j]? = some b → 128 ≤ b.toNat := by
  have hne : s.data.toList.drop i ≠ [] := by
    intro h0
    have := congrArg List.length h0
    rw [List.length_drop, ← Lib.size_eq] at this
    simp at this; omega
  have hle : i + (Utf8.decode s i).2 ≤ s.size := by
    have := Lib.decodeL_le _ hne
    rw [Lib.decodeL_drop, List.length_drop, ← Lib.size_eq] at this
    omega
  have hd := decode_high s i hi ha
  refine ⟨hd.1, hd.2, hle, fun j h1 h2 b hb => ?_⟩
  by_cases hv : (Utf8.decode s i).1 = 65533 ∧ (Utf8.decode s i).2 = 1
  · obtain rfl : j = i := by omega
    rw [Lib.data_getElem? s j hi] at hb
    rw [← Option.some.inj hb]; exact ha
  · have he := Lib.encode_decode _ hne (by rw [Lib.decodeL_drop]; exact hv)
    rw [Lib.decodeL_drop] at he
    refine encode_high ((Utf8.decode s i).1 : Int) (by have := hd.1; omega) b ?_
    rw [he]
    refine List.mem_of_getElem? (i := j - i) ?_
    rw [List.getElem?_take_of_lt (by omega), List.getElem?_drop, show i + (j - i) = j by omega]
    exact hb
theorem NoAny.skip {s chars : ByteArray} (hc : Asc chars) : ∀ (k i : Nat), (∀ j, i ≤ j → j < i + k → ∀ b, s.data.toList[j]? = some b → 128 ≤ b.toNat) → i + k ≤ s.size → Lib.NoAny s.data.toList chars.data.toList i → Lib.NoAny s.data.toList chars.data.toList (i + k)
  | 0, i, _, _, h => h
  | k + 1, i, hb, hle, h => by
    have hi : i < s.size := by omega
    have h1 := h.succ (Lib.data_getElem? s i hi) (asc_bad hc (hb i (Nat.le_refl _) (by omega) _ (Lib.data_getElem? s i hi)))
    have := NoAny.skip hc k (i + 1) (fun j h1 h2 => hb j (by omega) (by omega)) (by omega) h1
    rwa [show i + 1 + k = i + (k + 1) by omega] at this
set_option maxRecDepth 100000 in
set_option maxHeartbeats 4000000 in
theorem strings_IndexAny_short' (s chars : ByteArray) (w : World) (h2 : 2 ≤ chars.size) (hcz : chars.size ≤ 1000) (h8 : s.size ≤ 8) (hc : Asc chars) :
    Calls Tryd.prog 25 #[.string s, .string chars] w fun e w' => e = .returned (.int .i64 (Lib.indexAny s.data.toList chars.data.toList)) ∧ Below w.heap.size w w' := by
  have HC := Lib.hid hc
  clear hc
  have hemp := emp_of h2
  have hn1 : ((chars.size : Int) == 1) = false := beq_eq_false_iff_ne.2 (by omega)
  have h8z : decide ((8 : Int) < (s.size : Int)) = false := decide_eq_false (by omega)
  go_enter Tryd.func25, Tryd.ntmps25
  go_wp2_with (go_at_call 38; refine (Tryd.strings_shouldUseASCIISet _ _).mono ?_; rintro e w' ⟨rfl, hw⟩; rw [hw, h8z])
  go_loopg [9, 10] s.size (fun g _ _ wx => ∃ i : Nat, i ≤ s.size ∧ s.size ≤ i + g ∧ wx.heap[w.heap.size]? = some (.stringIter s i) ∧ Below w.heap.size w wx ∧ Lib.NoAny s.data.toList chars.data.toList i)
  case atStart => exact ⟨0, by omega, by omega, World.iter_heap w s 0, (Below.refl _ w).alloc (Nat.le_refl _) _, Lib.NoAny.zero _ _⟩
  case round =>
    obtain ⟨i, hi0, hig, hit, hbw, hno⟩ := hrel
    have HN := Lib.hid hno
    clear hno
    by_cases hi : i < s.size
    · obtain ⟨g, rfl⟩ : ∃ g, gk = g + 1 := ⟨gk - 1, by omega⟩
      have hnx : ∀ ty, (Instr.next (.pointer (some ⟨w.heap.size, 0, none⟩)) true ty).run Tryd.prog wr = _ := fun ty => Lib.run_next_any_at wr w.heap.size s i ty hit hi
      have hit2 := Lib.iterAt_heap wr w.heap.size s i (i + (Utf8.decode s i).2) hit
      have hbw2 := Lib.below_iterAt hbw (k := w.heap.size) (Nat.le_refl _) s (i + (Utf8.decode s i).2)
      by_cases ha : (s[i]'hi).toNat < 128
      · rw [decode_ascii s i hi ha] at hnx hit2 hbw2
        obtain ⟨W, hW⟩ : ∃ W, wr.iterAt w.heap.size s (i + 1) = W := ⟨_, rfl⟩
        dsimp only at hnx hit2 hbw2
        rw [hW] at hnx hit2 hbw2
        clear hit hbw hW
        obtain ⟨x, hx⟩ : ∃ x : UInt8, s[i]'hi = x := ⟨_, rfl⟩
        rw [hx] at hnx ha
        have HX := Lib.hid (show s.data.toList[i]? = some x by rw [← hx]; exact Lib.data_getElem? s i hi)
        clear hx
        have hcon := Lib.contains_iff_indexByte chars.data.toList x
        have hback : ((x.toNat : Int)).toNat.toUInt8 = x := by simp
        have HB := Lib.hid hback
        clear hback
        cases hin : chars.data.toList.contains x
        · rw [hin] at hcon
          have hlt : ¬ ((0 : Int) ≤ Lib.indexByte chars.data.toList x) := of_decide_eq_false hcon.symm
          clear hcon
          go_wp2_with (go_at_call 37; refine (Tryd.strings_IndexRune_ascii _ _ _ (by omega) (by omega)).mono ?_; rintro e w' ⟨rfl, hw⟩; rw [hw, HB.out])
          go_roundg g
          case measure => omega
          case rel => exact ⟨i + 1, by omega, by omega, hit2, hbw2, HN.out.succ HX.out hin⟩
        · rw [hin] at hcon
          have hge : (0 : Int) ≤ Lib.indexByte chars.data.toList x := of_decide_eq_true hcon.symm
          clear hcon
          go_wp2_with (go_at_call 37; refine (Tryd.strings_IndexRune_ascii _ _ _ (by omega) (by omega)).mono ?_; rintro e w' ⟨rfl, hw⟩; rw [hw, HB.out])
          go_ret
          exact ⟨by rw [Lib.indexAny_hit HN.out HX.out hin]; rfl, hbw2⟩
      · have hrh := rune_high s i hi (by omega)
        have hrl := Lib.rune_le s i
        obtain ⟨K, hK⟩ : ∃ K, (Utf8.decode s i).2 = K := ⟨_, rfl⟩
        obtain ⟨R, hR⟩ : ∃ R, (Utf8.decode s i).1 = R := ⟨_, rfl⟩
        rw [hR, hK] at hnx hrh
        rw [hK] at hit2 hbw2
        rw [hR] at hrl
        obtain ⟨W, hW⟩ : ∃ W, wr.iterAt w.heap.size s (i + K) = W := ⟨_, rfl⟩
        rw [hW] at hnx hit2 hbw2
        obtain ⟨r1, r2, r3, r4⟩ := hrh
        have HR := Lib.hid r4
        have cS := strings_IndexRune_high chars (R : Int) W HC.out (by omega) (by omega)
        have hszW : w.heap.size < W.heap.size := (Array.getElem?_eq_some_iff.1 hit2).1
        clear hit hbw hW r4 ha hK hR
        go_wp2_with (go_at_call 37; refine cS.mono ?_; rintro e w' ⟨rfl, hb⟩)
        go_roundg g
        case measure => omega
        case rel => exact ⟨i + K, by omega, by omega, (hb.block _ hszW).trans hit2, hbw2.trans (hb.mono hbw2.size), NoAny.skip HC.out K i HR.out r3 HN.out⟩
    · have hnx : ∀ ty, (Instr.next (.pointer (some ⟨w.heap.size, 0, none⟩)) true ty).run Tryd.prog wr = _ := fun ty => Lib.run_next_end_at wr w.heap.size s i ty hit hi
      obtain rfl : i = s.size := by omega
      go_wp2
      go_ret
      exact ⟨by rw [Lib.indexAny_none (by rw [← Lib.size_eq]; exact HN.out)]; rfl, hbw⟩
/-- strings.IndexAny with two or more ASCII signs. -/
def strings_IndexAny.f (s chars : ByteArray) : Option Int :=
  if s.size < 4294967281 ∧ 2 ≤ chars.size ∧ chars.size ≤ 1000 ∧ chars.data.toList.all (fun b => decide (b.toNat < 128)) = true then some (Lib.indexAny s.data.toList chars.data.toList) else none
theorem strings_IndexAny.calls (s chars : ByteArray) (r : Int) (w : World) (h : strings_IndexAny.f s chars = some r) :
    Calls Tryd.prog 25 #[.string s, .string chars] w fun e w' => e = .returned (.int .i64 r) ∧ Below w.heap.size w w' := by
  unfold strings_IndexAny.f at h
  split at h
  · rename_i hk
    obtain ⟨k1, k2, k3, k4⟩ := hk
    obtain rfl := Option.some.inj h
    have hc : Asc chars := fun j b hb => by have := List.all_eq_true.1 k4 b (List.mem_of_getElem? hb); simpa using this
    by_cases h8 : 8 < s.size
    · refine (Tryd.strings_IndexAny_long (fun w => by kernel_rfl) s chars w k2 h8 k1 (by omega) hc).mono fun e w' ⟨he, hw⟩ => ?_
      subst he hw
      exact ⟨rfl, ((Below.refl _ w).alloc (Nat.le_refl _) _).alloc (by simp) _⟩
    · exact strings_IndexAny_short' s chars w k2 k3 (by omega) hc
  · cases h
end Go.Proofs.YtpnofnmecjagcaaDoor.Ext
