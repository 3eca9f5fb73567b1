import Derived.Test.YtpnofnmecjagcaaDoorKkXAx0
import Derived.Test.YtpnofnmecjagcaaDoorKkXAx1
import Derived.Test.YtpnofnmecjagcaaDoorKkUrlExt
import Derived.Lib.OthersKept
/- Contracts of pct.all, pct.width, pct.Norm: the bytes of a text, each as it stands or with a percent ahead. -/
namespace Go.Proofs.YtpnofnmecjagcaaDoor.Ext
open Go.RowKit Go.Proofs.YtpnofnmecjagcaaDoorW.PrintWords Go.Proofs.YtpnofnmecjagcaaDoorW.PrintMore Go.Proofs.YtpnofnmecjagcaaDoor.XA
set_option linter.unusedVariables false
/-! ### the plain words -/
def sgn (n : Nat) : UInt8 := (if n < 10 then 48 + n else 55 + n).toUInt8
/-- A byte with a percent ahead. -/
def cod (c : UInt8) : List UInt8 := [37, sgn (c.toNat / 16), sgn (c.toNat % 16)]
/-- A sign's value; below 0: it is none. -/
def val (c : UInt8) : Int := if 48 ≤ c.toNat ∧ c.toNat ≤ 57 then c.toNat - 48 else if 97 ≤ c.toNat ∧ c.toNat ≤ 102 then c.toNat - 87 else if 65 ≤ c.toNat ∧ c.toNat ≤ 70 then c.toNat - 55 else -1
def freeB (c : UInt8) : Bool := (decide (97 ≤ c.toNat) && decide (c.toNat ≤ 122)) || (decide (65 ≤ c.toNat) && decide (c.toNat ≤ 90)) || (decide (48 ≤ c.toNat) && decide (c.toNat ≤ 57)) || [45, 46, 95, 126].contains c
def otherB (c : UInt8) : Bool := [33, 36, 38, 39, 40, 41, 42, 43, 44, 59, 61, 58, 64, 47, 63, 91, 93].contains c
def two (a b : UInt8) : UInt8 := (16 * (val a).toNat + (val b).toNat).toUInt8
def outF (c : UInt8) : List UInt8 := if freeB c then [c] else cod c
def outP (c : UInt8) : List UInt8 := if freeB c || otherB c then [c] else cod c
def normL : List UInt8 → Option (List UInt8)
  | [] => some []
  | c :: r => if c = 37 then (match r with
      | a :: b :: r' => if 0 ≤ val a ∧ 0 ≤ val b then (normL r').map (outF (two a b) ++ ·) else none
      | _ => none) else (normL r).map (outP c ++ ·)
def codAll (l : List UInt8) : List UInt8 := l.flatMap cod
/-! ### the printed functions at bytes -/
theorem coded_at (c : UInt8) : pct_coded.f c.toNat = some ⟨(cod c).toArray⟩ := by
  have h : ∀ n : Fin 256, pct_coded.f (n.val : Int) = some ⟨(cod n.val.toUInt8).toArray⟩ := by decide +kernel
  have := h ⟨c.toNat, c.toNat_lt⟩
  simpa using this
theorem value_at (c : UInt8) : pct_value.f 3 c.toNat = some (val c) := by
  have h : ∀ n : Fin 256, pct_value.f 3 (n.val : Int) = some (val n.val.toUInt8) := by decide +kernel
  have := h ⟨c.toNat, c.toNat_lt⟩
  simpa using this
theorem plain_low (c : UInt8) : pct_plain.f c.toNat = some (freeB c) := by
  have h : ∀ n : Fin 256, pct_plain.f (n.val : Int) = some (freeB n.val.toUInt8) := by decide +kernel
  have := h ⟨c.toNat, c.toNat_lt⟩
  simpa using this
theorem plain_high (x : Int) (h : 128 ≤ x) : pct_plain.f x = some false := by
  unfold pct_plain.f
  rw [if_pos (by omega), if_neg (by omega), if_pos (by omega), if_neg (by omega), if_pos (by omega), if_neg (by omega), if_neg (by omega)]
/-! ### the Builder's writers -/
theorem wStr (B b : Nat) (l : List UInt8) (s : ByteArray) (w : World) (h : Lib.IsBuilderF 49 5 B b (Lib.byteCells l) w) (hlen : l.length + s.size ≤ 140737488355328) (hBw : B ≤ w.heap.size) :
    Calls Tryd.prog 31 #[.pointer (some ⟨b, 0, none⟩), .string s] w fun e w' => e = .returned (.tuple #[.int .i64 s.size, .nilIface]) ∧ Lib.IsBuilderF 49 5 B b (Lib.byteCells (l ++ s.data.toList)) w' ∧ Below B w w' ∧ Lib.OthersKept 5 (some b) w w' :=
  (Any.Builder_WriteString_k { Tryd.lays230 with } Tryd.Builder_Extra_230 B b (Lib.byteCells l) s w h (by rw [Lib.byteCells_length]; exact hlen) hBw).mono fun e w' ⟨he, h1, h2, h3⟩ => ⟨he, by rw [Lib.byteCells_append]; exact Or.inr h1, h2, h3⟩
theorem wByte (B b : Nat) (l : List UInt8) (c : UInt8) (w : World) (h : Lib.IsBuilderF 49 5 B b (Lib.byteCells l) w) (hlen : l.length + 1 ≤ 140737488355328) (hBw : B ≤ w.heap.size) :
    Calls Tryd.prog 56 #[.pointer (some ⟨b, 0, none⟩), .int .u8 c.toNat] w fun e w' => e = .returned .nilIface ∧ Lib.IsBuilderF 49 5 B b (Lib.byteCells (l ++ [c])) w' ∧ Below B w w' ∧ Lib.OthersKept 5 (some b) w w' :=
  (Any.Builder_WriteByte_k { Tryd.lays230 with } Tryd.Builder_Extra_230 B b (Lib.byteCells l) c.toNat w h (by rw [Lib.byteCells_length]; exact hlen) hBw).mono fun e w' ⟨he, h1, h2, h3⟩ => ⟨he, by rw [Lib.byteCells_append]; exact Or.inr h1, h2, h3⟩
theorem wRune (B b : Nat) (l : List UInt8) (c : UInt8) (w : World) (hc : c.toNat < 128) (h : Lib.IsBuilderF 49 5 B b (Lib.byteCells l) w) (hlen : l.length + 4 ≤ 140737488355328) (hBw : B ≤ w.heap.size) :
    Calls Tryd.prog 54 #[.pointer (some ⟨b, 0, none⟩), .int .i32 c.toNat] w fun e w' => e = .returned (.tuple #[.int .i64 1, .nilIface]) ∧ Lib.IsBuilderF 49 5 B b (Lib.byteCells (l ++ [c])) w' ∧ Below B w w' ∧ Lib.OthersKept 5 (some b) w w' := by
  have e : Lib.runeCells (c.toNat : Int) = Lib.byteCells [c] := by
    unfold Lib.runeCells Lib.encodeRuneZ
    rw [if_pos (by omega)]
    rfl
  have hh := Any.Builder_WriteRune_k (P := Tryd.prog) { Tryd.lays230 with } Tryd.Builder_Extra_230 B b (Lib.byteCells l) (c.toNat : Int) (by omega) (by omega) w h (by rw [Lib.byteCells_length]; exact hlen) hBw
  rw [e] at hh
  exact hh.mono fun e w' ⟨he, h1, h2, h3⟩ => ⟨he, by rw [Lib.byteCells_append]; exact Or.inr h1, h2, h3⟩
/-! ### pct.all -/
theorem codAll_take (s : ByteArray) (k : Nat) (h : k < s.size) : codAll (s.data.toList.take (k + 1)) = codAll (s.data.toList.take k) ++ cod s[k] := by
  unfold codAll
  rw [List.take_succ_eq_append_getElem (by simpa using h), List.flatMap_append]
  simp
  rfl
theorem codAll_length (l : List UInt8) : (codAll l).length = 3 * l.length := by
  unfold codAll
  induction l with
  | nil => rfl
  | cons c l ih => rw [List.flatMap_cons, List.length_append, ih]; simp [cod]; omega
def pct_all.f (s : ByteArray) : Option ByteArray := if s.size ≤ 1099511627776 then some ⟨(codAll s.data.toList).toArray⟩ else none
set_option maxHeartbeats 2000000 in
theorem pct_all.calls (s r : ByteArray) (w : World) (h : pct_all.f s = some r) :
    Calls Tryd.prog 67 #[.string s] w fun e w' => e = .returned (.string r) ∧ Below w.heap.size w w' := by
  unfold pct_all.f at h
  split at h
  case isFalse => cases h
  rename_i hs
  obtain rfl := Option.some.inj h
  clear h
  go_enter Tryd.func67, Tryd.ntmps67
  go_wp2
  go_loopg [4, 7] s.size (fun g _ s7 wx => ∃ i : Nat, i ≤ s.size ∧ s.size ≤ i + g ∧ s7 = .int .i64 i ∧ Below w.heap.size w wx ∧ w.heap.size ≤ wx.heap.size ∧ Lib.IsBuilderF 49 5 w.heap.size w.heap.size (Lib.byteCells (codAll (s.data.toList.take i))) wx)
  case atStart => exact ⟨0, by omega, by omega, rfl, (Below.refl _ w).alloc (Nat.le_refl _) _, by simp, Lib.IsBuilderF.of (Lib.fresh_isBuilder _ _ w)⟩
  case round =>
    obtain ⟨i, hi0, hig, rfl, hbw, hsz, hI⟩ := hrel
    by_cases hi : i < s.size
    · obtain ⟨g, rfl⟩ : ∃ g, gk = g + 1 := ⟨gk - 1, by omega⟩
      have HC := Lib.hid (codAll_take s i hi)
      have hlen : (codAll (s.data.toList.take i)).length ≤ 3 * i := by rw [codAll_length]; have := List.length_take_le i s.data.toList; omega
      go_wp2_with (first
        | (go_at_call 65; refine (pct_coded.calls _ _ wr (coded_at (s[i]'hi))).mono ?_; rintro e w1 ⟨rfl, hb1⟩; have hI1 := hI.below hb1; have hs1 := hb1.size)
        | (go_at_call 31; refine (wStr w.heap.size w.heap.size _ ⟨(cod (s[i]'hi)).toArray⟩ _ hI1 (by show _ + (cod (s[i]'hi)).length ≤ _; simp [cod]; omega) (by omega)).mono ?_; rintro e w2 ⟨rfl, hI2, hb2, hk2⟩))
      go_roundg g
      case measure => omega
      case rel => exact ⟨i + 1, by omega, by omega, by go_num, (hbw.trans (hb1.mono hbw.size)).trans hb2, by have := hb2.size; omega, by rw [HC.out]; exact hI2⟩
    · obtain rfl : i = s.size := by omega
      rw [List.take_of_length_le (by simp)] at hI
      go_wp2_with (go_at_call 32; refine (Tryd.Builder_String_any_k w.heap.size w.heap.size _ _ hI hsz).mono ?_; rintro e w1 ⟨rfl, _, hb1, _⟩)
      go_ret
      exact ⟨rfl, hbw.trans hb1⟩
/-! ### pct.width -/
def pct_width.f (s : ByteArray) : Option Int := if 1 ≤ s.size then some (Utf8.decode s 0).2 else none
theorem width_le (s : ByteArray) (h : 1 ≤ s.size) : 1 ≤ (Utf8.decode s 0).2 ∧ (Utf8.decode s 0).2 ≤ s.size := by
  by_cases ha : (s[0]'(by omega)).toNat < 128
  · rw [decode_ascii s 0 (by omega) ha]; exact ⟨Nat.le_refl _, h⟩
  · have := rune_high s 0 (by omega) (by omega)
    omega
set_option maxHeartbeats 2000000 in
theorem pct_width.calls (s : ByteArray) (r : Int) (w : World) (h : pct_width.f s = some r) :
    Calls Tryd.prog 68 #[.string s] w fun e w' => e = .returned (.int .i64 r) ∧ Below w.heap.size w w' := by
  unfold pct_width.f at h
  split at h
  case isFalse => cases h
  rename_i hs
  obtain ⟨hw1, hw2⟩ := width_le s hs
  have HR := Lib.hid (Option.some.inj h)
  clear h
  go_enter Tryd.func68, Tryd.ntmps68
  go_wp2
  go_loopg [3] 2 (fun g _ wx => ∃ i : Nat, wx.heap[w.heap.size]? = some (.stringIter s i) ∧ Below w.heap.size w wx ∧ ((i = 0 ∧ 2 ≤ g) ∨ (i = (Utf8.decode s 0).2 ∧ 1 ≤ g)))
  case atStart => exact ⟨0, World.iter_heap w s 0, (Below.refl _ w).alloc (Nat.le_refl _) _, Or.inl ⟨rfl, by omega⟩⟩
  case round =>
    obtain ⟨i, hit, hbw, hi⟩ := hrel
    rcases hi with ⟨rfl, hg⟩ | ⟨hi, hg⟩
    · obtain ⟨g, rfl⟩ : ∃ g, gk = g + 1 := ⟨gk - 1, by omega⟩
      have hnx : ∀ ty, (Instr.next (.pointer (some ⟨w.heap.size, 0, none⟩)) true ty).run Tryd.prog wr = _ := fun ty => Lib.run_next_any_at wr w.heap.size s 0 ty hit (by omega)
      have hit2 := Lib.iterAt_heap wr w.heap.size s 0 (0 + (Utf8.decode s 0).2) hit
      have hbw2 := Lib.below_iterAt hbw (k := w.heap.size) (Nat.le_refl _) s (0 + (Utf8.decode s 0).2)
      rw [Nat.zero_add] at hnx hit2 hbw2
      clear hw1 hw2
      go_wp2
      go_roundg g
      case measure => omega
      case rel => exact ⟨_, hit2, hbw2, Or.inr ⟨rfl, by omega⟩⟩
    · obtain ⟨g, rfl⟩ : ∃ g, gk = g + 1 := ⟨gk - 1, by omega⟩
      rw [← hi] at hw1 hw2
      have HR2 := Lib.hid (show (i : Int) = r by rw [hi]; exact HR.out)
      clear hi
      by_cases hlt : i < s.size
      · have hnx : ∀ ty, (Instr.next (.pointer (some ⟨w.heap.size, 0, none⟩)) true ty).run Tryd.prog wr = _ := fun ty => Lib.run_next_any_at wr w.heap.size s i ty hit hlt
        have hbw2 := Lib.below_iterAt hbw (k := w.heap.size) (Nat.le_refl _) s (i + (Utf8.decode s i).2)
        generalize Utf8.decode s i = dd at hnx hbw2
        have hw1' : (0 : Int) < (i : Int) := by omega
        go_wp2
        go_ret
        exact ⟨by rw [← HR2.out]; rfl, hbw2⟩
      · have hnx : ∀ ty, (Instr.next (.pointer (some ⟨w.heap.size, 0, none⟩)) true ty).run Tryd.prog wr = _ := fun ty => Lib.run_next_end_at wr w.heap.size s i ty hit hlt
        have e : i = s.size := by omega
        go_wp2
        go_ret
        exact ⟨by rw [← HR2.out, e]; rfl, hbw⟩
/-! ### pct.triple, at a percent -/
theorem triple_at (s : ByteArray) : ∃ (v : Int) (ok : Bool), pct_triple.f 3 s = some (v, ok) ∧
    (ok = true ↔ 3 ≤ s.size ∧ 0 ≤ val (s.data.toList.getD 1 0) ∧ 0 ≤ val (s.data.toList.getD 2 0)) ∧ (ok = true → v = (two (s.data.toList.getD 1 0) (s.data.toList.getD 2 0)).toNat) := by
  have hb : ∀ k, k < s.size → bt s (k : Int) = (s.data.toList.getD k 0).toNat := fun k hk => by
    rw [getD_at s k hk]; exact (bt_at s (k : Int) (by simpa using hk)).symm
  unfold pct_triple.f
  by_cases h3 : (s.size : Int) < 3
  · rw [if_pos h3]
    exact ⟨_, _, rfl, ⟨fun h => by simp at h, fun h => by omega⟩, fun h => by simp at h⟩
  · rw [if_neg h3, if_pos (by omega), show (1 : Int) = ((1 : Nat) : Int) from rfl, hb 1 (by omega), value_at]
    simp only [Option.bind_some]
    rw [if_pos (by omega), show (2 : Int) = ((2 : Nat) : Int) from rfl, hb 2 (by omega), value_at]
    simp only [Option.bind_some]
    generalize s.data.toList.getD 1 0 = a
    generalize s.data.toList.getD 2 0 = b
    have hv : ∀ c : UInt8, -1 ≤ val c ∧ val c ≤ 15 := fun c => by unfold val; split <;> (try split) <;> (try split) <;> omega
    by_cases ha : val a ≥ 0
    · rw [if_pos ha]
      refine ⟨_, _, rfl, ⟨fun h => ⟨by omega, ha, by simpa using h⟩, fun h => by simpa using h.2.2⟩, fun h => ?_⟩
      have hb0 : 0 ≤ val b := by simpa using h
      obtain ⟨x, hx⟩ : ∃ x : Fin 16, val a = (x.val : Int) := ⟨⟨(val a).toNat, by have := hv a; omega⟩, by simp; omega⟩
      obtain ⟨y, hy⟩ : ∃ y : Fin 16, val b = (y.val : Int) := ⟨⟨(val b).toNat, by have := hv b; omega⟩, by simp; omega⟩
      unfold two
      rw [hx, hy]
      have : ∀ x y : Fin 16, (Go.bits .or .i64 (wrap64 ((x.val : Int) * 16)) (Go.bits .and .i64 (y.val : Int) 15)) % 256 = ((16 * (x.val : Int).toNat + (y.val : Int).toNat).toUInt8.toNat : Int) := by decide +kernel
      exact this x y
    · rw [if_neg ha]
      exact ⟨_, _, rfl, ⟨fun h => by simp at h, fun h => absurd h.2.1 ha⟩, fun h => by simp at h⟩
/-! ### pct.Norm -/
def pct_Norm.f (s : ByteArray) : Option (ByteArray × Bool) :=
  if s.size ≤ 1099511627776 then some (match normL s.data.toList with | some l => (⟨l.toArray⟩, true) | none => (⟨#[]⟩, false)) else none
/-- What Norm hands back. -/
def normR (o : Option (List UInt8)) : ByteArray × Bool := match o with | some l => (⟨l.toArray⟩, true) | none => (⟨#[]⟩, false)
def normT (r : List UInt8) : Option (List UInt8) := match r with
  | a :: b :: r' => if 0 ≤ val a ∧ 0 ≤ val b then (normL r').map (outF (two a b) ++ ·) else none
  | _ => none
theorem normL_cons (c : UInt8) (r : List UInt8) : normL (c :: r) = if c = 37 then normT r else (normL r).map (outP c ++ ·) := by
  conv => lhs; rw [normL.eq_def]
  rfl
theorem normL_high (l r : List UInt8) (h : ∀ b ∈ l, 128 ≤ b.toNat) : normL (l ++ r) = (normL r).map (codAll l ++ ·) := by
  induction l with
  | nil => simp [codAll]
  | cons c l ih =>
    have hc := h c List.mem_cons_self
    have h1 : c ≠ 37 := fun e => by rw [e] at hc; exact absurd hc (by decide)
    have h2 : (freeB c || otherB c) = false := by
      have : ∀ n : Fin 256, 128 ≤ n.val → (freeB n.val.toUInt8 || otherB n.val.toUInt8) = false := by decide +kernel
      have := this ⟨c.toNat, c.toNat_lt⟩ hc
      simpa using this
    rw [List.cons_append, normL_cons, if_neg h1, ih (fun b hb => h b (List.mem_cons_of_mem _ hb)), Option.map_map]
    unfold outP
    rw [h2]
    congr 1
theorem normL_low (c : UInt8) (r : List UInt8) (h : c ≠ 37) : normL (c :: r) = (normL r).map (outP c ++ ·) := by
  rw [normL_cons, if_neg h]
theorem normL_bad (c : UInt8) (r : List UInt8) (h : ¬ (3 ≤ (c :: r).length ∧ 0 ≤ val ((c :: r).getD 1 0) ∧ 0 ≤ val ((c :: r).getD 2 0))) (hc : c = 37) : normL (c :: r) = none := by
  subst hc
  match r, h with
  | [], _ => rfl
  | [a], _ => rfl
  | a :: b :: r', h =>
    rw [normL_cons, if_pos rfl]
    unfold normT
    simp only
    rw [if_neg]
    intro hh
    exact h ⟨by simp, by simpa using hh.1, by simpa using hh.2⟩
theorem normL_good (c : UInt8) (r : List UInt8) (h : 3 ≤ (c :: r).length ∧ 0 ≤ val ((c :: r).getD 1 0) ∧ 0 ≤ val ((c :: r).getD 2 0)) (hc : c = 37) : normL (c :: r) = (normL ((c :: r).drop 3)).map (outF (two ((c :: r).getD 1 0) ((c :: r).getD 2 0)) ++ ·) := by
  subst hc
  match r, h with
  | a :: b :: r', h =>
    rw [normL_cons, if_pos rfl]
    unfold normT
    simp only
    rw [if_pos (by exact h.2)]
    rfl
theorem val_asc (c : UInt8) (h : 0 ≤ val c) : c.toNat < 128 := by
  unfold val at h
  split at h
  · omega
  · split at h
    · omega
    · split at h
      · omega
      · omega
theorem outF_len (c : UInt8) : (outF c).length ≤ 3 := by unfold outF; split <;> simp [cod]
theorem outP_len (c : UInt8) : (outP c).length ≤ 3 := by unfold outP; split <;> simp [cod]
theorem some_map_app {acc x : List UInt8} {o : Option (List UInt8)} : (o.map (x ++ ·)).map (acc ++ ·) = o.map (acc ++ x ++ ·) := by
  rw [Option.map_map]; congr 1; funext y; simp
theorem contains_other (c : UInt8) : decide ((0 : Int) ≤ Lib.indexByte [33, 36, 38, 39, 40, 41, 42, 43, 44, 59, 61, 58, 64, 47, 63, 91, 93] c) = otherB c := by
  rw [← Lib.contains_iff_indexByte]; rfl
end Go.Proofs.YtpnofnmecjagcaaDoor.Ext
