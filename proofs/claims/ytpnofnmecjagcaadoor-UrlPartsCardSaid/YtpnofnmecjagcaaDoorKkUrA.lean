import Derived.Test.YtpnofnmecjagcaaDoorKkXCx0
import Derived.Test.YtpnofnmecjagcaaDoorKkXCx1
import Derived.Test.YtpnofnmecjagcaaDoorKkXCx2
import Derived.Test.YtpnofnmecjagcaaDoorKkXCx3
import Derived.Test.YtpnofnmecjagcaaDoorKkXCx6
import Derived.Test.YtpnofnmecjagcaaDoorKkDtLib
/- Plain facts for package url: Clean, the program's and the reference's. -/
namespace Go.Proofs.YtpnofnmecjagcaaDoor.Ur
open Go.RowKit Go.Proofs.YtpnofnmecjagcaaDoorW.PrintWords Go.Proofs.YtpnofnmecjagcaaDoorW.PrintMore Go.Proofs.YtpnofnmecjagcaaDoor.Ext Go.Proofs.YtpnofnmecjagcaaDoor.XA Go.Proofs.YtpnofnmecjagcaaDoor.XB Go.Proofs.YtpnofnmecjagcaaDoor.XC
set_option linter.unusedVariables false
set_option linter.unusedSimpArgs false
theorem ba_ext {a b : ByteArray} (h : a.data.toList = b.data.toList) : a = b := by
  obtain ⟨⟨a⟩⟩ := a; obtain ⟨⟨b⟩⟩ := b; simp at h; rw [h]
theorem toList_eq {a : ByteArray} : a.toList = a.data.toList := Lib.toList_data a
theorem w64 {x : Int} (h : -9223372036854775808 ≤ x ∧ x ≤ 9223372036854775807) : wrap64 x = x := by unfold wrap64; omega
def dots (p : ByteArray) : Bool := p.toList == ([46, 46] : List UInt8)
def dot (p : ByteArray) : Bool := p.toList == ([46] : List UInt8)
/-- One part of a path. -/
def cstep (last : Bool) (out : List ByteArray) (p : ByteArray) : List ByteArray :=
  if dots p then
    (if (out.take (out.length - 1)).length = 0 then out.take (out.length - 1) ++ [⟨#[]⟩] else out.take (out.length - 1)) ++ (if last then [⟨#[]⟩] else [])
  else if dot p then out ++ (if last then [⟨#[]⟩] else [])
  else out ++ [p]
def cgo : List ByteArray → List ByteArray → List ByteArray
  | [], out => out
  | p :: r, out => cgo r (cstep r.isEmpty out p)
theorem cstep_len (last : Bool) (out : List ByteArray) (p : ByteArray) : (cstep last out p).length ≤ out.length + 2 := by
  unfold cstep
  have h1 := List.length_take_le (out.length - 1) out
  split <;> (try split) <;> (try split) <;> simp <;> omega
/-- The bytes of a path's parts, and one for each. -/
def wgt : List ByteArray → Nat
  | [] => 0
  | p :: r => p.size + 1 + wgt r
theorem wgt_app (a b : List ByteArray) : wgt (a ++ b) = wgt a + wgt b := by
  induction a with
  | nil => simp [wgt]
  | cons p r ih => simp only [List.cons_append, wgt, ih]; omega
theorem wgt_take (n : Nat) (a : List ByteArray) : wgt (a.take n) ≤ wgt a := by
  have := wgt_app (a.take n) (a.drop n)
  rw [List.take_append_drop] at this; omega
theorem wgt_len (a : List ByteArray) : a.length ≤ wgt a := by
  induction a with
  | nil => simp [wgt]
  | cons p r ih => simp only [List.length_cons, wgt]; omega
theorem wgt_e : wgt [⟨#[]⟩] = 1 := rfl
theorem cstep_wgt (last : Bool) (out : List ByteArray) (p : ByteArray) : wgt (cstep last out p) ≤ wgt out + p.size + 2 := by
  unfold cstep
  have h1 := wgt_take (out.length - 1) out
  have e0 : (⟨#[]⟩ : ByteArray).size = 0 := rfl
  cases last <;> (split <;> (try split) <;> (try split)) <;> simp only [wgt_app, wgt_e, List.append_nil, if_true, if_false, Bool.false_eq_true, wgt] <;> omega
theorem cgo_wgt : ∀ (l out : List ByteArray), wgt (cgo l out) ≤ wgt out + 2 * wgt l
  | [], out => by simp [cgo]
  | p :: r, out => by
    have h1 := cgo_wgt r (cstep r.isEmpty out p)
    have h2 := cstep_wgt r.isEmpty out p
    simp only [cgo, wgt]; omega
theorem rd_at (L : List ByteArray) (i : Nat) (p : ByteArray) (r : List ByteArray) (h : L.drop i = p :: r) : rdOf ByteArray.empty L (i : Int) = p ∧ i < L.length ∧ L.drop (i + 1) = r := by
  have hl : i < L.length := by
    have := congrArg List.length h
    rw [List.length_drop, List.length_cons] at this; omega
  rw [List.drop_eq_getElem_cons hl] at h
  injection h with h1 h2
  refine ⟨?_, hl, h2⟩
  unfold rdOf
  rw [show ((i : Int)).toNat = i by omega, List.getD_eq_getElem?_getD, List.getElem?_eq_getElem hl]
  exact h1
theorem last_iff (L : List ByteArray) (i : Nat) (r : List ByteArray) (hl : i < L.length) (h : L.drop (i + 1) = r) : ((i : Int) = (L.length : Int) - 1) ↔ r.isEmpty = true := by
  have : r.length = L.length - (i + 1) := by rw [← h, List.length_drop]
  rw [List.isEmpty_iff, ← List.length_eq_zero_iff]; omega
def finP (X : List ByteArray) : Option ByteArray := (Ext.strings_Join.f X ⟨#[47]⟩).bind fun t => (strings_HasPrefix.f t ⟨#[47]⟩).bind fun b => if b = true then some t else if 1 + t.size ≤ 9223372036854775807 then some (⟨#[47]⟩ ++ t) else none
theorem prog_loop (L : List ByteArray) (hL : L.length ≤ 1000000) : ∀ (rest : List ByteArray) (i : Nat) (out : List ByteArray) (k : Nat), L.drop i = rest → i ≤ L.length → rest.length < k → out.length + 2 * rest.length ≤ 10000000 →
    url_Clean.l0 k out L L (L.length : Int) (i : Int) = finP (cgo rest out)
  | [], i, out, k, hd, hi, hk, ho => by
    obtain ⟨k, rfl⟩ : ∃ m, k = m + 1 := ⟨k - 1, by omega⟩
    have : L.length ≤ i := by have := congrArg List.length hd; rw [List.length_drop] at this; simp at this; omega
    rw [url_Clean.l0, if_neg (by omega)]
    rfl
  | p :: r, i, out, k, hd, hi, hk, ho => by
    obtain ⟨k, rfl⟩ : ∃ m, k = m + 1 := ⟨k - 1, by omega⟩
    obtain ⟨h1, h2, h3⟩ := rd_at L i p r hd
    have hl := last_iff L i r h2 h3
    rw [List.length_cons] at hk ho
    have ew : wrap64 ((i : Int) + 1) = ((i + 1 : Nat) : Int) := by rw [w64 (by omega)]; omega
    have el : wrap64 ((L.length : Int) - 1) = (L.length : Int) - 1 := w64 (by omega)
    have eo : wrap64 ((out.length : Int) - 1) = (out.length : Int) - 1 := w64 (by omega)
    have IH := fun o => prog_loop L hL r (i + 1) o k h3 h2 (by omega)
    rw [url_Clean.l0, if_pos (by omega), if_pos (by omega), if_pos (by omega), h1, ew, el, eo]
    have hcl := cstep_len r.isEmpty out p
    have emx : mx ((out.length : Int) - 1) 0 = ((out.length - 1 : Nat) : Int) := by unfold mx; split <;> omega
    show _ = finP (cgo r (cstep r.isEmpty out p))
    rw [← IH (cstep r.isEmpty out p) (by omega)]
    unfold cstep dots dot
    by_cases hp : p.toList = ([46, 46] : List UInt8)
    · rw [if_pos hp, emx, if_pos (by omega), if_pos (by omega)]
      simp only [Option.bind_some, beq_iff_eq, hp, if_true]
      have et : ((out.length - 1 : Nat) : Int).toNat = out.length - 1 := by omega
      rw [et]
      obtain ⟨T, hT⟩ : ∃ T, out.take (out.length - 1) = T := ⟨_, rfl⟩
      have hTl : T.length ≤ out.length := by rw [← hT]; exact List.length_take_le' _ _
      rw [hT]
      by_cases hz : T.length = 0
      · rw [if_pos (by omega), if_pos (by omega)]
        by_cases hlast : (i : Int) = (L.length : Int) - 1
        · rw [if_pos hlast, hl.1 hlast, if_pos (by simp; omega)]; simp [hz]
        · have : r.isEmpty = false := by cases hh : r.isEmpty with
            | false => rfl
            | true => exact absurd (hl.2 hh) hlast
          rw [if_neg hlast, this]; simp [hz]
      · rw [if_neg (by omega)]
        by_cases hlast : (i : Int) = (L.length : Int) - 1
        · rw [if_pos hlast, hl.1 hlast, if_pos (by omega)]; simp [hz]
        · have : r.isEmpty = false := by cases hh : r.isEmpty with
            | false => rfl
            | true => exact absurd (hl.2 hh) hlast
          rw [if_neg hlast, this]; simp [hz]
    · rw [if_neg hp]
      simp only [beq_iff_eq, hp, if_false]
      by_cases hp1 : p.toList = ([46] : List UInt8)
      · rw [if_pos hp1]
        simp only [hp1, if_true]
        by_cases hlast : (i : Int) = (L.length : Int) - 1
        · rw [if_pos hlast, hl.1 hlast, if_pos (by omega)]; simp
        · have : r.isEmpty = false := by cases hh : r.isEmpty with
            | false => rfl
            | true => exact absurd (hl.2 hh) hlast
          rw [if_neg hlast, this]; simp
      · rw [if_neg hp1, if_pos (by omega)]
        simp only [hp1, if_false]
/-! ### the reference's loop -/
def finL (X : List ByteArray) : List UInt8 := Lib.join (X.map (·.data.toList)) [47]
def finT (l : List UInt8) : ByteArray := if l.head? = some 47 then ⟨l.toArray⟩ else ⟨(47 :: l).toArray⟩
theorem finL_len (X : List ByteArray) : (finL X).length ≤ wgt X := by
  unfold finL
  cases X with
  | nil => simp [Lib.join_nil]
  | cons p r =>
    rw [List.map_cons, Lib.join_cons, List.length_append]
    have : ∀ r : List ByteArray, (Lib.joinTail [47] (r.map (·.data.toList))).length = wgt r := by
      intro r
      induction r with
      | nil => rfl
      | cons q r ih =>
        simp only [Lib.joinTail, List.map_cons, List.flatten_cons, List.length_append] at ih ⊢
        rw [ih]
        simp only [wgt, List.length_cons, List.length_nil]
        show 0 + 1 + q.size + _ = _
        omega
    rw [this]
    simp only [wgt]
    show p.size + _ ≤ _
    omega
theorem hasPrefix_slash (l : List UInt8) : strings_HasPrefix.f ⟨l.toArray⟩ ⟨#[47]⟩ = some (decide (l.head? = some 47)) := by
  unfold strings_HasPrefix.f stringslite_HasPrefix.f
  have e1 : (⟨#[47]⟩ : ByteArray).size = 1 := rfl
  have e2 : (⟨l.toArray⟩ : ByteArray).size = l.length := by simp [ByteArray.size]
  rw [e1, e2]
  cases l with
  | nil => rfl
  | cons b l =>
    rw [if_pos (by rw [List.length_cons]; omega), if_pos (by omega), if_pos (by rw [List.length_cons]; omega)]
    simp only [Option.bind_some]
    congr 1
    rw [toList_eq, Lib.extract_data]
    simp [toList_eq]
    rw [Bool.eq_iff_iff]; simp
theorem finP_eq (X : List ByteArray) (h : wgt X ≤ 10000000) : finP X = some (finT (finL X)) := by
  unfold finP
  have h1 := wgt_len X
  have h2 := finL_len X
  have ej : Ext.strings_Join.f X ⟨#[47]⟩ = some ⟨(finL X).toArray⟩ := by
    unfold Ext.strings_Join.f
    rw [if_pos]
    · rfl
    · exact ⟨by omega, by show (finL X).length ≤ _; omega⟩
  rw [ej]
  simp only [Option.bind_some]
  rw [hasPrefix_slash]
  simp only [Option.bind_some]
  unfold finT
  by_cases hh : (finL X).head? = some 47
  · rw [if_pos (decide_eq_true hh), if_pos hh]
  · rw [if_neg (by simp [hh]), if_neg hh, if_pos (by simp [ByteArray.size]; omega)]
    exact congrArg some (ba_ext (by simp))
/-! ### the parts -/
theorem splitTo_spl (c : UInt8) : ∀ (l : List UInt8) (out : List ByteArray) (x : ByteArray), (l.foldl (splitStep (c.toNat : Int)) (out ++ [x])).map (·.data.toList) = out.map (·.data.toList) ++ (match Dt.spl c l with | [] => [x.data.toList] | y :: r => (x.data.toList ++ y) :: r)
  | [], out, x => by simp [Dt.spl]
  | b :: l, out, x => by
    rw [List.foldl_cons]
    by_cases hb : b = c
    · subst hb
      rw [show splitStep (b.toNat : Int) (out ++ [x]) b = out ++ [x] ++ [⟨#[]⟩] by unfold splitStep; rw [if_pos rfl], splitTo_spl b l (out ++ [x]) ⟨#[]⟩]
      have hne := Dt.spl_ne b l
      rw [Dt.spl, if_pos rfl]
      cases hs : Dt.spl b l with
      | nil => exact absurd hs hne
      | cons y r => simp
    · have e1 : rdOf ByteArray.empty (out ++ [x]) (((out ++ [x]).length : Int) - 1) = x := by
        unfold rdOf
        have : ((((out ++ [x]).length : Nat) : Int) - 1).toNat = out.length := by simp
        rw [this, List.getD_eq_getElem?_getD]; simp
      have e2 : (out ++ [x]).set ((((out ++ [x]).length : Nat) : Int) - 1).toNat (x ++ ⟨#[b]⟩) = out ++ [x ++ ⟨#[b]⟩] := by
        have : ((((out ++ [x]).length : Nat) : Int) - 1).toNat = out.length := by simp
        rw [this]; simp
      rw [show splitStep (c.toNat : Int) (out ++ [x]) b = out ++ [x ++ ⟨#[b]⟩] by unfold splitStep; rw [if_neg (fun h => hb (UInt8.toNat_inj.1 (by omega))), e1, e2], splitTo_spl c l out (x ++ ⟨#[b]⟩)]
      have hne := Dt.spl_ne c l
      rw [Dt.spl, if_neg hb]
      cases hs : Dt.spl c l with
      | nil => exact absurd hs hne
      | cons y r => simp
theorem map_inj {a b : List ByteArray} (h : a.map (·.data.toList) = b.map (·.data.toList)) : a = b := by
  induction a generalizing b with
  | nil => cases b with
    | nil => rfl
    | cons y b => simp at h
  | cons x a ih =>
    cases b with
    | nil => simp at h
    | cons y b =>
      simp only [List.map_cons, List.cons.injEq] at h
      rw [ba_ext h.1, ih h.2]
/-- Both ways to split give the same parts. -/
theorem split_same (c : UInt8) (s : ByteArray) (h : s.size ≤ 1000000) : ∃ P, Ext.strings_Split.f s ⟨#[c]⟩ = some P ∧ Ext.decorumref04_split.f s (c.toNat : Int) = some P ∧ P.map (·.data.toList) = Dt.spl c s.data.toList := by
  have h1 := Dt.splitB_spl c s
  have h2 := splitTo_spl c s.data.toList [] ⟨#[]⟩
  have hne := Dt.spl_ne c s.data.toList
  refine ⟨_, ?_, ?_, h1⟩
  · unfold Ext.strings_Split.f
    rw [if_pos ⟨by omega, by show 1 ≤ 1; omega⟩]
  · unfold Ext.decorumref04_split.f
    rw [if_pos (by omega)]
    congr 1
    refine map_inj ?_
    rw [h1]
    unfold splitTo
    refine h2.trans ?_
    cases hs : Dt.spl c s.data.toList with
    | nil => exact absurd hs hne
    | cons y r => simp
theorem spl_wgt (c : UInt8) : ∀ (l : List UInt8) (P : List ByteArray), P.map (·.data.toList) = Dt.spl c l → wgt P = l.length + 1
  | [], P, h => by
    have hl : P.length = 1 := by have := congrArg List.length h; simpa [Dt.spl] using this
    obtain ⟨x, rfl⟩ := List.length_eq_one_iff.1 hl
    · simp [Dt.spl] at h
      have : x.size = 0 := by show x.data.size = 0; rw [h]; rfl
      simp [wgt, this]
  | b :: l, P, h => by
    rw [Dt.spl] at h
    by_cases hb : b = c
    · rw [if_pos hb] at h
      match P, h with
      | x :: P', h =>
        simp only [List.map_cons, List.cons.injEq] at h
        have : x.size = 0 := by show x.data.size = 0; have := congrArg List.length h.1; simpa using this
        have ih := spl_wgt c l P' h.2
        simp only [wgt, this, ih, List.length_cons]; omega
    · rw [if_neg hb] at h
      cases hs : Dt.spl c l with
      | nil => exact absurd hs (Dt.spl_ne c l)
      | cons y r =>
        rw [hs] at h
        match P, h with
        | x :: P', h =>
          simp only [List.map_cons, List.cons.injEq] at h
          have hx : x.size = y.length + 1 := by show x.data.size = _; have := congrArg List.length h.1; simpa using this
          have ih := spl_wgt c l (⟨y.toArray⟩ :: P') (by rw [hs, List.map_cons, h.2])
          simp only [wgt] at ih ⊢
          have hy : (⟨y.toArray⟩ : ByteArray).size = y.length := by simp [ByteArray.size]
          rw [hy] at ih
          rw [hx, List.length_cons]; omega
theorem awake_true : decorumlaw05_awake.f = some true := by decide +kernel
end Go.Proofs.YtpnofnmecjagcaaDoor.Ur
