import Derived.Test.YtpnofnmecjagcaaDoorKcXCx0
import Derived.Test.YtpnofnmecjagcaaDoorKcXCx1
import Derived.Test.YtpnofnmecjagcaaDoorKcXCx2
import Derived.Test.YtpnofnmecjagcaaDoorKcXCx4
import Derived.Test.YtpnofnmecjagcaaDoorKcXCx5
import Derived.Test.YtpnofnmecjagcaaDoorKcDtLib
/- Plain facts for package url: Clean, the program's and the reference's. -/
namespace Go.Proofs.YtpnofnmecjagcaaDoor.Ur
open Go.RowKit Go.Proofs.YtpnofnmecjagcaaDoorW.PrintWords Go.Proofs.YtpnofnmecjagcaaDoorW.PrintMore Go.Proofs.YtpnofnmecjagcaaDoor.Ext Go.Proofs.YtpnofnmecjagcaaDoor.XA Go.Proofs.YtpnofnmecjagcaaDoor.XB Go.Proofs.YtpnofnmecjagcaaDoor.XC
set_option linter.unusedVariables false
set_option linter.unusedSimpArgs false
theorem ba_ext {a b : ByteArray} (h : a.data.toList = b.data.toList) : a = b := by
  obtain ⟨⟨a⟩⟩ := a; obtain ⟨⟨b⟩⟩ := b; simp at h; rw [h]
theorem toList_eq {a : ByteArray} : a.toList = a.data.toList := Lib.toList_data a
theorem w64 {x : Int} (h : -9223372036854775808 ≤ x ∧ x ≤ 9223372036854775807) : wrap64 x = x := by unfold wrap64; omega
def dots (p : ByteArray) : Bool := p.toList == ([46, 46] : List UInt8)
def dot (p : ByteArray) : Bool := p.toList == ([46] : List UInt8)
/-- One part of a path. -/
def cstep (last : Bool) (out : List ByteArray) (p : ByteArray) : List ByteArray :=
  if dots p then
    (if (out.take (out.length - 1)).length = 0 then out.take (out.length - 1) ++ [⟨#[]⟩] else out.take (out.length - 1)) ++ (if last then [⟨#[]⟩] else [])
  else if dot p then out ++ (if last then [⟨#[]⟩] else [])
  else out ++ [p]
def cgo : List ByteArray → List ByteArray → List ByteArray
  | [], out => out
  | p :: r, out => cgo r (cstep r.isEmpty out p)
theorem cstep_len (last : Bool) (out : List ByteArray) (p : ByteArray) : (cstep last out p).length ≤ out.length + 2 := by
  unfold cstep
  have h1 := List.length_take_le (out.length - 1) out
  split <;> (try split) <;> (try split) <;> simp <;> omega
/-- The bytes of a path's parts, and one for each. -/
def wgt : List ByteArray → Nat
  | [] => 0
  | p :: r => p.size + 1 + wgt r
theorem wgt_app (a b : List ByteArray) : wgt (a ++ b) = wgt a + wgt b := by
  induction a with
  | nil => simp [wgt]
  | cons p r ih => simp only [List.cons_append, wgt, ih]; omega
theorem wgt_take (n : Nat) (a : List ByteArray) : wgt (a.take n) ≤ wgt a := by
  have := wgt_app (a.take n) (a.drop n)
  rw [List.take_append_drop] at this; omega
theorem wgt_len (a : List ByteArray) : a.length ≤ wgt a := by
  induction a with
  | nil => simp [wgt]
  | cons p r ih => simp only [List.length_cons, wgt]; omega
theorem wgt_e : wgt [⟨#[]⟩] = 1 := rfl
theorem cstep_wgt (last : Bool) (out : List ByteArray) (p : ByteArray) : wgt (cstep last out p) ≤ wgt out + p.size + 2 := by
  unfold cstep
  have h1 := wgt_take (out.length - 1) out
  have e0 : (⟨#[]⟩ : ByteArray).size = 0 := rfl
  cases last <;> (split <;> (try split) <;> (try split)) <;> simp only [wgt_app, wgt_e, List.append_nil, if_true, if_false, Bool.false_eq_true, wgt] <;> omega
theorem cgo_wgt : ∀ (l out : List ByteArray), wgt (cgo l out) ≤ wgt out + 2 * wgt l
  | [], out => by simp [cgo]
  | p :: r, out => by
    have h1 := cgo_wgt r (cstep r.isEmpty out p)
    have h2 := cstep_wgt r.isEmpty out p
    simp only [cgo, wgt]; omega
theorem rd_at (L : List ByteArray) (i : Nat) (p : ByteArray) (r : List ByteArray) (h : L.drop i = p :: r) : rdOf ByteArray.empty L (i : Int) = p ∧ i < L.length ∧ L.drop (i + 1) = r := by
  have hl : i < L.length := by
    have := congrArg List.length h
    rw [List.length_drop, List.length_cons] at this; omega
  rw [List.drop_eq_getElem_cons hl] at h
  injection h with h1 h2
  refine ⟨?_, hl, h2⟩
  unfold rdOf
  rw [show ((i : Int)).toNat = i by omega, List.getD_eq_getElem?_getD, List.getElem?_eq_getElem hl]
  exact h1
theorem last_iff (L : List ByteArray) (i : Nat) (r : List ByteArray) (hl : i < L.length) (h : L.drop (i + 1) = r) : ((i : Int) = (L.length : Int) - 1) ↔ r.isEmpty = true := by
  have : r.length = L.length - (i + 1) := by rw [← h, List.length_drop]
  rw [List.isEmpty_iff, ← List.length_eq_zero_iff]; omega
def finP (X : List ByteArray) : Option ByteArray := (Ext.strings_Join.f X ⟨#[47]⟩).bind fun t => (strings_HasPrefix.f t ⟨#[47]⟩).bind fun b => if b = true then some t else if 1 + t.size ≤ 9223372036854775807 then some (⟨#[47]⟩ ++ t) else none
theorem prog_loop (L : List ByteArray) (hL : L.length ≤ 1000000) : ∀ (rest : List ByteArray) (i : Nat) (out : List ByteArray) (k : Nat), L.drop i = rest → i ≤ L.length → rest.length < k → out.length + 2 * rest.length ≤ 10000000 →
    url_Clean.l0 k out L L (L.length : Int) (i : Int) = finP (cgo rest out)
  | [], i, out, k, hd, hi, hk, ho => by
    obtain ⟨k, rfl⟩ : ∃ m, k = m + 1 := ⟨k - 1, by omega⟩
    have : L.length ≤ i := by have := congrArg List.length hd; rw [List.length_drop] at this; simp at this; omega
    rw [url_Clean.l0, if_neg (by omega)]
    rfl
  | p :: r, i, out, k, hd, hi, hk, ho => by
    obtain ⟨k, rfl⟩ : ∃ m, k = m + 1 := ⟨k - 1, by omega⟩
    obtain ⟨h1, h2, h3⟩ := rd_at L i p r hd
    have hl := last_iff L i r h2 h3
    rw [List.length_cons] at hk ho
    have ew : wrap64 ((i : Int) + 1) = ((i + 1 : Nat) : Int) := by rw [w64 (by omega)]; omega
    have el : wrap64 ((L.length : Int) - 1) = (L.length : Int) - 1 := w64 (by omega)
    have eo : wrap64 ((out.length : Int) - 1) = (out.length : Int) - 1 := w64 (by omega)
    have IH := fun o => prog_loop L hL r (i + 1) o k h3 h2 (by omega)
    rw [url_Clean.l0, if_pos (by omega), if_pos (by omega), if_pos (by omega), h1, ew, el, eo]
    have hcl := cstep_len r.isEmpty out p
    have emx : mx ((out.length : Int) - 1) 0 = ((out.length - 1 : Nat) : Int) := by unfold mx; split <;> omega
    show _ = finP (cgo r (cstep r.isEmpty out p))
    rw [← IH (cstep r.isEmpty out p) (by omega)]
    unfold cstep dots dot
    by_cases hp : p.toList = ([46, 46] : List UInt8)
    · rw [if_pos hp, emx, if_pos (by omega), if_pos (by omega)]
      simp only [Option.bind_some, beq_iff_eq, hp, if_true]
      have et : ((out.length - 1 : Nat) : Int).toNat = out.length - 1 := by omega
      rw [et]
      obtain ⟨T, hT⟩ : ∃ T, out.take (out.length - 1) = T := ⟨_, rfl⟩
      have hTl : T.length ≤ out.length := by rw [← hT]; exact List.length_take_le' _ _
      rw [hT]
      by_cases hz : T.length = 0
      · rw [if_pos (by omega), if_pos (by omega)]
        by_cases hlast : (i : Int) = (L.length : Int) - 1
        · rw [if_pos hlast, hl.1 hlast, if_pos (by simp; omega)]; simp [hz]
        · have : r.isEmpty = false := by cases hh : r.isEmpty with
            | false => rfl
            | true => exact absurd (hl.2 hh) hlast
          rw [if_neg hlast, this]; simp [hz]
      · rw [if_neg (by omega)]
        by_cases hlast : (i : Int) = (L.length : Int) - 1
        · rw [if_pos hlast, hl.1 hlast, if_pos (by omega)]; simp [hz]
        · have : r.isEmpty = false := by cases hh : r.isEmpty with
            | false => rfl
            | true => exact absurd (hl.2 hh) hlast
          rw [if_neg hlast, this]; simp [hz]
    · rw [if_neg hp]
      simp only [beq_iff_eq, hp, if_false]
      by_cases hp1 : p.toList = ([46] : List UInt8)
      · rw [if_pos hp1]
        simp only [hp1, if_true]
        by_cases hlast : (i : Int) = (L.length : Int) - 1
        · rw [if_pos hlast, hl.1 hlast, if_pos (by omega)]; simp
        · have : r.isEmpty = false := by cases hh : r.isEmpty with
            | false => rfl
            | true => exact absurd (hl.2 hh) hlast
          rw [if_neg hlast, this]; simp
      · rw [if_neg hp1, if_pos (by omega)]
        simp only [hp1, if_false]
/-! ### the reference's loop -/
def finL (X : List ByteArray) : List UInt8 := Lib.join (X.map (·.data.toList)) [47]
def finT (l : List UInt8) : ByteArray := if l.head? = some 47 then ⟨l.toArray⟩ else ⟨(47 :: l).toArray⟩
theorem finL_len (X : List ByteArray) : (finL X).length ≤ wgt X := by
  unfold finL
  cases X with
  | nil => simp [Lib.join_nil]
  | cons p r =>
    rw [List.map_cons, Lib.join_cons, List.length_append]
    have : ∀ r : List ByteArray, (Lib.joinTail [47] (r.map (·.data.toList))).length = wgt r := by
      intro r
      induction r with
      | nil => rfl
      | cons q r ih =>
        simp only [Lib.joinTail, List.map_cons, List.flatten_cons, List.length_append] at ih ⊢
        rw [ih]
        simp only [wgt, List.length_cons, List.length_nil]
        show 0 + 1 + q.size + _ = _
        omega
    rw [this]
    simp only [wgt]
    show p.size + _ ≤ _
    omega
theorem hasPrefix_slash (l : List UInt8) : strings_HasPrefix.f ⟨l.toArray⟩ ⟨#[47]⟩ = some (decide (l.head? = some 47)) := by
  unfold strings_HasPrefix.f stringslite_HasPrefix.f
  have e1 : (⟨#[47]⟩ : ByteArray).size = 1 := rfl
  have e2 : (⟨l.toArray⟩ : ByteArray).size = l.length := by simp [ByteArray.size]
  rw [e1, e2]
  cases l with
  | nil => rfl
  | cons b l =>
    rw [if_pos (by rw [List.length_cons]; omega), if_pos (by omega), if_pos (by rw [List.length_cons]; omega)]
    simp only [Option.bind_some]
    congr 1
    rw [toList_eq, Lib.extract_data]
    simp [toList_eq]
    rw [Bool.eq_iff_iff]; simp
theorem finP_eq (X : List ByteArray) (h : wgt X ≤ 10000000) : finP X = some (finT (finL X)) := by
  unfold finP
  have h1 := wgt_len X
  have h2 := finL_len X
  have ej : Ext.strings_Join.f X ⟨#[47]⟩ = some ⟨(finL X).toArray⟩ := by
    unfold Ext.strings_Join.f
    rw [if_pos]
    · rfl
    · exact ⟨by omega, by show (finL X).length ≤ _; omega⟩
  rw [ej]
  simp only [Option.bind_some]
  rw [hasPrefix_slash]
  simp only [Option.bind_some]
  unfold finT
  by_cases hh : (finL X).head? = some 47
  · rw [if_pos (decide_eq_true hh), if_pos hh]
  · rw [if_neg (by simp [hh]), if_neg hh, if_pos (by simp [ByteArray.size]; omega)]
    exact congrArg some (ba_ext (by simp))
theorem join_snoc (a : List (List UInt8)) (b : List UInt8) (ha : a ≠ []) : Lib.join (a ++ [b]) [47] = Lib.join a [47] ++ [47] ++ b := by
  cases a with
  | nil => exact absurd rfl ha
  | cons x r =>
    rw [List.cons_append, Lib.join_cons, Lib.join_cons]
    simp [Lib.joinTail]
theorem ref_l1 (X : List ByteArray) (h : wgt X ≤ 10000000) : ∀ (r : List ByteArray) (i k : Nat) (s : ByteArray), X.drop i = r → i ≤ X.length → r.length < k → s.data.toList = Lib.join ((X.take i).map (·.data.toList)) [47] → s.size ≤ wgt (X.take i) →
    decorumref04_Clean.l1 k X s (i : Int) = some (finT (finL X))
  | [], i, k, s, hd, hi, hk, hs, hz => by
    obtain ⟨k, rfl⟩ : ∃ m, k = m + 1 := ⟨k - 1, by omega⟩
    have hl : X.length ≤ i := by have := congrArg List.length hd; rw [List.length_drop] at this; simp at this; omega
    have hzz := wgt_take i X
    rw [decorumref04_Clean.l1, if_neg (by omega)]
    rw [List.take_of_length_le hl] at hs
    have hs' : finL X = s.data.toList := hs.symm
    rw [hs']
    unfold finT
    by_cases h0 : s.size = 0
    · have e : s.data.toList = [] := List.length_eq_zero_iff.1 (by simpa using h0)
      rw [if_pos (by omega), if_pos (by omega), e]
      simp only [List.head?_nil, reduceCtorEq, if_false]
      congr 1
      refine ba_ext ?_
      simp [e]
    · rw [if_neg (by omega), if_pos (by omega)]
      obtain ⟨b, l, e⟩ : ∃ b l, s.data.toList = b :: l := by
        cases hh : s.data.toList with
        | nil => exact absurd (by have := congrArg List.length hh; simpa using this) h0
        | cons b l => exact ⟨b, l, rfl⟩
      have eb : bt s 0 = b.toNat := by
        unfold bt
        have : (0 : Int).toNat < s.size := by simp; omega
        rw [dif_pos this]
        have : s.data.toList[0]? = some b := by rw [e]; rfl
        rw [Lib.data_getElem? s 0 (by omega)] at this
        have h2 := Option.some.inj this
        rw [← h2]; rfl
      rw [eb, e]
      simp only [List.head?_cons, Option.some.injEq]
      by_cases hb : b = 47
      · subst hb
        rw [if_pos (by rfl), if_pos rfl]
        congr 1
        exact ba_ext (by rw [e])
      · rw [if_neg (fun h => hb (UInt8.toNat_inj.1 (by show _ = 47; omega))), if_neg hb, if_pos (by omega)]
        congr 1
        exact ba_ext (by simp [e])
  | p :: r, i, k, s, hd, hi, hk, hs, hz => by
    obtain ⟨k, rfl⟩ : ∃ m, k = m + 1 := ⟨k - 1, by omega⟩
    obtain ⟨h1, h2, h3⟩ := rd_at X i p r hd
    rw [List.length_cons] at hk
    have ew : wrap64 ((i : Int) + 1) = ((i + 1 : Nat) : Int) := by have := wgt_len X; rw [w64 (by omega)]; omega
    have hzz := wgt_take i X
    have hp : X.take (i + 1) = X.take i ++ [p] := by
      rw [List.take_succ_eq_append_getElem h2]
      rw [List.drop_eq_getElem_cons h2] at hd
      injection hd with h4 _
      rw [h4]
    have hw : wgt (X.take (i + 1)) = wgt (X.take i) + (p.size + 1) := by rw [hp, wgt_app]; rfl
    have hw2 := wgt_take (i + 1) X
    rw [decorumref04_Clean.l1, if_pos (by omega), h1, ew]
    by_cases h0 : i = 0
    · subst h0
      have es : s = ⟨#[]⟩ := ba_ext (by rw [hs]; rfl)
      rw [if_neg (by omega), if_pos (by omega), if_pos (by omega)]
      refine ref_l1 X h r 1 k _ h3 h2 (by omega) ?_ ?_
      · rw [hp, es]
        simp [Lib.join, List.intercalate]
      · rw [hw, ByteArray.size_append]; omega
    · rw [if_pos (by omega), if_pos (by omega), if_pos (by omega), if_pos (by rw [ByteArray.size_append]; show s.size + 1 + _ ≤ _; omega)]
      refine ref_l1 X h r (i + 1) k _ h3 h2 (by omega) ?_ ?_
      · rw [hp, List.map_append]
        have hne : (X.take i).map (·.data.toList) ≠ [] := by
          intro e0
          have := congrArg List.length e0
          simp at this
          rcases this with h | h
          · exact h0 h
          · rw [h] at h2; simp at h2
        rw [List.map_singleton, join_snoc _ _ hne, ← hs]
        simp
      · rw [hw, ByteArray.size_append, ByteArray.size_append]
        show s.size + 1 + _ ≤ _
        omega
theorem ref_loop (L : List ByteArray) (hL : wgt L ≤ 1000000) : ∀ (rest : List ByteArray) (i : Nat) (out : List ByteArray) (k : Nat), L.drop i = rest → i ≤ L.length → 5 * rest.length + 10000002 ≤ k → wgt out + 2 * wgt rest ≤ 10000000 →
    decorumref04_Clean.l0 k L out (i : Int) = some (finT (finL (cgo rest out)))
  | [], i, out, k, hd, hi, hk, ho => by
    obtain ⟨k, rfl⟩ : ∃ m, k = m + 1 := ⟨k - 1, by omega⟩
    have : L.length ≤ i := by have := congrArg List.length hd; rw [List.length_drop] at this; simp at this; omega
    rw [decorumref04_Clean.l0, if_neg (by omega)]
    have hw := wgt_len out
    simp only [wgt] at ho
    exact ref_l1 out (by omega) out 0 k _ rfl (by omega) (by simp only [List.length_nil] at hk; omega) rfl (Nat.zero_le _)
  | p :: r, i, out, k, hd, hi, hk, ho => by
    obtain ⟨k, rfl⟩ : ∃ m, k = m + 5 := ⟨k - 5, by omega⟩
    obtain ⟨h1, h2, h3⟩ := rd_at L i p r hd
    have hl := last_iff L i r h2 h3
    have hLl := wgt_len L
    have hol := wgt_len out
    rw [List.length_cons] at hk
    simp only [wgt] at ho
    have ew : wrap64 ((i : Int) + 1) = ((i + 1 : Nat) : Int) := by rw [w64 (by omega)]; omega
    have el : wrap64 ((L.length : Int) - 1) = (L.length : Int) - 1 := w64 (by omega)
    have eo : wrap64 ((out.length : Int) - 1) = (out.length : Int) - 1 := w64 (by omega)
    have hcw := cstep_wgt r.isEmpty out p
    obtain ⟨ANS, hANS⟩ : ∃ A, some (finT (finL (cgo r (cstep r.isEmpty out p)))) = A := ⟨_, rfl⟩
    have up : ∀ (o : List ByteArray) (k' : Nat), k ≤ k' → o = cstep r.isEmpty out p → decorumref04_Clean.l0 k' L o ((i + 1 : Nat) : Int) = ANS := fun o k' hk' ho' => by
      rw [ho', ← hANS]
      exact ref_loop L hL r (i + 1) _ k' h3 h2 (by omega) (by omega)
    show _ = some (finT (finL (cgo r (cstep r.isEmpty out p))))
    rw [hANS, decorumref04_Clean.l0, if_pos (by omega), if_pos (by omega), h1]
    unfold cstep dots dot at up
    by_cases hp : p.toList = ([46, 46] : List UInt8)
    · have hb : (p.toList == ([46, 46] : List UInt8)) = true := beq_iff_eq.2 hp
      rw [if_pos hp, hb]
      simp only [hb, if_true] at up
      rw [decorumref04_Clean.j1, if_neg (by simp), if_pos rfl, decorumref04_Clean.j2]
      have hTl : (out.take (out.length - 1)).length ≤ out.length := List.length_take_le' _ _
      have key : ∀ T : List ByteArray, T = out.take (out.length - 1) → decorumref04_Clean.j3 (k + 2) L T (i : Int) true = ANS := fun T hT => by
        rw [← hT] at up hTl
        rw [decorumref04_Clean.j3, if_pos rfl, decorumref04_Clean.j4, ew, el]
        have last0 : ¬ (i : Int) = (L.length : Int) - 1 → r.isEmpty = false := fun hlast => by
          cases hh : r.isEmpty with
          | false => rfl
          | true => exact absurd (hl.2 hh) hlast
        by_cases hz : T.length = 0
        · rw [if_pos (by rw [beq_iff_eq]; omega), if_pos (by omega)]
          simp only [Option.bind_some]
          by_cases hlast : (i : Int) = (L.length : Int) - 1
          · rw [if_pos hlast, if_pos (by simp; omega)]
            exact up _ k (Nat.le_refl _) (by rw [hl.1 hlast]; simp [hz])
          · rw [if_neg hlast]
            exact up _ k (Nat.le_refl _) (by rw [last0 hlast]; simp [hz])
        · rw [if_neg (by rw [beq_iff_eq]; omega)]
          by_cases hlast : (i : Int) = (L.length : Int) - 1
          · rw [if_pos hlast, if_pos (by omega)]
            exact up _ k (Nat.le_refl _) (by rw [hl.1 hlast]; simp [hz])
          · rw [if_neg hlast]
            exact up _ k (Nat.le_refl _) (by rw [last0 hlast]; simp [hz])
      by_cases h0 : out.length = 0
      · rw [if_neg (by rw [decide_eq_true_eq]; omega)]
        exact key _ (by rw [List.length_eq_zero_iff.1 h0]; rfl)
      · rw [if_pos (by rw [decide_eq_true_eq]; omega), eo, if_pos (by omega), if_pos (by omega)]
        exact key _ (by congr 1; omega)
    · have hb : (p.toList == ([46, 46] : List UInt8)) = false := beq_eq_false_iff_ne.2 hp
      rw [if_neg hp, hb]
      simp only [hb, Bool.false_eq_true, if_false] at up
      by_cases hp1 : p.toList = ([46] : List UInt8)
      · have hb1 : (p.toList == ([46] : List UInt8)) = true := beq_iff_eq.2 hp1
        simp only [hb1, if_true] at up
        rw [decorumref04_Clean.j1, if_neg (by simp [hp1]), if_neg (by simp), decorumref04_Clean.j2, if_neg (by simp), decorumref04_Clean.j3, if_neg (by simp), decorumref04_Clean.j4, if_neg (by simp), ew, el]
        by_cases hlast : (i : Int) = (L.length : Int) - 1
        · rw [if_pos hlast, if_pos (by omega)]
          exact up _ k (Nat.le_refl _) (by rw [hl.1 hlast]; simp)
        · rw [if_neg hlast]
          exact up _ k (Nat.le_refl _) (by
            have : r.isEmpty = false := by cases hh : r.isEmpty with
              | false => rfl
              | true => exact absurd (hl.2 hh) hlast
            rw [this]; simp)
      · have hb1 : (p.toList == ([46] : List UInt8)) = false := beq_eq_false_iff_ne.2 hp1
        simp only [hb1, Bool.false_eq_true, if_false] at up
        rw [decorumref04_Clean.j1, if_pos (by simp [hp1]), if_pos (by omega), if_pos (by omega), if_pos (by omega), ew, h1]
        exact up _ (k + 3) (by omega) rfl
/-! ### the parts -/
theorem splitTo_spl (c : UInt8) : ∀ (l : List UInt8) (out : List ByteArray) (x : ByteArray), (l.foldl (splitStep (c.toNat : Int)) (out ++ [x])).map (·.data.toList) = out.map (·.data.toList) ++ (match Dt.spl c l with | [] => [x.data.toList] | y :: r => (x.data.toList ++ y) :: r)
  | [], out, x => by simp [Dt.spl]
  | b :: l, out, x => by
    rw [List.foldl_cons]
    by_cases hb : b = c
    · subst hb
      rw [show splitStep (b.toNat : Int) (out ++ [x]) b = out ++ [x] ++ [⟨#[]⟩] by unfold splitStep; rw [if_pos rfl], splitTo_spl b l (out ++ [x]) ⟨#[]⟩]
      have hne := Dt.spl_ne b l
      rw [Dt.spl, if_pos rfl]
      cases hs : Dt.spl b l with
      | nil => exact absurd hs hne
      | cons y r => simp
    · have e1 : rdOf ByteArray.empty (out ++ [x]) (((out ++ [x]).length : Int) - 1) = x := by
        unfold rdOf
        have : ((((out ++ [x]).length : Nat) : Int) - 1).toNat = out.length := by simp
        rw [this, List.getD_eq_getElem?_getD]; simp
      have e2 : (out ++ [x]).set ((((out ++ [x]).length : Nat) : Int) - 1).toNat (x ++ ⟨#[b]⟩) = out ++ [x ++ ⟨#[b]⟩] := by
        have : ((((out ++ [x]).length : Nat) : Int) - 1).toNat = out.length := by simp
        rw [this]; simp
      rw [show splitStep (c.toNat : Int) (out ++ [x]) b = out ++ [x ++ ⟨#[b]⟩] by unfold splitStep; rw [if_neg (fun h => hb (UInt8.toNat_inj.1 (by omega))), e1, e2], splitTo_spl c l out (x ++ ⟨#[b]⟩)]
      have hne := Dt.spl_ne c l
      rw [Dt.spl, if_neg hb]
      cases hs : Dt.spl c l with
      | nil => exact absurd hs hne
      | cons y r => simp
theorem map_inj {a b : List ByteArray} (h : a.map (·.data.toList) = b.map (·.data.toList)) : a = b := by
  induction a generalizing b with
  | nil => cases b with
    | nil => rfl
    | cons y b => simp at h
  | cons x a ih =>
    cases b with
    | nil => simp at h
    | cons y b =>
      simp only [List.map_cons, List.cons.injEq] at h
      rw [ba_ext h.1, ih h.2]
/-- Both ways to split give the same parts. -/
theorem split_same (c : UInt8) (s : ByteArray) (h : s.size ≤ 1000000) : ∃ P, Ext.strings_Split.f s ⟨#[c]⟩ = some P ∧ Ext.decorumref04_split.f s (c.toNat : Int) = some P ∧ P.map (·.data.toList) = Dt.spl c s.data.toList := by
  have h1 := Dt.splitB_spl c s
  have h2 := splitTo_spl c s.data.toList [] ⟨#[]⟩
  have hne := Dt.spl_ne c s.data.toList
  refine ⟨_, ?_, ?_, h1⟩
  · unfold Ext.strings_Split.f
    rw [if_pos ⟨by omega, by show 1 ≤ 1; omega⟩]
  · unfold Ext.decorumref04_split.f
    rw [if_pos (by omega)]
    congr 1
    refine map_inj ?_
    rw [h1]
    unfold splitTo
    refine h2.trans ?_
    cases hs : Dt.spl c s.data.toList with
    | nil => exact absurd hs hne
    | cons y r => simp
theorem spl_wgt (c : UInt8) : ∀ (l : List UInt8) (P : List ByteArray), P.map (·.data.toList) = Dt.spl c l → wgt P = l.length + 1
  | [], P, h => by
    have hl : P.length = 1 := by have := congrArg List.length h; simpa [Dt.spl] using this
    obtain ⟨x, rfl⟩ := List.length_eq_one_iff.1 hl
    · simp [Dt.spl] at h
      have : x.size = 0 := by show x.data.size = 0; rw [h]; rfl
      simp [wgt, this]
  | b :: l, P, h => by
    rw [Dt.spl] at h
    by_cases hb : b = c
    · rw [if_pos hb] at h
      match P, h with
      | x :: P', h =>
        simp only [List.map_cons, List.cons.injEq] at h
        have : x.size = 0 := by show x.data.size = 0; have := congrArg List.length h.1; simpa using this
        have ih := spl_wgt c l P' h.2
        simp only [wgt, this, ih, List.length_cons]; omega
    · rw [if_neg hb] at h
      cases hs : Dt.spl c l with
      | nil => exact absurd hs (Dt.spl_ne c l)
      | cons y r =>
        rw [hs] at h
        match P, h with
        | x :: P', h =>
          simp only [List.map_cons, List.cons.injEq] at h
          have hx : x.size = y.length + 1 := by show x.data.size = _; have := congrArg List.length h.1; simpa using this
          have ih := spl_wgt c l (⟨y.toArray⟩ :: P') (by rw [hs, List.map_cons, h.2])
          simp only [wgt] at ih ⊢
          have hy : (⟨y.toArray⟩ : ByteArray).size = y.length := by simp [ByteArray.size]
          rw [hy] at ih
          rw [hx, List.length_cons]; omega
theorem bt_head (b : UInt8) (l : List UInt8) : bt ⟨(b :: l).toArray⟩ 0 = b.toNat := by
  have h : (0 : Int).toNat < (⟨(b :: l).toArray⟩ : ByteArray).size := by show 0 < (b :: l).length; simp
  unfold bt
  rw [dif_pos h]
  rfl
theorem clean_same (s : ByteArray) (h : s.size ≤ 100000) : ∃ T : ByteArray, (∀ k, 10600000 ≤ k → url_Clean.f k s = some T ∧ decorumref04_Clean.f k s = some T) ∧ 0 < T.size ∧ bt T 0 = 47 := by
  obtain ⟨P, h1, h2, h3⟩ := split_same 47 s (by omega)
  have hw := spl_wgt 47 _ P h3
  rw [← Lib.size_eq] at hw
  have hl := wgt_len P
  have hc := cgo_wgt P []
  simp only [wgt] at hc
  refine ⟨finT (finL (cgo P [])), fun k hk => ⟨?_, ?_⟩, ?_, ?_⟩
  · unfold url_Clean.f
    rw [h1]
    simp only [Option.bind_some]
    rw [show (0 : Int) = ((0 : Nat) : Int) from rfl, prog_loop P (by omega) P 0 [] k rfl (by omega) (by omega) (by simp; omega)]
    exact finP_eq _ (by omega)
  · unfold decorumref04_Clean.f
    rw [show (47 : Int) = (((47 : UInt8).toNat : Nat) : Int) from rfl, h2]
    simp only [Option.bind_some]
    exact ref_loop P (by omega) P 0 [] k rfl (by omega) (by omega) (by simp [wgt]; omega)
  · unfold finT
    split
    · rename_i hh
      cases he : finL (cgo P []) with
      | nil => rw [he] at hh; simp at hh
      | cons b l => simp [ByteArray.size]
    · simp [ByteArray.size]
  · unfold finT
    split
    · rename_i hh
      cases he : finL (cgo P []) with
      | nil => rw [he] at hh; simp at hh
      | cons b l =>
        rw [he] at hh
        simp at hh
        subst hh
        exact bt_head _ _
    · exact bt_head _ _
theorem awake_true : decorumlaw05_awake.f = some true := by decide +kernel
theorem urlCleans : decorumlaw05_UrlCleans.Pure := by
  intro a _
  refine ⟨10600000, ?_⟩
  unfold decorumlaw05_UrlCleans.f
  have key : ∀ b : ByteArray, b.size ≤ 300 → ((XB.url_Clean.f 10600000 b).bind fun t171 => ((decorumlaw05_awake.f).bind fun t172 => (if t172 = true then ((decorumref04_Clean.f 10600000 b).bind fun t173 => (if t171.toList = t173.toList then (if (t171.size : Int) > 0 then (if 0 < (t171.size : Int) then (some ((bt t171 0) == 47)) else (none)) else (some false)) else (some false))) else (some false)))) = some true := by
    intro b hb
    obtain ⟨T, hT, h0, h1⟩ := clean_same b (by omega)
    rw [(hT _ (Nat.le_refl _)).1, awake_true]
    simp only [Option.bind_some, if_true]
    rw [(hT _ (Nat.le_refl _)).2]
    simp only [Option.bind_some, if_true]
    rw [if_pos (by omega), if_pos (by omega), h1]
    rfl
  by_cases h : (a.size : Int) > 300
  · rw [if_pos h, if_pos (by omega), if_pos (by omega)]
    exact key _ (by rw [ByteArray.size_extract]; omega)
  · rw [if_neg h]
    exact key a (by omega)
end Go.Proofs.YtpnofnmecjagcaaDoor.Ur
