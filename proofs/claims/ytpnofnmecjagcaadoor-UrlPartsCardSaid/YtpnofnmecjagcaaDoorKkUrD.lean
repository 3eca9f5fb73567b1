import Derived.Test.YtpnofnmecjagcaaDoorKkUrC
import Derived.Lib.ItoaLen
/- The statement UrlKeys. -/
namespace Go.Proofs.YtpnofnmecjagcaaDoor.Ur
open Go.RowKit Go.Proofs.YtpnofnmecjagcaaDoorW.PrintWords Go.Proofs.YtpnofnmecjagcaaDoorW.PrintMore Go.Proofs.YtpnofnmecjagcaaDoor.Ext Go.Proofs.YtpnofnmecjagcaaDoor.XA Go.Proofs.YtpnofnmecjagcaaDoor.XB Go.Proofs.YtpnofnmecjagcaaDoor.XC
set_option linter.unusedVariables false
set_option linter.unusedSimpArgs false
theorem indexByte_split (c : UInt8) : ∀ l : List UInt8, (c ∉ l ∧ Lib.indexByte l c = -1) ∨ ∃ x y, l = x ++ c :: y ∧ c ∉ x ∧ Lib.indexByte l c = (x.length : Int)
  | [] => Or.inl ⟨by simp, rfl⟩
  | b :: l => by
    by_cases hb : b = c
    · subst hb
      exact Or.inr ⟨[], l, rfl, by simp, by simp [Lib.indexByte]⟩
    · rcases indexByte_split c l with ⟨h1, h2⟩ | ⟨x, y, h1, h2, h3⟩
      · refine Or.inl ⟨by simp [Ne.symm hb, h1], ?_⟩
        simp [Lib.indexByte, hb, h2]
      · refine Or.inr ⟨b :: x, y, by rw [h1]; rfl, by simp [Ne.symm hb, h2], ?_⟩
        simp only [Lib.indexByte, List.length_cons, h3]
        rw [if_neg (by simpa using hb), if_neg (by simp)]
        omega
theorem cut_one (c : UInt8) (l : List UInt8) : (c ∉ l ∧ Lib.cut l [c] = (l, [], false)) ∨ ∃ x y, l = x ++ c :: y ∧ c ∉ x ∧ Lib.cut l [c] = (x, y, true) := by
  rcases indexByte_split c l with ⟨h1, h2⟩ | ⟨x, y, h1, h2, h3⟩
  · refine Or.inl ⟨h1, ?_⟩
    unfold Lib.cut
    rw [Lib.index_one, h2, if_neg (by omega)]
  · refine Or.inr ⟨x, y, h1, h2, ?_⟩
    unfold Lib.cut
    rw [Lib.index_one, h3, if_pos (by omega), h1]
    have e : ((x.length : Int)).toNat = x.length := by omega
    rw [e]
    simp
theorem sgn_ne (n : Nat) (h : n < 16) : sgn n ≠ 63 := by
  have : ∀ n : Fin 16, sgn n.val ≠ 63 := by decide
  exact this ⟨n, h⟩
theorem cod_ne (c : UInt8) : 63 ∉ cod c := by
  unfold cod
  have h1 : c.toNat / 16 < 16 := by have := c.toNat_lt; omega
  have h2 : c.toNat % 16 < 16 := by omega
  intro h
  simp only [List.mem_cons, List.not_mem_nil, or_false] at h
  rcases h with h | h | h
  · exact absurd h (by decide)
  · exact sgn_ne _ h1 h.symm
  · exact sgn_ne _ h2 h.symm
theorem outF_ne (c : UInt8) : 63 ∉ outF c := by
  unfold outF
  cases hf : freeB c with
  | true =>
    simp only [if_true, List.mem_singleton]
    rintro rfl
    exact absurd hf (by decide)
  | false => simpa using cod_ne c
theorem normL_ne : ∀ (n : Nat) (l r : List UInt8), l.length ≤ n → 63 ∉ l → normL l = some r → 63 ∉ r
  | _, [], r, hn, hl, h => by rw [show normL [] = some [] from rfl] at h; rw [← Option.some.inj h]; simp
  | 0, c :: l, r, hn, hl, h => by simp at hn
  | n + 1, c :: l, r, hn, hl, h => by
    rw [normL_cons] at h
    simp only [List.mem_cons, not_or] at hl
    rw [List.length_cons] at hn
    split at h
    · unfold normT at h
      split at h
      · rename_i a b r'
        split at h
        · obtain ⟨x, hx, rfl⟩ := Option.map_eq_some_iff.1 h
          simp only [List.length_cons] at hn
          simp only [List.mem_cons, not_or] at hl
          have ih := normL_ne n r' x (by omega) hl.2.2.2 hx
          simp only [List.mem_append, not_or]
          exact ⟨outF_ne _, ih⟩
        · cases h
      · cases h
    · obtain ⟨x, hx, rfl⟩ := Option.map_eq_some_iff.1 h
      have ih := normL_ne n l x (by omega) hl.2 hx
      simp only [List.mem_append, not_or]
      refine ⟨?_, ih⟩
      unfold outP
      split
      · simpa using hl.1
      · exact cod_ne c
/-- A host's signs: small letters, digits, hyphens, dots. -/
theorem name_signs (l : List UInt8) (h : nameB l = true) : ∀ b ∈ l, b ≠ 58 ∧ b ≠ 47 := by
  unfold nameB at h
  have hall : (Dt.spl 46 l).all labB = true := by simp at h; simpa using h.1
  have cover : ∀ (l : List UInt8) (b : UInt8), b ∈ l → b = 46 ∨ ∃ x ∈ Dt.spl 46 l, b ∈ x := by
    intro l
    induction l with
    | nil => intro b hb; simp at hb
    | cons a l ih =>
      intro b hb
      rw [Dt.spl]
      by_cases ha : a = 46
      · rw [if_pos ha]
        rcases List.mem_cons.1 hb with rfl | hb
        · exact Or.inl ha
        · rcases ih b hb with h | ⟨x, hx, hb⟩
          · exact Or.inl h
          · exact Or.inr ⟨x, List.mem_cons_of_mem _ hx, hb⟩
      · rw [if_neg ha]
        cases hs : Dt.spl 46 l with
        | nil => exact absurd hs (Dt.spl_ne 46 l)
        | cons y r =>
          rw [hs] at ih
          rcases List.mem_cons.1 hb with rfl | hb
          · exact Or.inr ⟨_, List.mem_cons_self, List.mem_cons_self⟩
          · rcases ih b hb with h | ⟨x, hx, hb⟩
            · exact Or.inl h
            · rcases List.mem_cons.1 hx with rfl | hx
              · exact Or.inr ⟨_, List.mem_cons_self, List.mem_cons_of_mem _ hb⟩
              · exact Or.inr ⟨x, List.mem_cons_of_mem _ hx, hb⟩
  intro b hb
  rcases cover l b hb with rfl | ⟨x, hx, hb⟩
  · decide
  · have h1 := List.all_eq_true.1 hall x hx
    unfold labB at h1
    simp only [Bool.and_eq_true] at h1
    have h2 := List.all_eq_true.1 h1.1 b hb
    have h3 := (lab_iff b).1 h2
    constructor <;> (rintro rfl; revert h3; decide)
/-! ### numbers' digits -/
def dval (l : List UInt8) : Nat := l.foldl (fun a b => 10 * a + (b.toNat - 48)) 0
theorem digits_facts : ∀ (n u : Nat), u ≤ n → dval (Lib.decDigits u) = u ∧ ∀ b ∈ Lib.decDigits u, 48 ≤ b.toNat ∧ b.toNat ≤ 57
  | n, u, h => by
    have hd : ∀ d, d < 10 → (UInt8.ofNat (48 + d)).toNat = 48 + d := fun d hd => by
      rw [UInt8.toNat_ofNat']; omega
    by_cases h10 : u < 10
    · rw [Lib.decDigits, dif_pos h10]
      refine ⟨?_, fun b hb => ?_⟩
      · show 10 * 0 + ((UInt8.ofNat (48 + u)).toNat - 48) = u
        rw [hd u h10]; omega
      · rw [List.mem_singleton.1 hb, hd u h10]; omega
    · match n, h with
      | 0, h => omega
      | n + 1, h =>
        obtain ⟨ih1, ih2⟩ := digits_facts n (u / 10) (by omega)
        rw [Lib.decDigits, dif_neg h10]
        have hm : u % 10 < 10 := by omega
        refine ⟨?_, fun b hb => ?_⟩
        · unfold dval at ih1 ⊢
          rw [List.foldl_append, ih1]
          show 10 * (u / 10) + ((UInt8.ofNat (48 + u % 10)).toNat - 48) = u
          rw [hd _ hm]; omega
        · rcases List.mem_append.1 hb with hb | hb
          · exact ih2 b hb
          · rw [List.mem_singleton.1 hb, hd _ hm]; omega
theorem itoa_facts (n : Int) (h : 0 ≤ n) : (dval (Lib.itoa n) : Int) = n ∧ ∀ b ∈ Lib.itoa n, b ≠ 47 := by
  obtain ⟨u, rfl⟩ := Int.eq_ofNat_of_zero_le h
  rw [Lib.itoa_nonneg]
  obtain ⟨h1, h2⟩ := digits_facts u u (Nat.le_refl _)
  refine ⟨by rw [h1], fun b hb e => ?_⟩
  have := h2 b hb
  rw [e] at this
  revert this; decide
/-! ### texts that begin with other texts -/
theorem pre_unique (S : UInt8 → Prop) : ∀ (x x' R R' : List UInt8), (∀ b ∈ x, ¬ S b) → (∀ b ∈ x', ¬ S b) → (∃ b t, R = b :: t ∧ S b) → (∃ b t, R' = b :: t ∧ S b) → x ++ R = x' ++ R' → x = x' ∧ R = R'
  | [], [], R, R', _, _, _, _, h => ⟨rfl, h⟩
  | [], c :: x', R, R', _, h2, ⟨b, t, hR, hb⟩, _, h => by
    rw [hR] at h
    simp only [List.nil_append, List.cons_append, List.cons.injEq] at h
    exact absurd (h.1 ▸ hb) (h2 c List.mem_cons_self)
  | c :: x, [], R, R', h1, _, _, ⟨b, t, hR, hb⟩, h => by
    rw [hR] at h
    simp only [List.nil_append, List.cons_append, List.cons.injEq] at h
    exact absurd (h.1 ▸ hb) (h1 c List.mem_cons_self)
  | c :: x, d :: x', R, R', h1, h2, h3, h4, h => by
    simp only [List.cons_append, List.cons.injEq] at h
    obtain ⟨e1, e2⟩ := pre_unique S x x' R R' (fun b hb => h1 b (List.mem_cons_of_mem _ hb)) (fun b hb => h2 b (List.mem_cons_of_mem _ hb)) h3 h4 h.2
    exact ⟨by rw [h.1, e1], e2⟩
def strL (sc host : List UInt8) (port : Int) (path q : List UInt8) (asked : Bool) : List UInt8 :=
  sc ++ ([58, 47, 47] ++ (host ++ ((if port = usualS ⟨sc.toArray⟩ then [] else 58 :: Lib.itoa port) ++ (path ++ (if asked then 63 :: q else [])))))
structure Good (sc host : List UInt8) (port : Int) (path q : List UInt8) (asked : Bool) : Prop where
  sch : isHttp sc
  hst : ∀ b ∈ host, b ≠ 58 ∧ b ≠ 47
  prt : 1 ≤ port ∧ port ≤ 65535
  pth : ∃ t, path = 47 :: t
  pn : 63 ∉ path
  ask : asked = false → q = []
  hs : host.length ≤ 100
  ps : path.length ≤ 10000
  qs : q.length ≤ 10000
theorem port_unique (us p p' : Int) (path path' T T' : List UInt8) (hp : 1 ≤ p) (hp' : 1 ≤ p') (h1 : ∃ t, path = 47 :: t) (h2 : ∃ t, path' = 47 :: t)
    (h : (if p = us then [] else 58 :: Lib.itoa p) ++ (path ++ T) = (if p' = us then [] else 58 :: Lib.itoa p') ++ (path' ++ T')) : p = p' ∧ path ++ T = path' ++ T' := by
  obtain ⟨t, rfl⟩ := h1
  obtain ⟨t', rfl⟩ := h2
  by_cases a : p = us <;> by_cases b : p' = us
  · rw [if_pos a, if_pos b] at h
    exact ⟨by rw [a, b], h⟩
  · rw [if_pos a, if_neg b] at h
    simp at h
  · rw [if_neg a, if_pos b] at h
    simp at h
  · rw [if_neg a, if_neg b] at h
    simp only [List.cons_append, List.cons.injEq, true_and] at h
    obtain ⟨i1, i2⟩ := itoa_facts p (by omega)
    obtain ⟨j1, j2⟩ := itoa_facts p' (by omega)
    obtain ⟨e1, e2⟩ := pre_unique (· = 47) _ _ _ _ i2 j2 ⟨47, _, rfl, rfl⟩ ⟨47, _, rfl, rfl⟩ h
    rw [e1] at i1
    exact ⟨i1.symm.trans j1, e2⟩
theorem ask_unique (path path' q q' : List UInt8) (a a' : Bool) (h1 : 63 ∉ path) (h2 : 63 ∉ path') (hq : a = false → q = []) (hq' : a' = false → q' = [])
    (h : path ++ (if a then 63 :: q else []) = path' ++ (if a' then 63 :: q' else [])) : path = path' ∧ q = q' ∧ a = a' := by
  cases a <;> cases a'
  · simp only [Bool.false_eq_true, if_false, List.append_nil] at h
    exact ⟨h, by rw [hq rfl, hq' rfl], rfl⟩
  · simp only [Bool.false_eq_true, if_false, if_true, List.append_nil] at h
    exact absurd (by rw [h]; simp) h1
  · simp only [Bool.false_eq_true, if_false, if_true, List.append_nil] at h
    exact absurd (by rw [← h]; simp) h2
  · simp only [if_true] at h
    obtain ⟨e1, e2⟩ := pre_unique (· = 63) _ _ _ _ (fun b hb e => h1 (e ▸ hb)) (fun b hb e => h2 (e ▸ hb)) ⟨63, _, rfl, rfl⟩ ⟨63, _, rfl, rfl⟩ h
    simp only [List.cons.injEq, true_and] at e2
    exact ⟨e1, e2, rfl⟩
theorem strL_inj {sc host : List UInt8} {port : Int} {path q : List UInt8} {asked : Bool} {sc' host' : List UInt8} {port' : Int} {path' q' : List UInt8} {asked' : Bool}
    (g : Good sc host port path q asked) (g' : Good sc' host' port' path' q' asked') (h : strL sc host port path q asked = strL sc' host' port' path' q' asked') :
    sc = sc' ∧ host = host' ∧ port = port' ∧ path = path' ∧ q = q' ∧ asked = asked' := by
  unfold strL at h
  have hsc : sc = sc' := by
    rcases g.sch with rfl | rfl <;> rcases g'.sch with rfl | rfl <;> first | rfl | (exfalso; simp at h)
  subst hsc
  have h := List.append_cancel_left (List.append_cancel_left h)
  have st : ∀ (p us : Int) (path T : List UInt8), (∃ t, path = 47 :: t) → ∃ b t, ((if p = us then [] else 58 :: Lib.itoa p) ++ (path ++ T)) = b :: t ∧ (b = 58 ∨ b = 47) := by
    intro p us path T ⟨t, ht⟩
    by_cases a : p = us
    · rw [if_pos a, ht]; exact ⟨47, _, rfl, Or.inr rfl⟩
    · rw [if_neg a]; exact ⟨58, _, rfl, Or.inl rfl⟩
  obtain ⟨e1, h⟩ := pre_unique (fun b => b = 58 ∨ b = 47) _ _ _ _ (fun b hb e => by rcases e with e | e; exact (g.hst b hb).1 e; exact (g.hst b hb).2 e) (fun b hb e => by rcases e with e | e; exact (g'.hst b hb).1 e; exact (g'.hst b hb).2 e) (st _ _ _ _ g.pth) (st _ _ _ _ g'.pth) h
  obtain ⟨e2, h⟩ := port_unique _ _ _ _ _ _ _ g.prt.1 g'.prt.1 g.pth g'.pth h
  obtain ⟨e3, e4, e5⟩ := ask_unique _ _ _ _ _ _ g.pn g'.pn g.ask g'.ask h
  exact ⟨rfl, e1, e2, e3, e4, e5⟩
/-! ### what Parse hands back is good -/
theorem host_good (us : Int) (hu : us = 80 ∨ us = 443) (l : List UInt8) (h : (hostS us l).1 = true) : nameB (hostS us l).2.1 = true ∧ 1 ≤ (hostS us l).2.2 ∧ (hostS us l).2.2 ≤ 65535 := by
  unfold hostS at h ⊢
  split
  · rename_i h0
    rw [if_pos h0] at h
    have hr := port_range (l.drop ((Lib.indexByte l 58).toNat + 1))
    split
    · rename_i hp
      rw [if_pos hp] at h
      cases h
    · rename_i hp
      rw [if_neg hp] at h
      refine ⟨h, ?_, hr.2⟩
      show 1 ≤ portS _
      omega
  · rename_i h0
    rw [if_neg h0] at h
    refine ⟨h, ?_, ?_⟩
    · show 1 ≤ us
      omega
    · show us ≤ 65535
      omega
theorem name_len (l : List UInt8) (h : nameB l = true) : l.length ≤ 100 := by
  unfold nameB at h
  simp at h
  exact h.2
theorem clean_size (s : ByteArray) : (cleanB s).data.toList.length ≤ 2 * s.size + 3 := by
  obtain ⟨r, h1, h2⟩ := finT_head (finL (cgo (Lib.splitB ⟨#[47]⟩ 0 (Lib.countB s ⟨#[47]⟩) s) []))
  have hl := finL_len (cgo (Lib.splitB ⟨#[47]⟩ 0 (Lib.countB s ⟨#[47]⟩) s) [])
  have hc := cgo_wgt (Lib.splitB ⟨#[47]⟩ 0 (Lib.countB s ⟨#[47]⟩) s) []
  have hw := spl_wgt 47 _ _ (Dt.splitB_spl 47 s)
  rw [← Lib.size_eq] at hw
  simp only [wgt] at hc
  have h1' : (cleanB s).data.toList = 47 :: r := h1
  rcases h2 with h2 | h2
  · rw [h1'.trans h1.symm, h2]; omega
  · rw [h1', List.length_cons, h2]; omega
theorem parts_good (l : List UInt8) (hl : l.length ≤ 256) (p : ByteArray) (q : List UInt8) (b : Bool) (h : partsL l = some (p, q, b)) :
    (∃ t, p.data.toList = 47 :: t) ∧ 63 ∉ p.data.toList ∧ (b = false → q = []) ∧ p.data.toList.length ≤ 10000 ∧ q.length ≤ 10000 := by
  have hcl := cut_len l [63]
  unfold partsL at h
  obtain ⟨C, hC⟩ : ∃ C, Lib.cut l [63] = C := ⟨_, rfl⟩
  rw [hC] at h hcl
  cases hp : normL C.1 with
  | none => rw [hp] at h; simp at h
  | some x =>
    cases hq : normL C.2.1 with
    | none => rw [hp, hq] at h; simp at h
    | some y =>
      rw [hp, hq] at h
      simp only [Option.some.injEq, Prod.mk.injEq] at h
      obtain ⟨rfl, rfl, rfl⟩ := h
      have hx := normL_len _ _ _ (Nat.le_refl _) hp
      have hy := normL_len _ _ _ (Nat.le_refl _) hq
      have h1 : 63 ∉ C.1 ∧ (C.2.2 = false → C.2.1 = []) := by
        rcases cut_one 63 l with ⟨a, e⟩ | ⟨x, y, _, a, e⟩
        · rw [e] at hC; rw [← hC]; exact ⟨a, fun _ => rfl⟩
        · rw [e] at hC; rw [← hC]; exact ⟨a, fun h => by simp at h⟩
      have hs := clean_size ⟨x.toArray⟩
      rw [sz] at hs
      refine ⟨clean_head _, fun hm => ?_, fun hb => ?_, by omega, by omega⟩
      · rcases clean_mem _ 63 hm with h | h
        · exact absurd h (by decide)
        · exact normL_ne _ _ _ (Nat.le_refl _) h1.1 hp (by simpa using h)
      · rw [h1.2 hb, show normL [] = some [] from rfl] at hq
        exact (Option.some.inj hq).symm
theorem parse_good (s : List UInt8) (h : (parseS s).2.2.2.2.2.2 = 0) : ∃ (sc host path q : List UInt8) (port : Int) (b : Bool), parseS s = (⟨sc.toArray⟩, ⟨host.toArray⟩, port, ⟨path.toArray⟩, ⟨q.toArray⟩, b, 0) ∧ Good sc host port path q b := by
  unfold parseS at h ⊢
  split
  · rename_i h1
    rw [if_pos h1] at h
    exact absurd h (by decide)
  · rename_i h1
    rw [if_neg h1] at h
    split
    · rename_i h2
      rw [if_pos h2] at h
      have hcl := cut_len s [58, 47, 47]
      obtain ⟨C, hC⟩ : ∃ C, Lib.cut s [58, 47, 47] = C := ⟨_, rfl⟩
      rw [hC] at h h2 hcl ⊢
      unfold bodyS at h ⊢
      simp only at h ⊢
      obtain ⟨H, hH⟩ : ∃ H, hostS (usualS ⟨(lowL C.1).toArray⟩) (C.2.1.take (endN C.2.1)) = H := ⟨_, rfl⟩
      rw [hH] at h ⊢
      have hus : usualS ⟨(lowL C.1).toArray⟩ = 80 ∨ usualS ⟨(lowL C.1).toArray⟩ = 443 := by unfold usualS; split <;> simp
      by_cases hb : H.1 = true
      · rw [if_pos hb] at h ⊢
        have hg := host_good _ hus (C.2.1.take (endN C.2.1)) (by rw [hH]; exact hb)
        rw [hH] at hg
        cases hp : partsL (headS (C.2.1.drop (endN C.2.1))) with
        | none => rw [hp] at h; exact absurd (show (2 : Int) = 0 from h) (by decide)
        | some t =>
          obtain ⟨p, q, b⟩ := t
          have hlen : (headS (C.2.1.drop (endN C.2.1))).length ≤ 256 := by
            unfold headS
            have : (C.2.1.drop (endN C.2.1)).length ≤ 256 := by rw [List.length_drop]; omega
            split
            · rw [List.length_take]; omega
            · exact this
          obtain ⟨g1, g2, g3, g4, g5⟩ := parts_good _ hlen p q b hp
          refine ⟨lowL C.1, H.2.1, p.data.toList, q, H.2.2, b, rfl, ⟨h2.2, name_signs _ hg.1, hg.2, g1, g2, g3, name_len _ hg.1, g4, g5⟩⟩
      · rw [if_neg hb] at h
        exact absurd h (by decide)
    · rename_i h2
      rw [if_neg h2] at h
      exact absurd h (by decide)
end Go.Proofs.YtpnofnmecjagcaaDoor.Ur
