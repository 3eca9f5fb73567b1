import Derived.Test.YtpnofnmecjagcaaDoorKkUrE
/- The statement UrlParts. -/
namespace Go.Proofs.YtpnofnmecjagcaaDoor.Ur
open Go.RowKit Go.Proofs.YtpnofnmecjagcaaDoorW.PrintWords Go.Proofs.YtpnofnmecjagcaaDoorW.PrintMore Go.Proofs.YtpnofnmecjagcaaDoor.Ext Go.Proofs.YtpnofnmecjagcaaDoor.XA Go.Proofs.YtpnofnmecjagcaaDoor.XB Go.Proofs.YtpnofnmecjagcaaDoor.XC
set_option linter.unusedVariables false
set_option linter.unusedSimpArgs false
theorem digits_l0 : ∀ (k : Nat) (u : Nat) (out : List UInt8), 1 ≤ k → u < 10 ^ k → u ≤ 9223372036854775807 → out.length + k ≤ 1000 → decorumref04_Digits.l0 k (u : Int) ⟨out.toArray⟩ = some ⟨(Lib.decDigits u ++ out).toArray⟩
  | 0, u, out, hk, _, _, _ => by omega
  | k + 1, u, out, hk, hu, hm, hl => by
    have h1 : Int.tmod (u : Int) 10 = ((u % 10 : Nat) : Int) := by rw [Int.tmod_eq_emod_of_nonneg (by omega)]; omega
    have h2 : Int.tdiv (u : Int) 10 = ((u / 10 : Nat) : Int) := by rw [Int.tdiv_eq_ediv_of_nonneg (by omega)]; omega
    have hd : u % 10 < 10 := by omega
    have h3 : wrap64 (48 + ((u % 10 : Nat) : Int)) % 256 = ((48 + u % 10 : Nat) : Int) := by rw [w64 (by omega)]; omega
    have h4 : strOfNums [((48 + u % 10 : Nat) : Int)] = ⟨([UInt8.ofNat (48 + u % 10)] : List UInt8).toArray⟩ := by
      have : ∀ d : Fin 10, strOfNums [((48 + d.val : Nat) : Int)] = ⟨([UInt8.ofNat (48 + d.val)] : List UInt8).toArray⟩ := by decide
      exact this ⟨u % 10, hd⟩
    rw [decorumref04_Digits.l0, h1, h2, h3, w64 (by omega)]
    simp only [Option.bind_some]
    rw [h4, app_mk, sz, sz, if_pos (by simp; omega)]
    by_cases hz : u / 10 = 0
    · rw [if_pos (by omega), Lib.decDigits, dif_pos (by omega), show u % 10 = u by omega]
    · rw [if_neg (by omega)]
      have hk1 : 1 ≤ k := by
        cases k with
        | zero => simp at hu; omega
        | succ k => omega
      rw [digits_l0 k (u / 10) _ hk1 (by rw [Nat.pow_succ] at hu; omega) (by omega) (by simp; omega)]
      have e : Lib.decDigits u = Lib.decDigits (u / 10) ++ [UInt8.ofNat (48 + u % 10)] := by rw [Lib.decDigits, dif_neg (by omega)]
      rw [e]
      simp
theorem digits_eq (p : Int) (h : 0 ≤ p ∧ p ≤ 9223372036854775807) (k : Nat) (hk : k = 20) : decorumref04_Digits.f k p = some ⟨(Lib.itoa p).toArray⟩ := by
  subst hk
  obtain ⟨u, rfl⟩ := Int.eq_ofNat_of_zero_le h.1
  unfold decorumref04_Digits.f
  have := digits_l0 20 u [] (by omega) (by omega) (by omega) (by simp)
  rw [Lib.itoa_nonneg]
  simpa using this
theorem refkey_eq (sc host : List UInt8) (port : Int) (P Q : ByteArray) (b : Bool) (h1 : sc.length ≤ 100000) (h2 : host.length ≤ 100000) (hp : 0 ≤ port ∧ port ≤ 9223372036854775807) :
    decorumref04_Key.f 20 ⟨sc.toArray⟩ ⟨host.toArray⟩ port P Q b = some ⟨(keyL sc host port).toArray⟩ := by
  have hi := itoa_len port (by omega)
  have e3 : (⟨#[58, 47, 47]⟩ : ByteArray) = ⟨([58, 47, 47] : List UInt8).toArray⟩ := rfl
  have e1 : (⟨#[58]⟩ : ByteArray) = ⟨([58] : List UInt8).toArray⟩ := rfl
  have et : (⟨sc.toArray⟩ : ByteArray).toList = sc := by rw [toList_eq]
  unfold decorumref04_Key.f
  rw [e3, e1, app_mk, app_mk, sz, sz, sz, if_pos (by omega), if_pos (by simp; omega), et, digits_eq port hp 20 rfl]
  simp only [Option.bind_some]
  unfold keyL usualS
  rw [et, app_mk, app_mk, sz, sz, sz]
  by_cases hs : sc = [104, 116, 116, 112, 115]
  · rw [if_pos hs, if_pos hs]
    by_cases hu : port = 443
    · rw [if_pos hu, if_pos hu]; congr 2; simp
    · rw [if_neg hu, if_neg hu, if_pos (by omega), if_pos (by simp; omega)]; congr 2; simp
  · rw [if_neg hs, if_neg hs]
    by_cases hu : port = 80
    · rw [if_pos hu, if_pos hu]; congr 2; simp
    · rw [if_neg hu, if_neg hu, if_pos (by omega), if_pos (by simp; omega)]; congr 2; simp
theorem reftarget_eq (S H : ByteArray) (port : Int) (path q : List UInt8) (b : Bool) (h1 : path.length ≤ 1000000) (h2 : q.length ≤ 1000000) :
    decorumref04_Target.f S H port ⟨path.toArray⟩ ⟨q.toArray⟩ b = some ⟨(targetL path q b).toArray⟩ := by
  have e1 : (⟨#[63]⟩ : ByteArray) = ⟨([63] : List UInt8).toArray⟩ := rfl
  unfold decorumref04_Target.f targetL
  cases b with
  | false => simp
  | true =>
    rw [if_pos rfl, e1, app_mk, app_mk, sz, sz, sz, if_pos (by omega), if_pos (by simp; omega)]
    congr 2
    simp
/-- The statement, of any parts. -/
theorem urlParts (sc host : ByteArray) (port : Int) (path q : ByteArray) (b : Bool) (h1 : sc.size ≤ 140737488351232) (h2 : host.size ≤ 140737488351232) (h3 : path.size ≤ 140737488351232) (h4 : q.size ≤ 140737488351232)
    (hp : -9223372036854775808 ≤ port ∧ port ≤ 9223372036854775807) : decorumlaw05_UrlParts.f 21 sc host port path q b = some true := by
  unfold decorumlaw05_UrlParts.f
  have skip : decorumlaw05_UrlParts.j0 21 true sc host port path q b = some true := by
    rw [decorumlaw05_UrlParts.j0, if_pos rfl, awake_true]; rfl
  rw [w64 (x := (host.size : Int) + (path.size : Int)) (by omega), w64 (x := (host.size : Int) + (path.size : Int) + (q.size : Int)) (by omega), w64 (by omega)]
  by_cases hz : (host.size : Int) + (path.size : Int) + (q.size : Int) + (sc.size : Int) > 2000
  · rw [if_pos hz]; exact skip
  · rw [if_neg hz]
    by_cases hn : port < 0
    · rw [decide_eq_true hn]; exact skip
    · rw [decide_eq_false hn, decorumlaw05_UrlParts.j0, if_neg (by decide), awake_true]
      obtain ⟨S, rfl⟩ : ∃ l : List UInt8, sc = ⟨l.toArray⟩ := ⟨sc.data.toList, rfl⟩
      obtain ⟨H, rfl⟩ : ∃ l : List UInt8, host = ⟨l.toArray⟩ := ⟨host.data.toList, rfl⟩
      obtain ⟨P, rfl⟩ : ∃ l : List UInt8, path = ⟨l.toArray⟩ := ⟨path.data.toList, rfl⟩
      obtain ⟨Q, rfl⟩ : ∃ l : List UInt8, q = ⟨l.toArray⟩ := ⟨q.data.toList, rfl⟩
      rw [sz, sz, sz, sz] at hz
      simp only [Option.bind_some, if_true]
      rw [key_eq S H port _ _ _ (by omega) (by omega) hp, refkey_eq S H port _ _ _ (by omega) (by omega) (by omega)]
      simp only [Option.bind_some, if_true]
      rw [target_eq _ _ _ P Q b (by omega) (by omega), reftarget_eq _ _ _ P Q b (by omega) (by omega)]
      simp only [Option.bind_some, if_true]
      rw [string_eq S H port P Q b (by omega) (by omega) hp (by omega) (by omega)]
      simp only [Option.bind_some]
      have hi := itoa_len port hp
      have hk : (keyL S H port).length ≤ 300000 := by unfold keyL; split <;> simp <;> omega
      have ht : (targetL P Q b).length ≤ 3000000 := by unfold targetL; split <;> simp <;> omega
      rw [sz, sz, if_pos (by omega), app_mk, strL_eq]
      simp
theorem urlPartsW.walk (_P : True) (sc host : ByteArray) (port : Int) (path q : ByteArray) (b : Bool) (w : World) (hG : Gl w) (h1 : sc.size ≤ 140737488351232) (h2 : host.size ≤ 140737488351232) (hp : (Lit.int .i64 port).wf = true) (h3 : path.size ≤ 140737488351232) (h4 : q.size ≤ 140737488351232) :
    Calls Tryd.prog 3 #[.agg #[.string sc, .string host, .int .i64 port, .string path, .string q, .bool b]] w fun e w' => e = .returned (.bool true) ∧ Below w.heap.size w w' := by
  have hw : -9223372036854775808 ≤ port ∧ port ≤ 9223372036854775807 := by
    simp [Lit.wf, IntKind.min, IntKind.max, IntKind.signed, IntKind.bits] at hp
    omega
  exact XC.decorumlaw05_UrlParts.calls 21 sc host port path q b true w hG (urlParts sc host port path q b h1 h2 h3 h4 hw)
end Go.Proofs.YtpnofnmecjagcaaDoor.Ur
