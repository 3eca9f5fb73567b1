import Derived.Test.YtpnofnmecjagcaaDoorKkUrD
/- The statement UrlKeys. -/
namespace Go.Proofs.YtpnofnmecjagcaaDoor.Ur
open Go.RowKit Go.Proofs.YtpnofnmecjagcaaDoorW.PrintWords Go.Proofs.YtpnofnmecjagcaaDoorW.PrintMore Go.Proofs.YtpnofnmecjagcaaDoor.Ext Go.Proofs.YtpnofnmecjagcaaDoor.XA Go.Proofs.YtpnofnmecjagcaaDoor.XB Go.Proofs.YtpnofnmecjagcaaDoor.XC
set_option linter.unusedVariables false
set_option linter.unusedSimpArgs false
theorem app_mk (a b : List UInt8) : (⟨a.toArray⟩ : ByteArray) ++ (⟨b.toArray⟩ : ByteArray) = ⟨(a ++ b).toArray⟩ := ba_ext (by simp)
def keyL (sc host : List UInt8) (port : Int) : List UInt8 := sc ++ ([58, 47, 47] ++ (host ++ (if port = usualS ⟨sc.toArray⟩ then [] else 58 :: Lib.itoa port)))
def targetL (path q : List UInt8) (b : Bool) : List UInt8 := path ++ (if b then 63 :: q else [])
theorem strL_eq (sc host : List UInt8) (port : Int) (path q : List UInt8) (b : Bool) : strL sc host port path q b = keyL sc host port ++ targetL path q b := by
  unfold strL keyL targetL
  simp
theorem itoa_len (p : Int) (h : -9223372036854775808 ≤ p ∧ p ≤ 9223372036854775807) : (Lib.itoa p).length ≤ 21 := Lib.itoa_length_le p h.1 h.2
theorem key_eq (sc host : List UInt8) (port : Int) (P Q : ByteArray) (b : Bool) (h1 : sc.length ≤ 100000) (h2 : host.length ≤ 100000) (hp : -9223372036854775808 ≤ port ∧ port ≤ 9223372036854775807) :
    url_Key.f ⟨sc.toArray⟩ ⟨host.toArray⟩ port P Q b = some ⟨(keyL sc host port).toArray⟩ := by
  have hi := itoa_len port hp
  have e3 : (⟨#[58, 47, 47]⟩ : ByteArray) = ⟨([58, 47, 47] : List UInt8).toArray⟩ := rfl
  have e1 : (⟨#[58]⟩ : ByteArray) = ⟨([58] : List UInt8).toArray⟩ := rfl
  unfold url_Key.f
  rw [e3, e1, app_mk, app_mk, sz, sz, sz, if_pos (by omega), if_pos (by simp; omega), usual_eq]
  simp only [Option.bind_some]
  unfold keyL
  by_cases hu : port = usualS ⟨sc.toArray⟩
  · rw [if_pos hu, if_pos hu]
    congr 2
    simp
  · rw [if_neg hu, if_neg hu]
    have ei : Ext.strconv_Itoa.f port = some ⟨(Lib.itoa port).toArray⟩ := by unfold Ext.strconv_Itoa.f; rw [if_pos hp]
    rw [ei]
    simp only [Option.bind_some]
    rw [app_mk, app_mk, sz, sz, sz, if_pos (by omega), if_pos (by simp; omega)]
    congr 2
    simp
theorem target_eq (S H : ByteArray) (port : Int) (path q : List UInt8) (b : Bool) (h1 : path.length ≤ 1000000) (h2 : q.length ≤ 1000000) :
    url_Target.f S H port ⟨path.toArray⟩ ⟨q.toArray⟩ b = some ⟨(targetL path q b).toArray⟩ := by
  have e1 : (⟨#[63]⟩ : ByteArray) = ⟨([63] : List UInt8).toArray⟩ := rfl
  unfold url_Target.f targetL
  cases b with
  | false => simp
  | true =>
    rw [if_pos rfl, e1, app_mk, app_mk, sz, sz, sz, if_pos (by omega), if_pos (by simp; omega)]
    congr 2
    simp
theorem string_eq (sc host : List UInt8) (port : Int) (path q : List UInt8) (b : Bool) (h1 : sc.length ≤ 100000) (h2 : host.length ≤ 100000) (hp : -9223372036854775808 ≤ port ∧ port ≤ 9223372036854775807) (h3 : path.length ≤ 1000000) (h4 : q.length ≤ 1000000) :
    url_String.f ⟨sc.toArray⟩ ⟨host.toArray⟩ port ⟨path.toArray⟩ ⟨q.toArray⟩ b = some ⟨(strL sc host port path q b).toArray⟩ := by
  have hi := itoa_len port hp
  unfold url_String.f
  rw [key_eq sc host port _ _ b h1 h2 hp]
  simp only [Option.bind_some]
  rw [target_eq _ _ _ path q b h3 h4]
  simp only [Option.bind_some]
  have hk : (keyL sc host port).length ≤ 300000 := by unfold keyL; split <;> simp <;> omega
  have ht : (targetL path q b).length ≤ 3000000 := by unfold targetL; split <;> simp <;> omega
  rw [sz, sz, if_pos (by omega), app_mk, strL_eq]
theorem good_sc {sc host : List UInt8} {port : Int} {path q : List UInt8} {b : Bool} (g : Good sc host port path q b) : sc.length ≤ 100000 := by
  rcases g.sch with rfl | rfl <;> decide
theorem urlKeys : decorumlaw05_UrlKeys.Pure := by
  intro a b _ _
  refine ⟨1, ?_⟩
  unfold decorumlaw05_UrlKeys.f
  rw [parse_eq, parse_eq]
  simp only [Option.bind_some]
  have skip : ∀ u v w x y z u' v' w' x' y' z', decorumlaw05_UrlKeys.j0 1 true u v w x y z u' v' w' x' y' z' = some true := fun _ _ _ _ _ _ _ _ _ _ _ _ => by
    rw [decorumlaw05_UrlKeys.j0, if_pos rfl, awake_true]; rfl
  by_cases ha : (parseS a.data.toList).2.2.2.2.2.2 = 0
  · rw [if_pos ha]
    by_cases hb : (parseS b.data.toList).2.2.2.2.2.2 = 0
    · obtain ⟨sc, host, path, q, port, k, e, g⟩ := parse_good _ ha
      obtain ⟨sc', host', path', q', port', k', e', g'⟩ := parse_good _ hb
      rw [e, e']
      simp only
      rw [decorumlaw05_UrlKeys.j0, if_neg (by decide), awake_true]
      simp only [Option.bind_some, if_true]
      have gp := g.prt; have gp' := g'.prt; have gh := g.hs; have gh' := g'.hs; have p1 := g.ps; have p2 := g'.ps; have q1 := g.qs; have q2 := g'.qs
      rw [key_eq sc host port _ _ _ (good_sc g) (by omega) (by omega), key_eq sc host port _ _ _ (good_sc g) (by omega) (by omega)]
      simp only [Option.bind_some, if_true]
      rw [target_eq _ _ _ path' q' k' (by omega) (by omega), target_eq _ _ _ path' q' k' (by omega) (by omega)]
      simp only [Option.bind_some, if_true]
      rw [string_eq sc host port path q k (good_sc g) (by omega) (by omega) (by omega) (by omega), string_eq sc' host' port' path' q' k' (good_sc g') (by omega) (by omega) (by omega) (by omega)]
      simp only [Option.bind_some]
      have et : ∀ l : List UInt8, (⟨l.toArray⟩ : ByteArray).toList = l := fun l => by rw [toList_eq]
      simp only [et]
      congr 1
      rw [beq_iff_eq, Bool.eq_iff_iff]
      simp only [Bool.and_eq_true, beq_iff_eq]
      constructor
      · intro h
        obtain ⟨e1, e2, e3, e4, e5, e6⟩ := strL_inj g g' h
        exact ⟨e1, e2, e3, e4, e5, e6⟩
      · rintro ⟨e1, e2, e3, e4, e5, e6⟩
        rw [e1, e2, e3, e4, e5, e6]
    · rw [show ((parseS b.data.toList).2.2.2.2.2.2 != 0) = true from bne_iff_ne.2 hb]
      exact skip _ _ _ _ _ _ _ _ _ _ _ _
  · rw [if_neg ha]
    exact skip _ _ _ _ _ _ _ _ _ _ _ _
end Go.Proofs.YtpnofnmecjagcaaDoor.Ur
