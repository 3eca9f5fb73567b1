import Derived.Test.YtdlpdgdccoeklaaDoorKwXAx0
import Derived.Test.YtdlpdgdccoeklaaDoorKwXAx1
import Derived.Test.YtdlpdgdccoeklaaDoorKwXAx2
import Derived.Test.YtdlpdgdccoeklaaDoorKwXAx3
import Derived.Test.YtdlpdgdccoeklaaDoorKwXAx4
import Derived.Test.YtdlpdgdccoeklaaDoorKwXAx5
import Derived.Test.YtdlpdgdccoeklaaDoorKwXAx6
import Derived.WalkKit
import Derived.OwnWalk
/- Contracts of the reference's texts of a moment, and of date.Format: written by gen_form.py. -/
namespace Go.Proofs.YtdlpdgdccoeklaaDoor.Ext
open Go.RowKit Go.Proofs.YtdlpdgdccoeklaaDoorW.PrintWords Go.Proofs.YtdlpdgdccoeklaaDoorW.PrintLast Go.Proofs.YtdlpdgdccoeklaaDoorW.PrintMore Go.Proofs.YtdlpdgdccoeklaaDoor.XA
set_option linter.unusedVariables false
set_option linter.unusedSimpArgs false
theorem last_S {P : Program} {md : Region.Mode} {ops : Array Oper} {Q : Exit → Act → World → Prop} {S S' : World → Prop} (h : ∀ w, S' w → S w) {fuel : Nat} {l : Array Bool} {a : Act} {w : World} (hS : S' w)
    (H : wpAnyLast P md ops Q S' [] fuel l a w) : wpAnyLast P md ops Q S [] fuel l a w := by
  induction fuel generalizing l a w with
  | zero => exact H
  | succ fuel ih => exact ⟨H.1, fun i hi => wpOp_mono (fun a' w' hh => ⟨fun _ _ => h _ (hh.1 (by simp) hS), ih (hh.1 (by simp) hS) hh.2⟩) (H.2 i hi)⟩
set_option maxRecDepth 100000 in
set_option maxHeartbeats 4000000 in
theorem format_pos_yes (sec n r y mo d q60 hh ii ss wd m1 : Int) (dn mn dd yy h2 i2 s2 : ByteArray) (sL mL : List ByteArray) (w : World) (hG : Gl w) (e1 : IntKind.i64.wrap (Int.tdiv sec 86400) = n) (e2 : Int.tmod sec 86400 = r) (hneg : decide (r < 0) = false)
    (e5 : IntKind.i64.wrap (Int.tdiv r 3600) = hh) (e6 : IntKind.i64.wrap (Int.tdiv r 60) = q60) (e7 : Int.tmod q60 60 = ii) (e8 : Int.tmod r 60 = ss) (e9 : IntKind.i64.wrap (mo - 1) = m1)
    (hD : Hid (civil_Date.f 20000 n = some (y, mo, d, true))) (hW : Hid (civil_Weekday.f n = some wd)) (hw0 : 0 ≤ wd) (hw1 : wd < (sL.length : Int)) (hm0 : 0 ≤ m1) (hm1 : m1 < (mL.length : Int))
    (hsL : Hid (strings_Fields.f (⟨#[77, 111, 110, 32, 84, 117, 101, 32, 87, 101, 100, 32, 84, 104, 117, 32, 70, 114, 105, 32, 83, 97, 116, 32, 83, 117, 110]⟩ : ByteArray) = some sL)) (hmL : Hid (strings_Fields.f (⟨#[74, 97, 110, 32, 70, 101, 98, 32, 77, 97, 114, 32, 65, 112, 114, 32, 77, 97, 121, 32, 74, 117, 110, 32, 74, 117, 108, 32, 65, 117, 103, 32, 83, 101, 112, 32, 79, 99, 116, 32, 78, 111, 118, 32, 68, 101, 99]⟩ : ByteArray) = some mL)) (hdn : rdOf ByteArray.empty sL wd = dn) (hmn : rdOf ByteArray.empty mL m1 = mn) (sd : dn.size = 3) (sm : mn.size = 3)
    (hp1 : Hid (date_padded.f hh 2 = some h2)) (hp2 : Hid (date_padded.f ii 2 = some i2)) (hp3 : Hid (date_padded.f ss 2 = some s2)) (hpd : Hid (date_padded.f d 2 = some dd)) (hpy : Hid (date_padded.f y 4 = some yy))
    (z1 : h2.size = 2) (z2 : i2.size = 2) (z3 : s2.size = 2) (z4 : dd.size = 2) (z5 : yy.size = 4) :
    Calls Tryd.prog 12 #[.int .i64 sec] w fun e w' => e = .returned (.tuple #[.string (dn ++ ⟨#[44, 32]⟩ ++ dd ++ ⟨#[32]⟩ ++ mn ++ ⟨#[32]⟩ ++ yy ++ ⟨#[32]⟩ ++ (h2 ++ ⟨#[58]⟩ ++ i2 ++ ⟨#[58]⟩ ++ s2) ++ ⟨#[32, 71, 77, 84]⟩), .bool true]) ∧ Below w.heap.size w w' := by
  have HB := Aside0.mk (Below.refl w.heap.size w)
  go_enter Tryd.func12, Tryd.ntmps12
  go_wp2_with (first | (go_at_call 27; (with_reducible refine (civil_Date.calls 20000 _ _ _ _ _ _ hD.out).mono ?_); rintro e w4 ⟨rfl, hb⟩; replace hb := hb.below; replace HB := Aside0.mk (below_step (by repeat (first | (with_reducible first | exact HB.out | apply below_alloc | apply pw_below_drewN | apply below_drew1) | exact HB.out)) hb); clear hb) | (go_at_call 28; (with_reducible refine (date_padded.calls _ _ _ _ ?hg1 hp1.out).mono ?_); (case hg1 => exact Gl.below hG (by repeat (first | (with_reducible first | exact HB.out | apply below_alloc | apply pw_below_drewN | apply below_drew1) | exact HB.out))); rintro e w4 ⟨rfl, hb⟩; replace HB := Aside0.mk (below_step (by repeat (first | (with_reducible first | exact HB.out | apply below_alloc | apply pw_below_drewN | apply below_drew1) | exact HB.out)) hb); clear hb) | (go_at_call 28; (with_reducible refine (date_padded.calls _ _ _ _ ?hg1 hp2.out).mono ?_); (case hg1 => exact Gl.below hG (by repeat (first | (with_reducible first | exact HB.out | apply below_alloc | apply pw_below_drewN | apply below_drew1) | exact HB.out))); rintro e w4 ⟨rfl, hb⟩; replace HB := Aside0.mk (below_step (by repeat (first | (with_reducible first | exact HB.out | apply below_alloc | apply pw_below_drewN | apply below_drew1) | exact HB.out)) hb); clear hb) | (go_at_call 28; (with_reducible refine (date_padded.calls _ _ _ _ ?hg1 hp3.out).mono ?_); (case hg1 => exact Gl.below hG (by repeat (first | (with_reducible first | exact HB.out | apply below_alloc | apply pw_below_drewN | apply below_drew1) | exact HB.out))); rintro e w4 ⟨rfl, hb⟩; replace HB := Aside0.mk (below_step (by repeat (first | (with_reducible first | exact HB.out | apply below_alloc | apply pw_below_drewN | apply below_drew1) | exact HB.out)) hb); clear hb))
  refine start_ (n := 26) (S := fun w' => True) (ds := []) #[false, false, false, false, false, false, false, false, false, false, false, false, false, false, false, false, false, false, false, false, false, false, false, false, false, false] (by kernel_rfl) rfl rfl trivial (fun hHeld => ?_)
  replace HB := Aside0.mk (below_drew1 HB.out)
  generalize World.drew w4 = w_ at  HB hHeld ⊢
  refine pure_ (i := 1) (N := (some 45)) (v := ?_) (a' := ?_) #[false, true, false, false, false, false, false, false, false, false, false, false, false, false, false, false, false, false, false, false, false, false, false, false, false, false] rfl rfl (by kernel_rfl) (fun _ _ _ h => h) (Or.inl ⟨by rfl, ?_⟩) ?_ ?_
  rotate_left
  · intro w'
    go_simp
    with_reducible rfl
  rotate_left
  · simp only [Act.put, List.setIfInBounds_toArray, List.set_cons_zero, List.set_cons_succ, i64_w, i32_w]
    rfl
  refine pure_ (i := 6) (N := (some 50)) (v := ?_) (a' := ?_) #[false, true, false, false, false, false, true, false, false, false, false, false, false, false, false, false, false, false, false, false, false, false, false, false, false, false] rfl rfl (by kernel_rfl) (fun _ _ _ h => h) (Or.inl ⟨by rfl, ?_⟩) ?_ ?_
  rotate_left
  · intro w'
    go_simp
    with_reducible rfl
  rotate_left
  · simp only [Act.put, List.setIfInBounds_toArray, List.set_cons_zero, List.set_cons_succ, i64_w, i32_w]
    rfl
  refine pure_ (i := 11) (N := (some 55)) (v := ?_) (a' := ?_) #[false, true, false, false, false, false, true, false, false, false, false, true, false, false, false, false, false, false, false, false, false, false, false, false, false, false] rfl rfl (by kernel_rfl) (fun _ _ _ h => h) (Or.inl ⟨by rfl, ?_⟩) ?_ ?_
  rotate_left
  · intro w'
    go_simp
    with_reducible rfl
  rotate_left
  · simp only [Act.put, List.setIfInBounds_toArray, List.set_cons_zero, List.set_cons_succ, i64_w, i32_w]
    rfl
  refine pure_ (i := 12) (N := (some 56)) (v := ?_) (a' := ?_) #[false, true, false, false, false, false, true, false, false, false, false, true, true, false, false, false, false, false, false, false, false, false, false, false, false, false] rfl rfl (by kernel_rfl) (fun _ _ _ h => h) (Or.inl ⟨by rfl, ?_⟩) ?_ ?_
  rotate_left
  · intro w'
    go_simp
    with_reducible rfl
  rotate_left
  · simp only [Act.put, List.setIfInBounds_toArray, List.set_cons_zero, List.set_cons_succ, i64_w, i32_w]
    rfl
  refine pure_ (i := 17) (N := (some 61)) (v := ?_) (a' := ?_) #[false, true, false, false, false, false, true, false, false, false, false, true, true, false, false, false, false, true, false, false, false, false, false, false, false, false] rfl rfl (by kernel_rfl) (fun _ _ _ h => h) (Or.inl ⟨by rfl, ?_⟩) ?_ ?_
  rotate_left
  · intro w'
    go_simp
    with_reducible rfl
  rotate_left
  · simp only [Act.put, List.setIfInBounds_toArray, List.set_cons_zero, List.set_cons_succ, i64_w, i32_w]
    rfl
  refine pure_ (i := 21) (N := (some 65)) (v := ?_) (a' := ?_) #[false, true, false, false, false, false, true, false, false, false, false, true, true, false, false, false, false, true, false, false, false, true, false, false, false, false] rfl rfl (by kernel_rfl) (fun _ _ _ h => h) (Or.inl ⟨by rfl, ?_⟩) ?_ ?_
  rotate_left
  · intro w'
    go_simp
    with_reducible rfl
  rotate_left
  · simp only [Act.put, List.setIfInBounds_toArray, List.set_cons_zero, List.set_cons_succ, i64_w, i32_w]
    rfl
  refine one_ (i := 0) (N := (some 44)) #[true, true, false, false, false, false, true, false, false, false, false, true, true, false, false, false, false, true, false, false, false, true, false, false, false, false] rfl rfl (by kernel_rfl) (by decide) (fun K hK => ?_)
  refine goes_ Tryd.func29 (by kernel_rfl) rfl #[.string (⟨#[77, 111, 110, 32, 84, 117, 101, 32, 87, 101, 100, 32, 84, 104, 117, 32, 70, 114, 105, 32, 83, 97, 116, 32, 83, 117, 110]⟩ : ByteArray)] (by rfl) rfl rfl (by (try simp only [List.map_toArray, List.map_cons, List.map_nil]); first | done | rfl) ?_
  with_reducible refine (strings_Fields.calls (⟨#[77, 111, 110, 32, 84, 117, 101, 32, 87, 101, 100, 32, 84, 104, 117, 32, 70, 114, 105, 32, 83, 97, 116, 32, 83, 117, 110]⟩ : ByteArray) sL _ ?hg1 hsL.out).mono ?_
  case hg1 => exact Gl.below hG (by repeat (first | (with_reducible first | exact HB.out | apply below_alloc | apply pw_below_drewN | apply below_drew1) | exact HB.out))
  rintro e w1_ ⟨v0, rfl, ho, hb⟩
  refine ⟨_, rfl, ?_⟩
  replace HB := Aside0.mk (below_step (by repeat (first | (with_reducible first | exact HB.out | apply below_alloc | apply pw_below_drewN | apply below_drew1) | exact HB.out)) hb)
  obtain ⟨A0, c0, e0⟩ := Kd.R_slice ho
  subst e0
  obtain ⟨addn, e1, hrowdn⟩ := Kd.at_string (Kd.R_reads' ho).2.2 wd hw0 hw1
  cases e1
  clear ho
  rw [hdn] at hrowdn
  clear hb
  refine hK.out _ _ trivial (fun hHeld => ?_)
  clear hK K
  refine norm_ (a' := ?_) ?_ ?_
  rotate_left
  · show Act.put _ (some 44) _ = _
    simp only [Act.put, List.setIfInBounds_toArray, List.set_cons_zero, List.set_cons_succ, i64_w, i32_w]
    rfl
  refine last_S (S' := fun w' => w'.cell? (addn.add (wd).toNat) = some (.string dn) ∧ True) (fun _ h => trivial) ⟨hrowdn, trivial⟩ ?_
  replace hHeld : (w1_ : World).cell? (addn.add (wd).toNat) = some (.string dn) ∧ True := ⟨hrowdn, trivial⟩
  refine one_ (i := 2) (N := (some 46)) #[true, true, true, false, false, false, true, false, false, false, false, true, true, false, false, false, false, true, false, false, false, true, false, false, false, false] rfl rfl (by kernel_rfl) (by decide) (fun K hK => ?_)
  refine goes_ Tryd.func30 (by kernel_rfl) rfl #[.int .i64 n] (by rfl) rfl rfl (by (try simp only [List.map_toArray, List.map_cons, List.map_nil]); first | done | rfl) ?_
  with_reducible refine (civil_Weekday.calls _ _ _ hW.out).mono ?_
  rintro e w2_ ⟨rfl, hb⟩
  replace hb := hb.below
  have HS0_ := (hb.cell (World.block_lt_of_cell? _ _ (hHeld.1))).trans (hHeld.1)
  refine ⟨_, rfl, ?_⟩
  replace HB := Aside0.mk (below_step (by repeat (first | (with_reducible first | exact HB.out | apply below_alloc | apply pw_below_drewN | apply below_drew1) | exact HB.out)) hb)
  clear hb
  refine hK.out _ _ ⟨HS0_, trivial⟩ (fun hHeld => ?_)
  clear hK K
  refine norm_ (a' := ?_) ?_ ?_
  rotate_left
  · show Act.put _ (some 46) _ = _
    simp only [Act.put, List.setIfInBounds_toArray, List.set_cons_zero, List.set_cons_succ, i64_w, i32_w]
    rfl
  refine pure_ (i := 3) (N := (some 47)) (v := ?_) (a' := ?_) #[true, true, true, true, false, false, true, false, false, false, false, true, true, false, false, false, false, true, false, false, false, true, false, false, false, false] rfl rfl (by kernel_rfl) (fun _ _ _ h => h) (Or.inl ⟨by rfl, ?_⟩) ?_ ?_
  rotate_left
  · intro w'
    go_simp
    with_reducible rfl
  rotate_left
  · simp only [Act.put, List.setIfInBounds_toArray, List.set_cons_zero, List.set_cons_succ, i64_w, i32_w]
    rfl
  refine take_ (i := 4) (N := (some 48)) (v := ?_) (a' := ?_) #[true, true, true, true, true, false, true, false, false, false, false, true, true, false, false, false, false, true, false, false, false, true, false, false, false, false] rfl rfl (by kernel_rfl) (fun _ _ _ h => h) (Or.inl ⟨by rfl, ?_⟩) hHeld ?_ ?_
  rotate_left
  · rintro w' ⟨s0, _⟩
    go_simp
    with_reducible rfl
  rotate_left
  · simp only [Act.put, List.setIfInBounds_toArray, List.set_cons_zero, List.set_cons_succ, i64_w, i32_w]
    rfl
  refine pure_ (i := 5) (N := (some 49)) (v := ?_) (a' := ?_) #[true, true, true, true, true, true, true, false, false, false, false, true, true, false, false, false, false, true, false, false, false, true, false, false, false, false] rfl rfl (by kernel_rfl) (fun _ _ _ h => h) (Or.inl ⟨by rfl, ?_⟩) ?_ ?_
  rotate_left
  · intro w'
    go_simp
    with_reducible rfl
  rotate_left
  · simp only [Act.put, List.setIfInBounds_toArray, List.set_cons_zero, List.set_cons_succ, i64_w, i32_w]
    rfl
  refine one_ (i := 7) (N := (some 51)) #[true, true, true, true, true, true, true, true, false, false, false, true, true, false, false, false, false, true, false, false, false, true, false, false, false, false] rfl rfl (by kernel_rfl) (by decide) (fun K hK => ?_)
  refine goes_ Tryd.func28 (by kernel_rfl) rfl #[.int .i64 d, .int .i64 2] (by rfl) rfl rfl (by (try simp only [List.map_toArray, List.map_cons, List.map_nil]); first | done | rfl) ?_
  with_reducible refine (date_padded.calls _ _ _ _ ?hg1 hpd.out).mono ?_
  case hg1 => exact Gl.below hG (by repeat (first | (with_reducible first | exact HB.out | apply below_alloc | apply pw_below_drewN | apply below_drew1) | exact HB.out))
  rintro e w3_ ⟨rfl, hb⟩
  have HS0_ := (hb.cell (World.block_lt_of_cell? _ _ (hHeld.1))).trans (hHeld.1)
  refine ⟨_, rfl, ?_⟩
  replace HB := Aside0.mk (below_step (by repeat (first | (with_reducible first | exact HB.out | apply below_alloc | apply pw_below_drewN | apply below_drew1) | exact HB.out)) hb)
  clear hb
  refine hK.out _ _ ⟨HS0_, trivial⟩ (fun hHeld => ?_)
  clear hK K
  refine norm_ (a' := ?_) ?_ ?_
  rotate_left
  · show Act.put _ (some 51) _ = _
    simp only [Act.put, List.setIfInBounds_toArray, List.set_cons_zero, List.set_cons_succ, i64_w, i32_w]
    rfl
  refine pure_ (i := 8) (N := (some 52)) (v := ?_) (a' := ?_) #[true, true, true, true, true, true, true, true, true, false, false, true, true, false, false, false, false, true, false, false, false, true, false, false, false, false] rfl rfl (by kernel_rfl) (fun _ _ _ h => h) (Or.inl ⟨by rfl, ?_⟩) ?_ ?_
  rotate_left
  · intro w'
    go_simp
    with_reducible rfl
  rotate_left
  · simp only [Act.put, List.setIfInBounds_toArray, List.set_cons_zero, List.set_cons_succ, i64_w, i32_w]
    rfl
  refine pure_ (i := 9) (N := (some 53)) (v := ?_) (a' := ?_) #[true, true, true, true, true, true, true, true, true, true, false, true, true, false, false, false, false, true, false, false, false, true, false, false, false, false] rfl rfl (by kernel_rfl) (fun _ _ _ h => h) (Or.inl ⟨by rfl, ?_⟩) ?_ ?_
  rotate_left
  · intro w'
    go_simp
    with_reducible rfl
  rotate_left
  · simp only [Act.put, List.setIfInBounds_toArray, List.set_cons_zero, List.set_cons_succ, i64_w, i32_w]
    rfl
  refine one_ (i := 10) (N := (some 54)) #[true, true, true, true, true, true, true, true, true, true, true, true, true, false, false, false, false, true, false, false, false, true, false, false, false, false] rfl rfl (by kernel_rfl) (by decide) (fun K hK => ?_)
  refine goes_ Tryd.func29 (by kernel_rfl) rfl #[.string (⟨#[74, 97, 110, 32, 70, 101, 98, 32, 77, 97, 114, 32, 65, 112, 114, 32, 77, 97, 121, 32, 74, 117, 110, 32, 74, 117, 108, 32, 65, 117, 103, 32, 83, 101, 112, 32, 79, 99, 116, 32, 78, 111, 118, 32, 68, 101, 99]⟩ : ByteArray)] (by rfl) rfl rfl (by (try simp only [List.map_toArray, List.map_cons, List.map_nil]); first | done | rfl) ?_
  with_reducible refine (strings_Fields.calls (⟨#[74, 97, 110, 32, 70, 101, 98, 32, 77, 97, 114, 32, 65, 112, 114, 32, 77, 97, 121, 32, 74, 117, 110, 32, 74, 117, 108, 32, 65, 117, 103, 32, 83, 101, 112, 32, 79, 99, 116, 32, 78, 111, 118, 32, 68, 101, 99]⟩ : ByteArray) mL _ ?hg1 hmL.out).mono ?_
  case hg1 => exact Gl.below hG (by repeat (first | (with_reducible first | exact HB.out | apply below_alloc | apply pw_below_drewN | apply below_drew1) | exact HB.out))
  rintro e w4_ ⟨v0, rfl, ho, hb⟩
  have HS0_ := (hb.cell (World.block_lt_of_cell? _ _ (hHeld.1))).trans (hHeld.1)
  refine ⟨_, rfl, ?_⟩
  replace HB := Aside0.mk (below_step (by repeat (first | (with_reducible first | exact HB.out | apply below_alloc | apply pw_below_drewN | apply below_drew1) | exact HB.out)) hb)
  obtain ⟨A0, c0, e0⟩ := Kd.R_slice ho
  subst e0
  obtain ⟨admn, e1, hrowmn⟩ := Kd.at_string (Kd.R_reads' ho).2.2 m1 hm0 hm1
  cases e1
  clear ho
  rw [hmn] at hrowmn
  clear hb
  refine hK.out _ _ ⟨HS0_, trivial⟩ (fun hHeld => ?_)
  clear hK K
  refine norm_ (a' := ?_) ?_ ?_
  rotate_left
  · show Act.put _ (some 54) _ = _
    simp only [Act.put, List.setIfInBounds_toArray, List.set_cons_zero, List.set_cons_succ, i64_w, i32_w]
    rfl
  refine last_S (S' := fun w' => w'.cell? (addn.add (wd).toNat) = some (.string dn) ∧ w'.cell? (admn.add (m1).toNat) = some (.string mn) ∧ True) (fun _ h => ⟨h.1, trivial⟩) ⟨hHeld.1, hrowmn, trivial⟩ ?_
  replace hHeld : (w4_ : World).cell? (addn.add (wd).toNat) = some (.string dn) ∧ (w4_ : World).cell? (admn.add (m1).toNat) = some (.string mn) ∧ True := ⟨hHeld.1, hrowmn, trivial⟩
  refine pure_ (i := 13) (N := (some 57)) (v := ?_) (a' := ?_) #[true, true, true, true, true, true, true, true, true, true, true, true, true, true, false, false, false, true, false, false, false, true, false, false, false, false] rfl rfl (by kernel_rfl) (fun _ _ _ h => h) (Or.inl ⟨by rfl, ?_⟩) ?_ ?_
  rotate_left
  · intro w'
    go_simp
    with_reducible rfl
  rotate_left
  · simp only [Act.put, List.setIfInBounds_toArray, List.set_cons_zero, List.set_cons_succ, i64_w, i32_w]
    rfl
  refine take_ (i := 14) (N := (some 58)) (v := ?_) (a' := ?_) #[true, true, true, true, true, true, true, true, true, true, true, true, true, true, true, false, false, true, false, false, false, true, false, false, false, false] rfl rfl (by kernel_rfl) (fun _ _ _ h => h) (Or.inl ⟨by rfl, ?_⟩) hHeld ?_ ?_
  rotate_left
  · rintro w' ⟨s0, s1, _⟩
    go_simp
    with_reducible rfl
  rotate_left
  · simp only [Act.put, List.setIfInBounds_toArray, List.set_cons_zero, List.set_cons_succ, i64_w, i32_w]
    rfl
  refine pure_ (i := 15) (N := (some 59)) (v := ?_) (a' := ?_) #[true, true, true, true, true, true, true, true, true, true, true, true, true, true, true, true, false, true, false, false, false, true, false, false, false, false] rfl rfl (by kernel_rfl) (fun _ _ _ h => h) (Or.inl ⟨by rfl, ?_⟩) ?_ ?_
  rotate_left
  · intro w'
    go_simp
    with_reducible rfl
  rotate_left
  · simp only [Act.put, List.setIfInBounds_toArray, List.set_cons_zero, List.set_cons_succ, i64_w, i32_w]
    rfl
  refine pure_ (i := 16) (N := (some 60)) (v := ?_) (a' := ?_) #[true, true, true, true, true, true, true, true, true, true, true, true, true, true, true, true, true, true, false, false, false, true, false, false, false, false] rfl rfl (by kernel_rfl) (fun _ _ _ h => h) (Or.inl ⟨by rfl, ?_⟩) ?_ ?_
  rotate_left
  · intro w'
    go_simp
    with_reducible rfl
  rotate_left
  · simp only [Act.put, List.setIfInBounds_toArray, List.set_cons_zero, List.set_cons_succ, i64_w, i32_w]
    rfl
  refine one_ (i := 18) (N := (some 62)) #[true, true, true, true, true, true, true, true, true, true, true, true, true, true, true, true, true, true, true, false, false, true, false, false, false, false] rfl rfl (by kernel_rfl) (by decide) (fun K hK => ?_)
  refine goes_ Tryd.func28 (by kernel_rfl) rfl #[.int .i64 y, .int .i64 4] (by rfl) rfl rfl (by (try simp only [List.map_toArray, List.map_cons, List.map_nil]); first | done | rfl) ?_
  with_reducible refine (date_padded.calls _ _ _ _ ?hg1 hpy.out).mono ?_
  case hg1 => exact Gl.below hG (by repeat (first | (with_reducible first | exact HB.out | apply below_alloc | apply pw_below_drewN | apply below_drew1) | exact HB.out))
  rintro e w5_ ⟨rfl, hb⟩
  have HS0_ := (hb.cell (World.block_lt_of_cell? _ _ (hHeld.1))).trans (hHeld.1)
  have HS1_ := (hb.cell (World.block_lt_of_cell? _ _ (hHeld.2.1))).trans (hHeld.2.1)
  refine ⟨_, rfl, ?_⟩
  replace HB := Aside0.mk (below_step (by repeat (first | (with_reducible first | exact HB.out | apply below_alloc | apply pw_below_drewN | apply below_drew1) | exact HB.out)) hb)
  clear hb
  refine hK.out _ _ ⟨HS0_, HS1_, trivial⟩ (fun hHeld => ?_)
  clear hK K
  refine norm_ (a' := ?_) ?_ ?_
  rotate_left
  · show Act.put _ (some 62) _ = _
    simp only [Act.put, List.setIfInBounds_toArray, List.set_cons_zero, List.set_cons_succ, i64_w, i32_w]
    rfl
  refine pure_ (i := 19) (N := (some 63)) (v := ?_) (a' := ?_) #[true, true, true, true, true, true, true, true, true, true, true, true, true, true, true, true, true, true, true, true, false, true, false, false, false, false] rfl rfl (by kernel_rfl) (fun _ _ _ h => h) (Or.inl ⟨by rfl, ?_⟩) ?_ ?_
  rotate_left
  · intro w'
    go_simp
    with_reducible rfl
  rotate_left
  · simp only [Act.put, List.setIfInBounds_toArray, List.set_cons_zero, List.set_cons_succ, i64_w, i32_w]
    rfl
  refine pure_ (i := 20) (N := (some 64)) (v := ?_) (a' := ?_) #[true, true, true, true, true, true, true, true, true, true, true, true, true, true, true, true, true, true, true, true, true, true, false, false, false, false] rfl rfl (by kernel_rfl) (fun _ _ _ h => h) (Or.inl ⟨by rfl, ?_⟩) ?_ ?_
  rotate_left
  · intro w'
    go_simp
    with_reducible rfl
  rotate_left
  · simp only [Act.put, List.setIfInBounds_toArray, List.set_cons_zero, List.set_cons_succ, i64_w, i32_w]
    rfl
  refine pure_ (i := 22) (N := (some 66)) (v := ?_) (a' := ?_) #[true, true, true, true, true, true, true, true, true, true, true, true, true, true, true, true, true, true, true, true, true, true, true, false, false, false] rfl rfl (by kernel_rfl) (fun _ _ _ h => h) (Or.inl ⟨by rfl, ?_⟩) ?_ ?_
  rotate_left
  · intro w'
    go_simp
    with_reducible rfl
  rotate_left
  · simp only [Act.put, List.setIfInBounds_toArray, List.set_cons_zero, List.set_cons_succ, i64_w, i32_w]
    rfl
  refine pure_ (i := 23) (N := (some 67)) (v := ?_) (a' := ?_) #[true, true, true, true, true, true, true, true, true, true, true, true, true, true, true, true, true, true, true, true, true, true, true, true, false, false] rfl rfl (by kernel_rfl) (fun _ _ _ h => h) (Or.inl ⟨by rfl, ?_⟩) ?_ ?_
  rotate_left
  · intro w'
    go_simp
    with_reducible rfl
  rotate_left
  · simp only [Act.put, List.setIfInBounds_toArray, List.set_cons_zero, List.set_cons_succ, i64_w, i32_w]
    rfl
  refine pure_ (i := 24) (N := (some 2)) (v := ?_) (a' := ?_) #[true, true, true, true, true, true, true, true, true, true, true, true, true, true, true, true, true, true, true, true, true, true, true, true, true, false] rfl rfl (by kernel_rfl) (fun _ _ _ h => h) (Or.inl ⟨by rfl, ?_⟩) ?_ ?_
  rotate_left
  · intro w'
    go_simp
    with_reducible rfl
  rotate_left
  · simp only [Act.put, List.setIfInBounds_toArray, List.set_cons_zero, List.set_cons_succ, i64_w, i32_w]
    rfl
  refine pure_ (i := 25) (N := (some 3)) (v := ?_) (a' := ?_) #[true, true, true, true, true, true, true, true, true, true, true, true, true, true, true, true, true, true, true, true, true, true, true, true, true, true] rfl rfl (by kernel_rfl) (fun _ _ _ h => h) (Or.inl ⟨by rfl, ?_⟩) ?_ ?_
  rotate_left
  · intro w'
    go_simp
    with_reducible rfl
  rotate_left
  · simp only [Act.put, List.setIfInBounds_toArray, List.set_cons_zero, List.set_cons_succ, i64_w, i32_w]
    rfl
  refine done_ (by kernel_rfl) ?_
  go_wp2
  go_ret2
  exact ⟨by rfl, (by repeat (first | (with_reducible first | exact HB.out | apply below_alloc | apply pw_below_drewN | apply below_drew1) | exact HB.out))⟩
set_option maxHeartbeats 4000000 in
theorem format_pos_no (sec n r y mo d : Int) (w : World) (hG : Gl w) (e1 : IntKind.i64.wrap (Int.tdiv sec 86400) = n) (e2 : Int.tmod sec 86400 = r) (hneg : decide (r < 0) = false) (hD : Hid (civil_Date.f 20000 n = some (y, mo, d, false))) :
    Calls Tryd.prog 12 #[.int .i64 sec] w fun e w' => e = .returned (.tuple #[.string ⟨#[]⟩, .bool false]) ∧ Below w.heap.size w w' := by
  have HB := Aside0.mk (Below.refl w.heap.size w)
  go_enter Tryd.func12, Tryd.ntmps12
  go_wp2_with (go_at_call 27; (with_reducible refine (civil_Date.calls 20000 _ _ _ _ _ _ hD.out).mono ?_); rintro e w4 ⟨rfl, hb⟩; replace hb := hb.below; replace HB := Aside0.mk (below_step (by repeat (first | (with_reducible first | exact HB.out | apply below_alloc | apply pw_below_drewN | apply below_drew1) | exact HB.out)) hb); clear hb)
  go_ret2
  exact ⟨by rfl, (by repeat (first | (with_reducible first | exact HB.out | apply below_alloc | apply pw_below_drewN | apply below_drew1) | exact HB.out))⟩
set_option maxRecDepth 100000 in
set_option maxHeartbeats 4000000 in
theorem format_neg_yes (sec n0 r0 n r y mo d q60 hh ii ss wd m1 : Int) (dn mn dd yy h2 i2 s2 : ByteArray) (sL mL : List ByteArray) (w : World) (hG : Gl w) (e1 : IntKind.i64.wrap (Int.tdiv sec 86400) = n0) (e2 : Int.tmod sec 86400 = r0) (hneg : decide (r0 < 0) = true) (e3 : IntKind.i64.wrap (n0 - 1) = n) (e4 : IntKind.i64.wrap (r0 + 86400) = r)
    (e5 : IntKind.i64.wrap (Int.tdiv r 3600) = hh) (e6 : IntKind.i64.wrap (Int.tdiv r 60) = q60) (e7 : Int.tmod q60 60 = ii) (e8 : Int.tmod r 60 = ss) (e9 : IntKind.i64.wrap (mo - 1) = m1)
    (hD : Hid (civil_Date.f 20000 n = some (y, mo, d, true))) (hW : Hid (civil_Weekday.f n = some wd)) (hw0 : 0 ≤ wd) (hw1 : wd < (sL.length : Int)) (hm0 : 0 ≤ m1) (hm1 : m1 < (mL.length : Int))
    (hsL : Hid (strings_Fields.f (⟨#[77, 111, 110, 32, 84, 117, 101, 32, 87, 101, 100, 32, 84, 104, 117, 32, 70, 114, 105, 32, 83, 97, 116, 32, 83, 117, 110]⟩ : ByteArray) = some sL)) (hmL : Hid (strings_Fields.f (⟨#[74, 97, 110, 32, 70, 101, 98, 32, 77, 97, 114, 32, 65, 112, 114, 32, 77, 97, 121, 32, 74, 117, 110, 32, 74, 117, 108, 32, 65, 117, 103, 32, 83, 101, 112, 32, 79, 99, 116, 32, 78, 111, 118, 32, 68, 101, 99]⟩ : ByteArray) = some mL)) (hdn : rdOf ByteArray.empty sL wd = dn) (hmn : rdOf ByteArray.empty mL m1 = mn) (sd : dn.size = 3) (sm : mn.size = 3)
    (hp1 : Hid (date_padded.f hh 2 = some h2)) (hp2 : Hid (date_padded.f ii 2 = some i2)) (hp3 : Hid (date_padded.f ss 2 = some s2)) (hpd : Hid (date_padded.f d 2 = some dd)) (hpy : Hid (date_padded.f y 4 = some yy))
    (z1 : h2.size = 2) (z2 : i2.size = 2) (z3 : s2.size = 2) (z4 : dd.size = 2) (z5 : yy.size = 4) :
    Calls Tryd.prog 12 #[.int .i64 sec] w fun e w' => e = .returned (.tuple #[.string (dn ++ ⟨#[44, 32]⟩ ++ dd ++ ⟨#[32]⟩ ++ mn ++ ⟨#[32]⟩ ++ yy ++ ⟨#[32]⟩ ++ (h2 ++ ⟨#[58]⟩ ++ i2 ++ ⟨#[58]⟩ ++ s2) ++ ⟨#[32, 71, 77, 84]⟩), .bool true]) ∧ Below w.heap.size w w' := by
  have HB := Aside0.mk (Below.refl w.heap.size w)
  go_enter Tryd.func12, Tryd.ntmps12
  go_wp2_with (first | (go_at_call 27; (with_reducible refine (civil_Date.calls 20000 _ _ _ _ _ _ hD.out).mono ?_); rintro e w4 ⟨rfl, hb⟩; replace hb := hb.below; replace HB := Aside0.mk (below_step (by repeat (first | (with_reducible first | exact HB.out | apply below_alloc | apply pw_below_drewN | apply below_drew1) | exact HB.out)) hb); clear hb) | (go_at_call 28; (with_reducible refine (date_padded.calls _ _ _ _ ?hg1 hp1.out).mono ?_); (case hg1 => exact Gl.below hG (by repeat (first | (with_reducible first | exact HB.out | apply below_alloc | apply pw_below_drewN | apply below_drew1) | exact HB.out))); rintro e w4 ⟨rfl, hb⟩; replace HB := Aside0.mk (below_step (by repeat (first | (with_reducible first | exact HB.out | apply below_alloc | apply pw_below_drewN | apply below_drew1) | exact HB.out)) hb); clear hb) | (go_at_call 28; (with_reducible refine (date_padded.calls _ _ _ _ ?hg1 hp2.out).mono ?_); (case hg1 => exact Gl.below hG (by repeat (first | (with_reducible first | exact HB.out | apply below_alloc | apply pw_below_drewN | apply below_drew1) | exact HB.out))); rintro e w4 ⟨rfl, hb⟩; replace HB := Aside0.mk (below_step (by repeat (first | (with_reducible first | exact HB.out | apply below_alloc | apply pw_below_drewN | apply below_drew1) | exact HB.out)) hb); clear hb) | (go_at_call 28; (with_reducible refine (date_padded.calls _ _ _ _ ?hg1 hp3.out).mono ?_); (case hg1 => exact Gl.below hG (by repeat (first | (with_reducible first | exact HB.out | apply below_alloc | apply pw_below_drewN | apply below_drew1) | exact HB.out))); rintro e w4 ⟨rfl, hb⟩; replace HB := Aside0.mk (below_step (by repeat (first | (with_reducible first | exact HB.out | apply below_alloc | apply pw_below_drewN | apply below_drew1) | exact HB.out)) hb); clear hb))
  refine start_ (n := 26) (S := fun w' => True) (ds := []) #[false, false, false, false, false, false, false, false, false, false, false, false, false, false, false, false, false, false, false, false, false, false, false, false, false, false] (by kernel_rfl) rfl rfl trivial (fun hHeld => ?_)
  replace HB := Aside0.mk (below_drew1 HB.out)
  generalize World.drew w4 = w_ at  HB hHeld ⊢
  refine pure_ (i := 1) (N := (some 45)) (v := ?_) (a' := ?_) #[false, true, false, false, false, false, false, false, false, false, false, false, false, false, false, false, false, false, false, false, false, false, false, false, false, false] rfl rfl (by kernel_rfl) (fun _ _ _ h => h) (Or.inl ⟨by rfl, ?_⟩) ?_ ?_
  rotate_left
  · intro w'
    go_simp
    with_reducible rfl
  rotate_left
  · simp only [Act.put, List.setIfInBounds_toArray, List.set_cons_zero, List.set_cons_succ, i64_w, i32_w]
    rfl
  refine pure_ (i := 6) (N := (some 50)) (v := ?_) (a' := ?_) #[false, true, false, false, false, false, true, false, false, false, false, false, false, false, false, false, false, false, false, false, false, false, false, false, false, false] rfl rfl (by kernel_rfl) (fun _ _ _ h => h) (Or.inl ⟨by rfl, ?_⟩) ?_ ?_
  rotate_left
  · intro w'
    go_simp
    with_reducible rfl
  rotate_left
  · simp only [Act.put, List.setIfInBounds_toArray, List.set_cons_zero, List.set_cons_succ, i64_w, i32_w]
    rfl
  refine pure_ (i := 11) (N := (some 55)) (v := ?_) (a' := ?_) #[false, true, false, false, false, false, true, false, false, false, false, true, false, false, false, false, false, false, false, false, false, false, false, false, false, false] rfl rfl (by kernel_rfl) (fun _ _ _ h => h) (Or.inl ⟨by rfl, ?_⟩) ?_ ?_
  rotate_left
  · intro w'
    go_simp
    with_reducible rfl
  rotate_left
  · simp only [Act.put, List.setIfInBounds_toArray, List.set_cons_zero, List.set_cons_succ, i64_w, i32_w]
    rfl
  refine pure_ (i := 12) (N := (some 56)) (v := ?_) (a' := ?_) #[false, true, false, false, false, false, true, false, false, false, false, true, true, false, false, false, false, false, false, false, false, false, false, false, false, false] rfl rfl (by kernel_rfl) (fun _ _ _ h => h) (Or.inl ⟨by rfl, ?_⟩) ?_ ?_
  rotate_left
  · intro w'
    go_simp
    with_reducible rfl
  rotate_left
  · simp only [Act.put, List.setIfInBounds_toArray, List.set_cons_zero, List.set_cons_succ, i64_w, i32_w]
    rfl
  refine pure_ (i := 17) (N := (some 61)) (v := ?_) (a' := ?_) #[false, true, false, false, false, false, true, false, false, false, false, true, true, false, false, false, false, true, false, false, false, false, false, false, false, false] rfl rfl (by kernel_rfl) (fun _ _ _ h => h) (Or.inl ⟨by rfl, ?_⟩) ?_ ?_
  rotate_left
  · intro w'
    go_simp
    with_reducible rfl
  rotate_left
  · simp only [Act.put, List.setIfInBounds_toArray, List.set_cons_zero, List.set_cons_succ, i64_w, i32_w]
    rfl
  refine pure_ (i := 21) (N := (some 65)) (v := ?_) (a' := ?_) #[false, true, false, false, false, false, true, false, false, false, false, true, true, false, false, false, false, true, false, false, false, true, false, false, false, false] rfl rfl (by kernel_rfl) (fun _ _ _ h => h) (Or.inl ⟨by rfl, ?_⟩) ?_ ?_
  rotate_left
  · intro w'
    go_simp
    with_reducible rfl
  rotate_left
  · simp only [Act.put, List.setIfInBounds_toArray, List.set_cons_zero, List.set_cons_succ, i64_w, i32_w]
    rfl
  refine one_ (i := 0) (N := (some 44)) #[true, true, false, false, false, false, true, false, false, false, false, true, true, false, false, false, false, true, false, false, false, true, false, false, false, false] rfl rfl (by kernel_rfl) (by decide) (fun K hK => ?_)
  refine goes_ Tryd.func29 (by kernel_rfl) rfl #[.string (⟨#[77, 111, 110, 32, 84, 117, 101, 32, 87, 101, 100, 32, 84, 104, 117, 32, 70, 114, 105, 32, 83, 97, 116, 32, 83, 117, 110]⟩ : ByteArray)] (by rfl) rfl rfl (by (try simp only [List.map_toArray, List.map_cons, List.map_nil]); first | done | rfl) ?_
  with_reducible refine (strings_Fields.calls (⟨#[77, 111, 110, 32, 84, 117, 101, 32, 87, 101, 100, 32, 84, 104, 117, 32, 70, 114, 105, 32, 83, 97, 116, 32, 83, 117, 110]⟩ : ByteArray) sL _ ?hg1 hsL.out).mono ?_
  case hg1 => exact Gl.below hG (by repeat (first | (with_reducible first | exact HB.out | apply below_alloc | apply pw_below_drewN | apply below_drew1) | exact HB.out))
  rintro e w1_ ⟨v0, rfl, ho, hb⟩
  refine ⟨_, rfl, ?_⟩
  replace HB := Aside0.mk (below_step (by repeat (first | (with_reducible first | exact HB.out | apply below_alloc | apply pw_below_drewN | apply below_drew1) | exact HB.out)) hb)
  obtain ⟨A0, c0, e0⟩ := Kd.R_slice ho
  subst e0
  obtain ⟨addn, e1, hrowdn⟩ := Kd.at_string (Kd.R_reads' ho).2.2 wd hw0 hw1
  cases e1
  clear ho
  rw [hdn] at hrowdn
  clear hb
  refine hK.out _ _ trivial (fun hHeld => ?_)
  clear hK K
  refine norm_ (a' := ?_) ?_ ?_
  rotate_left
  · show Act.put _ (some 44) _ = _
    simp only [Act.put, List.setIfInBounds_toArray, List.set_cons_zero, List.set_cons_succ, i64_w, i32_w]
    rfl
  refine last_S (S' := fun w' => w'.cell? (addn.add (wd).toNat) = some (.string dn) ∧ True) (fun _ h => trivial) ⟨hrowdn, trivial⟩ ?_
  replace hHeld : (w1_ : World).cell? (addn.add (wd).toNat) = some (.string dn) ∧ True := ⟨hrowdn, trivial⟩
  refine one_ (i := 2) (N := (some 46)) #[true, true, true, false, false, false, true, false, false, false, false, true, true, false, false, false, false, true, false, false, false, true, false, false, false, false] rfl rfl (by kernel_rfl) (by decide) (fun K hK => ?_)
  refine goes_ Tryd.func30 (by kernel_rfl) rfl #[.int .i64 n] (by rfl) rfl rfl (by (try simp only [List.map_toArray, List.map_cons, List.map_nil]); first | done | rfl) ?_
  with_reducible refine (civil_Weekday.calls _ _ _ hW.out).mono ?_
  rintro e w2_ ⟨rfl, hb⟩
  replace hb := hb.below
  have HS0_ := (hb.cell (World.block_lt_of_cell? _ _ (hHeld.1))).trans (hHeld.1)
  refine ⟨_, rfl, ?_⟩
  replace HB := Aside0.mk (below_step (by repeat (first | (with_reducible first | exact HB.out | apply below_alloc | apply pw_below_drewN | apply below_drew1) | exact HB.out)) hb)
  clear hb
  refine hK.out _ _ ⟨HS0_, trivial⟩ (fun hHeld => ?_)
  clear hK K
  refine norm_ (a' := ?_) ?_ ?_
  rotate_left
  · show Act.put _ (some 46) _ = _
    simp only [Act.put, List.setIfInBounds_toArray, List.set_cons_zero, List.set_cons_succ, i64_w, i32_w]
    rfl
  refine pure_ (i := 3) (N := (some 47)) (v := ?_) (a' := ?_) #[true, true, true, true, false, false, true, false, false, false, false, true, true, false, false, false, false, true, false, false, false, true, false, false, false, false] rfl rfl (by kernel_rfl) (fun _ _ _ h => h) (Or.inl ⟨by rfl, ?_⟩) ?_ ?_
  rotate_left
  · intro w'
    go_simp
    with_reducible rfl
  rotate_left
  · simp only [Act.put, List.setIfInBounds_toArray, List.set_cons_zero, List.set_cons_succ, i64_w, i32_w]
    rfl
  refine take_ (i := 4) (N := (some 48)) (v := ?_) (a' := ?_) #[true, true, true, true, true, false, true, false, false, false, false, true, true, false, false, false, false, true, false, false, false, true, false, false, false, false] rfl rfl (by kernel_rfl) (fun _ _ _ h => h) (Or.inl ⟨by rfl, ?_⟩) hHeld ?_ ?_
  rotate_left
  · rintro w' ⟨s0, _⟩
    go_simp
    with_reducible rfl
  rotate_left
  · simp only [Act.put, List.setIfInBounds_toArray, List.set_cons_zero, List.set_cons_succ, i64_w, i32_w]
    rfl
  refine pure_ (i := 5) (N := (some 49)) (v := ?_) (a' := ?_) #[true, true, true, true, true, true, true, false, false, false, false, true, true, false, false, false, false, true, false, false, false, true, false, false, false, false] rfl rfl (by kernel_rfl) (fun _ _ _ h => h) (Or.inl ⟨by rfl, ?_⟩) ?_ ?_
  rotate_left
  · intro w'
    go_simp
    with_reducible rfl
  rotate_left
  · simp only [Act.put, List.setIfInBounds_toArray, List.set_cons_zero, List.set_cons_succ, i64_w, i32_w]
    rfl
  refine one_ (i := 7) (N := (some 51)) #[true, true, true, true, true, true, true, true, false, false, false, true, true, false, false, false, false, true, false, false, false, true, false, false, false, false] rfl rfl (by kernel_rfl) (by decide) (fun K hK => ?_)
  refine goes_ Tryd.func28 (by kernel_rfl) rfl #[.int .i64 d, .int .i64 2] (by rfl) rfl rfl (by (try simp only [List.map_toArray, List.map_cons, List.map_nil]); first | done | rfl) ?_
  with_reducible refine (date_padded.calls _ _ _ _ ?hg1 hpd.out).mono ?_
  case hg1 => exact Gl.below hG (by repeat (first | (with_reducible first | exact HB.out | apply below_alloc | apply pw_below_drewN | apply below_drew1) | exact HB.out))
  rintro e w3_ ⟨rfl, hb⟩
  have HS0_ := (hb.cell (World.block_lt_of_cell? _ _ (hHeld.1))).trans (hHeld.1)
  refine ⟨_, rfl, ?_⟩
  replace HB := Aside0.mk (below_step (by repeat (first | (with_reducible first | exact HB.out | apply below_alloc | apply pw_below_drewN | apply below_drew1) | exact HB.out)) hb)
  clear hb
  refine hK.out _ _ ⟨HS0_, trivial⟩ (fun hHeld => ?_)
  clear hK K
  refine norm_ (a' := ?_) ?_ ?_
  rotate_left
  · show Act.put _ (some 51) _ = _
    simp only [Act.put, List.setIfInBounds_toArray, List.set_cons_zero, List.set_cons_succ, i64_w, i32_w]
    rfl
  refine pure_ (i := 8) (N := (some 52)) (v := ?_) (a' := ?_) #[true, true, true, true, true, true, true, true, true, false, false, true, true, false, false, false, false, true, false, false, false, true, false, false, false, false] rfl rfl (by kernel_rfl) (fun _ _ _ h => h) (Or.inl ⟨by rfl, ?_⟩) ?_ ?_
  rotate_left
  · intro w'
    go_simp
    with_reducible rfl
  rotate_left
  · simp only [Act.put, List.setIfInBounds_toArray, List.set_cons_zero, List.set_cons_succ, i64_w, i32_w]
    rfl
  refine pure_ (i := 9) (N := (some 53)) (v := ?_) (a' := ?_) #[true, true, true, true, true, true, true, true, true, true, false, true, true, false, false, false, false, true, false, false, false, true, false, false, false, false] rfl rfl (by kernel_rfl) (fun _ _ _ h => h) (Or.inl ⟨by rfl, ?_⟩) ?_ ?_
  rotate_left
  · intro w'
    go_simp
    with_reducible rfl
  rotate_left
  · simp only [Act.put, List.setIfInBounds_toArray, List.set_cons_zero, List.set_cons_succ, i64_w, i32_w]
    rfl
  refine one_ (i := 10) (N := (some 54)) #[true, true, true, true, true, true, true, true, true, true, true, true, true, false, false, false, false, true, false, false, false, true, false, false, false, false] rfl rfl (by kernel_rfl) (by decide) (fun K hK => ?_)
  refine goes_ Tryd.func29 (by kernel_rfl) rfl #[.string (⟨#[74, 97, 110, 32, 70, 101, 98, 32, 77, 97, 114, 32, 65, 112, 114, 32, 77, 97, 121, 32, 74, 117, 110, 32, 74, 117, 108, 32, 65, 117, 103, 32, 83, 101, 112, 32, 79, 99, 116, 32, 78, 111, 118, 32, 68, 101, 99]⟩ : ByteArray)] (by rfl) rfl rfl (by (try simp only [List.map_toArray, List.map_cons, List.map_nil]); first | done | rfl) ?_
  with_reducible refine (strings_Fields.calls (⟨#[74, 97, 110, 32, 70, 101, 98, 32, 77, 97, 114, 32, 65, 112, 114, 32, 77, 97, 121, 32, 74, 117, 110, 32, 74, 117, 108, 32, 65, 117, 103, 32, 83, 101, 112, 32, 79, 99, 116, 32, 78, 111, 118, 32, 68, 101, 99]⟩ : ByteArray) mL _ ?hg1 hmL.out).mono ?_
  case hg1 => exact Gl.below hG (by repeat (first | (with_reducible first | exact HB.out | apply below_alloc | apply pw_below_drewN | apply below_drew1) | exact HB.out))
  rintro e w4_ ⟨v0, rfl, ho, hb⟩
  have HS0_ := (hb.cell (World.block_lt_of_cell? _ _ (hHeld.1))).trans (hHeld.1)
  refine ⟨_, rfl, ?_⟩
  replace HB := Aside0.mk (below_step (by repeat (first | (with_reducible first | exact HB.out | apply below_alloc | apply pw_below_drewN | apply below_drew1) | exact HB.out)) hb)
  obtain ⟨A0, c0, e0⟩ := Kd.R_slice ho
  subst e0
  obtain ⟨admn, e1, hrowmn⟩ := Kd.at_string (Kd.R_reads' ho).2.2 m1 hm0 hm1
  cases e1
  clear ho
  rw [hmn] at hrowmn
  clear hb
  refine hK.out _ _ ⟨HS0_, trivial⟩ (fun hHeld => ?_)
  clear hK K
  refine norm_ (a' := ?_) ?_ ?_
  rotate_left
  · show Act.put _ (some 54) _ = _
    simp only [Act.put, List.setIfInBounds_toArray, List.set_cons_zero, List.set_cons_succ, i64_w, i32_w]
    rfl
  refine last_S (S' := fun w' => w'.cell? (addn.add (wd).toNat) = some (.string dn) ∧ w'.cell? (admn.add (m1).toNat) = some (.string mn) ∧ True) (fun _ h => ⟨h.1, trivial⟩) ⟨hHeld.1, hrowmn, trivial⟩ ?_
  replace hHeld : (w4_ : World).cell? (addn.add (wd).toNat) = some (.string dn) ∧ (w4_ : World).cell? (admn.add (m1).toNat) = some (.string mn) ∧ True := ⟨hHeld.1, hrowmn, trivial⟩
  refine pure_ (i := 13) (N := (some 57)) (v := ?_) (a' := ?_) #[true, true, true, true, true, true, true, true, true, true, true, true, true, true, false, false, false, true, false, false, false, true, false, false, false, false] rfl rfl (by kernel_rfl) (fun _ _ _ h => h) (Or.inl ⟨by rfl, ?_⟩) ?_ ?_
  rotate_left
  · intro w'
    go_simp
    with_reducible rfl
  rotate_left
  · simp only [Act.put, List.setIfInBounds_toArray, List.set_cons_zero, List.set_cons_succ, i64_w, i32_w]
    rfl
  refine take_ (i := 14) (N := (some 58)) (v := ?_) (a' := ?_) #[true, true, true, true, true, true, true, true, true, true, true, true, true, true, true, false, false, true, false, false, false, true, false, false, false, false] rfl rfl (by kernel_rfl) (fun _ _ _ h => h) (Or.inl ⟨by rfl, ?_⟩) hHeld ?_ ?_
  rotate_left
  · rintro w' ⟨s0, s1, _⟩
    go_simp
    with_reducible rfl
  rotate_left
  · simp only [Act.put, List.setIfInBounds_toArray, List.set_cons_zero, List.set_cons_succ, i64_w, i32_w]
    rfl
  refine pure_ (i := 15) (N := (some 59)) (v := ?_) (a' := ?_) #[true, true, true, true, true, true, true, true, true, true, true, true, true, true, true, true, false, true, false, false, false, true, false, false, false, false] rfl rfl (by kernel_rfl) (fun _ _ _ h => h) (Or.inl ⟨by rfl, ?_⟩) ?_ ?_
  rotate_left
  · intro w'
    go_simp
    with_reducible rfl
  rotate_left
  · simp only [Act.put, List.setIfInBounds_toArray, List.set_cons_zero, List.set_cons_succ, i64_w, i32_w]
    rfl
  refine pure_ (i := 16) (N := (some 60)) (v := ?_) (a' := ?_) #[true, true, true, true, true, true, true, true, true, true, true, true, true, true, true, true, true, true, false, false, false, true, false, false, false, false] rfl rfl (by kernel_rfl) (fun _ _ _ h => h) (Or.inl ⟨by rfl, ?_⟩) ?_ ?_
  rotate_left
  · intro w'
    go_simp
    with_reducible rfl
  rotate_left
  · simp only [Act.put, List.setIfInBounds_toArray, List.set_cons_zero, List.set_cons_succ, i64_w, i32_w]
    rfl
  refine one_ (i := 18) (N := (some 62)) #[true, true, true, true, true, true, true, true, true, true, true, true, true, true, true, true, true, true, true, false, false, true, false, false, false, false] rfl rfl (by kernel_rfl) (by decide) (fun K hK => ?_)
  refine goes_ Tryd.func28 (by kernel_rfl) rfl #[.int .i64 y, .int .i64 4] (by rfl) rfl rfl (by (try simp only [List.map_toArray, List.map_cons, List.map_nil]); first | done | rfl) ?_
  with_reducible refine (date_padded.calls _ _ _ _ ?hg1 hpy.out).mono ?_
  case hg1 => exact Gl.below hG (by repeat (first | (with_reducible first | exact HB.out | apply below_alloc | apply pw_below_drewN | apply below_drew1) | exact HB.out))
  rintro e w5_ ⟨rfl, hb⟩
  have HS0_ := (hb.cell (World.block_lt_of_cell? _ _ (hHeld.1))).trans (hHeld.1)
  have HS1_ := (hb.cell (World.block_lt_of_cell? _ _ (hHeld.2.1))).trans (hHeld.2.1)
  refine ⟨_, rfl, ?_⟩
  replace HB := Aside0.mk (below_step (by repeat (first | (with_reducible first | exact HB.out | apply below_alloc | apply pw_below_drewN | apply below_drew1) | exact HB.out)) hb)
  clear hb
  refine hK.out _ _ ⟨HS0_, HS1_, trivial⟩ (fun hHeld => ?_)
  clear hK K
  refine norm_ (a' := ?_) ?_ ?_
  rotate_left
  · show Act.put _ (some 62) _ = _
    simp only [Act.put, List.setIfInBounds_toArray, List.set_cons_zero, List.set_cons_succ, i64_w, i32_w]
    rfl
  refine pure_ (i := 19) (N := (some 63)) (v := ?_) (a' := ?_) #[true, true, true, true, true, true, true, true, true, true, true, true, true, true, true, true, true, true, true, true, false, true, false, false, false, false] rfl rfl (by kernel_rfl) (fun _ _ _ h => h) (Or.inl ⟨by rfl, ?_⟩) ?_ ?_
  rotate_left
  · intro w'
    go_simp
    with_reducible rfl
  rotate_left
  · simp only [Act.put, List.setIfInBounds_toArray, List.set_cons_zero, List.set_cons_succ, i64_w, i32_w]
    rfl
  refine pure_ (i := 20) (N := (some 64)) (v := ?_) (a' := ?_) #[true, true, true, true, true, true, true, true, true, true, true, true, true, true, true, true, true, true, true, true, true, true, false, false, false, false] rfl rfl (by kernel_rfl) (fun _ _ _ h => h) (Or.inl ⟨by rfl, ?_⟩) ?_ ?_
  rotate_left
  · intro w'
    go_simp
    with_reducible rfl
  rotate_left
  · simp only [Act.put, List.setIfInBounds_toArray, List.set_cons_zero, List.set_cons_succ, i64_w, i32_w]
    rfl
  refine pure_ (i := 22) (N := (some 66)) (v := ?_) (a' := ?_) #[true, true, true, true, true, true, true, true, true, true, true, true, true, true, true, true, true, true, true, true, true, true, true, false, false, false] rfl rfl (by kernel_rfl) (fun _ _ _ h => h) (Or.inl ⟨by rfl, ?_⟩) ?_ ?_
  rotate_left
  · intro w'
    go_simp
    with_reducible rfl
  rotate_left
  · simp only [Act.put, List.setIfInBounds_toArray, List.set_cons_zero, List.set_cons_succ, i64_w, i32_w]
    rfl
  refine pure_ (i := 23) (N := (some 67)) (v := ?_) (a' := ?_) #[true, true, true, true, true, true, true, true, true, true, true, true, true, true, true, true, true, true, true, true, true, true, true, true, false, false] rfl rfl (by kernel_rfl) (fun _ _ _ h => h) (Or.inl ⟨by rfl, ?_⟩) ?_ ?_
  rotate_left
  · intro w'
    go_simp
    with_reducible rfl
  rotate_left
  · simp only [Act.put, List.setIfInBounds_toArray, List.set_cons_zero, List.set_cons_succ, i64_w, i32_w]
    rfl
  refine pure_ (i := 24) (N := (some 2)) (v := ?_) (a' := ?_) #[true, true, true, true, true, true, true, true, true, true, true, true, true, true, true, true, true, true, true, true, true, true, true, true, true, false] rfl rfl (by kernel_rfl) (fun _ _ _ h => h) (Or.inl ⟨by rfl, ?_⟩) ?_ ?_
  rotate_left
  · intro w'
    go_simp
    with_reducible rfl
  rotate_left
  · simp only [Act.put, List.setIfInBounds_toArray, List.set_cons_zero, List.set_cons_succ, i64_w, i32_w]
    rfl
  refine pure_ (i := 25) (N := (some 3)) (v := ?_) (a' := ?_) #[true, true, true, true, true, true, true, true, true, true, true, true, true, true, true, true, true, true, true, true, true, true, true, true, true, true] rfl rfl (by kernel_rfl) (fun _ _ _ h => h) (Or.inl ⟨by rfl, ?_⟩) ?_ ?_
  rotate_left
  · intro w'
    go_simp
    with_reducible rfl
  rotate_left
  · simp only [Act.put, List.setIfInBounds_toArray, List.set_cons_zero, List.set_cons_succ, i64_w, i32_w]
    rfl
  refine done_ (by kernel_rfl) ?_
  go_wp2
  go_ret2
  exact ⟨by rfl, (by repeat (first | (with_reducible first | exact HB.out | apply below_alloc | apply pw_below_drewN | apply below_drew1) | exact HB.out))⟩
set_option maxHeartbeats 4000000 in
theorem format_neg_no (sec n0 r0 n r y mo d : Int) (w : World) (hG : Gl w) (e1 : IntKind.i64.wrap (Int.tdiv sec 86400) = n0) (e2 : Int.tmod sec 86400 = r0) (hneg : decide (r0 < 0) = true) (e3 : IntKind.i64.wrap (n0 - 1) = n) (e4 : IntKind.i64.wrap (r0 + 86400) = r) (hD : Hid (civil_Date.f 20000 n = some (y, mo, d, false))) :
    Calls Tryd.prog 12 #[.int .i64 sec] w fun e w' => e = .returned (.tuple #[.string ⟨#[]⟩, .bool false]) ∧ Below w.heap.size w w' := by
  have HB := Aside0.mk (Below.refl w.heap.size w)
  go_enter Tryd.func12, Tryd.ntmps12
  go_wp2_with (go_at_call 27; (with_reducible refine (civil_Date.calls 20000 _ _ _ _ _ _ hD.out).mono ?_); rintro e w4 ⟨rfl, hb⟩; replace hb := hb.below; replace HB := Aside0.mk (below_step (by repeat (first | (with_reducible first | exact HB.out | apply below_alloc | apply pw_below_drewN | apply below_drew1) | exact HB.out)) hb); clear hb)
  go_ret2
  exact ⟨by rfl, (by repeat (first | (with_reducible first | exact HB.out | apply below_alloc | apply pw_below_drewN | apply below_drew1) | exact HB.out))⟩
end Go.Proofs.YtdlpdgdccoeklaaDoor.Ext
