import Derived.Test.YtdlpdgdccoeklaaDoorKoExtDateA
import Derived.Test.YtdlpdgdccoeklaaDoorKoWLast
import Derived.Test.YtdlpdgdccoeklaaDoorKoWMore
import Derived.WalkKit
import Derived.OwnWalk
/- Contract of date.clock: written by gen_clock.py. -/
namespace Go.Proofs.YtdlpdgdccoeklaaDoor.Ext
open Go.RowKit Go.Proofs.YtdlpdgdccoeklaaDoorW.PrintWords Go.Proofs.YtdlpdgdccoeklaaDoorW.PrintLast Go.Proofs.YtdlpdgdccoeklaaDoorW.PrintMore
set_option linter.unusedVariables false
set_option linter.unusedSimpArgs false
set_option maxRecDepth 100000 in
set_option maxHeartbeats 4000000 in
theorem clock_three (s x0 x1 x2 : ByteArray) (a b c : Int) (w : World) (hG : Gl w) (hL : Hid (strings_Split.f s ⟨#[58]⟩ = some [x0, x1, x2])) (h0 : Hid (date_number.f x0 2 = some a)) (h1 : Hid (date_number.f x1 2 = some b)) (h2 : Hid (date_number.f x2 2 = some c)) :
    Calls Tryd.prog 41 #[.string s] w fun e w' => e = .returned (.int .i64 (if a < 0 then -1 else if a > 23 then -1 else if b < 0 then -1 else if b > 59 then -1 else if c < 0 then -1 else if c > 59 then -1 else wrap64 (wrap64 (wrap64 (wrap64 (a * 60) + b) * 60) + c))) ∧ Below w.heap.size w w' := by
  have HB := Aside0.mk (Below.refl w.heap.size w)
  go_enter Tryd.func41, Tryd.ntmps41
  go_wp2_with (go_at_call 36; (with_reducible refine (strings_Split.calls _ _ _ _ hG hL.out).mono ?_); rintro e w1 ⟨v0, rfl, ho, hb⟩; replace HB := Aside0.mk (below_step (by repeat (first | (with_reducible first | exact HB.out | apply below_alloc | apply pw_below_drewN | apply below_drew1) | exact HB.out)) hb); clear hb; obtain ⟨A0, c0, e0⟩ := Kd.R_slice ho; subst e0)
  obtain ⟨ad, e1, hy0⟩ := Kd.at_string (Kd.R_reads' ho).2.2 0 (by decide) (by simp)
  cases e1
  obtain ⟨ad1, e1, hy1⟩ := Kd.at_string (Kd.R_reads' ho).2.2 1 (by decide) (by simp)
  cases e1
  obtain ⟨ad2, e1, hy2⟩ := Kd.at_string (Kd.R_reads' ho).2.2 2 (by decide) (by simp)
  cases e1
  clear ho
  rw [show ((0 : Int)).toNat = 0 from rfl, Addr.add_zero'] at hy0
  simp only [show (1 : Int).toNat = 1 from rfl, show (2 : Int).toNat = 2 from rfl, Go.Addr.add] at hy1 hy2
  have hx0 : w1.cell? ad = some (.string x0) := hy0
  have hx1 : w1.cell? ⟨ad.block, ad.off + 1, none⟩ = some (.string x1) := by (first | exact hy1 | simpa using hy1)
  have hx2 : w1.cell? ⟨ad.block, ad.off + 2, none⟩ = some (.string x2) := by (first | exact hy2 | simpa using hy2)
  clear hy0 hy1 hy2
  refine start_ (n := 15) (S := fun w' => w'.cell? ad = some (.string x0) ∧ w'.cell? ⟨ad.block, ad.off + 1, none⟩ = some (.string x1) ∧ w'.cell? ⟨ad.block, ad.off + 2, none⟩ = some (.string x2) ∧ True) (ds := []) #[false, false, false, false, false, false, false, false, false, false, false, false, false, false, false] (by kernel_rfl) rfl rfl ⟨hx0, hx1, hx2, trivial⟩ (fun hHeld => ?_)
  replace HB := Aside0.mk (below_drew1 HB.out)
  generalize World.drew w1 = w_ at  HB hHeld ⊢
  refine pure_ (i := 0) (N := (some 12)) (v := ?_) (a' := ?_) #[true, false, false, false, false, false, false, false, false, false, false, false, false, false, false] rfl rfl (by kernel_rfl) (fun _ _ _ h => h) (Or.inl ⟨by rfl, ?_⟩) ?_ ?_
  rotate_left
  · intro w'
    go_simp
    with_reducible rfl
  rotate_left
  · simp only [Act.put, List.setIfInBounds_toArray, List.set_cons_zero, List.set_cons_succ, i64_w, i32_w]
    rfl
  refine pure_ (i := 1) (N := (some 13)) (v := ?_) (a' := ?_) #[true, true, false, false, false, false, false, false, false, false, false, false, false, false, false] rfl rfl (by kernel_rfl) (fun _ _ _ h => h) (Or.inl ⟨by rfl, ?_⟩) ?_ ?_
  rotate_left
  · intro w'
    go_simp
    with_reducible rfl
  rotate_left
  · simp only [Act.put, List.setIfInBounds_toArray, List.set_cons_zero, List.set_cons_succ, i64_w, i32_w]
    rfl
  refine take_ (i := 2) (N := (some 14)) (v := ?_) (a' := ?_) #[true, true, true, false, false, false, false, false, false, false, false, false, false, false, false] rfl rfl (by kernel_rfl) (fun _ _ _ h => h) (Or.inl ⟨by rfl, ?_⟩) hHeld ?_ ?_
  rotate_left
  · rintro w' ⟨s0, s1, s2, _⟩
    go_simp
    with_reducible rfl
  rotate_left
  · simp only [Act.put, List.setIfInBounds_toArray, List.set_cons_zero, List.set_cons_succ, i64_w, i32_w]
    rfl
  refine pure_ (i := 4) (N := (some 16)) (v := ?_) (a' := ?_) #[true, true, true, false, true, false, false, false, false, false, false, false, false, false, false] rfl rfl (by kernel_rfl) (fun _ _ _ h => h) (Or.inl ⟨by rfl, ?_⟩) ?_ ?_
  rotate_left
  · intro w'
    go_simp
    with_reducible rfl
  rotate_left
  · simp only [Act.put, List.setIfInBounds_toArray, List.set_cons_zero, List.set_cons_succ, i64_w, i32_w]
    rfl
  refine pure_ (i := 5) (N := (some 17)) (v := ?_) (a' := ?_) #[true, true, true, false, true, true, false, false, false, false, false, false, false, false, false] rfl rfl (by kernel_rfl) (fun _ _ _ h => h) (Or.inl ⟨by rfl, ?_⟩) ?_ ?_
  rotate_left
  · intro w'
    go_simp
    with_reducible rfl
  rotate_left
  · simp only [Act.put, List.setIfInBounds_toArray, List.set_cons_zero, List.set_cons_succ, i64_w, i32_w]
    rfl
  refine take_ (i := 6) (N := (some 18)) (v := ?_) (a' := ?_) #[true, true, true, false, true, true, true, false, false, false, false, false, false, false, false] rfl rfl (by kernel_rfl) (fun _ _ _ h => h) (Or.inl ⟨by rfl, ?_⟩) hHeld ?_ ?_
  rotate_left
  · rintro w' ⟨s0, s1, s2, _⟩
    go_simp
    with_reducible rfl
  rotate_left
  · simp only [Act.put, List.setIfInBounds_toArray, List.set_cons_zero, List.set_cons_succ, i64_w, i32_w]
    rfl
  refine pure_ (i := 8) (N := (some 20)) (v := ?_) (a' := ?_) #[true, true, true, false, true, true, true, false, true, false, false, false, false, false, false] rfl rfl (by kernel_rfl) (fun _ _ _ h => h) (Or.inl ⟨by rfl, ?_⟩) ?_ ?_
  rotate_left
  · intro w'
    go_simp
    with_reducible rfl
  rotate_left
  · simp only [Act.put, List.setIfInBounds_toArray, List.set_cons_zero, List.set_cons_succ, i64_w, i32_w]
    rfl
  refine pure_ (i := 9) (N := (some 21)) (v := ?_) (a' := ?_) #[true, true, true, false, true, true, true, false, true, true, false, false, false, false, false] rfl rfl (by kernel_rfl) (fun _ _ _ h => h) (Or.inl ⟨by rfl, ?_⟩) ?_ ?_
  rotate_left
  · intro w'
    go_simp
    with_reducible rfl
  rotate_left
  · simp only [Act.put, List.setIfInBounds_toArray, List.set_cons_zero, List.set_cons_succ, i64_w, i32_w]
    rfl
  refine take_ (i := 10) (N := (some 22)) (v := ?_) (a' := ?_) #[true, true, true, false, true, true, true, false, true, true, true, false, false, false, false] rfl rfl (by kernel_rfl) (fun _ _ _ h => h) (Or.inl ⟨by rfl, ?_⟩) hHeld ?_ ?_
  rotate_left
  · rintro w' ⟨s0, s1, s2, _⟩
    go_simp
    with_reducible rfl
  rotate_left
  · simp only [Act.put, List.setIfInBounds_toArray, List.set_cons_zero, List.set_cons_succ, i64_w, i32_w]
    rfl
  refine one_ (i := 3) (N := (some 15)) #[true, true, true, true, true, true, true, false, true, true, true, false, false, false, false] rfl rfl (by kernel_rfl) (by decide) (fun K hK => ?_)
  refine goes_ Tryd.func40 (by kernel_rfl) rfl #[.string x0, .int .i64 2] (by rfl) rfl rfl (by (try simp only [List.map_toArray, List.map_cons, List.map_nil]); first | done | rfl) ?_
  with_reducible refine (date_number.calls _ _ _ _ h0.out).mono ?_
  rintro e w1_ ⟨rfl, hb⟩
  have HS0_ := (hb.cell (World.block_lt_of_cell? _ _ (hHeld.1))).trans (hHeld.1)
  have HS1_ := (hb.cell (World.block_lt_of_cell? _ _ (hHeld.2.1))).trans (hHeld.2.1)
  have HS2_ := (hb.cell (World.block_lt_of_cell? _ _ (hHeld.2.2.1))).trans (hHeld.2.2.1)
  refine ⟨_, rfl, ?_⟩
  replace HB := Aside0.mk (below_step (by repeat (first | (with_reducible first | exact HB.out | apply below_alloc | apply pw_below_drewN | apply below_drew1) | exact HB.out)) hb)
  clear hb
  refine hK.out _ _ ⟨HS0_, HS1_, HS2_, trivial⟩ (fun hHeld => ?_)
  clear hK K
  refine norm_ (a' := ?_) ?_ ?_
  rotate_left
  · show Act.put _ (some 15) _ = _
    simp only [Act.put, List.setIfInBounds_toArray, List.set_cons_zero, List.set_cons_succ, i64_w, i32_w]
    rfl
  refine one_ (i := 7) (N := (some 19)) #[true, true, true, true, true, true, true, true, true, true, true, false, false, false, false] rfl rfl (by kernel_rfl) (by decide) (fun K hK => ?_)
  refine goes_ Tryd.func40 (by kernel_rfl) rfl #[.string x1, .int .i64 2] (by rfl) rfl rfl (by (try simp only [List.map_toArray, List.map_cons, List.map_nil]); first | done | rfl) ?_
  with_reducible refine (date_number.calls _ _ _ _ h1.out).mono ?_
  rintro e w2_ ⟨rfl, hb⟩
  have HS0_ := (hb.cell (World.block_lt_of_cell? _ _ (hHeld.1))).trans (hHeld.1)
  have HS1_ := (hb.cell (World.block_lt_of_cell? _ _ (hHeld.2.1))).trans (hHeld.2.1)
  have HS2_ := (hb.cell (World.block_lt_of_cell? _ _ (hHeld.2.2.1))).trans (hHeld.2.2.1)
  refine ⟨_, rfl, ?_⟩
  replace HB := Aside0.mk (below_step (by repeat (first | (with_reducible first | exact HB.out | apply below_alloc | apply pw_below_drewN | apply below_drew1) | exact HB.out)) hb)
  clear hb
  refine hK.out _ _ ⟨HS0_, HS1_, HS2_, trivial⟩ (fun hHeld => ?_)
  clear hK K
  refine norm_ (a' := ?_) ?_ ?_
  rotate_left
  · show Act.put _ (some 19) _ = _
    simp only [Act.put, List.setIfInBounds_toArray, List.set_cons_zero, List.set_cons_succ, i64_w, i32_w]
    rfl
  refine one_ (i := 11) (N := (some 23)) #[true, true, true, true, true, true, true, true, true, true, true, true, false, false, false] rfl rfl (by kernel_rfl) (by decide) (fun K hK => ?_)
  refine goes_ Tryd.func40 (by kernel_rfl) rfl #[.string x2, .int .i64 2] (by rfl) rfl rfl (by (try simp only [List.map_toArray, List.map_cons, List.map_nil]); first | done | rfl) ?_
  with_reducible refine (date_number.calls _ _ _ _ h2.out).mono ?_
  rintro e w3_ ⟨rfl, hb⟩
  have HS0_ := (hb.cell (World.block_lt_of_cell? _ _ (hHeld.1))).trans (hHeld.1)
  have HS1_ := (hb.cell (World.block_lt_of_cell? _ _ (hHeld.2.1))).trans (hHeld.2.1)
  have HS2_ := (hb.cell (World.block_lt_of_cell? _ _ (hHeld.2.2.1))).trans (hHeld.2.2.1)
  refine ⟨_, rfl, ?_⟩
  replace HB := Aside0.mk (below_step (by repeat (first | (with_reducible first | exact HB.out | apply below_alloc | apply pw_below_drewN | apply below_drew1) | exact HB.out)) hb)
  clear hb
  refine hK.out _ _ ⟨HS0_, HS1_, HS2_, trivial⟩ (fun hHeld => ?_)
  clear hK K
  refine norm_ (a' := ?_) ?_ ?_
  rotate_left
  · show Act.put _ (some 23) _ = _
    simp only [Act.put, List.setIfInBounds_toArray, List.set_cons_zero, List.set_cons_succ, i64_w, i32_w]
    rfl
  refine pure_ (i := 12) (N := (some 4)) (v := ?_) (a' := ?_) #[true, true, true, true, true, true, true, true, true, true, true, true, true, false, false] rfl rfl (by kernel_rfl) (fun _ _ _ h => h) (Or.inl ⟨by rfl, ?_⟩) ?_ ?_
  rotate_left
  · intro w'
    go_simp
    with_reducible rfl
  rotate_left
  · simp only [Act.put, List.setIfInBounds_toArray, List.set_cons_zero, List.set_cons_succ, i64_w, i32_w]
    rfl
  refine pure_ (i := 13) (N := (some 5)) (v := ?_) (a' := ?_) #[true, true, true, true, true, true, true, true, true, true, true, true, true, true, false] rfl rfl (by kernel_rfl) (fun _ _ _ h => h) (Or.inl ⟨by rfl, ?_⟩) ?_ ?_
  rotate_left
  · intro w'
    go_simp
    with_reducible rfl
  rotate_left
  · simp only [Act.put, List.setIfInBounds_toArray, List.set_cons_zero, List.set_cons_succ, i64_w, i32_w]
    rfl
  refine pure_ (i := 14) (N := (some 6)) (v := ?_) (a' := ?_) #[true, true, true, true, true, true, true, true, true, true, true, true, true, true, true] rfl rfl (by kernel_rfl) (fun _ _ _ h => h) (Or.inl ⟨by rfl, ?_⟩) ?_ ?_
  rotate_left
  · intro w'
    go_simp
    with_reducible rfl
  rotate_left
  · simp only [Act.put, List.setIfInBounds_toArray, List.set_cons_zero, List.set_cons_succ, i64_w, i32_w]
    rfl
  refine done_ (by kernel_rfl) ?_
  clear hHeld
  go_wp2
  all_goals go_ret
  all_goals refine ⟨?_, (by repeat (first | (with_reducible first | exact HB.out | apply below_alloc | apply pw_below_drewN | apply below_drew1) | exact HB.out))⟩
  all_goals first
    | (simp only [i64_w]; congr 2; (repeat' split); all_goals first | rfl | omega)
    | (show Ending.returned (.int .i64 ((a * 60 + b) * 60 + c)) = _; congr 2; (repeat' split) <;> first | omega | (unfold wrap64; omega))
theorem clock_other (s : ByteArray) (L : List ByteArray) (w : World) (hG : Gl w) (hl : ((L.length : Int) != 3) = true) (hL : Hid (strings_Split.f s ⟨#[58]⟩ = some L)) :
    Calls Tryd.prog 41 #[.string s] w fun e w' => e = .returned (.int .i64 (-1)) ∧ Below w.heap.size w w' := by
  have HB := Aside0.mk (Below.refl w.heap.size w)
  go_enter Tryd.func41, Tryd.ntmps41
  go_wp2_with (go_at_call 36; (with_reducible refine (strings_Split.calls _ _ _ _ hG hL.out).mono ?_); rintro e w1 ⟨v0, rfl, ho, hb⟩; replace HB := Aside0.mk (below_step (by repeat (first | (with_reducible first | exact HB.out | apply below_alloc | apply pw_below_drewN | apply below_drew1) | exact HB.out)) hb); clear hb; obtain ⟨A0, c0, e0⟩ := Kd.R_slice ho; subst e0; clear ho)
  go_ret
  exact ⟨by rfl, (by repeat (first | (with_reducible first | exact HB.out | apply below_alloc | apply pw_below_drewN | apply below_drew1) | exact HB.out))⟩
def date_clock.f (s : ByteArray) : Option Int := (strings_Split.f s ⟨#[58]⟩).bind fun t => (if (t.length : Int) = 3 then
    ((date_number.f (rdOf ByteArray.empty t 0) 2).bind fun a => (date_number.f (rdOf ByteArray.empty t 1) 2).bind fun b => (date_number.f (rdOf ByteArray.empty t 2) 2).bind fun c =>
      some (if a < 0 then -1 else if a > 23 then -1 else if b < 0 then -1 else if b > 59 then -1 else if c < 0 then -1 else if c > 59 then -1 else wrap64 (wrap64 (wrap64 (wrap64 (a * 60) + b) * 60) + c))) else some (-1))
theorem date_clock.calls (s : ByteArray) (r : Int) (w : World) (hG : Gl w) (h : date_clock.f s = some r) :
    Calls Tryd.prog 41 #[.string s] w fun e w' => e = .returned (.int .i64 r) ∧ Below w.heap.size w w' := by
  obtain ⟨L, hL, h⟩ := Option.bind_eq_some_iff.1 h
  match L, hL, h with
  | [x0, x1, x2], hL, h =>
    rw [if_pos (by simp)] at h
    obtain ⟨a, h0, h⟩ := Option.bind_eq_some_iff.1 h
    obtain ⟨b, h1, h⟩ := Option.bind_eq_some_iff.1 h
    obtain ⟨c, h2, h⟩ := Option.bind_eq_some_iff.1 h
    obtain rfl := Option.some.inj h
    exact clock_three s x0 x1 x2 a b c w hG hL h0 h1 h2
  | [], hL, h => rw [if_neg (by simp)] at h; obtain rfl := Option.some.inj h; exact clock_other s _ w hG (by simp) hL
  | [_], hL, h => rw [if_neg (by simp)] at h; obtain rfl := Option.some.inj h; exact clock_other s _ w hG (by simp) hL
  | [_, _], hL, h => rw [if_neg (by simp)] at h; obtain rfl := Option.some.inj h; exact clock_other s _ w hG (by simp) hL
  | _ :: _ :: _ :: _ :: _, hL, h => rw [if_neg (by simp only [List.length_cons]; omega)] at h; obtain rfl := Option.some.inj h; exact clock_other s _ w hG (bne_iff_ne.2 (by simp only [List.length_cons]; omega)) hL
end Go.Proofs.YtdlpdgdccoeklaaDoor.Ext
