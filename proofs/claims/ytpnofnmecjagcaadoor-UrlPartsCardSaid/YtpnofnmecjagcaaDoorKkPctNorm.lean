import Derived.Test.YtpnofnmecjagcaaDoorKkPctExt
/- Contract of pct.Norm. -/
namespace Go.Proofs.YtpnofnmecjagcaaDoor.Ext
open Go.RowKit Go.Proofs.YtpnofnmecjagcaaDoorW.PrintWords Go.Proofs.YtpnofnmecjagcaaDoorW.PrintMore Go.Proofs.YtpnofnmecjagcaaDoor.XA
set_option linter.unusedVariables false
theorem below_via {W w2 : World} (nn : Nat) (hb : Below (W.drewN nn).heap.size (W.drewN nn) w2) : Below W.heap.size W w2 := by
  have h : (W.drewN nn).heap.size = W.heap.size := by simp
  rw [h] at hb
  exact (pw_below_drewN (Below.refl _ W) nn).trans hb
theorem below_then {W w1 w2 : World} (h : Below W.heap.size W w1) (hb : Below w1.heap.size w1 w2) : Below W.heap.size W w2 := h.trans (hb.mono h.size)
def MaxN (a b : Nat) : Nat := if a < b then b else a
theorem list_at (s : ByteArray) (p : Nat) (h : p < s.size) : (s.extract p s.size).data.toList = s[p] :: s.data.toList.drop (p + 1) := by
  rw [Lib.extract_to_end, drop_at s p h]
theorem dec_tail (s : ByteArray) (p : Nat) : Utf8.decode (s.extract p s.size) 0 = Utf8.decode s p := by
  have h1 := Lib.decodeL_drop (s.extract p s.size) 0
  rw [List.drop_zero, Lib.extract_to_end, Lib.decodeL_drop] at h1
  exact h1.symm
set_option maxHeartbeats 4000000 in
set_option maxRecDepth 100000 in
theorem pct_Norm.calls (s r1 : ByteArray) (r2 : Bool) (w : World) (h : pct_Norm.f s = some (r1, r2)) :
    Calls Tryd.prog 44 #[.string s] w fun e w' => e = .returned (.tuple #[.string r1, .bool r2]) ∧ Below w.heap.size w w' := by
  unfold pct_Norm.f at h
  split at h
  case isFalse => cases h
  rename_i hs
  obtain ⟨ANS, hA⟩ : ∃ ANS, normL s.data.toList = ANS := ⟨_, rfl⟩
  rw [hA] at h
  have HR := Lib.hid (show normR ANS = (r1, r2) from Option.some.inj h)
  clear h
  have HA := Lib.hid hA
  clear hA
  go_enter Tryd.func44, Tryd.ntmps44
  go_wp2
  go_loopg [5] s.size (fun g s5 wx => ∃ (pos skip : Nat) (acc : List UInt8), s5 = .int .i64 skip ∧ wx.heap[w.heap.size + 1]? = some (.stringIter s pos) ∧ Below w.heap.size w wx ∧ Lib.IsBuilderF 49 5 w.heap.size w.heap.size (Lib.byteCells acc) wx ∧
    pos ≤ s.size ∧ s.size ≤ pos + g ∧ skip ≤ s.size ∧ Hid ((normL (s.data.toList.drop (MaxN pos skip))).map (acc ++ ·) = ANS) ∧ acc.length ≤ 3 * MaxN pos skip ∧ Hid (∀ j, pos ≤ j → j < skip → ∀ b, s.data.toList[j]? = some b → b.toNat < 128))
  case atStart =>
    refine ⟨0, 0, [], rfl, ?_, ((Below.refl _ w).alloc (Nat.le_refl _) _).alloc (by simp) _, (Lib.IsBuilderF.of (Lib.fresh_isBuilder _ _ w)).alloc _, by omega, by omega, by omega, ?_, by simp, fun j _ h => absurd h (by omega)⟩
    · have := World.iter_heap (w.alloc (.cells #[.pointer none, .slice none 0 0] 49)) s 0
      simpa using this
    · show _ = _
      rw [show MaxN 0 0 = 0 from rfl, List.drop_zero, HA.out]
      cases ANS <;> simp
  case round =>
    obtain ⟨pos, skip, acc, rfl, hit, hbw, hI, hp0, hpg, hsk, HN, hal, HK⟩ := hrel
    have hsz : w.heap.size + 1 < wr.heap.size := (Array.getElem?_eq_some_iff.1 hit).1
    by_cases hlt : pos < s.size
    · obtain ⟨g, rfl⟩ : ∃ g, gk = g + 1 := ⟨gk - 1, by omega⟩
      by_cases hps : pos < skip
      · have hasc : (s[pos]'hlt).toNat < 128 := HK.out pos (Nat.le_refl _) hps _ (Lib.data_getElem? s pos hlt)
        have hnx : ∀ ty, (Instr.next (.pointer (some ⟨w.heap.size + 1, 0, none⟩)) true ty).run Tryd.prog wr = _ := fun ty => Lib.run_next_ascii_at wr (w.heap.size + 1) s pos ty hit hlt hasc
        have hit2 := Lib.iterAt_heap wr (w.heap.size + 1) s pos (pos + 1) hit
        have hbw2 := Lib.below_iterAt hbw (k := w.heap.size + 1) (by omega) s (pos + 1)
        have hI2 := hI.iterAt hit (pos + 1)
        have hm : MaxN (pos + 1) skip = MaxN pos skip := by unfold MaxN; rw [if_pos hps]; split <;> omega
        rw [← hm] at HN hal
        clear hm hasc hit hI
        go_wp2
        go_roundg g
        case measure => omega
        case rel => exact ⟨pos + 1, skip, acc, rfl, hit2, hbw2, hI2, by omega, by omega, hsk, HN, hal, fun j h1 h2 => HK.out j (by omega) h2⟩
      · have hm : MaxN pos skip = pos := by unfold MaxN; rw [if_neg hps]
        rw [hm] at HN hal
        clear hm HK
        have hps' : (skip : Int) ≤ (pos : Int) := by omega
        have hmx : MaxN (pos + 1) skip = pos + 1 := by unfold MaxN; rw [if_neg (by omega)]
        have HD := Lib.hid (drop_at s pos hlt)
        rw [HD.out] at HN
        by_cases hasc : (s[pos]'hlt).toNat < 128
        · have hnx : ∀ ty, (Instr.next (.pointer (some ⟨w.heap.size + 1, 0, none⟩)) true ty).run Tryd.prog wr = _ := fun ty => Lib.run_next_ascii_at wr (w.heap.size + 1) s pos ty hit hlt hasc
          have hit2 := Lib.iterAt_heap wr (w.heap.size + 1) s pos (pos + 1) hit
          have hbw2 := Lib.below_iterAt hbw (k := w.heap.size + 1) (by omega) s (pos + 1)
          have hI2 := hI.iterAt hit (pos + 1)
          obtain ⟨W, hW⟩ : ∃ W, wr.iterAt (w.heap.size + 1) s (pos + 1) = W := ⟨_, rfl⟩
          rw [hW] at hnx hit2 hbw2 hI2
          have hsW : w.heap.size + 1 < W.heap.size := (Array.getElem?_eq_some_iff.1 hit2).1
          clear hit hI hbw hW hsz
          by_cases h37 : s[pos] = 37
          · -- a percent
            have hT := list_at s pos hlt
            have hlen : (s.extract pos s.size).size = s.size - pos := by rw [ByteArray.size_extract]; omega
            have h37' : (((s[pos]'hlt).toNat : Int) == 37) = true := by rw [h37]; rfl
            obtain ⟨v, ok, hv, hok, hval⟩ := triple_at (s.extract pos s.size)
            rw [hT, hlen] at hok
            rw [hT] at hval
            have hlc : (s[pos] :: List.drop (pos + 1) s.data.toList).length = s.size - pos := by rw [← HD.out, List.length_drop, ← Lib.size_eq]
            cases hcok : ok with
            | false =>
              subst hcok
              have hn := normL_bad s[pos] (s.data.toList.drop (pos + 1)) (fun h => by have := hok.2 ⟨by rw [← hlc]; exact h.1, h.2⟩; simp at this) h37
              have e : ANS = none := by rw [← HN.out, hn]; rfl
              rw [e] at HR
              have e1 : r1 = ⟨#[]⟩ := (congrArg Prod.fst HR.out).symm
              have e2 : r2 = false := (congrArg Prod.snd HR.out).symm
              subst e1 e2
              have hc := pct_triple.calls 3 (s.extract pos s.size) v false W hv
              clear HN HR HA hval hok hlc hT hn e hv h37 hlen hasc HD
              go_wp2_with (go_at_call 63; refine hc.mono ?_; rintro e w1 ⟨rfl, nn, rfl⟩)
              go_ret2
              exact ⟨rfl, pw_below_drewN hbw2 _⟩
            | true =>
              subst hcok
              obtain ⟨k3, ka, kb⟩ := hok.1 rfl
              have hn := normL_good s[pos] (s.data.toList.drop (pos + 1)) ⟨by rw [hlc]; exact k3, ka, kb⟩ h37
              have hv2 := hval rfl
              obtain ⟨T, hTT⟩ : ∃ T, two ((s[pos] :: List.drop (pos + 1) s.data.toList).getD 1 0) ((s[pos] :: List.drop (pos + 1) s.data.toList).getD 2 0) = T := ⟨_, rfl⟩
              rw [hTT] at hn hv2
              subst hv2
              have hd3 : List.drop 3 (s[pos] :: List.drop (pos + 1) s.data.toList) = s.data.toList.drop (pos + 3) := by rw [← HD.out, List.drop_drop]
              rw [hd3] at hn
              have hm3 : MaxN (pos + 1) (pos + 3) = pos + 3 := by unfold MaxN; rw [if_pos (by omega)]
              have HN2 := Lib.hid (show (normL (s.data.toList.drop (MaxN (pos + 1) (pos + 3)))).map (acc ++ outF T ++ ·) = ANS by rw [hm3, ← HN.out, hn, some_map_app])
              have HK2 := Lib.hid (show ∀ j, pos + 1 ≤ j → j < pos + 3 → ∀ b, s.data.toList[j]? = some b → b.toNat < 128 from by
                intro j h1 h2 b hb
                have g1 : (s[pos] :: List.drop (pos + 1) s.data.toList).getD 1 0 = s.data.toList.getD (pos + 1) 0 := by rw [← HD.out]; simp [List.getD_eq_getElem?_getD, List.getElem?_drop]
                have g2 : (s[pos] :: List.drop (pos + 1) s.data.toList).getD 2 0 = s.data.toList.getD (pos + 2) 0 := by rw [← HD.out]; simp [List.getD_eq_getElem?_getD, List.getElem?_drop]
                rw [g1] at ka
                rw [g2] at kb
                have : j = pos + 1 ∨ j = pos + 2 := by omega
                rcases this with rfl | rfl
                · have := val_asc _ ka; rw [List.getD_eq_getElem?_getD, hb] at this; simpa using this
                · have := val_asc _ kb; rw [List.getD_eq_getElem?_getD, hb] at this; simpa using this)
              have hc := pct_triple.calls 3 (s.extract pos s.size) (T.toNat : Int) true W hv
              have hal2 : (acc ++ outF T).length ≤ 3 * MaxN (pos + 1) (pos + 3) := by rw [List.length_append, hm3]; have := outF_len T; omega
              have k3' : pos + 3 ≤ s.size := by omega
              clear hn HN HA hval hok hlc hT hv hd3 hm3 h37 hasc ka kb hTT k3 HD hlen
              cases hf : freeB T with
              | true =>
                have e : outF T = [T] := by unfold outF; rw [hf]; rfl
                rw [e] at HN2 hal2
                have hP0 := plain_low T
                rw [hf] at hP0
                have hP := Lib.hid hP0
                have hT1 : (T.toNat : Int) ≤ 255 := by have := T.toNat_lt; omega
                have hT0 : (0 : Int) ≤ (T.toNat : Int) := by omega
                clear hP0 e hf
                go_wp2_with (first
                  | (go_at_call 63; refine hc.mono ?_; rintro e w1 ⟨rfl, nn, rfl⟩)
                  | (go_at_call 64; with_reducible refine (pct_plain.calls _ _ _ hP.out).mono ?_; rintro e w2 ⟨rfl, hb2⟩; have hb3 := below_via nn hb2; have hI3 := hI2.below hb3; have hs3 := hb3.size)
                  | (go_at_call 56; refine (wByte w.heap.size w.heap.size acc T _ hI3 (by omega) (by omega)).mono ?_; rintro e w4 ⟨rfl, hI4, hb4, hk4⟩))
                go_roundg g
                case measure => omega
                case rel => exact ⟨pos + 1, pos + 3, acc ++ [T], by go_num, hk4.iter ((hb3.block _ (by omega)).trans hit2) (by omega), (hbw2.trans (hb3.mono hbw2.size)).trans hb4, hI4, by omega, by omega, by omega, HN2, hal2, HK2⟩
              | false =>
                have e : outF T = cod T := by unfold outF; rw [hf]; rfl
                rw [e] at HN2 hal2
                have hP0 := plain_low T
                rw [hf] at hP0
                have hP := Lib.hid hP0
                have hT1 : (T.toNat : Int) ≤ 255 := by have := T.toNat_lt; omega
                have hT0 : (0 : Int) ≤ (T.toNat : Int) := by omega
                clear hP0 e hf
                have hC := Lib.hid (coded_at T)
                go_wp2_with (first
                  | (go_at_call 63; refine hc.mono ?_; rintro e w1 ⟨rfl, nn, rfl⟩)
                  | (go_at_call 64; with_reducible refine (pct_plain.calls _ _ _ hP.out).mono ?_; rintro e w2 ⟨rfl, hb2⟩)
                  | (go_at_call 65; with_reducible refine (pct_coded.calls _ _ _ hC.out).mono ?_; rintro e w3 ⟨rfl, hb2'⟩; have hb3 := below_then (below_via nn hb2) hb2'; have hI3 := hI2.below hb3; have hs3 := hb3.size)
                  | (go_at_call 31; refine (wStr w.heap.size w.heap.size acc ⟨(cod T).toArray⟩ _ hI3 (by show _ + (cod T).length ≤ _; simp [cod]; omega) (by omega)).mono ?_; rintro e w4 ⟨rfl, hI4, hb4, hk4⟩))
                go_roundg g
                case measure => omega
                case rel => exact ⟨pos + 1, pos + 3, acc ++ cod T, by go_num, hk4.iter ((hb3.block _ (by omega)).trans hit2) (by omega), (hbw2.trans (hb3.mono hbw2.size)).trans hb4, hI4, by omega, by omega, by omega, HN2, hal2, HK2⟩
          · have hn := normL_low s[pos] (s.data.toList.drop (pos + 1)) h37
            have HN2 := Lib.hid (show (normL (s.data.toList.drop (MaxN (pos + 1) skip))).map (acc ++ outP s[pos] ++ ·) = ANS by rw [hmx, ← HN.out, hn, some_map_app])
            have hal2 : (acc ++ outP s[pos]).length ≤ 3 * MaxN (pos + 1) skip := by rw [List.length_append, hmx]; have := outP_len s[pos]; omega
            have h37' : (((s[pos]'hlt).toNat : Int) == 37) = false := beq_eq_false_iff_ne.2 (fun e => h37 (UInt8.toNat_inj.1 (by show _ = 37; omega)))
            have hP := plain_low s[pos]
            have HK2 := Lib.hid (show ∀ j, pos + 1 ≤ j → j < skip → ∀ b, s.data.toList[j]? = some b → b.toNat < 128 from fun j h1 h2 => absurd h2 (by omega))
            have hasc' : ((s[pos]'hlt).toNat : Int) < 128 := by omega
            have hC1 : (0 : Int) ≤ ((s[pos]'hlt).toNat : Int) := by omega
            clear hn HN HA h37 hmx
            cases hf : freeB s[pos] with
            | true =>
              rw [hf] at hP
              have HP := Lib.hid hP
              have e : outP s[pos] = [s[pos]] := by unfold outP; rw [hf]; rfl
              rw [e] at HN2 hal2
              clear hP hf e
              go_wp2_with (first
                | (go_at_call 64; with_reducible refine (pct_plain.calls _ _ _ HP.out).mono ?_; rintro e w2 ⟨rfl, hb2⟩; have hI3 := hI2.below hb2; have hs3 := hb2.size)
                | (go_at_call 54; refine (wRune w.heap.size w.heap.size acc s[pos] _ hasc hI3 (by omega) (by omega)).mono ?_; rintro e w4 ⟨rfl, hI4, hb4, hk4⟩))
              go_roundg g
              case measure => omega
              case rel => exact ⟨pos + 1, skip, acc ++ [s[pos]], rfl, hk4.iter ((hb2.block _ (by omega)).trans hit2) (by omega), (hbw2.trans (hb2.mono hbw2.size)).trans hb4, hI4, by omega, by omega, by omega, HN2, hal2, HK2⟩
            | false =>
              rw [hf] at hP
              have HP := Lib.hid hP
              have hCon : ∀ w, Calls Tryd.prog 66 #[.string ⟨#[33, 36, 38, 39, 40, 41, 42, 43, 44, 59, 61, 58, 64, 47, 63, 91, 93]⟩, .int .i32 ((s[pos]'hlt).toNat : Int)] w fun e w' => e = .returned (.bool (otherB s[pos])) ∧ w' = w := fun w => by
                refine (Tryd.strings_ContainsRune_ascii _ _ w hC1 hasc').mono fun e w' ⟨he, hw⟩ => ⟨?_, hw⟩
                rw [he, ← contains_other]
                simp
              cases ho : otherB s[pos] with
              | true =>
                rw [ho] at hCon
                have e : outP s[pos] = [s[pos]] := by unfold outP; rw [ho, Bool.or_true]; rfl
                rw [e] at HN2 hal2
                clear hP hf e ho
                go_wp2_with (first
                  | (go_at_call 64; with_reducible refine (pct_plain.calls _ _ _ HP.out).mono ?_; rintro e w2 ⟨rfl, hb2⟩; have hI3 := hI2.below hb2; have hs3 := hb2.size)
                  | (go_at_call 66; with_reducible refine (hCon _).mono ?_; rintro e w3 ⟨rfl, rfl⟩)
                  | (go_at_call 54; refine (wRune w.heap.size w.heap.size acc s[pos] _ hasc hI3 (by omega) (by omega)).mono ?_; rintro e w4 ⟨rfl, hI4, hb4, hk4⟩))
                go_roundg g
                case measure => omega
                case rel => exact ⟨pos + 1, skip, acc ++ [s[pos]], rfl, hk4.iter ((hb2.block _ (by omega)).trans hit2) (by omega), (hbw2.trans (hb2.mono hbw2.size)).trans hb4, hI4, by omega, by omega, by omega, HN2, hal2, HK2⟩
              | false =>
                rw [ho] at hCon
                have hWd := Lib.hid (show pct_width.f (s.extract pos s.size) = some ((1 : Nat) : Int) by unfold pct_width.f; rw [if_pos (by rw [ByteArray.size_extract]; omega), dec_tail, decode_ascii s pos hlt hasc])
                have hx : (s.extract pos (pos + 1)).data.toList = [s[pos]] := by rw [Lib.extract_data, drop_at s pos hlt, show pos + 1 - pos = 1 by omega]; rfl
                have hAl := Lib.hid (show pct_all.f (s.extract pos (pos + 1)) = some ⟨(cod s[pos]).toArray⟩ by unfold pct_all.f; rw [if_pos (by rw [ByteArray.size_extract]; omega), hx]; simp [codAll])
                have e : outP s[pos] = cod s[pos] := by unfold outP; rw [hf, ho]; rfl
                rw [e] at HN2 hal2
                clear hP hf e ho hx
                go_wp2_with (first
                  | (go_at_call 64; with_reducible refine (pct_plain.calls _ _ _ HP.out).mono ?_; rintro e w2 ⟨rfl, hb2⟩)
                  | (go_at_call 66; with_reducible refine (hCon _).mono ?_; rintro e w3 ⟨rfl, rfl⟩)
                  | (go_at_call 68; with_reducible refine (pct_width.calls _ _ _ hWd.out).mono ?_; rintro e w5 ⟨rfl, hb5⟩)
                  | (go_at_call 67; with_reducible refine (pct_all.calls _ _ _ hAl.out).mono ?_; rintro e w6 ⟨rfl, hb6⟩; have hb3 := below_then (below_then hb2 hb5) hb6; have hI3 := hI2.below hb3; have hs3 := hb3.size)
                  | (go_at_call 31; refine (wStr w.heap.size w.heap.size acc ⟨(cod s[pos]).toArray⟩ _ hI3 (by show _ + (cod s[pos]).length ≤ _; simp [cod]; omega) (by omega)).mono ?_; rintro e w4 ⟨rfl, hI4, hb4, hk4⟩))
                go_roundg g
                case measure => omega
                case rel => exact ⟨pos + 1, skip, acc ++ cod s[pos], rfl, hk4.iter ((hb3.block _ (by omega)).trans hit2) (by omega), (hbw2.trans (hb3.mono hbw2.size)).trans hb4, hI4, by omega, by omega, by omega, HN2, hal2, HK2⟩
        · -- a sign that is not ASCII
          have hrh := rune_high s pos hlt (by omega)
          have hnx : ∀ ty, (Instr.next (.pointer (some ⟨w.heap.size + 1, 0, none⟩)) true ty).run Tryd.prog wr = _ := fun ty => Lib.run_next_any_at wr (w.heap.size + 1) s pos ty hit hlt
          obtain ⟨K, hK⟩ : ∃ K, (Utf8.decode s pos).2 = K := ⟨_, rfl⟩
          obtain ⟨R, hR⟩ : ∃ R, (Utf8.decode s pos).1 = R := ⟨_, rfl⟩
          have hit2 := Lib.iterAt_heap wr (w.heap.size + 1) s pos (pos + K) hit
          have hbw2 := Lib.below_iterAt hbw (k := w.heap.size + 1) (by omega) s (pos + K)
          have hI2 := hI.iterAt hit (pos + K)
          have hWd := Lib.hid (show pct_width.f (s.extract pos s.size) = some (K : Int) by unfold pct_width.f; rw [if_pos (by rw [ByteArray.size_extract]; omega), dec_tail, hK])
          rw [hR, hK] at hnx hrh
          obtain ⟨r1', r2', r3', r4'⟩ := hrh
          obtain ⟨W, hW⟩ : ∃ W, wr.iterAt (w.heap.size + 1) s (pos + K) = W := ⟨_, rfl⟩
          rw [hW] at hnx hit2 hbw2 hI2
          have hsW : w.heap.size + 1 < W.heap.size := (Array.getElem?_eq_some_iff.1 hit2).1
          obtain ⟨X, hX⟩ : ∃ X, (s.extract pos (pos + K)).data.toList = X := ⟨_, rfl⟩
          have hXl : X.length = K := by rw [← hX, Lib.extract_data, List.length_take, List.length_drop, ← Lib.size_eq]; omega
          have hsplit : s.data.toList.drop pos = X ++ s.data.toList.drop (pos + K) := by
            rw [← hX, Lib.extract_data, show pos + K - pos = K by omega, ← List.drop_drop, List.take_append_drop]
          have hXh : ∀ b ∈ X, 128 ≤ b.toNat := by
            intro b hb
            obtain ⟨j, hj⟩ := List.getElem?_of_mem hb
            have hjl : j < K := by rw [← hXl]; exact (List.getElem?_eq_some_iff.1 hj).1
            refine r4' (pos + j) (by omega) (by omega) b ?_
            have : (s.data.toList.drop pos)[j]? = some b := by rw [hsplit, List.getElem?_append_left (by omega)]; exact hj
            rwa [List.getElem?_drop] at this
          have hmk : MaxN (pos + K) skip = pos + K := by unfold MaxN; rw [if_neg (by omega)]
          have HN2 := Lib.hid (show (normL (s.data.toList.drop (MaxN (pos + K) skip))).map (acc ++ codAll X ++ ·) = ANS by
            rw [hmk, ← HN.out, ← HD.out, hsplit, normL_high X _ hXh, some_map_app])
          have hal2 : (acc ++ codAll X).length ≤ 3 * MaxN (pos + K) skip := by rw [List.length_append, hmk, codAll_length]; omega
          have HK2 := Lib.hid (show ∀ j, pos + K ≤ j → j < skip → ∀ b, s.data.toList[j]? = some b → b.toNat < 128 from fun j h1 h2 => absurd h2 (by omega))
          have hAl := Lib.hid (show pct_all.f (s.extract pos (pos + K)) = some ⟨(codAll X).toArray⟩ by unfold pct_all.f; rw [if_pos (by rw [ByteArray.size_extract]; omega), hX])
          have HP := Lib.hid (plain_high (R : Int) (by omega))
          have n1 : ((R : Int) == 37) = false := beq_eq_false_iff_ne.2 (by omega)
          have n2 : (128 : Int) ≤ (R : Int) := by omega
          have n3 : (pos : Int) + (K : Int) ≤ (s.size : Int) := by omega
          have n4 : (codAll X).length ≤ 3 * K := by rw [codAll_length]; omega
          clear hit hI hbw hW hsz HN HA hmk hX hXl hsplit hXh r4' hR hK hmx hasc HD r1'
          go_wp2_with (first
            | (go_at_call 64; with_reducible refine (pct_plain.calls _ _ _ HP.out).mono ?_; rintro e w2 ⟨rfl, hb2⟩)
            | (go_at_call 68; with_reducible refine (pct_width.calls _ _ _ hWd.out).mono ?_; rintro e w5 ⟨rfl, hb5⟩)
            | (go_at_call 67; with_reducible refine (pct_all.calls _ _ _ hAl.out).mono ?_; rintro e w6 ⟨rfl, hb6⟩; have hb3 := below_then (below_then hb2 hb5) hb6; have hI3 := hI2.below hb3; have hs3 := hb3.size)
            | (go_at_call 31; refine (wStr w.heap.size w.heap.size acc ⟨(codAll X).toArray⟩ _ hI3 (by show _ + (codAll X).length ≤ _; omega) (by omega)).mono ?_; rintro e w4 ⟨rfl, hI4, hb4, hk4⟩))
          go_roundg g
          case measure => omega
          case rel => exact ⟨pos + K, skip, acc ++ codAll X, rfl, hk4.iter ((hb3.block _ (by omega)).trans hit2) (by omega), (hbw2.trans (hb3.mono hbw2.size)).trans hb4, hI4, by omega, by omega, by omega, HN2, hal2, HK2⟩
    · have hnx : ∀ ty, (Instr.next (.pointer (some ⟨w.heap.size + 1, 0, none⟩)) true ty).run Tryd.prog wr = _ := fun ty => Lib.run_next_end_at wr (w.heap.size + 1) s pos ty hit hlt
      obtain rfl : pos = s.size := by omega
      have hm : MaxN s.size skip = s.size := by unfold MaxN; rw [if_neg (by omega)]
      rw [hm, List.drop_of_length_le (by simp)] at HN
      have e : ANS = some acc := by rw [← HN.out]; simp [normL]
      rw [e] at HR
      have e1 : r1 = ⟨acc.toArray⟩ := (congrArg Prod.fst HR.out).symm
      have e2 : r2 = true := (congrArg Prod.snd HR.out).symm
      subst e1 e2
      clear HN HR HA hm hal HK e
      go_wp2_with (go_at_call 32; refine (Tryd.Builder_String_any_k w.heap.size w.heap.size _ _ hI (by omega)).mono ?_; rintro e w1 ⟨rfl, _, hb1, _⟩)
      go_ret2
      exact ⟨rfl, hbw.trans hb1⟩
/-- url.usual, its contract without the draws. -/
def url_usual.f (s : ByteArray) : Option Int := Go.Proofs.YtpnofnmecjagcaaDoor.XA.url_usual.f s
theorem url_usual.calls (s : ByteArray) (r : Int) (w : World) (h : url_usual.f s = some r) :
    Calls Tryd.prog 16 #[.string s] w fun e w' => e = .returned (.int .i64 r) ∧ Below w.heap.size w w' :=
  (Go.Proofs.YtpnofnmecjagcaaDoor.XA.url_usual.calls s r w h).mono fun e w' ⟨he, hw⟩ => ⟨he, by obtain ⟨n, rfl⟩ := hw; exact pw_below_drewN (Below.refl _ _) _⟩
end Go.Proofs.YtpnofnmecjagcaaDoor.Ext
