import Derived.Test.YtdlpdgdccoeklaaDoorKoExtDateB
import Derived.Test.YtdlpdgdccoeklaaDoorKoExtDateC
/- The contracts of the reference's texts of a moment and of date.Format in the printed texts' form. -/
namespace Go.Proofs.YtdlpdgdccoeklaaDoor.Ext
open Go.RowKit Go.Proofs.YtdlpdgdccoeklaaDoorW.PrintWords Go.Proofs.YtdlpdgdccoeklaaDoorW.PrintLast Go.Proofs.YtdlpdgdccoeklaaDoorW.PrintMore Go.Proofs.YtdlpdgdccoeklaaDoor.XA
/-- The name of a month, if it is one of the list. -/
def mnOf (mo : Int) : ByteArray := rdOf ByteArray.empty monthsL mo
theorem monthsL_length : monthsL.length = 13 := rfl
def decorumref03_Moment_First.f (y mo d hh ii ss : Int) : Option ByteArray :=
  (decorumref03_Moment_day.f 20000 y mo d hh ii ss).bind fun dy => (decorumref03_pad.f 100 d 2).bind fun dd => (decorumref03_pad.f 100 y 4).bind fun yy => (decorumref03_Moment_clock.f 100 y mo d hh ii ss).bind fun cc =>
  if 0 ≤ mo ∧ mo < 13 ∧ (mnOf mo).size = 3 ∧ 3 ≤ dy.size ∧ dd.size = 2 ∧ yy.size = 4 ∧ cc.size = 8 then
    some (dy.extract 0 3 ++ ⟨#[44, 32]⟩ ++ dd ++ ⟨#[32]⟩ ++ mnOf mo ++ ⟨#[32]⟩ ++ yy ++ ⟨#[32]⟩ ++ cc ++ ⟨#[32, 71, 77, 84]⟩) else none
theorem decorumref03_Moment_First.calls (y mo d hh ii ss : Int) (r : ByteArray) (w : World) (h : decorumref03_Moment_First.f y mo d hh ii ss = some r) :
    Calls Tryd.prog 10 #[.agg #[.int .i64 y, .int .i64 mo, .int .i64 d, .int .i64 hh, .int .i64 ii, .int .i64 ss]] w fun e w' => e = .returned (.string r) ∧ Below w.heap.size w w' := by
  obtain ⟨dy, h1, h⟩ := Option.bind_eq_some_iff.1 h
  obtain ⟨dd, h2, h⟩ := Option.bind_eq_some_iff.1 h
  obtain ⟨yy, h3, h⟩ := Option.bind_eq_some_iff.1 h
  obtain ⟨cc, h4, h⟩ := Option.bind_eq_some_iff.1 h
  split at h
  · rename_i hc
    obtain ⟨c1, c2, c3, c4, c5, c6, c7⟩ := hc
    obtain rfl := Option.some.inj h
    exact first_calls y mo d hh ii ss dy (mnOf mo) cc w c1 (by rw [monthsL_length]; exact c2) rfl h1 h4 c7 c3 (by omega) dd yy h2 h3 c5 c6
  · cases h
/-- date.Format behind its days and its rest. -/
def formatAt (n r : Int) : Option (ByteArray × Bool) :=
  (civil_Date.f 20000 n).bind fun t => if t.2.2.2 = true then
    (civil_Weekday.f n).bind fun wd => (strings_Fields.f shB).bind fun sL => (strings_Fields.f mnB).bind fun mL =>
    (date_padded.f (wrap64 (Int.tdiv r 3600)) 2).bind fun h2 => (date_padded.f (Int.tmod (wrap64 (Int.tdiv r 60)) 60) 2).bind fun i2 => (date_padded.f (Int.tmod r 60) 2).bind fun s2 =>
    (date_padded.f t.2.2.1 2).bind fun dd => (date_padded.f t.1 4).bind fun yy =>
    if 0 ≤ wd ∧ wd < (sL.length : Int) ∧ 0 ≤ wrap64 (t.2.1 - 1) ∧ wrap64 (t.2.1 - 1) < (mL.length : Int) ∧ (rdOf ByteArray.empty sL wd).size = 3 ∧ (rdOf ByteArray.empty mL (wrap64 (t.2.1 - 1))).size = 3 ∧
      h2.size = 2 ∧ i2.size = 2 ∧ s2.size = 2 ∧ dd.size = 2 ∧ yy.size = 4 then
      some (rdOf ByteArray.empty sL wd ++ ⟨#[44, 32]⟩ ++ dd ++ ⟨#[32]⟩ ++ rdOf ByteArray.empty mL (wrap64 (t.2.1 - 1)) ++ ⟨#[32]⟩ ++ yy ++ ⟨#[32]⟩ ++ (h2 ++ ⟨#[58]⟩ ++ i2 ++ ⟨#[58]⟩ ++ s2) ++ ⟨#[32, 71, 77, 84]⟩, true) else none
  else some (⟨#[]⟩, false)
def date_Format.f (sec : Int) : Option (ByteArray × Bool) :=
  if Int.tmod sec 86400 < 0 then formatAt (wrap64 (wrap64 (Int.tdiv sec 86400) - 1)) (wrap64 (Int.tmod sec 86400 + 86400)) else formatAt (wrap64 (Int.tdiv sec 86400)) (Int.tmod sec 86400)
theorem date_Format.calls (sec : Int) (r1 : ByteArray) (r2 : Bool) (w : World) (hG : Gl w) (h : date_Format.f sec = some (r1, r2)) :
    Calls Tryd.prog 12 #[.int .i64 sec] w fun e w' => e = .returned (.tuple #[.string r1, .bool r2]) ∧ Below w.heap.size w w' := by
  unfold date_Format.f at h
  by_cases hn : Int.tmod sec 86400 < 0
  · rw [if_pos hn] at h
    obtain ⟨⟨y, mo, d, ok⟩, hD, h⟩ := Option.bind_eq_some_iff.1 h
    cases ok with
    | true =>
      simp only [if_true] at h
      obtain ⟨wd, h1, h⟩ := Option.bind_eq_some_iff.1 h
      obtain ⟨sL, h2, h⟩ := Option.bind_eq_some_iff.1 h
      obtain ⟨mL, h3, h⟩ := Option.bind_eq_some_iff.1 h
      obtain ⟨x1, h4, h⟩ := Option.bind_eq_some_iff.1 h
      obtain ⟨x2, h5, h⟩ := Option.bind_eq_some_iff.1 h
      obtain ⟨x3, h6, h⟩ := Option.bind_eq_some_iff.1 h
      obtain ⟨x4, h7, h⟩ := Option.bind_eq_some_iff.1 h
      obtain ⟨x5, h8, h⟩ := Option.bind_eq_some_iff.1 h
      split at h
      · rename_i hc
        obtain ⟨c1, c2, c3, c4, c5, c6, c7, c8, c9, c10, c11⟩ := hc
        simp only [Option.some.injEq, Prod.mk.injEq] at h
        obtain ⟨rfl, rfl⟩ := h
        exact format_neg_yes sec (wrap64 (Int.tdiv sec 86400)) (Int.tmod sec 86400) _ _ y mo d _ _ _ _ wd _ _ _ x4 x5 x1 x2 x3 sL mL w hG (i64_w _) rfl (decide_eq_true hn) (i64_w _) (i64_w _) (i64_w _) (i64_w _) rfl rfl (i64_w _)
          hD h1 c1 c2 c3 c4 h2 h3 rfl rfl c5 c6 h4 h5 h6 h7 h8 c7 c8 c9 c10 c11
      · cases h
    | false =>
      simp only [Bool.false_eq_true, if_false, Option.some.injEq, Prod.mk.injEq] at h
      obtain ⟨rfl, rfl⟩ := h
      exact format_neg_no sec (wrap64 (Int.tdiv sec 86400)) (Int.tmod sec 86400) _ _ y mo d w hG (i64_w _) rfl (decide_eq_true hn) (i64_w _) (i64_w _) hD
  · rw [if_neg hn] at h
    obtain ⟨⟨y, mo, d, ok⟩, hD, h⟩ := Option.bind_eq_some_iff.1 h
    cases ok with
    | true =>
      simp only [if_true] at h
      obtain ⟨wd, h1, h⟩ := Option.bind_eq_some_iff.1 h
      obtain ⟨sL, h2, h⟩ := Option.bind_eq_some_iff.1 h
      obtain ⟨mL, h3, h⟩ := Option.bind_eq_some_iff.1 h
      obtain ⟨x1, h4, h⟩ := Option.bind_eq_some_iff.1 h
      obtain ⟨x2, h5, h⟩ := Option.bind_eq_some_iff.1 h
      obtain ⟨x3, h6, h⟩ := Option.bind_eq_some_iff.1 h
      obtain ⟨x4, h7, h⟩ := Option.bind_eq_some_iff.1 h
      obtain ⟨x5, h8, h⟩ := Option.bind_eq_some_iff.1 h
      split at h
      · rename_i hc
        obtain ⟨c1, c2, c3, c4, c5, c6, c7, c8, c9, c10, c11⟩ := hc
        simp only [Option.some.injEq, Prod.mk.injEq] at h
        obtain ⟨rfl, rfl⟩ := h
        exact format_pos_yes sec _ (Int.tmod sec 86400) y mo d _ _ _ _ wd _ _ _ x4 x5 x1 x2 x3 sL mL w hG (i64_w _) rfl (decide_eq_false hn) (i64_w _) (i64_w _) rfl rfl (i64_w _)
          hD h1 c1 c2 c3 c4 h2 h3 rfl rfl c5 c6 h4 h5 h6 h7 h8 c7 c8 c9 c10 c11
      · cases h
    | false =>
      simp only [Bool.false_eq_true, if_false, Option.some.injEq, Prod.mk.injEq] at h
      obtain ⟨rfl, rfl⟩ := h
      exact format_pos_no sec _ (Int.tmod sec 86400) y mo d w hG (i64_w _) rfl (decide_eq_false hn) hD
end Go.Proofs.YtdlpdgdccoeklaaDoor.Ext
