import Derived.Test.YtpnofnmecjagcaaDoorKkDtCal
/- Plain facts on the three texts of a moment: digits, names, words between separators; that the program's reading by words and the reference's reading by places accept the same texts with the same seconds. No program in this text. -/
namespace Go.Proofs.YtpnofnmecjagcaaDoor.Dt
abbrev Txt := List UInt8
/-! ### Digits -/
def dg (n : Int) : UInt8 := UInt8.ofNat (48 + (n % 10).toNat)
/-! ### Names -/
def dayName (w : Int) : Txt :=
  if w = 0 then [77, 111, 110, 100, 97, 121] else if w = 1 then [84, 117, 101, 115, 100, 97, 121] else if w = 2 then [87, 101, 100, 110, 101, 115, 100, 97, 121]
  else if w = 3 then [84, 104, 117, 114, 115, 100, 97, 121] else if w = 4 then [70, 114, 105, 100, 97, 121] else if w = 5 then [83, 97, 116, 117, 114, 100, 97, 121]
  else [83, 117, 110, 100, 97, 121]
def monName (m : Int) : Txt :=
  if m = 1 then [74, 97, 110] else if m = 2 then [70, 101, 98] else if m = 3 then [77, 97, 114] else if m = 4 then [65, 112, 114] else if m = 5 then [77, 97, 121]
  else if m = 6 then [74, 117, 110] else if m = 7 then [74, 117, 108] else if m = 8 then [65, 117, 103] else if m = 9 then [83, 101, 112] else if m = 10 then [79, 99, 116]
  else if m = 11 then [78, 111, 118] else [68, 101, 99]
def d3 (w : Int) : Txt := (dayName w).take 3
/-! ### Words -/
/-- The words of a text between separators. -/
def spl (c : UInt8) : Txt → List Txt
  | [] => [[]]
  | b :: l => if b = c then [] :: spl c l else match spl c l with
    | [] => [[b]]
    | x :: r => (b :: x) :: r
theorem spl_ne (c : UInt8) (s : Txt) : spl c s ≠ [] := by
  cases s with
  | nil => simp [spl]
  | cons b l =>
    unfold spl
    split
    · simp
    · split <;> simp
theorem spl_none {c : UInt8} : ∀ {x : Txt}, (∀ b ∈ x, b ≠ c) → spl c x = [x]
  | [], _ => rfl
  | b :: l, h => by
    unfold spl
    rw [if_neg (h b (by simp)), spl_none (x := l) fun a ha => h a (by simp [ha])]
theorem spl_app {c : UInt8} : ∀ {x : Txt} (y : Txt), (∀ b ∈ x, b ≠ c) → spl c (x ++ c :: y) = x :: spl c y
  | [], y, _ => by simp [spl]
  | b :: l, y, h => by
    rw [List.cons_append, spl.eq_2, if_neg (h b (by simp)), spl_app (x := l) y fun a ha => h a (by simp [ha])]
/-! ### The three texts -/
def wday (n : Int) : Int := (n + 3) % 7
def Mom.w (x : Mom) : Int := wday (dayNo x.y x.m x.d)
def p2 (n : Int) : Txt := [dg (n / 10), dg n]
def p4 (n : Int) : Txt := [dg (n / 1000), dg (n / 100), dg (n / 10), dg n]
def clockT (t : Int) : Txt := p2 (t / 3600) ++ 58 :: p2 (t / 60 % 60) ++ 58 :: p2 (t % 60)
def gmt : Txt := [71, 77, 84]
def Mom.first (x : Mom) : Txt := d3 x.w ++ 44 :: 32 :: p2 x.d ++ 32 :: monName x.m ++ 32 :: p4 x.y ++ 32 :: clockT x.t ++ 32 :: gmt
end Go.Proofs.YtpnofnmecjagcaaDoor.Dt
