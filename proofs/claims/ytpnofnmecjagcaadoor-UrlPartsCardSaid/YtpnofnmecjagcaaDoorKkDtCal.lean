/- Plain facts on the calendar: days before a year, days before a month, the number of a day, and that a day's number tells its year, month and day. No program in this text. -/
namespace Go.Proofs.YtpnofnmecjagcaaDoor.Dt
def leap (y : Int) : Bool := decide (y % 4 = 0) && (decide (y % 100 ≠ 0) || decide (y % 400 = 0))
def lp (y : Int) : Int := if leap y then 1 else 0
/-- How many days a month has. -/
def len (y m : Int) : Int :=
  if m = 2 then 28 + lp y else if m = 4 ∨ m = 6 ∨ m = 9 ∨ m = 11 then 30 else if 1 ≤ m ∧ m ≤ 12 then 31 else 0
/-- How many days are ahead of a year, from year 0 on. -/
def before (y : Int) : Int := if y = 0 then 0 else 365 * y + (y - 1) / 4 - (y - 1) / 100 + (y - 1) / 400 + 1
/-- How many days are ahead of a month in its year. -/
def cum (y m : Int) : Int :=
  if m ≤ 1 then 0 else if m = 2 then 31 else if m = 3 then 59 + lp y else if m = 4 then 90 + lp y else if m = 5 then 120 + lp y
  else if m = 6 then 151 + lp y else if m = 7 then 181 + lp y else if m = 8 then 212 + lp y else if m = 9 then 243 + lp y
  else if m = 10 then 273 + lp y else if m = 11 then 304 + lp y else if m = 12 then 334 + lp y else 365 + lp y
/-- The number of a day, from the first one of 1970 on. -/
def dayNo (y m d : Int) : Int := before y - 719528 + cum y m + d - 1
def okDay (y m d : Int) : Prop := 0 ≤ y ∧ y ≤ 9999 ∧ 1 ≤ d ∧ d ≤ len y m
instance (y m d : Int) : Decidable (okDay y m d) := by unfold okDay; infer_instance
/-- A moment of a day: year, month, day, second of the day. -/
structure Mom where
  y : Int
  m : Int
  d : Int
  t : Int
def Mom.ok (x : Mom) : Prop := okDay x.y x.m x.d ∧ 0 ≤ x.t ∧ x.t < 86400
end Go.Proofs.YtpnofnmecjagcaaDoor.Dt
