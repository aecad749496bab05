/- The Go functions as Lean functions (printed by a program). -/
import Derived.Test.YtndkbfbjjnhgoaaGreatSortK
set_option linter.unusedVariables false
namespace Go.PL
open Go

structure pensionhand_Claim where
  Issuer : Int
  Number : Int
  Person : Int
  Benefit : Int
  Ref : Int
  Day : Int
instance : Inhabited pensionhand_Claim := ⟨⟨0, 0, 0, 0, 0, 0⟩⟩
def pensionhand_Claim.cells (x : pensionhand_Claim) : List Go.Value := [.int .i64 x.Issuer, .int .i64 x.Number, .int .i64 x.Person, .int .i64 x.Benefit, .int .i64 x.Ref, .int .i64 x.Day]
def pensionhand_Claim.val (x : pensionhand_Claim) : Go.Value := .agg #[.int .i64 x.Issuer, .int .i64 x.Number, .int .i64 x.Person, .int .i64 x.Benefit, .int .i64 x.Ref, .int .i64 x.Day]
def pensionhand_Claim.R : TyR pensionhand_Claim := TyR.flat 6 pensionhand_Claim.cells (fun _ => rfl)
def pensionhand_Claim.eqb (x y : pensionhand_Claim) : Bool := (x.Issuer == y.Issuer) && ((x.Number == y.Number) && ((x.Person == y.Person) && ((x.Benefit == y.Benefit) && ((x.Ref == y.Ref) && ((x.Day == y.Day) && true)))))
structure Claim where
  Issuer : Int
  Number : Int
  Person : Int
  Benefit : Int
  Ref : Int
  Day : Int
instance : Inhabited Claim := ⟨⟨0, 0, 0, 0, 0, 0⟩⟩
def Claim.cells (x : Claim) : List Go.Value := [.int .i64 x.Issuer, .int .i64 x.Number, .int .i64 x.Person, .int .i64 x.Benefit, .int .i64 x.Ref, .int .i64 x.Day]
def Claim.val (x : Claim) : Go.Value := .agg #[.int .i64 x.Issuer, .int .i64 x.Number, .int .i64 x.Person, .int .i64 x.Benefit, .int .i64 x.Ref, .int .i64 x.Day]
def Claim.R : TyR Claim := TyR.flat 6 Claim.cells (fun _ => rfl)
def Claim.eqb (x y : Claim) : Bool := (x.Issuer == y.Issuer) && ((x.Number == y.Number) && ((x.Person == y.Person) && ((x.Benefit == y.Benefit) && ((x.Ref == y.Ref) && ((x.Day == y.Day) && true)))))
structure Span where
  From : Int
  To : Int
instance : Inhabited Span := ⟨⟨0, 0⟩⟩
def Span.cells (x : Span) : List Go.Value := [.int .i64 x.From, .int .i64 x.To]
def Span.val (x : Span) : Go.Value := .agg #[.int .i64 x.From, .int .i64 x.To]
def Span.R : TyR Span := TyR.flat 2 Span.cells (fun _ => rfl)
def Span.eqb (x y : Span) : Bool := (x.From == y.From) && ((x.To == y.To) && true)
structure api_Fact where
  Issuer : Int
  Number : Int
  Version : Int
  Withdrawn : Bool
  Person : Int
  Kind : Int
  State : Int
  Span : Span
  Seat : Int
  Share : Int
  Currency : Int
  Amount : Int
  Ref : Int
instance : Inhabited api_Fact := ⟨⟨0, 0, 0, false, 0, 0, 0, ⟨0, 0⟩, 0, 0, 0, 0, 0⟩⟩
def api_Fact.cells (x : api_Fact) : List Go.Value := [.int .i64 x.Issuer, .int .i64 x.Number, .int .i64 x.Version, .bool x.Withdrawn, .int .i64 x.Person, .int .i64 x.Kind, .int .i64 x.State, .int .i64 x.Span.From, .int .i64 x.Span.To, .int .i64 x.Seat, .int .i64 x.Share, .int .i64 x.Currency, .int .i64 x.Amount, .int .i64 x.Ref]
def api_Fact.val (x : api_Fact) : Go.Value := .agg #[.int .i64 x.Issuer, .int .i64 x.Number, .int .i64 x.Version, .bool x.Withdrawn, .int .i64 x.Person, .int .i64 x.Kind, .int .i64 x.State, .int .i64 x.Span.From, .int .i64 x.Span.To, .int .i64 x.Seat, .int .i64 x.Share, .int .i64 x.Currency, .int .i64 x.Amount, .int .i64 x.Ref]
def api_Fact.R : TyR api_Fact := TyR.flat 14 api_Fact.cells (fun _ => rfl)
def api_Fact.eqb (x y : api_Fact) : Bool := (x.Issuer == y.Issuer) && ((x.Number == y.Number) && ((x.Version == y.Version) && ((x.Withdrawn == y.Withdrawn) && ((x.Person == y.Person) && ((x.Kind == y.Kind) && ((x.State == y.State) && (Span.eqb x.Span y.Span && ((x.Seat == y.Seat) && ((x.Share == y.Share) && ((x.Currency == y.Currency) && ((x.Amount == y.Amount) && ((x.Ref == y.Ref) && true))))))))))))
structure Fraction where
  Num : Int
  Den : Int
instance : Inhabited Fraction := ⟨⟨0, 0⟩⟩
def Fraction.cells (x : Fraction) : List Go.Value := [.int .i64 x.Num, .int .i64 x.Den]
def Fraction.val (x : Fraction) : Go.Value := .agg #[.int .i64 x.Num, .int .i64 x.Den]
def Fraction.R : TyR Fraction := TyR.flat 2 Fraction.cells (fun _ => rfl)
def Fraction.eqb (x y : Fraction) : Bool := (x.Num == y.Num) && ((x.Den == y.Den) && true)
structure Rate where
  Currency : Int
  Month : Int
  Value : Fraction
instance : Inhabited Rate := ⟨⟨0, 0, ⟨0, 0⟩⟩⟩
def Rate.cells (x : Rate) : List Go.Value := [.int .i64 x.Currency, .int .i64 x.Month, .int .i64 x.Value.Num, .int .i64 x.Value.Den]
def Rate.val (x : Rate) : Go.Value := .agg #[.int .i64 x.Currency, .int .i64 x.Month, .int .i64 x.Value.Num, .int .i64 x.Value.Den]
def Rate.R : TyR Rate := TyR.flat 4 Rate.cells (fun _ => rfl)
def Rate.eqb (x y : Rate) : Bool := (x.Currency == y.Currency) && ((x.Month == y.Month) && (Fraction.eqb x.Value y.Value && true))
structure Rounding where
  Mode : Int
  Unit : Int
instance : Inhabited Rounding := ⟨⟨0, 0⟩⟩
def Rounding.cells (x : Rounding) : List Go.Value := [.int .i64 x.Mode, .int .i64 x.Unit]
def Rounding.val (x : Rounding) : Go.Value := .agg #[.int .i64 x.Mode, .int .i64 x.Unit]
def Rounding.R : TyR Rounding := TyR.flat 2 Rounding.cells (fun _ => rfl)
def Rounding.eqb (x y : Rounding) : Bool := (x.Mode == y.Mode) && ((x.Unit == y.Unit) && true)
structure Credit where
  Kind : Int
  Limit : Int
instance : Inhabited Credit := ⟨⟨0, 0⟩⟩
def Credit.cells (x : Credit) : List Go.Value := [.int .i64 x.Kind, .int .i64 x.Limit]
def Credit.val (x : Credit) : Go.Value := .agg #[.int .i64 x.Kind, .int .i64 x.Limit]
def Credit.R : TyR Credit := TyR.flat 2 Credit.cells (fun _ => rfl)
def Credit.eqb (x y : Credit) : Bool := (x.Kind == y.Kind) && ((x.Limit == y.Limit) && true)
structure Index where
  Year : Int
  Factor : Fraction
instance : Inhabited Index := ⟨⟨0, ⟨0, 0⟩⟩⟩
def Index.cells (x : Index) : List Go.Value := [.int .i64 x.Year, .int .i64 x.Factor.Num, .int .i64 x.Factor.Den]
def Index.val (x : Index) : Go.Value := .agg #[.int .i64 x.Year, .int .i64 x.Factor.Num, .int .i64 x.Factor.Den]
def Index.R : TyR Index := TyR.flat 3 Index.cells (fun _ => rfl)
def Index.eqb (x y : Index) : Bool := (x.Year == y.Year) && (Fraction.eqb x.Factor y.Factor && true)
structure Expr where
  Op : Int
  Value : Fraction
  Dim : Int
  Name : ByteArray
  Args : List Expr
instance : Inhabited Expr := ⟨⟨0, ⟨0, 0⟩, 0, (⟨#[]⟩ : ByteArray), []⟩⟩
structure Let where
  Name : ByteArray
  Body : Expr
instance : Inhabited Let := ⟨⟨(⟨#[]⟩ : ByteArray), ⟨0, ⟨0, 0⟩, 0, (⟨#[]⟩ : ByteArray), []⟩⟩⟩
structure Grant where
  Benefit : Int
  If : Expr
  Pay : Expr
instance : Inhabited Grant := ⟨⟨0, ⟨0, ⟨0, 0⟩, 0, (⟨#[]⟩ : ByteArray), []⟩, ⟨0, ⟨0, 0⟩, 0, (⟨#[]⟩ : ByteArray), []⟩⟩⟩
structure Reduce where
  Benefit : Int
  By : Expr
instance : Inhabited Reduce := ⟨⟨0, ⟨0, ⟨0, 0⟩, 0, (⟨#[]⟩ : ByteArray), []⟩⟩⟩
structure Version where
  From : Int
  Rounding : Rounding
  Credits : List Credit
  Series : List Index
  Lets : List Let
  Grants : List Grant
  Reduces : List Reduce
instance : Inhabited Version := ⟨⟨0, ⟨0, 0⟩, [], [], [], [], []⟩⟩
structure Statute where
  Name : ByteArray
  Currency : Int
  Versions : List Version
instance : Inhabited Statute := ⟨⟨(⟨#[]⟩ : ByteArray), 0, []⟩⟩
structure State where
  State : Int
  Statute : Statute
instance : Inhabited State := ⟨⟨0, ⟨(⟨#[]⟩ : ByteArray), 0, []⟩⟩⟩
structure Rules where
  From : Int
  MinDays : Int
  PostingLimit : Int
  Substantial : Int
  Members : List Int
instance : Inhabited Rules := ⟨⟨0, 0, 0, 0, []⟩⟩
structure Laws where
  States : List State
  Treaty : List Rules
  Rates : List Rate
instance : Inhabited Laws := ⟨⟨[], [], []⟩⟩
structure decision_file where
  x : Laws
  facts : List api_Fact
  own : List api_Fact
  claims : List Claim
  person : Int
instance : Inhabited decision_file := ⟨⟨⟨[], [], []⟩, [], [], [], 0⟩⟩

/- pension/pensionplain.Mod -/
def pensionplain_Mod_j (r_ : Int) : Option Int :=
  some r_
def pensionplain_Mod (n_ : Int) (m_ : Int) : Option Int :=
  Option.bind (remI n_ m_) fun q => if decide (q < 0) = true then
    pensionplain_Mod_j (i64 (q + m_))
  else
    pensionplain_Mod_j q
/- pension/pensionhand.Claims -/
def pensionhand_Claims_j (x : List Claim) (x2 : Int) (rec_ : ((List Claim) × Int) → Option (List Claim)) (v : Claim) : Option (List Claim) :=
  Option.bind (appI 48 x [v]) fun l => rec_ (l, i64 (x2 + 1))
def pensionhand_Claims_l (d_ : List pensionhand_Claim) (rec_ : ((List Claim) × Int) → Option (List Claim)) : ((List Claim) × Int) → Option (List Claim)
  | (x, x2) =>
  if (decide (x2 < (d_.length : Int)) && decide (x2 < 6)) = true then
    Option.bind (getI d_ x2) fun y => Option.bind (pensionplain_Mod y.Issuer 3) fun z => Option.bind (getI d_ x2) fun y2 => Option.bind (pensionplain_Mod y2.Number 9) fun z2 => Option.bind (getI d_ x2) fun y3 => Option.bind (pensionplain_Mod y3.Person 4) fun z3 => Option.bind (getI d_ x2) fun y4 => Option.bind (pensionplain_Mod y4.Benefit 5) fun z4 => Option.bind (getI d_ x2) fun y5 => Option.bind (pensionplain_Mod y5.Day 900) fun z5 => if ((i64 (1 + z4) == 3) || (i64 (1 + z4) == 4)) = true then
      Option.bind (getI d_ x2) fun y6 => Option.bind (pensionplain_Mod y6.Ref 4) fun z6 => if (({ (⟨z, i64 (1 + z2), i64 (1 + z3), i64 (1 + z4), 0, i64 (35150 + z5)⟩ : Claim) with Ref := i64 (1 + z6) } : Claim).Ref == ({ (⟨z, i64 (1 + z2), i64 (1 + z3), i64 (1 + z4), 0, i64 (35150 + z5)⟩ : Claim) with Ref := i64 (1 + z6) } : Claim).Person) = true then
        Option.bind (pensionplain_Mod (({ (⟨z, i64 (1 + z2), i64 (1 + z3), i64 (1 + z4), 0, i64 (35150 + z5)⟩ : Claim) with Ref := i64 (1 + z6) } : Claim).Person) 4) fun z7 => pensionhand_Claims_j x x2 rec_ ({ ({ (⟨z, i64 (1 + z2), i64 (1 + z3), i64 (1 + z4), 0, i64 (35150 + z5)⟩ : Claim) with Ref := i64 (1 + z6) } : Claim) with Ref := i64 (1 + z7) } : Claim)
      else
        pensionhand_Claims_j x x2 rec_ ({ (⟨z, i64 (1 + z2), i64 (1 + z3), i64 (1 + z4), 0, i64 (35150 + z5)⟩ : Claim) with Ref := i64 (1 + z6) } : Claim)
    else
      pensionhand_Claims_j x x2 rec_ (⟨z, i64 (1 + z2), i64 (1 + z3), i64 (1 + z4), 0, i64 (35150 + z5)⟩ : Claim)
  else
    some x
def pensionhand_Claims (d_ : List pensionhand_Claim) : Option (List Claim) :=
  loopC FU (pensionhand_Claims_l d_) ([], 0)
/- pension/pensionhand.All -/
def pensionhand_All (month_ : Int) : Option (List Claim) :=
  Option.bind (pensionplain_Mod month_ 400) fun z => some [(⟨0, 801, 1, 1, 0, i64 (35150 + z)⟩ : Claim), (⟨0, 802, 1, 2, 0, i64 (35150 + z)⟩ : Claim), (⟨1, 803, 1, 3, 2, i64 (35150 + z)⟩ : Claim), (⟨1, 804, 1, 4, 3, i64 (35150 + z)⟩ : Claim), (⟨2, 805, 1, 5, 0, i64 (35150 + z)⟩ : Claim), (⟨2, 806, 3, 3, 2, i64 (35150 + z)⟩ : Claim)]
/- pension/pensionref1.ValidDay -/
def pensionref1_ValidDay (day_ : Int) : Option Bool :=
  some (decide (0 ≤ day_) && decide (day_ ≤ 73048))
/- pension/pensionref1.leap -/
def pensionref1_leap (year_ : Int) : Option Bool :=
  some ((Int.tmod year_ 4 == 0) && ((Int.tmod year_ 100 != 0) || (Int.tmod year_ 400 == 0)))
/- pension/pensionref1.length -/
def pensionref1_length_j (x : Bool) : Option Int :=
  if x = true then
    some 30
  else
    some 31
def pensionref1_length (year_ : Int) (month_ : Int) : Option Int :=
  if (month_ == 2) = true then
    Option.bind (pensionref1_leap year_) fun z => if z = true then
      some 29
    else
      some 28
  else
    if (month_ == 4) = true then
      pensionref1_length_j (month_ == 4)
    else
      if (month_ == 6) = true then
        pensionref1_length_j (month_ == 6)
      else
        if (month_ == 9) = true then
          pensionref1_length_j (month_ == 9)
        else
          pensionref1_length_j (month_ == 11)
/- pension/pensionref1.monthAt -/
def pensionref1_monthAt_l (rec_ : (Int × Int) → Option (Int × Int)) : (Int × Int) → Option (Int × Int)
  | (day_2, m_) =>
  Option.bind (pensionref1_length (i64 (1900 + i64 (Int.tdiv m_ 12))) (i64 (Int.tmod m_ 12 + 1))) fun z => if decide (day_2 < z) = true then
    some (m_, day_2)
  else
    rec_ (i64 (day_2 - z), i64 (m_ + 1))
def pensionref1_monthAt (day_ : Int) : Option (Int × Int) :=
  loopC FU pensionref1_monthAt_l (day_, 0)
/- pension/pensionref1.Month -/
def pensionref1_Month (day_ : Int) : Option Int :=
  Option.bind (pensionref1_ValidDay day_) fun z => if (!z) = true then
    some (-1)
  else
    Option.bind (pensionref1_monthAt day_) fun z2 => some z2.1
/- pension/pensionref1.ValidMonth -/
def pensionref1_ValidMonth (month_ : Int) : Option Bool :=
  some (decide (0 ≤ month_) && decide (month_ ≤ 2399))
/- pension/pensionref1.start -/
def pensionref1_start_l (month_ : Int) (rec_ : (Int × Int) → Option Int) : (Int × Int) → Option Int
  | (n_, m_) =>
  if decide (m_ < month_) = true then
    Option.bind (pensionref1_length (i64 (1900 + i64 (Int.tdiv m_ 12))) (i64 (Int.tmod m_ 12 + 1))) fun z => rec_ (i64 (n_ + z), i64 (m_ + 1))
  else
    some n_
def pensionref1_start (month_ : Int) : Option Int :=
  loopC FU (pensionref1_start_l month_) (0, 0)
/- pension/pensionref1.MonthStart -/
def pensionref1_MonthStart (month_ : Int) : Option (Int × Bool) :=
  Option.bind (pensionref1_ValidMonth month_) fun z => if (!z) = true then
    some (0, false)
  else
    Option.bind (pensionref1_start month_) fun z2 => some (z2, true)
/- pension/pensionref26.Start -/
def pensionref26_Start_j (m_ : Int) : Option (Int × Bool) :=
  Option.bind (pensionref1_ValidMonth m_) fun z3 => if (!z3) = true then
    some (0, false)
  else
    some (m_, true)
def pensionref26_Start (c_ : Claim) : Option (Int × Bool) :=
  Option.bind (pensionref1_Month c_.Day) fun z => if decide (z < 0) = true then
    some (0, false)
  else
    Option.bind (pensionref1_MonthStart z) fun z2 => if decide (z2.1 < c_.Day) = true then
      pensionref26_Start_j (i64 (z + 1))
    else
      pensionref26_Start_j z
/- pension/pensionref26.Valid -/
def pensionref26_Valid (d_ : Claim) : Option Bool :=
  Option.bind (pensionref26_Start d_) fun z => if (((((((((!z.2) || decide (d_.Issuer < 0)) || decide (6 ≤ d_.Issuer)) || decide (d_.Number < 1)) || decide (999 < d_.Number)) || decide (d_.Person < 1)) || decide (99 < d_.Person)) || decide (d_.Benefit < 1)) || decide (5 < d_.Benefit)) = true then
    some false
  else
    if ((d_.Benefit == 3) || (d_.Benefit == 4)) = true then
      some ((decide (1 ≤ d_.Ref) && decide (d_.Ref ≤ 99)) && (d_.Ref != d_.Person))
    else
      some (d_.Ref == 0)
/- pension/pensionlaw26.Person -/
def pensionlaw26_Person (n_ : Int) : Option Int :=
  Option.bind (pensionplain_Mod n_ 4) fun z => some (i64 (1 + z))
/- pension/pensionlaw26.Month -/
def pensionlaw26_Month (n_ : Int) : Option Int :=
  Option.bind (pensionplain_Mod n_ 40) fun z => some (i64 (1155 + z))
/- pension/calendar.leap -/
def calendar_leap (year_ : Int) : Option Bool :=
  some (((Int.tmod year_ 4 == 0) && (Int.tmod year_ 100 != 0)) || (Int.tmod year_ 400 == 0))
/- pension/calendar.monthLength -/
def calendar_monthLength (year_ : Int) (month_ : Int) : Option Int :=
  Option.bind (if (month_ == 2) = true then Option.bind (calendar_leap year_) fun z => some z else some false) fun c => if c = true then
    some 29
  else
    Option.bind (getI [31, 28, 31, 30, 31, 30, 31, 31, 30, 31, 30, 31] (i64 (month_ - 1))) fun y => some y
/- pension/calendar.yearStart -/
def calendar_yearStart_j (start_ : Int) : Option Int :=
  some start_
def calendar_yearStart (year_ : Int) : Option Int :=
  if decide (0 < i64 (year_ - 1900)) = true then
    calendar_yearStart_j (i64 (i64 (365 * (i64 (year_ - 1900))) + i64 (Int.tdiv (i64 (i64 (year_ - 1900) - 1)) 4)))
  else
    calendar_yearStart_j (i64 (365 * (i64 (year_ - 1900))))
/- pension/calendar.Day -/
def calendar_Day_l (year_ : Int) (month_ : Int) (rec_ : (Int × Int) → Option (Int × Bool)) : (Int × Int) → Option (Int × Bool)
  | (day_, m_) =>
  if decide (m_ < month_) = true then
    Option.bind (calendar_monthLength year_ m_) fun z3 => rec_ (i64 (day_ + z3), i64 (m_ + 1))
  else
    some (day_, true)
def calendar_Day (year_ : Int) (month_ : Int) (dom_ : Int) : Option (Int × Bool) :=
  Option.bind (if ((((decide (year_ < 1900) || decide (2099 < year_)) || decide (month_ < 1)) || decide (12 < month_)) || decide (dom_ < 1)) = true then some true else Option.bind (calendar_monthLength year_ month_) fun z => some (decide (z < dom_))) fun c => if c = true then
    some (0, false)
  else
    Option.bind (calendar_yearStart year_) fun z2 => loopC FU (calendar_Day_l year_ month_) (i64 (i64 (z2 + dom_) - 1), 1)
/- pension/calendar.Valid -/
def calendar_Valid (day_ : Int) : Option Bool :=
  some (decide (0 ≤ day_) && decide (day_ ≤ 73048))
/- pension/calendar.yearLength -/
def calendar_yearLength (year_ : Int) : Option Int :=
  Option.bind (calendar_leap year_) fun z => if z = true then
    some 366
  else
    some 365
/- pension/calendar.Date -/
def calendar_Date_l2 (year_ : Int) (rec_2 : (Int × Int) → Option (Int × Int × Int × Bool)) : (Int × Int) → Option (Int × Int × Int × Bool)
  | (month_, rest_) =>
  Option.bind (calendar_monthLength year_ month_) fun z5 => if decide (z5 ≤ rest_) = true then
    Option.bind (calendar_monthLength year_ month_) fun z6 => rec_2 (i64 (month_ + 1), i64 (rest_ - z6))
  else
    some (year_, month_, i64 (rest_ + 1), true)
def calendar_Date_l (day_ : Int) (rec_ : Int → Option (Int × Int × Int × Bool)) (year_ : Int) : Option (Int × Int × Int × Bool) :=
  Option.bind (calendar_yearStart year_) fun z2 => Option.bind (calendar_yearLength year_) fun z3 => if decide (i64 (z2 + z3) ≤ day_) = true then
    rec_ (i64 (year_ + 1))
  else
    Option.bind (calendar_yearStart year_) fun z4 => loopC FU (calendar_Date_l2 year_) (1, i64 (day_ - z4))
def calendar_Date (day_ : Int) : Option (Int × Int × Int × Bool) :=
  Option.bind (calendar_Valid day_) fun z => if (!z) = true then
    some (0, 0, 0, false)
  else
    loopC FU (calendar_Date_l day_) (i64 (1900 + i64 (Int.tdiv day_ 366)))
/- pension/calendar.Month -/
def calendar_Month (day_ : Int) : Option Int :=
  Option.bind (calendar_Date day_) fun z => if (!z.2.2.2) = true then
    some (-1)
  else
    some (i64 (i64 (i64 (12 * (i64 (z.1 - 1900))) + z.2.1) - 1))
/- pension/calendar.validMonth -/
def calendar_validMonth (month_ : Int) : Option Bool :=
  some (decide (0 ≤ month_) && decide (month_ ≤ 2399))
/- pension/calendar.MonthStart -/
def calendar_MonthStart (month_ : Int) : Option (Int × Bool) :=
  Option.bind (calendar_validMonth month_) fun z => if (!z) = true then
    some (0, false)
  else
    Option.bind (calendar_Day (i64 (1900 + i64 (Int.tdiv month_ 12))) (i64 (Int.tmod month_ 12 + 1)) 1) fun z2 => some (z2.1, z2.2)
/- pension/decision.Start -/
def decision_Start_j (m_ : Int) : Option (Int × Bool) :=
  if decide (2399 < m_) = true then
    some (0, false)
  else
    some (m_, true)
def decision_Start (c_ : Claim) : Option (Int × Bool) :=
  Option.bind (calendar_Month c_.Day) fun z => if decide (z < 0) = true then
    some (0, false)
  else
    Option.bind (calendar_MonthStart z) fun z2 => if decide (z2.1 < c_.Day) = true then
      decision_Start_j (i64 (z + 1))
    else
      decision_Start_j z
/- pension/decision.Valid -/
def decision_Valid_j (d_ : Claim) : Option Bool :=
  Option.bind (decision_Start d_) fun z => some z.2
def decision_Valid_j3 (d_ : Claim) (x2 : Bool) : Option Bool :=
  if x2 = true then
    if (d_.Ref != 0) = true then
      some false
    else
      decision_Valid_j d_
  else
    some false
def decision_Valid_j2 (d_ : Claim) (x : Bool) : Option Bool :=
  if x = true then
    if ((decide (d_.Ref < 1) || decide (99 < d_.Ref)) || (d_.Ref == d_.Person)) = true then
      some false
    else
      decision_Valid_j d_
  else
    if (d_.Benefit == 1) = true then
      decision_Valid_j3 d_ (d_.Benefit == 1)
    else
      if (d_.Benefit == 2) = true then
        decision_Valid_j3 d_ (d_.Benefit == 2)
      else
        decision_Valid_j3 d_ (d_.Benefit == 5)
def decision_Valid (d_ : Claim) : Option Bool :=
  if (((((decide (d_.Issuer < 0) || decide (6 ≤ d_.Issuer)) || decide (d_.Number < 1)) || decide (999 < d_.Number)) || decide (d_.Person < 1)) || decide (99 < d_.Person)) = true then
    some false
  else
    if (d_.Benefit == 3) = true then
      decision_Valid_j2 d_ (d_.Benefit == 3)
    else
      decision_Valid_j2 d_ (d_.Benefit == 4)
/- slices.insertionSortCmpFunc(pension/api.Claim) -/
def slices_insertionSortCmpFunc_of_api_Claim_l2 (a_ : Int) (cmp_ : (Claim × Claim) → Option Int) (i_ : Int) (rec_ : (Int × (List Claim)) → Option (List Claim)) (rec_2 : (Int × (List Claim)) → Option (List Claim)) : (Int × (List Claim)) → Option (List Claim)
  | (j_, data_l2) =>
  Option.bind (if decide (a_ < j_) = true then Option.bind (getI data_l2 j_) fun y => Option.bind (getI data_l2 (i64 (j_ - 1))) fun y2 => Option.bind (cmp_ (y, y2)) fun z => some (decide (z < 0)) else some false) fun c => if c = true then
    Option.bind (getI data_l2 (i64 (j_ - 1))) fun y3 => Option.bind (getI data_l2 j_) fun y4 => Option.bind (getI data_l2 j_) fun y5 => Option.bind (getI data_l2 (i64 (j_ - 1))) fun y6 => rec_2 (i64 (j_ - 1), setI (setI data_l2 j_ y3) (i64 (j_ - 1)) y4)
  else
    rec_ (i64 (i_ + 1), data_l2)
def slices_insertionSortCmpFunc_of_api_Claim_l (a_ : Int) (b_ : Int) (cmp_ : (Claim × Claim) → Option Int) (rec_ : (Int × (List Claim)) → Option (List Claim)) : (Int × (List Claim)) → Option (List Claim)
  | (i_, data_l) =>
  if decide (i_ < b_) = true then
    loopC FU (slices_insertionSortCmpFunc_of_api_Claim_l2 a_ cmp_ i_ rec_) (i_, data_l)
  else
    some data_l
def slices_insertionSortCmpFunc_of_api_Claim (data_ : List Claim) (a_ : Int) (b_ : Int) (cmp_ : (Claim × Claim) → Option Int) : Option (List Claim) :=
  loopC FU (slices_insertionSortCmpFunc_of_api_Claim_l a_ b_ cmp_) (i64 (a_ + 1), data_)
/- slices.SortFunc(()pension/api.Claim,pension/api.Claim) -/
def slices_SortFunc_of_api_Claim (x_ : List Claim) (cmp_ : Claim × Claim → Option Int) : Option (List Claim) := sortF x_ cmp_
/- cmp.isNaN(int) -/
def cmp_isNaN_of_int (x_ : Int) : Option Bool :=
  some (x_ != x_)
/- cmp.Compare(int) -/
def cmp_Compare_of_int (x_ : Int) (y_ : Int) : Option Int :=
  Option.bind (cmp_isNaN_of_int x_) fun z => Option.bind (cmp_isNaN_of_int y_) fun z2 => if z = true then
    if z2 = true then
      some 0
    else
      some (-1)
  else
    if z2 = true then
      some 1
    else
      if decide (x_ < y_) = true then
        some (-1)
      else
        if decide (y_ < x_) = true then
          some 1
        else
          some 0
/- cmp.Or(int) -/
def cmp_Or_of_int_l (vals_ : List Int) (rec_ : Int → Option Int) (x : Int) : Option Int :=
  if decide (x < (vals_.length : Int)) = true then
    Option.bind (getI vals_ x) fun y => if (y != 0) = true then
      some y
    else
      rec_ (i64 (x + 1))
  else
    some 0
def cmp_Or_of_int (vals_ : List Int) : Option Int :=
  loopC FU (cmp_Or_of_int_l vals_) 0
/- pension/decision.compare -/
def decision_compare (a_ : Claim) (b_ : Claim) : Option Int :=
  Option.bind (cmp_Compare_of_int a_.Issuer b_.Issuer) fun z => Option.bind (cmp_Compare_of_int a_.Number b_.Number) fun z2 => Option.bind (cmp_Compare_of_int a_.Day b_.Day) fun z3 => Option.bind (cmp_Compare_of_int a_.Person b_.Person) fun z4 => Option.bind (cmp_Compare_of_int a_.Benefit b_.Benefit) fun z5 => Option.bind (cmp_Compare_of_int a_.Ref b_.Ref) fun z6 => Option.bind (cmp_Or_of_int [z, z2, z3, z4, z5, z6]) fun z7 => some z7
/- slices.Compact(()pension/api.Claim,pension/api.Claim) -/
def slices_Compact_of_api_Claim_j (k2_ : Int) (rec_2 : (Int × Int × (List Claim)) → Option (List Claim)) (k_5 : Int) (s_l3 : List Claim) : Option (List Claim) :=
  rec_2 (k_5, i64 (k2_ + 1), s_l3)
def slices_Compact_of_api_Claim_l2 (k_ : Int) (s : List Claim) (rec_2 : (Int × Int × (List Claim)) → Option (List Claim)) : (Int × Int × (List Claim)) → Option (List Claim)
  | (k_3, k2_, s_l2) =>
  if decide (k2_ < (s.length : Int)) = true then
    Option.bind (viewI s_l2 k_ k2_) fun y3 => Option.bind (viewI s_l2 k_ (i64 (k2_ - 1))) fun y4 => if (!Claim.eqb y3 y4) = true then
      Option.bind (viewI s_l2 k_ k2_) fun y5 => Option.bind (getI s_l2 k_3) fun y6 => slices_Compact_of_api_Claim_j k2_ rec_2 (i64 (k_3 + 1)) (setI s_l2 k_3 y5)
    else
      slices_Compact_of_api_Claim_j k2_ rec_2 k_3 s_l2
  else
    Option.bind (sliceI s_l2 k_3 (s_l2.length : Int)) fun s2 => Option.bind (sliceI (clearI (⟨0, 0, 0, 0, 0, 0⟩ : Claim) s_l2 k_3) 0 k_3) fun s3 => some s3
def slices_Compact_of_api_Claim_l (rec_ : (Int × (List Claim)) → Option (List Claim)) : (Int × (List Claim)) → Option (List Claim)
  | (k_, s_l) =>
  if decide (k_ < (s_l.length : Int)) = true then
    Option.bind (getI s_l k_) fun y => Option.bind (getI s_l (i64 (k_ - 1))) fun y2 => if Claim.eqb y y2 = true then
      Option.bind (sliceI s_l k_ (s_l.length : Int)) fun s => loopC FU (slices_Compact_of_api_Claim_l2 k_ s) (k_, 1, s_l)
    else
      rec_ (i64 (k_ + 1), s_l)
  else
    some s_l
def slices_Compact_of_api_Claim (s_ : List Claim) : Option (List Claim) :=
  if decide ((s_.length : Int) < 2) = true then
    some s_
  else
    loopC FU slices_Compact_of_api_Claim_l (1, s_)
/- pension/decision.sorted -/
def decision_sorted_j (x : Int) (rec_ : ((List Claim) × Int) → Option (List Claim)) (out_2 : List Claim) : Option (List Claim) :=
  rec_ (out_2, i64 (x + 1))
def decision_sorted_l (claims_ : List Claim) (rec_ : ((List Claim) × Int) → Option (List Claim)) : ((List Claim) × Int) → Option (List Claim)
  | (out_, x) =>
  if decide (x < (claims_.length : Int)) = true then
    Option.bind (getI claims_ x) fun y => Option.bind (decision_Valid y) fun z => if z = true then
      Option.bind (appI 48 out_ [y]) fun l => decision_sorted_j x rec_ l
    else
      decision_sorted_j x rec_ out_
  else
    Option.bind (slices_SortFunc_of_api_Claim out_ (fun x => decision_compare x.1 x.2)) fun z2 => Option.bind (slices_Compact_of_api_Claim z2) fun z3 => some z3
def decision_sorted (claims_ : List Claim) : Option (List Claim) :=
  loopC FU (decision_sorted_l claims_) ([], 0)
/- pension/decision.started -/
def decision_started (c_ : Claim) (month_ : Int) : Option Bool :=
  Option.bind (decision_Start c_) fun z => some (decide (z.1 ≤ month_))
/- slices.stableCmpFunc(pension/api.Claim) -/
def slices_stableCmpFunc_of_api_Claim_j (blockSize_ : Int) (rec_2 : Int → Option (List Claim)) : Option (List Claim) :=
  rec_2 (i64 (blockSize_ * 2))
def slices_stableCmpFunc_of_api_Claim_l3 (n_ : Int) (blockSize_ : Int) (rec_2 : Int → Option (List Claim)) (rec_3 : (Int × Int) → Option (List Claim)) : (Int × Int) → Option (List Claim)
  | (a_2, b_2) =>
  if decide (b_2 ≤ n_) = true then
    none
  else
    if decide (i64 (a_2 + blockSize_) < n_) = true then
      none
    else
      slices_stableCmpFunc_of_api_Claim_j blockSize_ rec_2
def slices_stableCmpFunc_of_api_Claim_l2 (n_ : Int) (z2 : List Claim) (rec_2 : Int → Option (List Claim)) (blockSize_ : Int) : Option (List Claim) :=
  if decide (blockSize_ < n_) = true then
    loopC FU (slices_stableCmpFunc_of_api_Claim_l3 n_ blockSize_ rec_2) (0, i64 (2 * blockSize_))
  else
    some z2
def slices_stableCmpFunc_of_api_Claim_l (n_ : Int) (cmp_ : (Claim × Claim) → Option Int) (rec_ : (Int × Int × (List Claim)) → Option (List Claim)) : (Int × Int × (List Claim)) → Option (List Claim)
  | (a_, b_, data_l) =>
  if decide (b_ ≤ n_) = true then
    Option.bind (slices_insertionSortCmpFunc_of_api_Claim data_l a_ b_ cmp_) fun z => rec_ (b_, i64 (b_ + 20), z)
  else
    Option.bind (slices_insertionSortCmpFunc_of_api_Claim data_l a_ n_ cmp_) fun z2 => loopC FU (slices_stableCmpFunc_of_api_Claim_l2 n_ z2) 20
def slices_stableCmpFunc_of_api_Claim (data_ : List Claim) (n_ : Int) (cmp_ : (Claim × Claim) → Option Int) : Option (List Claim) :=
  loopC FU (slices_stableCmpFunc_of_api_Claim_l n_ cmp_) (0, 20, data_)
/- slices.SortStableFunc(()pension/api.Claim,pension/api.Claim) -/
def slices_SortStableFunc_of_api_Claim (x_ : List Claim) (cmp_ : (Claim × Claim) → Option Int) : Option (List Claim) :=
  Option.bind (slices_stableCmpFunc_of_api_Claim x_ (x_.length : Int) cmp_) fun z => some z
/- pension/decision.effective$1 -/
def decision_effective_1 (a_ : Claim) (b_ : Claim) : Option Int :=
  Option.bind (cmp_Compare_of_int a_.Benefit b_.Benefit) fun z => Option.bind (cmp_Compare_of_int a_.Ref b_.Ref) fun z2 => Option.bind (cmp_Or_of_int [z, z2]) fun z3 => some z3
/- pension/decision.effective -/
def decision_effective_j (x2 : Int) (rec_ : ((List Claim) × Int × (List Bool) × (List Bool)) → Option (List Claim)) (x3 : List Claim) (v3 : List Bool) (v4 : List Bool) : Option (List Claim) :=
  rec_ (x3, i64 (x2 + 1), v3, v4)
def decision_effective_l (d_ : List Claim) (i_ : Int) (p_ : Int) (rec_ : ((List Claim) × Int × (List Bool) × (List Bool)) → Option (List Claim)) : ((List Claim) × Int × (List Bool) × (List Bool)) → Option (List Claim)
  | (x, x2, v, v2) =>
  if decide (x2 < (d_.length : Int)) = true then
    Option.bind (getI d_ x2) fun y => if (y.Benefit == 4) = true then
      Option.bind (decision_started y p_) fun z => Option.bind (if z = true then Option.bind (getI v y.Ref) fun y2 => some (!y2) else some false) fun c => if c = true then
        Option.bind (getI v y.Ref) fun y3 => if (y.Person == i_) = true then
          Option.bind (appI 48 x [y]) fun l => decision_effective_j x2 rec_ l (setI v y.Ref true) v2
        else
          decision_effective_j x2 rec_ x (setI v y.Ref true) v2
      else
        decision_effective_j x2 rec_ x v v2
    else
      Option.bind (if (y.Person == i_) = true then Option.bind (getI v2 y.Benefit) fun y4 => some (!y4) else some false) fun c2 => if c2 = true then
        Option.bind (getI v2 y.Benefit) fun y5 => Option.bind (decision_started y p_) fun z2 => if z2 = true then
          Option.bind (appI 48 x [y]) fun l2 => decision_effective_j x2 rec_ l2 v (setI v2 y.Benefit true)
        else
          decision_effective_j x2 rec_ x v (setI v2 y.Benefit true)
      else
        decision_effective_j x2 rec_ x v v2
  else
    Option.bind (slices_SortStableFunc_of_api_Claim x (fun x => decision_effective_1 x.1 x.2)) fun z3 => some z3
def decision_effective (d_ : List Claim) (i_ : Int) (p_ : Int) : Option (List Claim) :=
  loopC FU (decision_effective_l d_ i_ p_) ([], 0, (List.replicate 100 false), (List.replicate 6 false))
/- pension/decision.Select -/
def decision_Select (claims_ : List Claim) (person_ : Int) (month_ : Int) : Option (List Claim) :=
  if (decide (month_ < 0) || decide (2399 < month_)) = true then
    some []
  else
    Option.bind (decision_sorted claims_) fun z => Option.bind (decision_effective z person_ month_) fun z2 => some z2
/- pension/career.merge(pension/api.Fact) -/
def career_merge_of_api_Fact_l (p_ : (api_Fact × api_Fact) → Option Int) (rec_ : ((List api_Fact) × (List api_Fact) × (List api_Fact)) → Option (List api_Fact)) : ((List api_Fact) × (List api_Fact) × (List api_Fact)) → Option (List api_Fact)
  | (d_2, i_2, x) =>
  if (decide (0 < (d_2.length : Int)) && decide (0 < (i_2.length : Int))) = true then
    Option.bind (getI d_2 0) fun y => Option.bind (getI i_2 0) fun y2 => Option.bind (p_ (y, y2)) fun z => if decide (z < 0) = true then
      none
    else
      if decide (0 < z) = true then
        none
      else
        none
  else
    Option.bind (appI 112 x d_2) fun l4 => Option.bind (appI 112 l4 i_2) fun l5 => some l5
def career_merge_of_api_Fact (d_ : List api_Fact) (i_ : List api_Fact) (p_ : (api_Fact × api_Fact) → Option Int) (p_2 : (api_Fact × api_Fact) → Option api_Fact) : Option (List api_Fact) :=
  loopC FU (career_merge_of_api_Fact_l p_) (d_, i_, [])
/- pension/career.byIdentity -/
def career_byIdentity (a_ : api_Fact) (b_ : api_Fact) : Option Int :=
  Option.bind (cmp_Compare_of_int a_.Issuer b_.Issuer) fun z => Option.bind (cmp_Compare_of_int a_.Number b_.Number) fun z2 => Option.bind (cmp_Or_of_int [z, z2]) fun z3 => some z3
/- pension/career.greater -/
def career_greater (a_ : api_Fact) (b_ : api_Fact) : Option api_Fact :=
  none
/- pension/career.ascending -/
def career_ascending_j (x : Int) (rec_ : ((List api_Fact) × Int) → Option (List api_Fact)) (out_2 : List api_Fact) : Option (List api_Fact) :=
  rec_ (out_2, i64 (x + 1))
def career_ascending_l (l_ : List api_Fact) (rec_ : ((List api_Fact) × Int) → Option (List api_Fact)) : ((List api_Fact) × Int) → Option (List api_Fact)
  | (out_, x) =>
  if decide (x < (l_.length : Int)) = true then
    Option.bind (getI l_ x) fun y => none
  else
    some out_
def career_ascending (l_ : List api_Fact) : Option (List api_Fact) :=
  loopC FU (career_ascending_l l_) ([], 0)
/- pension/career.Merge -/
def career_Merge (a_ : List api_Fact) (b_ : List api_Fact) : Option (List api_Fact) :=
  Option.bind (career_ascending a_) fun z => Option.bind (career_ascending b_) fun z2 => Option.bind (career_merge_of_api_Fact z z2 (fun x => career_byIdentity x.1 x.2) (fun x => career_greater x.1 x.2)) fun z3 => some z3
/- pension/career.Of$1 -/
def career_Of_1 (f_ : api_Fact) (c_ : Int) : Option Bool :=
  some (f_.Person == c_)
/- pension/career.filter -/
def career_filter_j (x : Int) (rec_ : ((List api_Fact) × Int) → Option (List api_Fact)) (out_2 : List api_Fact) : Option (List api_Fact) :=
  rec_ (out_2, i64 (x + 1))
def career_filter_l (l_ : List api_Fact) (want_ : api_Fact → Option Bool) (rec_ : ((List api_Fact) × Int) → Option (List api_Fact)) : ((List api_Fact) × Int) → Option (List api_Fact)
  | (out_, x) =>
  if decide (x < (l_.length : Int)) = true then
    Option.bind (getI l_ x) fun y => Option.bind (want_ y) fun z => if z = true then
      Option.bind (appI 112 out_ [y]) fun l => career_filter_j x rec_ l
    else
      career_filter_j x rec_ out_
  else
    some out_
def career_filter (l_ : List api_Fact) (want_ : api_Fact → Option Bool) : Option (List api_Fact) :=
  loopC FU (career_filter_l l_ want_) ([], 0)
/- pension/career.Of -/
def career_Of (l_ : List api_Fact) (person_ : Int) : Option (List api_Fact) :=
  Option.bind (career_filter l_ (fun x => career_Of_1 x person_)) fun z => some z
/- pension/decision.open -/
def decision_open (x_ : Laws) (l_ : List api_Fact) (claims_ : List Claim) (person_ : Int) : Option decision_file :=
  Option.bind (career_Merge l_ []) fun z => Option.bind (career_Of z person_) fun z2 => Option.bind (decision_sorted claims_) fun z3 => some (⟨x_, z, z2, z3, person_⟩ : decision_file)
/- (*pension/decision.file).inEffect -/
def decision_file_inEffect_j (x : Int) (rec_ : ((List Claim) × Int) → Option (List Claim)) (out_2 : List Claim) : Option (List Claim) :=
  rec_ (out_2, i64 (x + 1))
def decision_file_inEffect_l (benefit_ : Int) (z : (List Claim)) (rec_ : ((List Claim) × Int) → Option (List Claim)) : ((List Claim) × Int) → Option (List Claim)
  | (out_, x) =>
  if decide (x < (z.length : Int)) = true then
    Option.bind (getI z x) fun y => if (y.Benefit == benefit_) = true then
      Option.bind (appI 48 out_ [y]) fun l => decision_file_inEffect_j x rec_ l
    else
      decision_file_inEffect_j x rec_ out_
  else
    some out_
def decision_file_inEffect (f_ : decision_file) (benefit_ : Int) (month_ : Int) : Option (List Claim) :=
  Option.bind (decision_effective f_.claims f_.person month_) fun z => loopC FU (decision_file_inEffect_l benefit_ z) ([], 0)
/- pension/career.first -/
def career_first_j (x : Int) (rec_ : (Int × Bool × Int) → Option (Int × Bool)) (day_2 : Int) (ok_2 : Bool) : Option (Int × Bool) :=
  rec_ (day_2, ok_2, i64 (x + 1))
def career_first_l (l_ : List api_Fact) (rec_ : (Int × Bool × Int) → Option (Int × Bool)) : (Int × Bool × Int) → Option (Int × Bool)
  | (day_, ok_, x) =>
  if decide (x < (l_.length : Int)) = true then
    Option.bind (getI l_ x) fun y => none
  else
    some (day_, ok_)
def career_first (l_ : List api_Fact) (kind_ : Int) : Option (Int × Bool) :=
  loopC FU (career_first_l l_) (0, false, 0)
/- pension/career.Death -/
def career_Death (l_ : List api_Fact) : Option (Int × Bool) :=
  Option.bind (career_first l_ 12) fun z => some (z.1, z.2)
/- (*pension/decision.file).alive -/
def decision_file_alive (f_ : decision_file) (day_ : Int) : Option Bool :=
  Option.bind (career_Death f_.own) fun z => some ((!z.2) || decide (day_ ≤ z.1))
/- (*pension/decision.file).entitled -/
def decision_file_entitled (f_ : decision_file) (benefit_ : Int) (month_ : Int) (day_ : Int) : Option Bool :=
  Option.bind (decision_file_inEffect f_ benefit_ month_) fun z => Option.bind (if ((z.length : Int) == 0) = true then some true else Option.bind (decision_file_alive f_ day_) fun z2 => some (!z2)) fun c => if c = true then
    some false
  else
    if (benefit_ == 2) = true then
      none
    else
      if (benefit_ == 3) = true then
        none
      else
        if (benefit_ == 4) = true then
          none
        else
          some true
/- pension/decision.Entitled -/
def decision_Entitled (l_ : List api_Fact) (claims_ : List Claim) (person_ : Int) (benefit_ : Int) (month_ : Int) : Option Bool :=
  Option.bind (calendar_MonthStart month_) fun z => Option.bind (if z.2 = true then Option.bind (decision_open (⟨[], [], []⟩ : Laws) l_ claims_ person_) fun z2 => Option.bind (decision_file_entitled z2 benefit_ month_ z.1) fun z3 => some z3 else some false) fun c => some c
/- pension/pensionlaw26.awake -/
def pensionlaw26_awake : Option Bool :=
  Option.bind (calendar_Day 2000 3 15) fun z => Option.bind (decision_Start ({ (⟨1, 5, 2, 1, 0, 0⟩ : Claim) with Day := z.1 } : Claim)) fun z2 => Option.bind (decision_Select [({ (⟨1, 5, 2, 1, 0, 0⟩ : Claim) with Day := z.1 } : Claim)] 2 1203) fun z3 => Option.bind (if (z2.2 && (z2.1 == 1203)) = true then Option.bind (decision_Valid ({ (⟨1, 5, 2, 1, 0, 0⟩ : Claim) with Day := z.1 } : Claim)) fun z4 => some z4 else some false) fun c => Option.bind (if (c && ((z3.length : Int) == 1)) = true then Option.bind (getI z3 0) fun y => some (Claim.eqb y ({ (⟨1, 5, 2, 1, 0, 0⟩ : Claim) with Day := z.1 } : Claim)) else some false) fun c2 => Option.bind (if c2 = true then Option.bind (decision_Entitled [] [({ (⟨1, 5, 2, 1, 0, 0⟩ : Claim) with Day := z.1 } : Claim)] 2 1 1203) fun z5 => some z5 else some false) fun c3 => Option.bind (if c3 = true then Option.bind (decision_Entitled [] [({ (⟨1, 5, 2, 1, 0, 0⟩ : Claim) with Day := z.1 } : Claim)] 2 1 1202) fun z6 => some (!z6) else some false) fun c4 => some c4
/- pension/pensionlaw26.Turn -/
def pensionlaw26_Turn (l_ : List Claim) (by_ : Int) : Option (List Claim) :=
  if ((l_.length : Int) == 0) = true then
    some []
  else
    Option.bind (pensionplain_Mod by_ (l_.length : Int)) fun z => Option.bind (sliceI l_ z (l_.length : Int)) fun s => Option.bind (appI 48 [] s) fun l => Option.bind (sliceI l_ 0 z) fun s2 => Option.bind (appI 48 l s2) fun l2 => Option.bind (getI l_ z) fun y => Option.bind (appI 48 l2 [y]) fun l3 => some l3
/- pension/pensionplain.Same(pension/api.Claim) -/
def pensionplain_Same_of_api_Claim_l (a_ : List Claim) (b_ : List Claim) (rec_ : Int → Option Bool) (i_ : Int) : Option Bool :=
  if decide (i_ < (a_.length : Int)) = true then
    Option.bind (getI a_ i_) fun y => Option.bind (getI b_ i_) fun y2 => if (!Claim.eqb y y2) = true then
      some false
    else
      rec_ (i64 (i_ + 1))
  else
    some true
def pensionplain_Same_of_api_Claim (a_ : List Claim) (b_ : List Claim) : Option Bool :=
  if ((a_.length : Int) != (b_.length : Int)) = true then
    some false
  else
    loopC FU (pensionplain_Same_of_api_Claim_l a_ b_) 0
/- pension/pensionlaw26.DecisionSelectIgnoresOrder -/
def pensionlaw26_DecisionSelectIgnoresOrder_j (i_ : Int) (rec_ : ((List Claim) × Int) → Option Bool) (bad_2 : List Claim) : Option Bool :=
  rec_ (bad_2, i64 (i_ + 1))
def pensionlaw26_DecisionSelectIgnoresOrder_l (raw_ : List Claim) (person_ : Int) (month_ : Int) (by_ : Int) (l : List Claim) (rec_ : ((List Claim) × Int) → Option Bool) : ((List Claim) × Int) → Option Bool
  | (bad_, i_) =>
  if decide (i_ < (raw_.length : Int)) = true then
    Option.bind (getI raw_ i_) fun y => Option.bind (pensionref26_Valid y) fun z3 => if (!z3) = true then
      Option.bind (getI raw_ i_) fun y2 => Option.bind (appI 48 bad_ [y2]) fun l2 => pensionlaw26_DecisionSelectIgnoresOrder_j i_ rec_ l2
    else
      pensionlaw26_DecisionSelectIgnoresOrder_j i_ rec_ bad_
  else
    Option.bind (pensionlaw26_Person person_) fun z4 => Option.bind (pensionlaw26_Month month_) fun z5 => Option.bind (pensionlaw26_awake) fun z6 => Option.bind (if z6 = true then Option.bind (decision_Select l z4 z5) fun z7 => Option.bind (pensionlaw26_Turn l by_) fun z8 => Option.bind (appI 48 bad_ z8) fun l3 => Option.bind (decision_Select l3 z4 z5) fun z9 => Option.bind (pensionplain_Same_of_api_Claim z7 z9) fun z10 => some z10 else some false) fun c => some c
def pensionlaw26_DecisionSelectIgnoresOrder (r_ : List pensionhand_Claim) (raw_ : List Claim) (day_ : Int) (person_ : Int) (month_ : Int) (by_ : Int) : Option Bool :=
  Option.bind (pensionhand_Claims r_) fun z => Option.bind (pensionhand_All day_) fun z2 => Option.bind (appI 48 z z2) fun l => loopC FU (pensionlaw26_DecisionSelectIgnoresOrder_l raw_ person_ month_ by_ l) ([], 0)
end Go.PL
