/- The Go functions as Lean functions (printed by a program). -/
import Derived.Test.YtcgfjcpggbcloaaDoorGuard
set_option linter.unusedVariables false
namespace Go.PL
open Go

structure Fraction where
  Num : Int
  Den : Int
instance : Inhabited Fraction := ⟨(⟨0, 0⟩ : Fraction)⟩
def Fraction.cells (x : Fraction) : List Go.Value := [.int .i64 x.Num, .int .i64 x.Den]
def Fraction.val (x : Fraction) : Go.Value := .agg #[.int .i64 x.Num, .int .i64 x.Den]
def Fraction.R : TyR Fraction := TyR.flat 2 Fraction.cells (fun _ => rfl)
def Fraction.eqb (x y : Fraction) : Bool := (x.Num == y.Num) && ((x.Den == y.Den) && true)
structure Rate where
  Currency : Int
  Month : Int
  Value : Fraction
instance : Inhabited Rate := ⟨(⟨0, 0, (⟨0, 0⟩ : Fraction)⟩ : Rate)⟩
def Rate.cells (x : Rate) : List Go.Value := [.int .i64 x.Currency, .int .i64 x.Month, .int .i64 x.Value.Num, .int .i64 x.Value.Den]
def Rate.val (x : Rate) : Go.Value := .agg #[.int .i64 x.Currency, .int .i64 x.Month, .int .i64 x.Value.Num, .int .i64 x.Value.Den]
def Rate.R : TyR Rate := TyR.flat 4 Rate.cells (fun _ => rfl)
def Rate.eqb (x y : Rate) : Bool := (x.Currency == y.Currency) && ((x.Month == y.Month) && (Fraction.eqb x.Value y.Value && true))
structure Rounding where
  Mode : Int
  Unit : Int
instance : Inhabited Rounding := ⟨(⟨0, 0⟩ : Rounding)⟩
def Rounding.cells (x : Rounding) : List Go.Value := [.int .i64 x.Mode, .int .i64 x.Unit]
def Rounding.val (x : Rounding) : Go.Value := .agg #[.int .i64 x.Mode, .int .i64 x.Unit]
def Rounding.R : TyR Rounding := TyR.flat 2 Rounding.cells (fun _ => rfl)
def Rounding.eqb (x y : Rounding) : Bool := (x.Mode == y.Mode) && ((x.Unit == y.Unit) && true)
structure Right where
  State : Int
  Basis : Int
  Currency : Int
  Amount : Int
instance : Inhabited Right := ⟨(⟨0, 0, 0, 0⟩ : Right)⟩
def Right.cells (x : Right) : List Go.Value := [.int .i64 x.State, .int .i64 x.Basis, .int .i64 x.Currency, .int .i64 x.Amount]
def Right.val (x : Right) : Go.Value := .agg #[.int .i64 x.State, .int .i64 x.Basis, .int .i64 x.Currency, .int .i64 x.Amount]
def Right.R : TyR Right := TyR.flat 4 Right.cells (fun _ => rfl)
def Right.eqb (x y : Right) : Bool := (x.State == y.State) && ((x.Basis == y.Basis) && ((x.Currency == y.Currency) && ((x.Amount == y.Amount) && true)))
structure pensionlaw24_Raw where
  State : Int
  Basis : Int
  Currency : Int
  Amount : Int
instance : Inhabited pensionlaw24_Raw := ⟨(⟨0, 0, 0, 0⟩ : pensionlaw24_Raw)⟩
def pensionlaw24_Raw.cells (x : pensionlaw24_Raw) : List Go.Value := [.int .i64 x.State, .int .i64 x.Basis, .int .i64 x.Currency, .int .i64 x.Amount]
def pensionlaw24_Raw.val (x : pensionlaw24_Raw) : Go.Value := .agg #[.int .i64 x.State, .int .i64 x.Basis, .int .i64 x.Currency, .int .i64 x.Amount]
def pensionlaw24_Raw.R : TyR pensionlaw24_Raw := TyR.flat 4 pensionlaw24_Raw.cells (fun _ => rfl)
def pensionlaw24_Raw.eqb (x y : pensionlaw24_Raw) : Bool := (x.State == y.State) && ((x.Basis == y.Basis) && ((x.Currency == y.Currency) && ((x.Amount == y.Amount) && true)))
structure pensionref1_wide where
  hi : Int
  lo : Int
instance : Inhabited pensionref1_wide := ⟨(⟨0, 0⟩ : pensionref1_wide)⟩
def pensionref1_wide.cells (x : pensionref1_wide) : List Go.Value := [.int .u64 x.hi, .int .u64 x.lo]
def pensionref1_wide.val (x : pensionref1_wide) : Go.Value := .agg #[.int .u64 x.hi, .int .u64 x.lo]
def pensionref1_wide.R : TyR pensionref1_wide := TyR.flat 2 pensionref1_wide.cells (fun _ => rfl)
def pensionref1_wide.eqb (x y : pensionref1_wide) : Bool := (x.hi == y.hi) && ((x.lo == y.lo) && true)
structure family_value where
  num : Int
  den : Int
instance : Inhabited family_value := ⟨(⟨0, 0⟩ : family_value)⟩
def family_value.cells (x : family_value) : List Go.Value := [.int .u64 x.num, .int .u64 x.den]
def family_value.val (x : family_value) : Go.Value := .agg #[.int .u64 x.num, .int .u64 x.den]
def family_value.R : TyR family_value := TyR.flat 2 family_value.cells (fun _ => rfl)
def family_value.eqb (x y : family_value) : Bool := (x.num == y.num) && ((x.den == y.den) && true)
structure FamilyPay where
  State : Int
  Currency : Int
  Amount : Int
  Primary : Bool
instance : Inhabited FamilyPay := ⟨(⟨0, 0, 0, false⟩ : FamilyPay)⟩
def FamilyPay.cells (x : FamilyPay) : List Go.Value := [.int .i64 x.State, .int .i64 x.Currency, .int .i64 x.Amount, .bool x.Primary]
def FamilyPay.val (x : FamilyPay) : Go.Value := .agg #[.int .i64 x.State, .int .i64 x.Currency, .int .i64 x.Amount, .bool x.Primary]
def FamilyPay.R : TyR FamilyPay := TyR.flat 4 FamilyPay.cells (fun _ => rfl)
def FamilyPay.eqb (x y : FamilyPay) : Bool := (x.State == y.State) && ((x.Currency == y.Currency) && ((x.Amount == y.Amount) && ((x.Primary == y.Primary) && true)))
def str1 : ByteArray := ⟨#[0, 1, 2, 2, 3, 3, 3, 3, 4, 4, 4, 4, 4, 4, 4, 4, 5, 5, 5, 5, 5, 5, 5, 5, 5, 5, 5, 5, 5, 5, 5, 5, 6, 6, 6, 6, 6, 6, 6, 6, 6, 6, 6, 6, 6, 6, 6, 6, 6, 6, 6, 6, 6, 6, 6, 6, 6, 6, 6, 6, 6, 6, 6, 6, 7, 7, 7, 7, 7, 7, 7, 7, 7, 7, 7, 7, 7, 7, 7, 7, 7, 7, 7, 7, 7, 7, 7, 7, 7, 7, 7, 7, 7, 7, 7, 7, 7, 7, 7, 7, 7, 7, 7, 7, 7, 7, 7, 7, 7, 7, 7, 7, 7, 7, 7, 7, 7, 7, 7, 7, 7, 7, 7, 7, 7, 7, 7, 7, 8, 8, 8, 8, 8, 8, 8, 8, 8, 8, 8, 8, 8, 8, 8, 8, 8, 8, 8, 8, 8, 8, 8, 8, 8, 8, 8, 8, 8, 8, 8, 8, 8, 8, 8, 8, 8, 8, 8, 8, 8, 8, 8, 8, 8, 8, 8, 8, 8, 8, 8, 8, 8, 8, 8, 8, 8, 8, 8, 8, 8, 8, 8, 8, 8, 8, 8, 8, 8, 8, 8, 8, 8, 8, 8, 8, 8, 8, 8, 8, 8, 8, 8, 8, 8, 8, 8, 8, 8, 8, 8, 8, 8, 8, 8, 8, 8, 8, 8, 8, 8, 8, 8, 8, 8, 8, 8, 8, 8, 8, 8, 8, 8, 8, 8, 8, 8, 8, 8, 8, 8, 8, 8, 8, 8, 8, 8, 8]⟩

/- pension/pensionplain.Mod -/
def pensionplain_Mod_j (r_ : Int) : Option Int :=
  some r_
def pensionplain_Mod (n_ : Int) (m_ : Int) : Option Int :=
  Option.bind (remI n_ m_) fun q => if decide (q < 0) = true then
    pensionplain_Mod_j (i64 (q + m_))
  else
    pensionplain_Mod_j q
/- pension/pensionplain.Amount -/
def pensionplain_Amount (n_ : Int) : Option Int :=
  Option.bind (pensionplain_Mod n_ 8) fun z => if (z == 0) = true then
    some 0
  else
    if (z == 1) = true then
      Option.bind (pensionplain_Mod (i64 (Int.tdiv n_ 8)) 1000) fun z2 => some (i64 (1000000000000 - z2))
    else
      if (z == 2) = true then
        Option.bind (pensionplain_Mod (i64 (Int.tdiv n_ 8)) 1000000000001) fun z3 => some z3
      else
        Option.bind (pensionplain_Mod (i64 (Int.tdiv n_ 8)) 5000) fun z4 => some z4
/- pension/pensionplain.fraction -/
def pensionplain_fraction_l (num_ : Int) (den_ : Int) (rec_ : (Int × Int) → Option Fraction) : (Int × Int) → Option Fraction
  | (a_, b_) =>
  if (b_ != 0) = true then
    Option.bind (remI a_ b_) fun q => rec_ (b_, q)
  else
    Option.bind (quoI num_ a_) fun q2 => Option.bind (quoI den_ a_) fun q3 => some (⟨q2, q3⟩ : Fraction)
def pensionplain_fraction (num_ : Int) (den_ : Int) : Option Fraction :=
  loopC FU (pensionplain_fraction_l num_ den_) (num_, den_)
/- pension/calendar.leap -/
def calendar_leap (year_ : Int) : Option Bool :=
  some (((Int.tmod year_ 4 == 0) && (Int.tmod year_ 100 != 0)) || (Int.tmod year_ 400 == 0))
/- pension/calendar.monthLength -/
def calendar_monthLength (year_ : Int) (month_ : Int) : Option Int :=
  Option.bind (if (month_ == 2) = true then Option.bind (calendar_leap year_) fun z => some z else some false) fun c => if c = true then
    some 29
  else
    Option.bind (getI [31, 28, 31, 30, 31, 30, 31, 31, 30, 31, 30, 31] (i64 (month_ - 1))) fun y => some y
/- pension/calendar.validMonth -/
def calendar_validMonth (month_ : Int) : Option Bool :=
  some (decide (0 ≤ month_) && decide (month_ ≤ 2399))
/- pension/calendar.MonthDays -/
def calendar_MonthDays (month_ : Int) : Option Int :=
  Option.bind (calendar_validMonth month_) fun z => if (!z) = true then
    some 0
  else
    Option.bind (calendar_monthLength (i64 (1900 + i64 (Int.tdiv month_ 12))) (i64 (Int.tmod month_ 12 + 1))) fun z2 => some z2
/- pension/money.currency -/
def money_currency (x_ : Int) : Option Bool :=
  some (decide (1 ≤ x_) && decide (x_ ≤ 999))
/- pension/money.small -/
def money_small (x_ : Int) : Option Bool :=
  some (decide (1 ≤ x_) && decide (x_ ≤ 1000000))
/- pension/money.size -/
def money_size (x_ : Int) : Option Int :=
  if decide (x_ < 0) = true then
    some (u64 (i64 (-x_)))
  else
    some (u64 x_)
/- pension/rational.size -/
def rational_size (x_ : Int) : Option Int :=
  if decide (x_ < 0) = true then
    some (u64 (-(u64 x_)))
  else
    some (u64 x_)
/- pension/rational.gcd -/
def rational_gcd_l (rec_ : (Int × Int) → Option Int) : (Int × Int) → Option Int
  | (a_2, b_2) =>
  if (b_2 != 0) = true then
    Option.bind (remI a_2 b_2) fun q => rec_ (b_2, q)
  else
    some a_2
def rational_gcd (a_ : Int) (b_ : Int) : Option Int :=
  loopC FU rational_gcd_l (a_, b_)
/- pension/rational.Valid -/
def rational_Valid (f_ : Fraction) : Option Bool :=
  Option.bind (if (((decide (1 ≤ f_.Den) && decide (f_.Den ≤ 1000000000)) && decide ((-1000000000000000) ≤ f_.Num)) && decide (f_.Num ≤ 1000000000000000)) = true then Option.bind (rational_size f_.Num) fun z => Option.bind (rational_size f_.Den) fun z2 => Option.bind (rational_gcd z z2) fun z3 => some (z3 == 1) else some false) fun c => some c
/- pension/money.month -/
def money_month (x_ : Int) : Option Bool :=
  Option.bind (calendar_MonthDays x_) fun z => some (decide (0 < z))
/- pension/money.CheckRates -/
def money_CheckRates_l (d_ : List Rate) (rec_ : Int → Option Int) (x : Int) : Option Int :=
  if decide (x < (d_.length : Int)) = true then
    Option.bind (getI d_ x) fun y => Option.bind (money_currency y.Currency) fun z => Option.bind (if (!z) = true then some true else Option.bind (money_month y.Month) fun z2 => some (!z2)) fun c => Option.bind (if c = true then some true else Option.bind (rational_Valid y.Value) fun z3 => some (!z3)) fun c2 => Option.bind (if c2 = true then some true else Option.bind (money_small y.Value.Num) fun z4 => some (!z4)) fun c3 => Option.bind (if c3 = true then some true else Option.bind (money_small y.Value.Den) fun z5 => some (!z5)) fun c4 => if c4 = true then
      some 1
    else
      Option.bind (if decide (0 < x) = true then Option.bind (getI d_ (i64 (x - 1))) fun y2 => Option.bind (if decide (y.Currency < y2.Currency) = true then some true else Option.bind (getI d_ (i64 (x - 1))) fun y3 => Option.bind (if (y3.Currency == y.Currency) = true then Option.bind (getI d_ (i64 (x - 1))) fun y4 => some (decide (y.Month ≤ y4.Month)) else some false) fun c5 => some c5) fun c6 => some c6 else some false) fun c7 => if c7 = true then
        some 1
      else
        rec_ (i64 (x + 1))
  else
    some 0
def money_CheckRates (d_ : List Rate) : Option Int :=
  if decide (40 < (d_.length : Int)) = true then
    some 7
  else
    loopC FU (money_CheckRates_l d_) 0
/- pension/pensionref1.ValidMonth -/
def pensionref1_ValidMonth (month_ : Int) : Option Bool :=
  some (decide (0 ≤ month_) && decide (month_ ≤ 2399))
/- pension/pensionref1.gcd -/
def pensionref1_gcd_l (rec_ : (Int × Int) → Option Int) : (Int × Int) → Option Int
  | (a_2, b_2) =>
  if (b_2 != 0) = true then
    Option.bind (remI a_2 b_2) fun q => rec_ (b_2, q)
  else
    some a_2
def pensionref1_gcd (a_ : Int) (b_ : Int) : Option Int :=
  loopC FU pensionref1_gcd_l (a_, b_)
/- pension/pensionref1.size -/
def pensionref1_size (n_ : Int) : Option Int :=
  if decide (n_ < 0) = true then
    some (u64 (u64 (i64 (-(i64 (n_ + 1)))) + 1))
  else
    some (u64 n_)
/- pension/pensionref1.ValidFraction -/
def pensionref1_ValidFraction (f_ : Fraction) : Option Bool :=
  Option.bind (if (((decide (1 ≤ f_.Den) && decide (f_.Den ≤ 1000000000)) && decide ((-1000000000000000) ≤ f_.Num)) && decide (f_.Num ≤ 1000000000000000)) = true then Option.bind (pensionref1_size f_.Num) fun z => Option.bind (pensionref1_gcd z (u64 f_.Den)) fun z2 => some (z2 == 1) else some false) fun c => some c
/- pension/pensionref1.CheckRates -/
def pensionref1_CheckRates_l (d_ : List Rate) (rec_ : Int → Option Int) (x : Int) : Option Int :=
  if decide (x < (d_.length : Int)) = true then
    Option.bind (getI d_ x) fun y => Option.bind (getI d_ x) fun y2 => Option.bind (if decide (y2.Currency < 1) = true then some true else Option.bind (getI d_ x) fun y3 => some (decide (999 < y3.Currency))) fun c => Option.bind (if c = true then some true else Option.bind (getI d_ x) fun y4 => Option.bind (pensionref1_ValidMonth y4.Month) fun z => some (!z)) fun c2 => Option.bind (if c2 = true then some true else Option.bind (pensionref1_ValidFraction y.Value) fun z2 => some (!z2)) fun c3 => if (((c3 || decide (y.Value.Num < 1)) || decide (1000000 < y.Value.Num)) || decide (1000000 < y.Value.Den)) = true then
      some 1
    else
      Option.bind (if decide (0 < x) = true then Option.bind (getI d_ (i64 (x - 1))) fun y5 => Option.bind (getI d_ x) fun y6 => Option.bind (if decide (y6.Currency < y5.Currency) = true then some true else Option.bind (getI d_ (i64 (x - 1))) fun y7 => Option.bind (getI d_ x) fun y8 => Option.bind (if (y7.Currency == y8.Currency) = true then Option.bind (getI d_ (i64 (x - 1))) fun y9 => Option.bind (getI d_ x) fun y10 => some (decide (y10.Month ≤ y9.Month)) else some false) fun c4 => some c4) fun c5 => some c5 else some false) fun c6 => if c6 = true then
        some 1
      else
        rec_ (i64 (x + 1))
  else
    some 0
def pensionref1_CheckRates (d_ : List Rate) : Option Int :=
  if decide (40 < (d_.length : Int)) = true then
    some 7
  else
    loopC FU (pensionref1_CheckRates_l d_) 0
/- pension/pensionref21.okRates -/
def pensionref21_okRates (t_ : List Rate) (month_ : Int) : Option Bool :=
  Option.bind (pensionref1_ValidMonth month_) fun z => Option.bind (if z = true then Option.bind (pensionref1_CheckRates t_) fun z2 => some (z2 == 0) else some false) fun c => some c
/- pension/money.amount -/
def money_amount (x_ : Int) : Option Bool :=
  some (decide ((-1000000000000) ≤ x_) && decide (x_ ≤ 1000000000000))
/- pension/money.ValidRounding -/
def money_ValidRounding_j (r_ : Rounding) (x : Bool) : Option Bool :=
  if x = true then
    some (decide (1 ≤ r_.Unit) && decide (r_.Unit ≤ 100000))
  else
    some false
def money_ValidRounding (r_ : Rounding) : Option Bool :=
  if (r_.Mode == 1) = true then
    money_ValidRounding_j r_ (r_.Mode == 1)
  else
    if (r_.Mode == 2) = true then
      money_ValidRounding_j r_ (r_.Mode == 2)
    else
      if (r_.Mode == 3) = true then
        money_ValidRounding_j r_ (r_.Mode == 3)
      else
        money_ValidRounding_j r_ (r_.Mode == 4)
/- pension/pensionref1.ValidAmount -/
def pensionref1_ValidAmount (n_ : Int) : Option Bool :=
  some (decide ((-1000000000000) ≤ n_) && decide (n_ ≤ 1000000000000))
/- pension/pensionref1.validCurrency -/
def pensionref1_validCurrency (c_ : Int) : Option Bool :=
  some (decide (1 ≤ c_) && decide (c_ ≤ 999))
/- pension/pensionref1.ValidRounding -/
def pensionref1_ValidRounding (r_ : Rounding) : Option Bool :=
  some (((decide (1 ≤ r_.Mode) && decide (r_.Mode ≤ 4)) && decide (1 ≤ r_.Unit)) && decide (r_.Unit ≤ 100000))
/- pension/pensionref21.ValidRights -/
def pensionref21_ValidRights_l2 (d_ : List Right) (x : Int) (rec_ : Int → Option Bool) (y : Right) (rec_2 : Int → Option Bool) (x2 : Int) : Option Bool :=
  if decide (x2 < x) = true then
    Option.bind (getI d_ x2) fun y2 => if (y2.State == y.State) = true then
      some false
    else
      rec_2 (i64 (x2 + 1))
  else
    rec_ (i64 (x + 1))
def pensionref21_ValidRights_l (d_ : List Right) (rec_ : Int → Option Bool) (x : Int) : Option Bool :=
  if decide (x < (d_.length : Int)) = true then
    Option.bind (getI d_ x) fun y => if (((((((decide (y.State < 0) || decide (6 ≤ y.State)) || decide (y.Basis < 1)) || decide (3 < y.Basis)) || decide (y.Currency < 1)) || decide (999 < y.Currency)) || decide (y.Amount < 1)) || decide (1000000000000 < y.Amount)) = true then
      some false
    else
      loopC FU (pensionref21_ValidRights_l2 d_ x rec_ y) 0
  else
    some true
def pensionref21_ValidRights (d_ : List Right) : Option Bool :=
  if decide (6 < (d_.length : Int)) = true then
    some false
  else
    loopC FU (pensionref21_ValidRights_l d_) 0
/- pension/pensionplain.Ints -/
def pensionplain_Ints_l (a_ : List Int) (b_ : List Int) (rec_ : Int → Option Bool) (i_ : Int) : Option Bool :=
  if decide (i_ < (a_.length : Int)) = true then
    Option.bind (getI a_ i_) fun y => Option.bind (getI b_ i_) fun y2 => if (y != y2) = true then
      some false
    else
      rec_ (i64 (i_ + 1))
  else
    some true
def pensionplain_Ints (a_ : List Int) (b_ : List Int) : Option Bool :=
  if ((a_.length : Int) != (b_.length : Int)) = true then
    some false
  else
    loopC FU (pensionplain_Ints_l a_ b_) 0
/- cmp.isNaN(int) -/
def cmp_isNaN_of_int (x_ : Int) : Option Bool :=
  some (x_ != x_)
/- cmp.isNaN(uint64) -/
def cmp_isNaN_of_uint64 (x_ : Int) : Option Bool :=
  some (x_ != x_)
/- cmp.Compare(int) -/
def cmp_Compare_of_int (x_ : Int) (y_ : Int) : Option Int :=
  Option.bind (cmp_isNaN_of_int x_) fun z => Option.bind (cmp_isNaN_of_int y_) fun z2 => if z = true then
    if z2 = true then
      some 0
    else
      some (-1)
  else
    if z2 = true then
      some 1
    else
      if decide (x_ < y_) = true then
        some (-1)
      else
        if decide (y_ < x_) = true then
          some 1
        else
          some 0
/- cmp.Compare(uint64) -/
def cmp_Compare_of_uint64 (x_ : Int) (y_ : Int) : Option Int :=
  Option.bind (cmp_isNaN_of_uint64 x_) fun z => Option.bind (cmp_isNaN_of_uint64 y_) fun z2 => if z = true then
    if z2 = true then
      some 0
    else
      some (-1)
  else
    if z2 = true then
      some 1
    else
      if decide (x_ < y_) = true then
        some (-1)
      else
        if decide (y_ < x_) = true then
          some 1
        else
          some 0
/- pension/pensionref1.RateAt -/
def pensionref1_RateAt_j (i_ : Int) (rec_ : (Int × Int) → Option (Fraction × Bool)) (at_2 : Int) : Option (Fraction × Bool) :=
  rec_ (at_2, i64 (i_ + 1))
def pensionref1_RateAt_l (t_ : List Rate) (currency_ : Int) (month_ : Int) (rec_ : (Int × Int) → Option (Fraction × Bool)) : (Int × Int) → Option (Fraction × Bool)
  | (at_, i_) =>
  if decide (i_ < (t_.length : Int)) = true then
    Option.bind (getI t_ i_) fun y => Option.bind (if (y.Currency == currency_) = true then Option.bind (getI t_ i_) fun y2 => some (decide (y2.Month ≤ month_)) else some false) fun c => Option.bind (if c = true then Option.bind (if decide (at_ < 0) = true then some true else Option.bind (getI t_ i_) fun y3 => Option.bind (getI t_ at_) fun y4 => some (decide (y4.Month < y3.Month))) fun c2 => some c2 else some false) fun c3 => if c3 = true then
      pensionref1_RateAt_j i_ rec_ i_
    else
      pensionref1_RateAt_j i_ rec_ at_
  else
    if decide (at_ < 0) = true then
      some ((⟨0, 0⟩ : Fraction), false)
    else
      Option.bind (getI t_ at_) fun y5 => some (y5.Value, true)
def pensionref1_RateAt (t_ : List Rate) (currency_ : Int) (month_ : Int) : Option (Fraction × Bool) :=
  loopC FU (pensionref1_RateAt_l t_ currency_ month_) ((-1), 0)
/- pension/pensionlaw24.List -/
def pensionlaw24_List_j (x2 : Int) (rec_ : ((List Right) × Int) → Option (List Right)) (x3 : List Right) : Option (List Right) :=
  rec_ (x3, i64 (x2 + 1))
def pensionlaw24_List_l2 (x : List Right) (x2 : Int) (rec_ : ((List Right) × Int) → Option (List Right)) (z : Int) (z2 : Int) (z3 : Int) (z4 : Int) (rec_2 : (Bool × Int) → Option (List Right)) : (Bool × Int) → Option (List Right)
  | (x4, x5) =>
  if decide (x5 < (x.length : Int)) = true then
    Option.bind (if x4 = true then some true else Option.bind (getI x x5) fun y5 => some (y5.State == z)) fun c => rec_2 (c, i64 (x5 + 1))
  else
    if (!x4) = true then
      Option.bind (appI 32 x [(⟨z, i64 (1 + z2), i64 (1 + z3), max 1 z4⟩ : Right)]) fun l => pensionlaw24_List_j x2 rec_ l
    else
      pensionlaw24_List_j x2 rec_ x
def pensionlaw24_List_l (d_ : List pensionlaw24_Raw) (rec_ : ((List Right) × Int) → Option (List Right)) : ((List Right) × Int) → Option (List Right)
  | (x, x2) =>
  if decide (x2 < (d_.length : Int)) = true then
    Option.bind (getI d_ x2) fun y => Option.bind (pensionplain_Mod y.State 6) fun z => Option.bind (getI d_ x2) fun y2 => Option.bind (pensionplain_Mod y2.Basis 3) fun z2 => Option.bind (getI d_ x2) fun y3 => Option.bind (pensionplain_Mod y3.Currency 3) fun z3 => Option.bind (getI d_ x2) fun y4 => Option.bind (pensionplain_Amount y4.Amount) fun z4 => loopC FU (pensionlaw24_List_l2 x x2 rec_ z z2 z3 z4) (false, 0)
  else
    some x
def pensionlaw24_List (d_ : List pensionlaw24_Raw) : Option (List Right) :=
  loopC FU (pensionlaw24_List_l d_) ([], 0)
/- pension/pensionplain.Rates -/
def pensionplain_Rates_j (out_ : List Rate) : Option (List Rate) :=
  some out_
def pensionplain_Rates_j2 (c_ : Int) (rec_ : ((List Rate) × Int) → Option (List Rate)) (out_3 : List Rate) : Option (List Rate) :=
  rec_ (out_3, i64 (c_ + 1))
def pensionplain_Rates_l (l_ : List Int) (rec_ : ((List Rate) × Int) → Option (List Rate)) : ((List Rate) × Int) → Option (List Rate)
  | (out_2, c_) =>
  if decide (c_ ≤ 3) = true then
    if decide ((l_.length : Int) ≤ i64 (c_ - 1)) = true then
      pensionplain_Rates_j out_2
    else
      Option.bind (getI l_ (i64 (c_ - 1))) fun y => Option.bind (pensionplain_Mod y 7) fun z => if (z == 6) = true then
        pensionplain_Rates_j2 c_ rec_ out_2
      else
        Option.bind (pensionplain_Mod (i64 (Int.tdiv y 7)) 40) fun z2 => Option.bind (pensionplain_Mod (i64 (Int.tdiv y 300)) 9) fun z3 => Option.bind (pensionplain_fraction (i64 (1 + z2)) (i64 (1 + z3))) fun z4 => Option.bind (appI 32 out_2 [(⟨c_, 0, z4⟩ : Rate)]) fun l => Option.bind (pensionplain_Mod y 7) fun z5 => if decide (3 < z5) = true then
          Option.bind (pensionplain_Mod (i64 (Int.tdiv y 5000)) 2000) fun z6 => Option.bind (pensionplain_Mod (i64 (Int.tdiv y 11)) 90) fun z7 => Option.bind (pensionplain_Mod (i64 (Int.tdiv y 13)) 30) fun z8 => Option.bind (pensionplain_fraction (i64 (1 + z7)) (i64 (1 + z8))) fun z9 => Option.bind (appI 32 l [(⟨c_, i64 (1 + z6), z9⟩ : Rate)]) fun l2 => pensionplain_Rates_j2 c_ rec_ l2
        else
          pensionplain_Rates_j2 c_ rec_ l
  else
    pensionplain_Rates_j out_2
def pensionplain_Rates (l_ : List Int) : Option (List Rate) :=
  loopC FU (pensionplain_Rates_l l_) ([], 1)
/- cmp.Or(int) -/
def cmp_Or_of_int_l (vals_ : List Int) (rec_ : Int → Option Int) (x : Int) : Option Int :=
  if decide (x < (vals_.length : Int)) = true then
    Option.bind (getI vals_ x) fun y => if (y != 0) = true then
      some y
    else
      rec_ (i64 (x + 1))
  else
    some 0
def cmp_Or_of_int (vals_ : List Int) : Option Int :=
  loopC FU (cmp_Or_of_int_l vals_) 0
/- math/bits.Len64 -/
def bits_Len64_j3 (x_4 : Int) (n_3 : Int) : Option Int :=
  Option.bind (strI str1 ((IntKind.u8.wrap) x_4)) fun y => some (i64 (n_3 + i64 y))
def bits_Len64_j2 (x_3 : Int) (n_2 : Int) : Option Int :=
  if decide (256 ≤ x_3) = true then
    bits_Len64_j3 (shrK .u64 x_3 8) (i64 (n_2 + 8))
  else
    bits_Len64_j3 x_3 n_2
def bits_Len64_j (x_2 : Int) (n_ : Int) : Option Int :=
  if decide (65536 ≤ x_2) = true then
    bits_Len64_j2 (shrK .u64 x_2 16) (i64 (n_ + 16))
  else
    bits_Len64_j2 x_2 n_
def bits_Len64 (x_ : Int) : Option Int :=
  if decide (4294967296 ≤ x_) = true then
    bits_Len64_j (shrK .u64 x_ 32) 32
  else
    bits_Len64_j x_ 0
/- math/bits.LeadingZeros64 -/
def bits_LeadingZeros64 (x_ : Int) : Option Int :=
  Option.bind (bits_Len64 x_) fun z => some (i64 (64 - z))
/- math/bits.Mul64 -/
def bits_Mul64 (x_ : Int) (y_ : Int) : Option (Int × Int) :=
  some (u64 (u64 (u64 (shrK .u64 x_ 32 * (shrK .u64 y_ 32)) + shrK .u64 (u64 (u64 (shrK .u64 x_ 32 * (andK .u64 y_ 4294967295)) + shrK .u64 (u64 (andK .u64 x_ 4294967295 * (andK .u64 y_ 4294967295))) 32)) 32) + shrK .u64 (u64 (andK .u64 (u64 (u64 (shrK .u64 x_ 32 * (andK .u64 y_ 4294967295)) + shrK .u64 (u64 (andK .u64 x_ 4294967295 * (andK .u64 y_ 4294967295))) 32)) 4294967295 + u64 (andK .u64 x_ 4294967295 * (shrK .u64 y_ 32)))) 32), u64 (x_ * y_))
/- math/bits.Div64 -/
def bits_Div64_j4 (z : Int) (q3 : Int) (q4 : Int) (q5 : Int) (q6 : Int) (x : Int) (x2 : Int) : Option (Int × Int) :=
  Option.bind (shrO .u64 (u64 (u64 (u64 (u64 (u64 (u64 (orK .u64 q4 q5 * 4294967296) + shrK .u64 q6 32) - (u64 (x * q3))) * 4294967296) + andK .u64 q6 4294967295) - (u64 (x2 * q3)))) (u64 z)) fun q9 => some (u64 (u64 (x * 4294967296) + x2), q9)
def bits_Div64_l (z : Int) (q3 : Int) (q4 : Int) (q5 : Int) (q6 : Int) (x : Int) (rec_ : (Int × Int) → Option (Int × Int)) : (Int × Int) → Option (Int × Int)
  | (x3, x4) =>
  if (decide (4294967296 ≤ x4) || decide (u64 (u64 (4294967296 * x3) + andK .u64 q6 4294967295) < u64 (x4 * (andK .u64 q3 4294967295)))) = true then
    if decide (4294967296 ≤ u64 (x3 + shrK .u64 q3 32)) = true then
      bits_Div64_j4 z q3 q4 q5 q6 x (u64 (x4 - 1))
    else
      rec_ (u64 (x3 + shrK .u64 q3 32), u64 (x4 - 1))
  else
    bits_Div64_j4 z q3 q4 q5 q6 x x4
def bits_Div64_j3 (z : Int) (q3 : Int) (q4 : Int) (q5 : Int) (q6 : Int) (x : Int) : Option (Int × Int) :=
  Option.bind (quoU (u64 (u64 (u64 (orK .u64 q4 q5 * 4294967296) + shrK .u64 q6 32) - (u64 (x * q3)))) (shrK .u64 q3 32)) fun q8 => loopC FU (bits_Div64_l z q3 q4 q5 q6 x) (u64 (u64 (u64 (u64 (orK .u64 q4 q5 * 4294967296) + shrK .u64 q6 32) - (u64 (x * q3))) - (u64 (q8 * (shrK .u64 q3 32)))), q8)
def bits_Div64_l2 (z : Int) (q3 : Int) (q4 : Int) (q5 : Int) (q6 : Int) (rec_2 : (Int × Int) → Option (Int × Int)) : (Int × Int) → Option (Int × Int)
  | (x5, x6) =>
  if (decide (4294967296 ≤ x5) || decide (u64 (u64 (4294967296 * x6) + shrK .u64 q6 32) < u64 (x5 * (andK .u64 q3 4294967295)))) = true then
    if decide (4294967296 ≤ u64 (x6 + shrK .u64 q3 32)) = true then
      bits_Div64_j3 z q3 q4 q5 q6 (u64 (x5 - 1))
    else
      rec_2 (u64 (x5 - 1), u64 (x6 + shrK .u64 q3 32))
  else
    bits_Div64_j3 z q3 q4 q5 q6 x5
def bits_Div64_j2 (d_ : Int) (i_ : Int) (p_ : Int) : Option (Int × Int) :=
  if (d_ == 0) = true then
    Option.bind (quoU i_ p_) fun q => Option.bind (remI i_ p_) fun q2 => some (q, q2)
  else
    Option.bind (bits_LeadingZeros64 p_) fun z => Option.bind (shlO .u64 p_ (u64 z)) fun q3 => Option.bind (shlO .u64 d_ (u64 z)) fun q4 => Option.bind (shrO .u64 i_ (u64 (64 - (u64 z)))) fun q5 => Option.bind (shlO .u64 i_ (u64 z)) fun q6 => Option.bind (quoU (orK .u64 q4 q5) (shrK .u64 q3 32)) fun q7 => loopC FU (bits_Div64_l2 z q3 q4 q5 q6) (q7, u64 (orK .u64 q4 q5 - (u64 (q7 * (shrK .u64 q3 32)))))
def bits_Div64_j (d_ : Int) (i_ : Int) (p_ : Int) : Option (Int × Int) :=
  if decide (p_ ≤ d_) = true then
    none
  else
    bits_Div64_j2 d_ i_ p_
def bits_Div64 (d_ : Int) (i_ : Int) (p_ : Int) : Option (Int × Int) :=
  if (p_ == 0) = true then
    none
  else
    bits_Div64_j d_ i_ p_
/- (pension/pensionref1.wide).over -/
def pensionref1_wide_over (w_ : pensionref1_wide) (d_ : Int) : Option (pensionref1_wide × Int) :=
  Option.bind (remI w_.hi d_) fun q => Option.bind (bits_Div64 q w_.lo d_) fun z => Option.bind (quoU w_.hi d_) fun q2 => some ((⟨q2, z.1⟩ : pensionref1_wide), z.2)
/- pension/pensionref1.times -/
def pensionref1_times (a_ : Int) (b_ : Int) : Option pensionref1_wide :=
  Option.bind (bits_Mul64 a_ b_) fun z => some (⟨z.1, z.2⟩ : pensionref1_wide)
/- pension/pensionref1.rounded -/
def pensionref1_rounded_j (d_ : Bool) (p_2 : Rounding) (x : Int) : Option (Int × Int) :=
  Option.bind (quoU 1000000000000 (u64 p_2.Unit)) fun q => if decide (q < x) = true then
    some (0, 2)
  else
    if d_ = true then
      some (i64 (-(i64 (u64 (x * (u64 p_2.Unit))))), 0)
    else
      some (i64 (u64 (x * (u64 p_2.Unit))), 0)
def pensionref1_rounded (d_ : Bool) (i_ : pensionref1_wide) (p_ : Int) (p_2 : Rounding) : Option (Int × Int) :=
  Option.bind (pensionref1_wide_over i_ (u64 (p_ * (u64 p_2.Unit)))) fun z => if ((z.1.hi != 0) || decide (1000000000000 < z.1.lo)) = true then
    some (0, 2)
  else
    if (p_2.Mode == 1) = true then
      if (d_ && decide (0 < z.2)) = true then
        pensionref1_rounded_j d_ p_2 (u64 (z.1.lo + 1))
      else
        pensionref1_rounded_j d_ p_2 z.1.lo
    else
      if (p_2.Mode == 2) = true then
        if ((!d_) && decide (0 < z.2)) = true then
          pensionref1_rounded_j d_ p_2 (u64 (z.1.lo + 1))
        else
          pensionref1_rounded_j d_ p_2 z.1.lo
      else
        if (p_2.Mode == 3) = true then
          if (decide (u64 (u64 (p_ * (u64 p_2.Unit)) - z.2) < z.2) || ((z.2 == u64 (u64 (p_ * (u64 p_2.Unit)) - z.2)) && (!d_))) = true then
            pensionref1_rounded_j d_ p_2 (u64 (z.1.lo + 1))
          else
            pensionref1_rounded_j d_ p_2 z.1.lo
        else
          if (p_2.Mode == 4) = true then
            if (decide (u64 (u64 (p_ * (u64 p_2.Unit)) - z.2) < z.2) || ((z.2 == u64 (u64 (p_ * (u64 p_2.Unit)) - z.2)) && (Int.tmod z.1.lo 2 == 1))) = true then
              pensionref1_rounded_j d_ p_2 (u64 (z.1.lo + 1))
            else
              pensionref1_rounded_j d_ p_2 z.1.lo
          else
            pensionref1_rounded_j d_ p_2 z.1.lo
/- pension/money.divide -/
def money_divide_j3 (p_3 : Rounding) (x4 : Int) : Option (Int × Int) :=
  Option.bind (quoI 1000000000000 p_3.Unit) fun q => Option.bind (if decide (q < x4) = true then some true else Option.bind (quoI (-1000000000000) p_3.Unit) fun q2 => some (decide (x4 < q2))) fun c => if c = true then
    some (0, 2)
  else
    some (i64 (x4 * p_3.Unit), 0)
def money_divide_j2 (p_3 : Rounding) (x2 : Int) (x3 : Bool) : Option (Int × Int) :=
  if x3 = true then
    money_divide_j3 p_3 (i64 (x2 + 1))
  else
    money_divide_j3 p_3 x2
def money_divide_j (p_2 : Int) (p_3 : Rounding) (x : Int) (x2 : Int) : Option (Int × Int) :=
  if (p_3.Mode == 2) = true then
    money_divide_j2 p_3 x2 (decide (0 < x))
  else
    if (p_3.Mode == 3) = true then
      money_divide_j2 p_3 x2 (decide (u64 (u64 (p_2 * (u64 p_3.Unit)) - x) ≤ x))
    else
      if (p_3.Mode == 4) = true then
        money_divide_j2 p_3 x2 (decide (u64 (u64 (p_2 * (u64 p_3.Unit)) - x) < x) || ((x == u64 (u64 (p_2 * (u64 p_3.Unit)) - x)) && (Int.tmod x2 2 != 0)))
      else
        money_divide_j2 p_3 x2 false
def money_divide (d_ : Bool) (i_ : Int) (p_ : Int) (p_2 : Int) (p_3 : Rounding) : Option (Int × Int) :=
  if decide (u64 (p_2 * (u64 p_3.Unit)) ≤ i_) = true then
    some (0, 2)
  else
    Option.bind (bits_Div64 i_ p_ (u64 (p_2 * (u64 p_3.Unit)))) fun z => if decide (2000000000000 < z.1) = true then
      some (0, 2)
    else
      if d_ = true then
        if decide (0 < z.2) = true then
          money_divide_j p_2 p_3 (u64 (u64 (p_2 * (u64 p_3.Unit)) - z.2)) (i64 (i64 (-(i64 z.1)) - 1))
        else
          money_divide_j p_2 p_3 z.2 (i64 (-(i64 z.1)))
      else
        money_divide_j p_2 p_3 z.2 (i64 z.1)
/- pension/money.Value -/
def money_Value_j (x : Int) (rec_ : (Int × Int) → Option (Fraction × Bool)) (best_2 : Int) : Option (Fraction × Bool) :=
  rec_ (best_2, i64 (x + 1))
def money_Value_l (t_ : List Rate) (currency_ : Int) (month_ : Int) (rec_ : (Int × Int) → Option (Fraction × Bool)) : (Int × Int) → Option (Fraction × Bool)
  | (best_, x) =>
  if decide (x < (t_.length : Int)) = true then
    Option.bind (getI t_ x) fun y => Option.bind (if ((y.Currency == currency_) && decide (y.Month ≤ month_)) = true then Option.bind (if decide (best_ < 0) = true then some true else Option.bind (getI t_ best_) fun y2 => some (decide (y2.Month < y.Month))) fun c => some c else some false) fun c2 => if c2 = true then
      money_Value_j x rec_ x
    else
      money_Value_j x rec_ best_
  else
    if decide (best_ < 0) = true then
      some ((⟨0, 0⟩ : Fraction), false)
    else
      Option.bind (getI t_ best_) fun y3 => some (y3.Value, true)
def money_Value (t_ : List Rate) (currency_ : Int) (month_ : Int) : Option (Fraction × Bool) :=
  loopC FU (money_Value_l t_ currency_ month_) ((-1), 0)
/- pension/pensionref1.Convert -/
def pensionref1_Convert (d_ : Int) (i_ : Int) (p_ : Int) (p_2 : Int) (p_3 : List Rate) (p_4 : Rounding) : Option (Int × Int) :=
  Option.bind (pensionref1_ValidAmount d_) fun z => Option.bind (if (!z) = true then some true else Option.bind (pensionref1_validCurrency i_) fun z2 => some (!z2)) fun c => Option.bind (if c = true then some true else Option.bind (pensionref1_validCurrency p_) fun z3 => some (!z3)) fun c2 => Option.bind (if c2 = true then some true else Option.bind (pensionref1_ValidMonth p_2) fun z4 => some (!z4)) fun c3 => Option.bind (if c3 = true then some true else Option.bind (pensionref1_ValidRounding p_4) fun z5 => some (!z5)) fun c4 => Option.bind (if c4 = true then some true else Option.bind (pensionref1_CheckRates p_3) fun z6 => some (z6 != 0)) fun c5 => if c5 = true then
    some (0, 1)
  else
    if (i_ == p_) = true then
      Option.bind (pensionref1_size d_) fun z7 => Option.bind (pensionref1_rounded (decide (d_ < 0)) (⟨0, z7⟩ : pensionref1_wide) 1 p_4) fun z8 => some (z8.1, z8.2)
    else
      Option.bind (pensionref1_RateAt p_3 i_ p_2) fun z9 => Option.bind (pensionref1_RateAt p_3 p_ p_2) fun z10 => if ((!z9.2) || (!z10.2)) = true then
        some (0, 9)
      else
        Option.bind (pensionref1_size d_) fun z11 => Option.bind (pensionref1_times z11 (u64 (u64 z9.1.Num * (u64 z10.1.Den)))) fun z12 => Option.bind (pensionref1_rounded (decide (d_ < 0)) z12 (u64 (u64 z9.1.Den * (u64 z10.1.Num))) p_4) fun z13 => some (z13.1, z13.2)
/- pension/money.Convert -/
def money_Convert (d_ : Int) (i_ : Int) (p_ : Int) (p_2 : Int) (p_3 : List Rate) (p_4 : Rounding) : Option (Int × Int) :=
  Option.bind (money_amount d_) fun z => Option.bind (if (!z) = true then some true else Option.bind (money_currency i_) fun z2 => some (!z2)) fun c => Option.bind (if c = true then some true else Option.bind (money_currency p_) fun z3 => some (!z3)) fun c2 => Option.bind (if c2 = true then some true else Option.bind (money_month p_2) fun z4 => some (!z4)) fun c3 => Option.bind (if c3 = true then some true else Option.bind (money_ValidRounding p_4) fun z5 => some (!z5)) fun c4 => Option.bind (if c4 = true then some true else Option.bind (money_CheckRates p_3) fun z6 => some (z6 != 0)) fun c5 => if c5 = true then
    some (0, 1)
  else
    if (i_ == p_) = true then
      Option.bind (money_size d_) fun z7 => Option.bind (money_divide (decide (d_ < 0)) 0 z7 1 p_4) fun z8 => some (z8.1, z8.2)
    else
      Option.bind (money_Value p_3 i_ p_2) fun z9 => Option.bind (money_Value p_3 p_ p_2) fun z10 => if ((!z9.2) || (!z10.2)) = true then
        some (0, 9)
      else
        Option.bind (money_size d_) fun z11 => Option.bind (bits_Mul64 z11 (u64 (u64 z9.1.Num * (u64 z10.1.Den)))) fun z12 => Option.bind (money_divide (decide (d_ < 0)) z12.1 z12.2 (u64 (u64 z9.1.Den * (u64 z10.1.Num))) p_4) fun z13 => some (z13.1, z13.2)
/- pension/pensionref21.worth -/
def pensionref21_worth (d_ : Right) (i_ : Right) (p_ : List Rate) (p_2 : Int) : Option Int :=
  Option.bind (pensionref1_RateAt p_ d_.Currency p_2) fun z => Option.bind (pensionref1_RateAt p_ i_.Currency p_2) fun z2 => if ((z.1.Den == 0) || (z2.1.Den == 0)) = true then
    if (z.1.Den != 0) = true then
      some 1
    else
      if (z2.1.Den != 0) = true then
        some (-1)
      else
        some 0
  else
    Option.bind (bits_Mul64 (u64 (u64 d_.Amount * (u64 z.1.Num))) (u64 z2.1.Den)) fun z3 => Option.bind (bits_Mul64 (u64 (u64 i_.Amount * (u64 z2.1.Num))) (u64 z.1.Den)) fun z4 => if ((z3.1 == z4.1) && (z3.2 == z4.2)) = true then
      some 0
    else
      if (decide (z3.1 < z4.1) || ((z3.1 == z4.1) && decide (z3.2 < z4.2))) = true then
        some (-1)
      else
        some 1
/- pension/family.worth -/
def family_worth (r_ : Right) (t_ : List Rate) (month_ : Int) : Option family_value :=
  Option.bind (money_Value t_ r_.Currency month_) fun z => if (!z.2) = true then
    some (⟨0, 1⟩ : family_value)
  else
    some (⟨u64 (u64 r_.Amount * (u64 z.1.Num)), u64 z.1.Den⟩ : family_value)
/- pension/pensionref21.before -/
def pensionref21_before (a_ : Right) (b_ : Right) (home_ : Int) (t_ : List Rate) (month_ : Int) : Option Bool :=
  if (a_.Basis != b_.Basis) = true then
    some (decide (a_.Basis < b_.Basis))
  else
    if ((a_.State == home_) != (b_.State == home_)) = true then
      some (a_.State == home_)
    else
      Option.bind (pensionref21_worth a_ b_ t_ month_) fun z => if (z != 0) = true then
        some (decide (0 < z))
      else
        some (decide (a_.State < b_.State))
/- pension/family.compare -/
def family_compare (a_ : family_value) (b_ : family_value) : Option Int :=
  Option.bind (bits_Mul64 a_.num b_.den) fun z => Option.bind (bits_Mul64 b_.num a_.den) fun z2 => Option.bind (cmp_Compare_of_uint64 z.1 z2.1) fun z3 => Option.bind (cmp_Compare_of_uint64 z.2 z2.2) fun z4 => Option.bind (cmp_Or_of_int [z3, z4]) fun z5 => some z5
/- pension/family.valid$1 -/
def family_valid_1 (o_ : Right) (c_ : Right) : Option Bool :=
  some (o_.State == c_.State)
/- slices.IndexFunc(()pension/api.Right,pension/api.Right) -/
def slices_IndexFunc_of_api_Right_l (s_ : List Right) (f_ : Right → Option Bool) (rec_ : Int → Option Int) (x : Int) : Option Int :=
  if decide (x < (s_.length : Int)) = true then
    Option.bind (getI s_ x) fun y => Option.bind (f_ y) fun z => if z = true then
      some x
    else
      rec_ (i64 (x + 1))
  else
    some (-1)
def slices_IndexFunc_of_api_Right (s_ : List Right) (f_ : Right → Option Bool) : Option Int :=
  loopC FU (slices_IndexFunc_of_api_Right_l s_ f_) 0
/- slices.ContainsFunc(()pension/api.Right,pension/api.Right) -/
def slices_ContainsFunc_of_api_Right (s_ : List Right) (f_ : Right → Option Bool) : Option Bool :=
  Option.bind (slices_IndexFunc_of_api_Right s_ f_) fun z => some (decide (0 ≤ z))
/- pension/family.valid -/
def family_valid_l (l_ : List Right) (rec_ : Int → Option Bool) (x : Int) : Option Bool :=
  if decide (x < (l_.length : Int)) = true then
    Option.bind (getI l_ x) fun y => if (((((((decide (y.State < 0) || decide (6 ≤ y.State)) || decide (y.Basis < 1)) || decide (3 < y.Basis)) || decide (y.Currency < 1)) || decide (999 < y.Currency)) || decide (y.Amount < 1)) || decide (1000000000000 < y.Amount)) = true then
      some false
    else
      Option.bind (sliceI l_ 0 x) fun s => Option.bind (slices_ContainsFunc_of_api_Right s (fun x => family_valid_1 x y)) fun z => if z = true then
        some false
      else
        rec_ (i64 (x + 1))
  else
    some true
def family_valid (l_ : List Right) : Option Bool :=
  if decide (6 < (l_.length : Int)) = true then
    some false
  else
    loopC FU (family_valid_l l_) 0
/- pension/family.Order$1 -/
def family_Order_1 (r_ : Right) (c_ : Int) : Option Int :=
  if (r_.State == c_) = true then
    some 0
  else
    some 1
/- pension/family.Order$2 -/
def family_Order_2 (i_ : Int) (k_ : Int) (c_ : List Right) (c_2 : Right → Option Int) (c_3 : List Rate) (c_4 : Int) : Option Int :=
  Option.bind (getI c_ i_) fun y => Option.bind (getI c_ k_) fun y2 => Option.bind (cmp_Compare_of_int y.Basis y2.Basis) fun z => Option.bind (c_2 y) fun z2 => Option.bind (c_2 y2) fun z3 => Option.bind (cmp_Compare_of_int z2 z3) fun z4 => Option.bind (family_worth y2 c_3 c_4) fun z5 => Option.bind (family_worth y c_3 c_4) fun z6 => Option.bind (family_compare z5 z6) fun z7 => Option.bind (cmp_Compare_of_int y.State y2.State) fun z8 => Option.bind (cmp_Or_of_int [z, z4, z7, z8]) fun z9 => some z9
/- math/bits.Len32 -/
def bits_Len32_j2 (x_3 : Int) (n_2 : Int) : Option Int :=
  Option.bind (strI str1 ((IntKind.u8.wrap) x_3)) fun y => some (i64 (n_2 + i64 y))
def bits_Len32_j (x_2 : Int) (n_ : Int) : Option Int :=
  if decide (256 ≤ x_2) = true then
    bits_Len32_j2 (shrK .u32 x_2 8) (i64 (n_ + 8))
  else
    bits_Len32_j2 x_2 n_
def bits_Len32 (x_ : Int) : Option Int :=
  if decide (65536 ≤ x_) = true then
    bits_Len32_j (shrK .u32 x_ 16) 16
  else
    bits_Len32_j x_ 0
/- math/bits.Len -/
def bits_Len (x_ : Int) : Option Int :=
  Option.bind (bits_Len64 x_) fun z => some z
/- slices.insertionSortCmpFunc(int) -/
def slices_insertionSortCmpFunc_of_int_l2 (a_ : Int) (cmp_ : (Int × Int) → Option Int) (i_ : Int) (rec_ : (Int × (List Int)) → Option (List Int)) (rec_2 : (Int × (List Int)) → Option (List Int)) : (Int × (List Int)) → Option (List Int)
  | (j_, data_l2) =>
  Option.bind (if decide (a_ < j_) = true then Option.bind (getI data_l2 j_) fun y => Option.bind (getI data_l2 (i64 (j_ - 1))) fun y2 => Option.bind (cmp_ (y, y2)) fun z => some (decide (z < 0)) else some false) fun c => if c = true then
    Option.bind (getI data_l2 (i64 (j_ - 1))) fun y3 => Option.bind (getI data_l2 j_) fun y4 => Option.bind (getI data_l2 j_) fun y5 => Option.bind (getI data_l2 (i64 (j_ - 1))) fun y6 => rec_2 (i64 (j_ - 1), setI (setI data_l2 j_ y3) (i64 (j_ - 1)) y4)
  else
    rec_ (i64 (i_ + 1), data_l2)
def slices_insertionSortCmpFunc_of_int_l (a_ : Int) (b_ : Int) (cmp_ : (Int × Int) → Option Int) (rec_ : (Int × (List Int)) → Option (List Int)) : (Int × (List Int)) → Option (List Int)
  | (i_, data_l) =>
  if decide (i_ < b_) = true then
    loopC FU (slices_insertionSortCmpFunc_of_int_l2 a_ cmp_ i_ rec_) (i_, data_l)
  else
    some data_l
def slices_insertionSortCmpFunc_of_int (data_ : List Int) (a_ : Int) (b_ : Int) (cmp_ : (Int × Int) → Option Int) : Option (List Int) :=
  loopC FU (slices_insertionSortCmpFunc_of_int_l a_ b_ cmp_) (i64 (a_ + 1), data_)
/- slices.pdqsortCmpFunc(int) -/
def slices_pdqsortCmpFunc_of_int_j (x5 : Int) : Option (List Int) :=
  none
def slices_pdqsortCmpFunc_of_int_l (p_3 : (Int × Int) → Option Int) (rec_ : (Int × Int × Int × Bool × Bool × (List Int)) → Option (List Int)) : (Int × Int × Int × Bool × Bool × (List Int)) → Option (List Int)
  | (i_2, x, x2, x3, x4, d_l) =>
  if decide (i64 (x - i_2) ≤ 12) = true then
    Option.bind (slices_insertionSortCmpFunc_of_int d_l i_2 x p_3) fun z => some z
  else
    if (x2 == 0) = true then
      none
    else
      if (!x3) = true then
        none
      else
        slices_pdqsortCmpFunc_of_int_j x2
def slices_pdqsortCmpFunc_of_int (d_ : List Int) (i_ : Int) (p_ : Int) (p_2 : Int) (p_3 : (Int × Int) → Option Int) : Option (List Int) :=
  loopC FU (slices_pdqsortCmpFunc_of_int_l p_3) (i_, p_, p_2, true, true, d_)
/- slices.SortFunc(()int,int) -/
def slices_SortFunc_of__int_int (x_ : List Int) (cmp_ : (Int × Int) → Option Int) : Option (List Int) :=
  Option.bind (bits_Len (u64 (x_.length : Int))) fun z => Option.bind (slices_pdqsortCmpFunc_of_int x_ 0 (x_.length : Int) z cmp_) fun z2 => some z2
/- pension/pensionref21.down -/
def pensionref21_down : Option Rounding :=
  some (⟨1, 1⟩ : Rounding)
/- pension/pensionref21.Order -/
def pensionref21_Order_l2 (l_ : List Right) (home_ : Int) (t_ : List Rate) (month_ : Int) (out_ : List Int) (i_ : Int) (rec_ : ((List Int) × Int) → Option ((List Int) × Int)) (rec_2 : Int → Option ((List Int) × Int)) (k_2 : Int) : Option ((List Int) × Int) :=
  Option.bind (if decide (0 < k_2) = true then Option.bind (getI l_ i_) fun y => Option.bind (getI out_ (i64 (k_2 - 1))) fun y2 => Option.bind (getI l_ y2) fun y3 => Option.bind (pensionref21_before y y3 home_ t_ month_) fun z3 => some z3 else some false) fun c2 => if c2 = true then
    rec_2 (i64 (k_2 - 1))
  else
    Option.bind (sliceI out_ 0 k_2) fun s => Option.bind (appI 8 [] s) fun l => Option.bind (appI 8 l [i_]) fun l2 => Option.bind (sliceI out_ k_2 (out_.length : Int)) fun s2 => Option.bind (appI 8 l2 s2) fun l3 => rec_ (l3, i64 (i_ + 1))
def pensionref21_Order_l (l_ : List Right) (home_ : Int) (t_ : List Rate) (month_ : Int) (rec_ : ((List Int) × Int) → Option ((List Int) × Int)) : ((List Int) × Int) → Option ((List Int) × Int)
  | (out_, i_) =>
  if decide (i_ < (l_.length : Int)) = true then
    loopC FU (pensionref21_Order_l2 l_ home_ t_ month_ out_ i_ rec_) (out_.length : Int)
  else
    some (out_, 0)
def pensionref21_Order (l_ : List Right) (home_ : Int) (t_ : List Rate) (month_ : Int) : Option ((List Int) × Int) :=
  Option.bind (pensionref21_ValidRights l_) fun z => Option.bind (if (!z) = true then some true else Option.bind (pensionref21_okRates t_ month_) fun z2 => some (!z2)) fun c => if c = true then
    some ([], 1)
  else
    loopC FU (pensionref21_Order_l l_ home_ t_ month_) ([], 0)
/- pension/family.Order -/
def family_Order_l (l_ : List Right) (home_ : Int) (t_ : List Rate) (month_ : Int) (rec_ : ((List Int) × Int) → Option ((List Int) × Int)) : ((List Int) × Int) → Option ((List Int) × Int)
  | (out_, x) =>
  if decide (x < (l_.length : Int)) = true then
    Option.bind (appI 8 out_ [x]) fun l => rec_ (l, i64 (x + 1))
  else
    Option.bind (slices_SortFunc_of__int_int out_ (fun x => family_Order_2 x.1 x.2 l_ (fun x => family_Order_1 x home_) t_ month_)) fun z3 => some (z3, 0)
def family_Order (l_ : List Right) (home_ : Int) (t_ : List Rate) (month_ : Int) : Option ((List Int) × Int) :=
  Option.bind (family_valid l_) fun z => Option.bind (if (((!z) || decide (month_ < 0)) || decide (2399 < month_)) = true then some true else Option.bind (money_CheckRates t_) fun z2 => some (z2 != 0)) fun c => if c = true then
    some ([], 1)
  else
    loopC FU (family_Order_l l_ home_ t_ month_) ([], 0)
/- pension/pensionref21.Payments -/
def pensionref21_Payments_j (x4 : Int) (rec_2 : (Int × Int) → Option ((List FamilyPay) × Int)) (x5 : Int) : Option ((List FamilyPay) × Int) :=
  rec_2 (x5, i64 (x4 + 1))
def pensionref21_Payments_l2 (d_ : List Right) (p_ : List Rate) (p_2 : Int) (z : (List Int) × Int) (x : List FamilyPay) (x2 : Int) (rec_ : ((List FamilyPay) × Int) → Option ((List FamilyPay) × Int)) (y2 : Right) (rec_2 : (Int × Int) → Option ((List FamilyPay) × Int)) : (Int × Int) → Option ((List FamilyPay) × Int)
  | (x3, x4) =>
  if decide (x4 < x2) = true then
    Option.bind (getI z.1 x4) fun y3 => Option.bind (getI d_ y3) fun y4 => Option.bind (getI z.1 x4) fun y5 => Option.bind (getI d_ y5) fun y6 => Option.bind (pensionref21_down) fun z2 => Option.bind (pensionref1_Convert y4.Amount y6.Currency y2.Currency p_2 p_ z2) fun z3 => if (z3.2 == 0) = true then
      pensionref21_Payments_j x4 rec_2 (max x3 z3.1)
    else
      pensionref21_Payments_j x4 rec_2 x3
  else
    Option.bind (appI 32 x [(⟨y2.State, y2.Currency, max (i64 (y2.Amount - x3)) 0, (x2 == 0)⟩ : FamilyPay)]) fun l => rec_ (l, i64 (x2 + 1))
def pensionref21_Payments_l (d_ : List Right) (p_ : List Rate) (p_2 : Int) (z : (List Int) × Int) (rec_ : ((List FamilyPay) × Int) → Option ((List FamilyPay) × Int)) : ((List FamilyPay) × Int) → Option ((List FamilyPay) × Int)
  | (x, x2) =>
  if decide (x2 < (z.1.length : Int)) = true then
    Option.bind (getI z.1 x2) fun y => Option.bind (getI d_ y) fun y2 => loopC FU (pensionref21_Payments_l2 d_ p_ p_2 z x x2 rec_ y2) (0, 0)
  else
    some (x, 0)
def pensionref21_Payments (d_ : List Right) (i_ : Int) (p_ : List Rate) (p_2 : Int) : Option ((List FamilyPay) × Int) :=
  Option.bind (pensionref21_Order d_ i_ p_ p_2) fun z => if (z.2 != 0) = true then
    some ([], z.2)
  else
    loopC FU (pensionref21_Payments_l d_ p_ p_2 z) ([], 0)
/- pension/family.Payments -/
def family_Payments_j (x4 : Int) (rec_2 : (Int × Int) → Option ((List FamilyPay) × Int)) (x5 : Int) : Option ((List FamilyPay) × Int) :=
  rec_2 (x5, i64 (x4 + 1))
def family_Payments_l2 (d_ : List Right) (p_ : List Rate) (p_2 : Int) (x : List FamilyPay) (x2 : Int) (rec_ : ((List FamilyPay) × Int) → Option ((List FamilyPay) × Int)) (y2 : Right) (s : List Int) (rec_2 : (Int × Int) → Option ((List FamilyPay) × Int)) : (Int × Int) → Option ((List FamilyPay) × Int)
  | (x3, x4) =>
  if decide (x4 < (s.length : Int)) = true then
    Option.bind (getI s x4) fun y3 => Option.bind (getI d_ y3) fun y4 => Option.bind (getI d_ y3) fun y5 => Option.bind (money_Convert y4.Amount y5.Currency y2.Currency p_2 p_ (⟨1, 1⟩ : Rounding)) fun z2 => if (z2.2 == 0) = true then
      family_Payments_j x4 rec_2 (max x3 z2.1)
    else
      family_Payments_j x4 rec_2 x3
  else
    Option.bind (appI 32 x [(⟨y2.State, y2.Currency, max 0 (i64 (y2.Amount - x3)), (x2 == 0)⟩ : FamilyPay)]) fun l => rec_ (l, i64 (x2 + 1))
def family_Payments_l (d_ : List Right) (p_ : List Rate) (p_2 : Int) (z : (List Int) × Int) (rec_ : ((List FamilyPay) × Int) → Option ((List FamilyPay) × Int)) : ((List FamilyPay) × Int) → Option ((List FamilyPay) × Int)
  | (x, x2) =>
  if decide (x2 < (z.1.length : Int)) = true then
    Option.bind (getI z.1 x2) fun y => Option.bind (getI d_ y) fun y2 => Option.bind (sliceI z.1 0 x2) fun s => loopC FU (family_Payments_l2 d_ p_ p_2 x x2 rec_ y2 s) (0, 0)
  else
    some (x, 0)
def family_Payments (d_ : List Right) (i_ : Int) (p_ : List Rate) (p_2 : Int) : Option ((List FamilyPay) × Int) :=
  Option.bind (family_Order d_ i_ p_ p_2) fun z => if (z.2 != 0) = true then
    some ([], z.2)
  else
    loopC FU (family_Payments_l d_ p_ p_2 z) ([], 0)
/- pension/pensionplain.Same(pension/api.FamilyPay) -/
def pensionplain_Same_of_api_FamilyPay_l (a_ : List FamilyPay) (b_ : List FamilyPay) (rec_ : Int → Option Bool) (i_ : Int) : Option Bool :=
  if decide (i_ < (a_.length : Int)) = true then
    Option.bind (getI a_ i_) fun y => Option.bind (getI b_ i_) fun y2 => if (!FamilyPay.eqb y y2) = true then
      some false
    else
      rec_ (i64 (i_ + 1))
  else
    some true
def pensionplain_Same_of_api_FamilyPay (a_ : List FamilyPay) (b_ : List FamilyPay) : Option Bool :=
  if ((a_.length : Int) != (b_.length : Int)) = true then
    some false
  else
    loopC FU (pensionplain_Same_of_api_FamilyPay_l a_ b_) 0
/- pension/pensionlaw24.awake -/
def pensionlaw24_awake : Option Bool :=
  Option.bind (family_Order [(⟨1, 3, 1, 130⟩ : Right), (⟨2, 1, 1, 100⟩ : Right)] 1 [] 5) fun z => Option.bind (family_Payments [(⟨1, 3, 1, 130⟩ : Right), (⟨2, 1, 1, 100⟩ : Right)] 1 [] 5) fun z2 => Option.bind (if ((z.2 == 0) && (z2.2 == 0)) = true then Option.bind (pensionplain_Ints z.1 [1, 0]) fun z3 => some z3 else some false) fun c => Option.bind (if (c && ((z2.1.length : Int) == 2)) = true then Option.bind (getI z2.1 0) fun y => some (FamilyPay.eqb y (⟨2, 1, 100, true⟩ : FamilyPay)) else some false) fun c2 => Option.bind (if c2 = true then Option.bind (getI z2.1 1) fun y2 => some (y2.Amount == 30) else some false) fun c3 => Option.bind (if c3 = true then Option.bind (getI z2.1 1) fun y3 => some (!y3.Primary) else some false) fun c4 => some c4
/- pension/pensionlaw24.FamilyOrderAgrees -/
def pensionlaw24_FamilyOrderAgrees (l_ : List pensionlaw24_Raw) (home_ : Int) (rates_ : List Int) (month_ : Int) : Option Bool :=
  Option.bind (pensionlaw24_List l_) fun z => Option.bind (pensionplain_Rates rates_) fun z2 => Option.bind (pensionplain_Mod month_ 2400) fun z3 => Option.bind (pensionplain_Mod home_ 8) fun z4 => Option.bind (family_Order z (i64 (z4 - 1)) z2 z3) fun z5 => Option.bind (pensionref21_Order z (i64 (z4 - 1)) z2 z3) fun z6 => Option.bind (pensionlaw24_awake) fun z7 => Option.bind (if (z7 && (z5.2 == z6.2)) = true then Option.bind (pensionplain_Ints z5.1 z6.1) fun z8 => some z8 else some false) fun c => some c
/- pension/pensionlaw24.FamilyRejects -/
def pensionlaw24_FamilyRejects (d_ : List Right) (i_ : Int) (p_ : List Rate) (p_2 : Int) : Option Bool :=
  Option.bind (pensionref21_ValidRights d_) fun z => Option.bind (if (!z) = true then some true else Option.bind (pensionref1_ValidMonth p_2) fun z2 => some (!z2)) fun c => Option.bind (if c = true then some true else Option.bind (pensionref1_CheckRates p_) fun z3 => some (z3 != 0)) fun c2 => Option.bind (family_Order d_ i_ p_ p_2) fun z4 => Option.bind (family_Payments d_ i_ p_ p_2) fun z5 => if c2 = true then
    Option.bind (pensionlaw24_awake) fun z6 => some ((((z6 && (z4.2 == 1)) && (z5.2 == 1)) && ((z4.1.length : Int) == 0)) && ((z5.1.length : Int) == 0))
  else
    Option.bind (pensionlaw24_awake) fun z7 => some ((z7 && (z4.2 == 0)) && (z5.2 == 0))
/- pension/pensionlaw24.FamilyRejectsOneRight -/
def pensionlaw24_FamilyRejectsOneRight_j (x : List Right) : Option Bool :=
  Option.bind (family_Order x 0 [] 0) fun z6 => Option.bind (family_Payments x 0 [] 0) fun z7 => some (((z6.2 == 1) && (z7.2 == 1)) && ((z7.1.length : Int) == 0))
def pensionlaw24_FamilyRejectsOneRight (d_ : List pensionlaw24_Raw) (i_ : Int) (p_ : Int) (p_2 : Int) : Option Bool :=
  Option.bind (pensionlaw24_List d_) fun z => Option.bind (family_Order z 0 [] 0) fun z2 => Option.bind (if (z2.2 != 0) = true then some true else Option.bind (pensionlaw24_awake) fun z3 => some (!z3)) fun c => if c = true then
    some false
  else
    if ((z.length : Int) == 0) = true then
      some true
    else
      Option.bind (pensionplain_Mod i_ (z.length : Int)) fun z4 => Option.bind (pensionplain_Mod p_2 1000) fun z5 => Option.bind (pensionplain_Mod p_ 6) fun z8 => if (z8 == 0) = true then
        Option.bind (getI z z4) fun y => pensionlaw24_FamilyRejectsOneRight_j (setI z z4 ({ y with State := i64 (-(i64 (1 + z5))) } : Right))
      else
        if (z8 == 1) = true then
          Option.bind (getI z z4) fun y2 => pensionlaw24_FamilyRejectsOneRight_j (setI z z4 ({ y2 with State := i64 (5 + i64 (1 + z5)) } : Right))
        else
          if (z8 == 2) = true then
            Option.bind (getI z z4) fun y3 => pensionlaw24_FamilyRejectsOneRight_j (setI z z4 ({ y3 with Basis := i64 (3 + i64 (1 + z5)) } : Right))
          else
            if (z8 == 3) = true then
              Option.bind (getI z z4) fun y4 => pensionlaw24_FamilyRejectsOneRight_j (setI z z4 ({ y4 with Currency := i64 (999 + i64 (1 + z5)) } : Right))
            else
              if (z8 == 4) = true then
                Option.bind (getI z z4) fun y5 => pensionlaw24_FamilyRejectsOneRight_j (setI z z4 ({ y5 with Amount := i64 (1 - (i64 (1 + z5))) } : Right))
              else
                Option.bind (getI z z4) fun y6 => Option.bind (appI 32 z [y6]) fun l => pensionlaw24_FamilyRejectsOneRight_j l
/- pension/pensionlaw24.FamilyOrderIsAPriority -/
def pensionlaw24_FamilyOrderIsAPriority_j (x : Int) (rec_ : (Int × (List Bool)) → Option Bool) (v2 : List Bool) : Option Bool :=
  rec_ (i64 (x + 1), v2)
def pensionlaw24_FamilyOrderIsAPriority_l (z : (List Right)) (z4 : Int) (z5 : (List Int) × Int) (rec_ : (Int × (List Bool)) → Option Bool) : (Int × (List Bool)) → Option Bool
  | (x, v) =>
  if decide (x < (z5.1.length : Int)) = true then
    Option.bind (getI z5.1 x) fun y => Option.bind (if decide (y < 0) = true then some true else Option.bind (getI z5.1 x) fun y2 => some (decide ((z.length : Int) ≤ y2))) fun c => Option.bind (if c = true then some true else Option.bind (getI z5.1 x) fun y3 => Option.bind (getI v y3) fun y4 => some y4) fun c2 => if c2 = true then
      some false
    else
      Option.bind (getI z5.1 x) fun y5 => Option.bind (getI v y5) fun y6 => if (x == 0) = true then
        pensionlaw24_FamilyOrderIsAPriority_j x rec_ (setI v y5 true)
      else
        Option.bind (getI z5.1 (i64 (x - 1))) fun y7 => Option.bind (getI z y7) fun y8 => Option.bind (getI z5.1 x) fun y9 => Option.bind (getI z y9) fun y10 => if (decide (y10.Basis < y8.Basis) || ((y8.Basis == y10.Basis) && (y10.State == i64 (z4 - 1)))) = true then
          some false
        else
          pensionlaw24_FamilyOrderIsAPriority_j x rec_ (setI v y5 true)
  else
    some true
def pensionlaw24_FamilyOrderIsAPriority (d_ : List pensionlaw24_Raw) (i_ : Int) (p_ : List Int) (p_2 : Int) : Option Bool :=
  Option.bind (pensionlaw24_List d_) fun z => Option.bind (pensionplain_Rates p_) fun z2 => Option.bind (pensionplain_Mod p_2 2400) fun z3 => Option.bind (pensionplain_Mod i_ 8) fun z4 => Option.bind (family_Order z (i64 (z4 - 1)) z2 z3) fun z5 => Option.bind (pensionlaw24_awake) fun z6 => if (((!z6) || (z5.2 != 0)) || ((z5.1.length : Int) != (z.length : Int))) = true then
    some false
  else
    loopC FU (pensionlaw24_FamilyOrderIsAPriority_l z z4 z5) (0, (List.replicate 6 false))
/- pension/pensionlaw24.FamilyPaymentsAgree -/
def pensionlaw24_FamilyPaymentsAgree (l_ : List pensionlaw24_Raw) (home_ : Int) (rates_ : List Int) (month_ : Int) : Option Bool :=
  Option.bind (pensionlaw24_List l_) fun z => Option.bind (pensionplain_Rates rates_) fun z2 => Option.bind (pensionplain_Mod month_ 2400) fun z3 => Option.bind (pensionplain_Mod home_ 8) fun z4 => Option.bind (family_Payments z (i64 (z4 - 1)) z2 z3) fun z5 => Option.bind (pensionref21_Payments z (i64 (z4 - 1)) z2 z3) fun z6 => Option.bind (pensionlaw24_awake) fun z7 => Option.bind (if (z7 && (z5.2 == z6.2)) = true then Option.bind (pensionplain_Same_of_api_FamilyPay z5.1 z6.1) fun z8 => some z8 else some false) fun c => some c
/- pension/pensionlaw24.FamilyPaysTheGreatest -/
def pensionlaw24_FamilyPaysTheGreatest_l2 (x : Int) (z4 : (List FamilyPay) × Int) (rec_2 : (Int × Int) → Option Bool) : (Int × Int) → Option Bool
  | (x3, x4) =>
  if decide (x4 < (z4.1.length : Int)) = true then
    Option.bind (getI z4.1 x4) fun y3 => Option.bind (if decide (y3.Amount < 0) = true then some true else Option.bind (getI z4.1 x4) fun y4 => some (decide (1000000000000 < y4.Amount))) fun c => if c = true then
      some false
    else
      Option.bind (getI z4.1 x4) fun y5 => rec_2 (i64 (x3 + y5.Amount), i64 (x4 + 1))
  else
    some (x3 == x)
def pensionlaw24_FamilyPaysTheGreatest_l (i_ : Int) (p_ : Int) (rec_ : (Int × Int × (List Right)) → Option Bool) : (Int × Int × (List Right)) → Option Bool
  | (x, x2, _l) =>
  if decide (x2 < (_l.length : Int)) = true then
    Option.bind (pensionplain_Mod p_ 999) fun z2 => Option.bind (getI _l x2) fun y => Option.bind (getI (setI _l x2 ({ y with Currency := i64 (1 + z2) } : Right)) x2) fun y2 => rec_ (max x y2.Amount, i64 (x2 + 1), setI _l x2 ({ y with Currency := i64 (1 + z2) } : Right))
  else
    Option.bind (pensionplain_Mod i_ 6) fun z3 => Option.bind (family_Payments _l z3 [] 0) fun z4 => Option.bind (pensionlaw24_awake) fun z5 => if (((!z5) || (z4.2 != 0)) || ((z4.1.length : Int) != (_l.length : Int))) = true then
      some false
    else
      loopC FU (pensionlaw24_FamilyPaysTheGreatest_l2 x z4) (0, 0)
def pensionlaw24_FamilyPaysTheGreatest (d_ : List pensionlaw24_Raw) (i_ : Int) (p_ : Int) : Option Bool :=
  Option.bind (pensionlaw24_List d_) fun z => loopC FU (pensionlaw24_FamilyPaysTheGreatest_l i_ p_) (0, 0, z)
/- pension/pensionlaw24.FamilyPrimaryPaysInFull -/
def pensionlaw24_FamilyPrimaryPaysInFull_l (z : (List Right)) (z5 : (List Int) × Int) (z6 : (List FamilyPay) × Int) (rec_ : Int → Option Bool) (x : Int) : Option Bool :=
  if decide (x < (z6.1.length : Int)) = true then
    Option.bind (getI z5.1 x) fun y => Option.bind (if decide (y < 0) = true then some true else Option.bind (getI z5.1 x) fun y2 => some (decide ((z.length : Int) ≤ y2))) fun c => if c = true then
      some false
    else
      Option.bind (getI z5.1 x) fun y3 => Option.bind (getI z y3) fun y4 => Option.bind (getI z6.1 x) fun y5 => Option.bind (if (y5.State != y4.State) = true then some true else Option.bind (getI z6.1 x) fun y6 => some (y6.Currency != y4.Currency)) fun c2 => Option.bind (if c2 = true then some true else Option.bind (getI z6.1 x) fun y7 => some (decide (y4.Amount < y7.Amount))) fun c3 => Option.bind (if c3 = true then some true else Option.bind (getI z6.1 x) fun y8 => some (y8.Primary != (x == 0))) fun c4 => Option.bind (if c4 = true then some true else Option.bind (if (x == 0) = true then Option.bind (getI z6.1 x) fun y9 => some (y9.Amount != y4.Amount) else some false) fun c5 => some c5) fun c6 => if c6 = true then
        some false
      else
        rec_ (i64 (x + 1))
  else
    some true
def pensionlaw24_FamilyPrimaryPaysInFull (d_ : List pensionlaw24_Raw) (i_ : Int) (p_ : List Int) (p_2 : Int) : Option Bool :=
  Option.bind (pensionlaw24_List d_) fun z => Option.bind (pensionplain_Rates p_) fun z2 => Option.bind (pensionplain_Mod p_2 2400) fun z3 => Option.bind (pensionplain_Mod i_ 8) fun z4 => Option.bind (family_Order z (i64 (z4 - 1)) z2 z3) fun z5 => Option.bind (family_Payments z (i64 (z4 - 1)) z2 z3) fun z6 => Option.bind (pensionlaw24_awake) fun z7 => if (((((!z7) || (z5.2 != 0)) || (z6.2 != 0)) || ((z5.1.length : Int) != (z.length : Int))) || ((z6.1.length : Int) != (z.length : Int))) = true then
    some false
  else
    loopC FU (pensionlaw24_FamilyPrimaryPaysInFull_l z z5 z6) 0
/- pension/pensionlaw24.FamilyPaymentsIgnoreOrder -/
def pensionlaw24_FamilyPaymentsIgnoreOrder (d_ : List pensionlaw24_Raw) (i_ : Int) (p_ : List Int) (p_2 : Int) (p_3 : Int) : Option Bool :=
  Option.bind (pensionlaw24_List d_) fun z => Option.bind (pensionplain_Rates p_) fun z2 => Option.bind (pensionplain_Mod p_2 2400) fun z3 => Option.bind (pensionplain_Mod i_ 8) fun z4 => if ((z.length : Int) == 0) = true then
    Option.bind (pensionlaw24_awake) fun z5 => some z5
  else
    Option.bind (pensionplain_Mod p_3 (z.length : Int)) fun z6 => Option.bind (family_Payments z (i64 (z4 - 1)) z2 z3) fun z7 => Option.bind (sliceI z z6 (z.length : Int)) fun s => Option.bind (appI 32 [] s) fun l => Option.bind (sliceI z 0 z6) fun s2 => Option.bind (appI 32 l s2) fun l2 => Option.bind (family_Payments l2 (i64 (z4 - 1)) z2 z3) fun z8 => Option.bind (pensionlaw24_awake) fun z9 => Option.bind (if (((z9 && (z7.2 == 0)) && (z8.2 == 0)) && ((z7.1.length : Int) == (z.length : Int))) = true then Option.bind (pensionplain_Same_of_api_FamilyPay z7.1 z8.1) fun z10 => some z10 else some false) fun c => some c
end Go.PL
