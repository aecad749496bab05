/- The Go functions as Lean functions (printed by a program). -/
import Derived.Test.YtndkbfbjjnhgoaaGreatDoorByt
set_option linter.unusedVariables false
namespace Go.PL
open Go

structure Span where
  From : Int
  To : Int
instance : Inhabited Span := ⟨⟨0, 0⟩⟩
def Span.cells (x : Span) : List Go.Value := [.int .i64 x.From, .int .i64 x.To]
def Span.val (x : Span) : Go.Value := .agg #[.int .i64 x.From, .int .i64 x.To]
def Span.R : TyR Span := TyR.flat 2 Span.cells (fun _ => rfl)
def Span.eqb (x y : Span) : Bool := (x.From == y.From) && ((x.To == y.To) && true)
structure api_Fact where
  Issuer : Int
  Number : Int
  Version : Int
  Withdrawn : Bool
  Person : Int
  Kind : Int
  State : Int
  Span : Span
  Seat : Int
  Share : Int
  Currency : Int
  Amount : Int
  Ref : Int
instance : Inhabited api_Fact := ⟨⟨0, 0, 0, false, 0, 0, 0, ⟨0, 0⟩, 0, 0, 0, 0, 0⟩⟩
def api_Fact.cells (x : api_Fact) : List Go.Value := [.int .i64 x.Issuer, .int .i64 x.Number, .int .i64 x.Version, .bool x.Withdrawn, .int .i64 x.Person, .int .i64 x.Kind, .int .i64 x.State, .int .i64 x.Span.From, .int .i64 x.Span.To, .int .i64 x.Seat, .int .i64 x.Share, .int .i64 x.Currency, .int .i64 x.Amount, .int .i64 x.Ref]
def api_Fact.val (x : api_Fact) : Go.Value := .agg #[.int .i64 x.Issuer, .int .i64 x.Number, .int .i64 x.Version, .bool x.Withdrawn, .int .i64 x.Person, .int .i64 x.Kind, .int .i64 x.State, .int .i64 x.Span.From, .int .i64 x.Span.To, .int .i64 x.Seat, .int .i64 x.Share, .int .i64 x.Currency, .int .i64 x.Amount, .int .i64 x.Ref]
def api_Fact.R : TyR api_Fact := TyR.flat 14 api_Fact.cells (fun _ => rfl)
def api_Fact.eqb (x y : api_Fact) : Bool := (x.Issuer == y.Issuer) && ((x.Number == y.Number) && ((x.Version == y.Version) && ((x.Withdrawn == y.Withdrawn) && ((x.Person == y.Person) && ((x.Kind == y.Kind) && ((x.State == y.State) && (Span.eqb x.Span y.Span && ((x.Seat == y.Seat) && ((x.Share == y.Share) && ((x.Currency == y.Currency) && ((x.Amount == y.Amount) && ((x.Ref == y.Ref) && true))))))))))))
structure pensionhand_Fact where
  Issuer : Int
  Number : Int
  Version : Int
  Withdrawn : Bool
  Person : Int
  Kind : Int
  State : Int
  Seat : Int
  From : Int
  Length : Int
  Share : Int
  Amount : Int
  Ref : Int
instance : Inhabited pensionhand_Fact := ⟨⟨0, 0, 0, false, 0, 0, 0, 0, 0, 0, 0, 0, 0⟩⟩
def pensionhand_Fact.cells (x : pensionhand_Fact) : List Go.Value := [.int .i64 x.Issuer, .int .i64 x.Number, .int .i64 x.Version, .bool x.Withdrawn, .int .i64 x.Person, .int .i64 x.Kind, .int .i64 x.State, .int .i64 x.Seat, .int .i64 x.From, .int .i64 x.Length, .int .i64 x.Share, .int .i64 x.Amount, .int .i64 x.Ref]
def pensionhand_Fact.val (x : pensionhand_Fact) : Go.Value := .agg #[.int .i64 x.Issuer, .int .i64 x.Number, .int .i64 x.Version, .bool x.Withdrawn, .int .i64 x.Person, .int .i64 x.Kind, .int .i64 x.State, .int .i64 x.Seat, .int .i64 x.From, .int .i64 x.Length, .int .i64 x.Share, .int .i64 x.Amount, .int .i64 x.Ref]
def pensionhand_Fact.R : TyR pensionhand_Fact := TyR.flat 13 pensionhand_Fact.cells (fun _ => rfl)
def pensionhand_Fact.eqb (x y : pensionhand_Fact) : Bool := (x.Issuer == y.Issuer) && ((x.Number == y.Number) && ((x.Version == y.Version) && ((x.Withdrawn == y.Withdrawn) && ((x.Person == y.Person) && ((x.Kind == y.Kind) && ((x.State == y.State) && ((x.Seat == y.Seat) && ((x.From == y.From) && ((x.Length == y.Length) && ((x.Share == y.Share) && ((x.Amount == y.Amount) && ((x.Ref == y.Ref) && true))))))))))))
structure Right where
  State : Int
  Basis : Int
  Currency : Int
  Amount : Int
instance : Inhabited Right := ⟨⟨0, 0, 0, 0⟩⟩
def Right.cells (x : Right) : List Go.Value := [.int .i64 x.State, .int .i64 x.Basis, .int .i64 x.Currency, .int .i64 x.Amount]
def Right.val (x : Right) : Go.Value := .agg #[.int .i64 x.State, .int .i64 x.Basis, .int .i64 x.Currency, .int .i64 x.Amount]
def Right.R : TyR Right := TyR.flat 4 Right.cells (fun _ => rfl)
def Right.eqb (x y : Right) : Bool := (x.State == y.State) && ((x.Basis == y.Basis) && ((x.Currency == y.Currency) && ((x.Amount == y.Amount) && true)))
structure Fraction where
  Num : Int
  Den : Int
instance : Inhabited Fraction := ⟨⟨0, 0⟩⟩
def Fraction.cells (x : Fraction) : List Go.Value := [.int .i64 x.Num, .int .i64 x.Den]
def Fraction.val (x : Fraction) : Go.Value := .agg #[.int .i64 x.Num, .int .i64 x.Den]
def Fraction.R : TyR Fraction := TyR.flat 2 Fraction.cells (fun _ => rfl)
def Fraction.eqb (x y : Fraction) : Bool := (x.Num == y.Num) && ((x.Den == y.Den) && true)
structure Rate where
  Currency : Int
  Month : Int
  Value : Fraction
instance : Inhabited Rate := ⟨⟨0, 0, ⟨0, 0⟩⟩⟩
def Rate.cells (x : Rate) : List Go.Value := [.int .i64 x.Currency, .int .i64 x.Month, .int .i64 x.Value.Num, .int .i64 x.Value.Den]
def Rate.val (x : Rate) : Go.Value := .agg #[.int .i64 x.Currency, .int .i64 x.Month, .int .i64 x.Value.Num, .int .i64 x.Value.Den]
def Rate.R : TyR Rate := TyR.flat 4 Rate.cells (fun _ => rfl)
def Rate.eqb (x y : Rate) : Bool := (x.Currency == y.Currency) && ((x.Month == y.Month) && (Fraction.eqb x.Value y.Value && true))
structure family_value where
  num : Int
  den : Int
instance : Inhabited family_value := ⟨⟨0, 0⟩⟩
def family_value.cells (x : family_value) : List Go.Value := [.int .u64 x.num, .int .u64 x.den]
def family_value.val (x : family_value) : Go.Value := .agg #[.int .u64 x.num, .int .u64 x.den]
def family_value.R : TyR family_value := TyR.flat 2 family_value.cells (fun _ => rfl)
def family_value.eqb (x y : family_value) : Bool := (x.num == y.num) && ((x.den == y.den) && true)
structure Rounding where
  Mode : Int
  Unit : Int
instance : Inhabited Rounding := ⟨⟨0, 0⟩⟩
def Rounding.cells (x : Rounding) : List Go.Value := [.int .i64 x.Mode, .int .i64 x.Unit]
def Rounding.val (x : Rounding) : Go.Value := .agg #[.int .i64 x.Mode, .int .i64 x.Unit]
def Rounding.R : TyR Rounding := TyR.flat 2 Rounding.cells (fun _ => rfl)
def Rounding.eqb (x y : Rounding) : Bool := (x.Mode == y.Mode) && ((x.Unit == y.Unit) && true)
structure FamilyPay where
  State : Int
  Currency : Int
  Amount : Int
  Primary : Bool
instance : Inhabited FamilyPay := ⟨⟨0, 0, 0, false⟩⟩
def FamilyPay.cells (x : FamilyPay) : List Go.Value := [.int .i64 x.State, .int .i64 x.Currency, .int .i64 x.Amount, .bool x.Primary]
def FamilyPay.val (x : FamilyPay) : Go.Value := .agg #[.int .i64 x.State, .int .i64 x.Currency, .int .i64 x.Amount, .bool x.Primary]
def FamilyPay.R : TyR FamilyPay := TyR.flat 4 FamilyPay.cells (fun _ => rfl)
def FamilyPay.eqb (x y : FamilyPay) : Bool := (x.State == y.State) && ((x.Currency == y.Currency) && ((x.Amount == y.Amount) && ((x.Primary == y.Primary) && true)))
def str1 : ByteArray := ⟨#[]⟩
def str2 : ByteArray := ⟨#[83, 80, 84, 72, 67, 65]⟩
def str3 : ByteArray := ⟨#[83, 80, 72, 67, 65]⟩
def str4 : ByteArray := ⟨#[83, 80, 84]⟩
def str5 : ByteArray := ⟨#[83, 80]⟩
def str6 : ByteArray := ⟨#[83, 80, 67, 65]⟩
def str7 : ByteArray := ⟨#[83, 80, 82]⟩
def str8 : ByteArray := ⟨#[80]⟩
def str9 : ByteArray := ⟨#[80, 82]⟩
def str10 : ByteArray := ⟨#[83]⟩
def str11 : ByteArray := ⟨#[84]⟩
def str12 : ByteArray := ⟨#[72]⟩
def str13 : ByteArray := ⟨#[67]⟩
def str14 : ByteArray := ⟨#[65]⟩
def str15 : ByteArray := ⟨#[82]⟩
def str16 : ByteArray := ⟨#[0, 1, 2, 2, 3, 3, 3, 3, 4, 4, 4, 4, 4, 4, 4, 4, 5, 5, 5, 5, 5, 5, 5, 5, 5, 5, 5, 5, 5, 5, 5, 5, 6, 6, 6, 6, 6, 6, 6, 6, 6, 6, 6, 6, 6, 6, 6, 6, 6, 6, 6, 6, 6, 6, 6, 6, 6, 6, 6, 6, 6, 6, 6, 6, 7, 7, 7, 7, 7, 7, 7, 7, 7, 7, 7, 7, 7, 7, 7, 7, 7, 7, 7, 7, 7, 7, 7, 7, 7, 7, 7, 7, 7, 7, 7, 7, 7, 7, 7, 7, 7, 7, 7, 7, 7, 7, 7, 7, 7, 7, 7, 7, 7, 7, 7, 7, 7, 7, 7, 7, 7, 7, 7, 7, 7, 7, 7, 7, 8, 8, 8, 8, 8, 8, 8, 8, 8, 8, 8, 8, 8, 8, 8, 8, 8, 8, 8, 8, 8, 8, 8, 8, 8, 8, 8, 8, 8, 8, 8, 8, 8, 8, 8, 8, 8, 8, 8, 8, 8, 8, 8, 8, 8, 8, 8, 8, 8, 8, 8, 8, 8, 8, 8, 8, 8, 8, 8, 8, 8, 8, 8, 8, 8, 8, 8, 8, 8, 8, 8, 8, 8, 8, 8, 8, 8, 8, 8, 8, 8, 8, 8, 8, 8, 8, 8, 8, 8, 8, 8, 8, 8, 8, 8, 8, 8, 8, 8, 8, 8, 8, 8, 8, 8, 8, 8, 8, 8, 8, 8, 8, 8, 8, 8, 8, 8, 8, 8, 8, 8, 8, 8, 8, 8, 8, 8, 8]⟩

/- pension/pensionplain.Mod -/
def pensionplain_Mod_j (r_ : Int) : Option Int :=
  some r_
def pensionplain_Mod (n_ : Int) (m_ : Int) : Option Int :=
  Option.bind (remI n_ m_) fun q => if decide (q < 0) = true then
    pensionplain_Mod_j (i64 (q + m_))
  else
    pensionplain_Mod_j q
/- pension/pensionhand.Pick -/
def pensionhand_Pick (n_ : List Int) (i_ : Int) : Option Int :=
  if ((n_.length : Int) == 0) = true then
    some 0
  else
    Option.bind (pensionplain_Mod i_ (n_.length : Int)) fun z => Option.bind (getI n_ z) fun y => some y
/- pension/pensionhand.Lives -/
def pensionhand_Lives_l (d_ : List Int) (rec_ : ((List api_Fact) × Int) → Option (List api_Fact)) : ((List api_Fact) × Int) → Option (List api_Fact)
  | (x, x2) =>
  if decide (x2 ≤ 2) = true then
    Option.bind (pensionhand_Pick d_ x2) fun z => Option.bind (pensionplain_Mod z 3) fun z2 => Option.bind (pensionhand_Pick d_ (i64 (x2 + 2))) fun z3 => Option.bind (pensionplain_Mod z3 3) fun z4 => Option.bind (pensionhand_Pick d_ (i64 (x2 + 4))) fun z5 => Option.bind (pensionplain_Mod z5 6000) fun z6 => Option.bind (pensionhand_Pick d_ (i64 (x2 + 6))) fun z7 => Option.bind (pensionplain_Mod z7 3000) fun z8 => Option.bind (appI 112 x [(⟨z2, i64 (900 + x2), 1, false, x2, 11, 0, (⟨i64 (13000 + z8), i64 (i64 (13000 + z8) + 1)⟩ : Span), 0, 0, 0, 0, 0⟩ : api_Fact)]) fun l => Option.bind (appI 112 l [(⟨z2, i64 (910 + x2), 1, false, x2, 5, z2, (⟨20000, 60000⟩ : Span), 0, 0, 0, 0, 0⟩ : api_Fact)]) fun l2 => Option.bind (pensionhand_Pick d_ (i64 (x2 + 8))) fun z9 => Option.bind (pensionplain_Mod z9 900000) fun z10 => Option.bind (appI 112 l2 [(⟨z2, i64 (920 + x2), 1, false, x2, 1, z2, (⟨22000, i64 (27000 + z6)⟩ : Span), z2, 100, i64 (1 + z2), i64 (900000 + z10), 0⟩ : api_Fact)]) fun l3 => Option.bind (pensionhand_Pick d_ (i64 (x2 + 10))) fun z11 => Option.bind (pensionplain_Mod z11 3000) fun z12 => Option.bind (pensionhand_Pick d_ (i64 (x2 + 12))) fun z13 => Option.bind (pensionplain_Mod z13 900000) fun z14 => Option.bind (appI 112 l3 [(⟨z4, i64 (930 + x2), 1, false, x2, 1, z4, (⟨i64 (27000 + z6), i64 (34400 + z12)⟩ : Span), z4, 50, i64 (1 + z4), i64 (700000 + z14), 0⟩ : api_Fact)]) fun l4 => Option.bind (appI 112 l4 [(⟨z2, i64 (940 + x2), 1, false, x2, 10, z2, (⟨32000, 38500⟩ : Span), 0, 0, 0, 0, 3⟩ : api_Fact)]) fun l5 => Option.bind (appI 112 l5 [(⟨z2, i64 (950 + x2), 1, false, x2, 14, 0, (⟨26000, 50000⟩ : Span), 0, 0, 0, 0, i64 (3 - x2)⟩ : api_Fact)]) fun l6 => rec_ (l6, i64 (x2 + 1))
  else
    Option.bind (pensionhand_Pick d_ 15) fun z15 => Option.bind (pensionplain_Mod z15 2000) fun z16 => Option.bind (pensionhand_Pick d_ 16) fun z17 => Option.bind (pensionplain_Mod z17 2000) fun z18 => Option.bind (appI 112 x [(⟨0, 961, 1, false, 1, 13, 0, (⟨i64 (34000 + z16), i64 (36500 + z18)⟩ : Span), 0, 0, 0, 0, 0⟩ : api_Fact)]) fun l7 => Option.bind (pensionhand_Pick d_ 17) fun z19 => Option.bind (pensionplain_Mod z19 900) fun z20 => Option.bind (pensionhand_Pick d_ 17) fun z21 => Option.bind (pensionplain_Mod z21 900) fun z22 => Option.bind (appI 112 l7 [(⟨1, 962, 1, false, 2, 12, 0, (⟨i64 (35600 + z20), i64 (35601 + z22)⟩ : Span), 0, 0, 0, 0, 0⟩ : api_Fact)]) fun l8 => Option.bind (pensionhand_Pick d_ 18) fun z23 => Option.bind (pensionplain_Mod z23 1200) fun z24 => Option.bind (pensionhand_Pick d_ 19) fun z25 => Option.bind (pensionplain_Mod z25 300) fun z26 => Option.bind (appI 112 l8 [(⟨0, 963, 1, false, 1, 8, 0, (⟨i64 (35000 + z24), i64 (36250 + z26)⟩ : Span), 0, 0, 0, 0, 0⟩ : api_Fact)]) fun l9 => some l9
def pensionhand_Lives (d_ : List Int) : Option (List api_Fact) :=
  loopC FU (pensionhand_Lives_l d_) ([], 1)
/- pension/pensionhand.length -/
def pensionhand_length (n_ : Int) : Option Int :=
  Option.bind (pensionplain_Mod n_ 4) fun z => if (z == 0) = true then
    Option.bind (pensionplain_Mod (i64 (Int.tdiv n_ 4)) 9000) fun z2 => some (i64 (1 + z2))
  else
    if (z == 1) = true then
      Option.bind (pensionplain_Mod (i64 (Int.tdiv n_ 4)) 1200) fun z3 => some (i64 (1 + z3))
    else
      if (z == 2) = true then
        Option.bind (pensionplain_Mod (i64 (Int.tdiv n_ 4)) 120) fun z4 => some (i64 (1 + z4))
      else
        Option.bind (pensionplain_Mod (i64 (Int.tdiv n_ 4)) 12) fun z5 => some (i64 (1 + z5))
/- pension/pensionref12.Uses -/
def pensionref12_Uses (kind_ : Int) : Option ByteArray :=
  if (decide (kind_ < 1) || decide (([str1, str2, str3, str3, str4, str5, str6, str5, str5, str5, str7, str8, str8, str8, str9].length : Int) ≤ kind_)) = true then
    some str1
  else
    Option.bind (getI [str1, str2, str3, str3, str4, str5, str6, str5, str5, str5, str7, str8, str8, str8, str9] kind_) fun y => some y
/- pension/pensionhand.Make -/
def pensionhand_Make_j2 (x3 : Int) (rec_ : (Int × api_Fact) → Option api_Fact) (v2 : api_Fact) : Option api_Fact :=
  rec_ (i64 (x3 + 1), v2)
def pensionhand_Make_l (d_ : pensionhand_Fact) (x : Int) (x2 : Int) (z8 : ByteArray) (rec_ : (Int × api_Fact) → Option api_Fact) : (Int × api_Fact) → Option api_Fact
  | (x3, v) =>
  if decide (x3 < (z8.size : Int)) = true then
    Option.bind (strI z8 x3) fun y => if (y == 83) = true then
      Option.bind (pensionplain_Mod d_.State 3) fun z9 => pensionhand_Make_j2 x3 rec_ ({ v with State := z9 } : api_Fact)
    else
      if (y == 80) = true then
        pensionhand_Make_j2 x3 rec_ ({ v with Span := (⟨x, x2⟩ : Span) } : api_Fact)
      else
        if (y == 84) = true then
          Option.bind (pensionplain_Mod d_.Seat 3) fun z10 => if ((({ v with Seat := z10 } : api_Fact).Kind == 4) && (({ v with Seat := z10 } : api_Fact).Seat == ({ v with Seat := z10 } : api_Fact).State)) = true then
            Option.bind (pensionplain_Mod (i64 (({ v with Seat := z10 } : api_Fact).State + 1)) 3) fun z11 => pensionhand_Make_j2 x3 rec_ ({ ({ v with Seat := z10 } : api_Fact) with Seat := z11 } : api_Fact)
          else
            pensionhand_Make_j2 x3 rec_ ({ v with Seat := z10 } : api_Fact)
        else
          if (y == 72) = true then
            Option.bind (pensionplain_Mod d_.Share 100) fun z12 => pensionhand_Make_j2 x3 rec_ ({ v with Share := i64 (1 + z12) } : api_Fact)
          else
            if (y == 67) = true then
              Option.bind (pensionplain_Mod (i64 (d_.Seat + Int.tmod d_.State 3)) 3) fun z13 => pensionhand_Make_j2 x3 rec_ ({ v with Currency := i64 (1 + z13) } : api_Fact)
            else
              if (y == 65) = true then
                Option.bind (pensionplain_Mod d_.Amount 3000000) fun z14 => pensionhand_Make_j2 x3 rec_ ({ v with Amount := z14 } : api_Fact)
              else
                Option.bind (pensionplain_Mod d_.Ref 4) fun z15 => if (({ v with Ref := i64 (1 + z15) } : api_Fact).Ref == ({ v with Ref := i64 (1 + z15) } : api_Fact).Person) = true then
                  Option.bind (pensionplain_Mod (({ v with Ref := i64 (1 + z15) } : api_Fact).Person) 4) fun z16 => pensionhand_Make_j2 x3 rec_ ({ ({ v with Ref := i64 (1 + z15) } : api_Fact) with Ref := i64 (1 + z16) } : api_Fact)
                else
                  pensionhand_Make_j2 x3 rec_ ({ v with Ref := i64 (1 + z15) } : api_Fact)
  else
    some v
def pensionhand_Make_j (d_ : pensionhand_Fact) (z : Int) (z2 : Int) (z3 : Int) (z4 : Int) (z5 : Int) (x : Int) (x2 : Int) : Option api_Fact :=
  Option.bind (pensionref12_Uses (({ ({ (⟨z, i64 (1 + z2), i64 (1 + z3), d_.Withdrawn, 0, 0, 0, (⟨0, 0⟩ : Span), 0, 0, 0, 0, 0⟩ : api_Fact) with Person := i64 (1 + z4) } : api_Fact) with Kind := i64 (1 + z5) } : api_Fact).Kind)) fun z8 => loopC FU (pensionhand_Make_l d_ x x2 z8) (0, ({ ({ (⟨z, i64 (1 + z2), i64 (1 + z3), d_.Withdrawn, 0, 0, 0, (⟨0, 0⟩ : Span), 0, 0, 0, 0, 0⟩ : api_Fact) with Person := i64 (1 + z4) } : api_Fact) with Kind := i64 (1 + z5) } : api_Fact))
def pensionhand_Make (d_ : pensionhand_Fact) : Option api_Fact :=
  Option.bind (pensionplain_Mod d_.Issuer 3) fun z => Option.bind (pensionplain_Mod d_.Number 20) fun z2 => Option.bind (pensionplain_Mod d_.Version 3) fun z3 => Option.bind (pensionplain_Mod d_.Person 4) fun z4 => Option.bind (pensionplain_Mod d_.Kind 14) fun z5 => Option.bind (pensionplain_Mod d_.From 16000) fun z6 => Option.bind (pensionhand_length d_.Length) fun z7 => if (({ ({ (⟨z, i64 (1 + z2), i64 (1 + z3), d_.Withdrawn, 0, 0, 0, (⟨0, 0⟩ : Span), 0, 0, 0, 0, 0⟩ : api_Fact) with Person := i64 (1 + z4) } : api_Fact) with Kind := i64 (1 + z5) } : api_Fact).Kind == 11) = true then
    Option.bind (pensionplain_Mod d_.From 5000) fun z17 => pensionhand_Make_j d_ z z2 z3 z4 z5 (i64 (12000 + z17)) (i64 (i64 (12000 + z17) + 1))
  else
    if (({ ({ (⟨z, i64 (1 + z2), i64 (1 + z3), d_.Withdrawn, 0, 0, 0, (⟨0, 0⟩ : Span), 0, 0, 0, 0, 0⟩ : api_Fact) with Person := i64 (1 + z4) } : api_Fact) with Kind := i64 (1 + z5) } : api_Fact).Kind == 12) = true then
      Option.bind (pensionplain_Mod d_.From 6000) fun z18 => pensionhand_Make_j d_ z z2 z3 z4 z5 (i64 (34000 + z18)) (i64 (i64 (34000 + z18) + 1))
    else
      if (({ ({ (⟨z, i64 (1 + z2), i64 (1 + z3), d_.Withdrawn, 0, 0, 0, (⟨0, 0⟩ : Span), 0, 0, 0, 0, 0⟩ : api_Fact) with Person := i64 (1 + z4) } : api_Fact) with Kind := i64 (1 + z5) } : api_Fact).Kind == 8) = true then
        Option.bind (pensionplain_Mod d_.From 4000) fun z19 => Option.bind (pensionplain_Mod d_.Length 700) fun z20 => pensionhand_Make_j d_ z z2 z3 z4 z5 (i64 (34000 + z19)) (i64 (i64 (i64 (34000 + z19) + 1) + z20))
      else
        pensionhand_Make_j d_ z z2 z3 z4 z5 (i64 (21900 + z6)) (i64 (i64 (21900 + z6) + z7))
/- pension/pensionhand.Facts -/
def pensionhand_Facts_l (l_ : List pensionhand_Fact) (rec_ : ((List api_Fact) × Int) → Option (List api_Fact)) : ((List api_Fact) × Int) → Option (List api_Fact)
  | (out_, i_) =>
  if (decide (i_ < (l_.length : Int)) && decide (i_ < 12)) = true then
    Option.bind (getI l_ i_) fun y => Option.bind (pensionhand_Make y) fun z => Option.bind (appI 112 out_ [z]) fun l => rec_ (l, i64 (i_ + 1))
  else
    some out_
def pensionhand_Facts (l_ : List pensionhand_Fact) : Option (List api_Fact) :=
  loopC FU (pensionhand_Facts_l l_) ([], 0)
/- pension/fact.Uses -/
def fact_Uses_j3 (kind_ : Int) (x3 : Bool) : Option ByteArray :=
  if x3 = true then
    some str8
  else
    if (kind_ == 14) = true then
      some str9
    else
      some str1
def fact_Uses_j2 (kind_ : Int) (x2 : Bool) : Option ByteArray :=
  if x2 = true then
    some str5
  else
    if (kind_ == 6) = true then
      some str6
    else
      if (kind_ == 10) = true then
        some str7
      else
        if (kind_ == 11) = true then
          fact_Uses_j3 kind_ (kind_ == 11)
        else
          if (kind_ == 12) = true then
            fact_Uses_j3 kind_ (kind_ == 12)
          else
            fact_Uses_j3 kind_ (kind_ == 13)
def fact_Uses_j (kind_ : Int) (x : Bool) : Option ByteArray :=
  if x = true then
    some str3
  else
    if (kind_ == 4) = true then
      some str4
    else
      if (kind_ == 5) = true then
        fact_Uses_j2 kind_ (kind_ == 5)
      else
        if (kind_ == 7) = true then
          fact_Uses_j2 kind_ (kind_ == 7)
        else
          if (kind_ == 8) = true then
            fact_Uses_j2 kind_ (kind_ == 8)
          else
            fact_Uses_j2 kind_ (kind_ == 9)
def fact_Uses (kind_ : Int) : Option ByteArray :=
  if (kind_ == 1) = true then
    some str2
  else
    if (kind_ == 2) = true then
      fact_Uses_j kind_ (kind_ == 2)
    else
      fact_Uses_j kind_ (kind_ == 3)
/- strings.Contains -/
def strings_Contains (s_ sub_ : ByteArray) : Option Bool := containsF s_ sub_
/- pension/fact.Valid$1 -/
def fact_Valid_1 (letter_ : ByteArray) (c_ : ByteArray) : Option Bool :=
  Option.bind (strings_Contains c_ letter_) fun z => some z
/- pension/fact.within -/
def fact_within (x_ : Int) (low_ : Int) (high_ : Int) : Option Bool :=
  some (decide (low_ ≤ x_) && decide (x_ ≤ high_))
/- pension/fact.field -/
def fact_field (used_ : Bool) (x_ : Int) (low_ : Int) (high_ : Int) : Option Bool :=
  Option.bind (if used_ = true then Option.bind (fact_within x_ low_ high_) fun z => some z else some false) fun c => some (c || ((!used_) && (x_ == 0)))
/- pension/fact.validSpan -/
def fact_validSpan (s_ : Span) : Option Bool :=
  some ((decide (0 ≤ s_.From) && decide (s_.From < s_.To)) && decide (s_.To ≤ 73049))
/- pension/fact.Valid -/
def fact_Valid_j2 (d_ : api_Fact) (x2 : Bool) : Option Bool :=
  if x2 = true then
    some (d_.Ref != d_.Person)
  else
    some true
def fact_Valid_j (d_ : api_Fact) (x : Bool) : Option Bool :=
  if x = true then
    some (d_.Span.To == i64 (d_.Span.From + 1))
  else
    if (d_.Kind == 10) = true then
      fact_Valid_j2 d_ (d_.Kind == 10)
    else
      fact_Valid_j2 d_ (d_.Kind == 14)
def fact_Valid (d_ : api_Fact) : Option Bool :=
  Option.bind (fact_Uses d_.Kind) fun z => Option.bind (if (z.toList == str1.toList) = true then some true else Option.bind (fact_within d_.Issuer 0 5) fun z2 => some (!z2)) fun c => Option.bind (if c = true then some true else Option.bind (fact_within d_.Number 1 999) fun z3 => some (!z3)) fun c2 => Option.bind (if c2 = true then some true else Option.bind (fact_within d_.Version 1 99) fun z4 => some (!z4)) fun c3 => Option.bind (if c3 = true then some true else Option.bind (fact_within d_.Person 1 99) fun z5 => some (!z5)) fun c4 => if c4 = true then
    some false
  else
    Option.bind ((fun x => fact_Valid_1 x z) str10) fun z6 => Option.bind (fact_field z6 d_.State 0 5) fun z7 => Option.bind (if (!z7) = true then some true else Option.bind ((fun x => fact_Valid_1 x z) str11) fun z8 => Option.bind (fact_field z8 d_.Seat 0 5) fun z9 => some (!z9)) fun c5 => Option.bind (if c5 = true then some true else Option.bind (fact_validSpan d_.Span) fun z10 => some (!z10)) fun c6 => if c6 = true then
      some false
    else
      Option.bind ((fun x => fact_Valid_1 x z) str12) fun z11 => Option.bind (fact_field z11 d_.Share 1 100) fun z12 => Option.bind (if (!z12) = true then some true else Option.bind ((fun x => fact_Valid_1 x z) str13) fun z13 => Option.bind (fact_field z13 d_.Currency 1 999) fun z14 => some (!z14)) fun c7 => Option.bind (if c7 = true then some true else Option.bind ((fun x => fact_Valid_1 x z) str14) fun z15 => Option.bind (fact_field z15 d_.Amount 0 1000000000) fun z16 => some (!z16)) fun c8 => Option.bind (if c8 = true then some true else Option.bind ((fun x => fact_Valid_1 x z) str15) fun z17 => Option.bind (fact_field z17 d_.Ref 1 99) fun z18 => some (!z18)) fun c9 => if c9 = true then
        some false
      else
        if (d_.Kind == 4) = true then
          some (d_.State != d_.Seat)
        else
          if (d_.Kind == 11) = true then
            fact_Valid_j d_ (d_.Kind == 11)
          else
            fact_Valid_j d_ (d_.Kind == 12)
/- pension/career.merge(pension/api.Fact) -/
def career_merge_of_api_Fact_l (p_ : (api_Fact × api_Fact) → Option Int) (p_2 : (api_Fact × api_Fact) → Option api_Fact) (rec_ : ((List api_Fact) × (List api_Fact) × (List api_Fact)) → Option (List api_Fact)) : ((List api_Fact) × (List api_Fact) × (List api_Fact)) → Option (List api_Fact)
  | (d_2, i_2, x) =>
  if (decide (0 < (d_2.length : Int)) && decide (0 < (i_2.length : Int))) = true then
    Option.bind (getI d_2 0) fun y => Option.bind (getI i_2 0) fun y2 => Option.bind (p_ (y, y2)) fun z => if decide (z < 0) = true then
      Option.bind (getI d_2 0) fun y3 => Option.bind (appI 112 x [y3]) fun l => Option.bind (sliceI d_2 1 (d_2.length : Int)) fun s => rec_ (s, i_2, l)
    else
      if decide (0 < z) = true then
        Option.bind (getI i_2 0) fun y4 => Option.bind (appI 112 x [y4]) fun l2 => Option.bind (sliceI i_2 1 (i_2.length : Int)) fun s2 => rec_ (d_2, s2, l2)
      else
        Option.bind (getI d_2 0) fun y5 => Option.bind (getI i_2 0) fun y6 => Option.bind (p_2 (y5, y6)) fun z2 => Option.bind (appI 112 x [z2]) fun l3 => Option.bind (sliceI d_2 1 (d_2.length : Int)) fun s3 => Option.bind (sliceI i_2 1 (i_2.length : Int)) fun s4 => rec_ (s3, s4, l3)
  else
    Option.bind (appI 112 x d_2) fun l4 => Option.bind (appI 112 l4 i_2) fun l5 => some l5
def career_merge_of_api_Fact (d_ : List api_Fact) (i_ : List api_Fact) (p_ : (api_Fact × api_Fact) → Option Int) (p_2 : (api_Fact × api_Fact) → Option api_Fact) : Option (List api_Fact) :=
  loopC FU (career_merge_of_api_Fact_l p_ p_2) (d_, i_, [])
/- cmp.isNaN(int) -/
def cmp_isNaN_of_int (x_ : Int) : Option Bool :=
  some (x_ != x_)
/- cmp.Compare(int) -/
def cmp_Compare_of_int (x_ : Int) (y_ : Int) : Option Int :=
  Option.bind (cmp_isNaN_of_int x_) fun z => Option.bind (cmp_isNaN_of_int y_) fun z2 => if z = true then
    if z2 = true then
      some 0
    else
      some (-1)
  else
    if z2 = true then
      some 1
    else
      if decide (x_ < y_) = true then
        some (-1)
      else
        if decide (y_ < x_) = true then
          some 1
        else
          some 0
/- cmp.Or(int) -/
def cmp_Or_of_int_l (vals_ : List Int) (rec_ : Int → Option Int) (x : Int) : Option Int :=
  if decide (x < (vals_.length : Int)) = true then
    Option.bind (getI vals_ x) fun y => if (y != 0) = true then
      some y
    else
      rec_ (i64 (x + 1))
  else
    some 0
def cmp_Or_of_int (vals_ : List Int) : Option Int :=
  loopC FU (cmp_Or_of_int_l vals_) 0
/- pension/career.byIdentity -/
def career_byIdentity (a_ : api_Fact) (b_ : api_Fact) : Option Int :=
  Option.bind (cmp_Compare_of_int a_.Issuer b_.Issuer) fun z => Option.bind (cmp_Compare_of_int a_.Number b_.Number) fun z2 => Option.bind (cmp_Or_of_int [z, z2]) fun z3 => some z3
/- pension/fact.appendNumbers -/
def fact_appendNumbers_l2 (x : Int) (rec_ : ((List Int) × Int) → Option (List Int)) (y : Int) (rec_2 : ((List Int) × Int) → Option (List Int)) : ((List Int) × Int) → Option (List Int)
  | (b_3, i_) =>
  if decide (0 ≤ i_) = true then
    Option.bind (shrO .i64 y (i64 (8 * i_))) fun q => Option.bind (appI 1 b_3 [(IntKind.u8.wrap) q]) fun l => rec_2 (l, i64 (i_ - 1))
  else
    rec_ (b_3, i64 (x + 1))
def fact_appendNumbers_l (size_ : Int) (numbers_ : List Int) (rec_ : ((List Int) × Int) → Option (List Int)) : ((List Int) × Int) → Option (List Int)
  | (b_2, x) =>
  if decide (x < (numbers_.length : Int)) = true then
    Option.bind (getI numbers_ x) fun y => loopC FU (fact_appendNumbers_l2 x rec_ y) (b_2, i64 (size_ - 1))
  else
    some b_2
def fact_appendNumbers (b_ : List Int) (size_ : Int) (numbers_ : List Int) : Option (List Int) :=
  loopC FU (fact_appendNumbers_l size_ numbers_) (b_, 0)
/- pension/fact.Bytes -/
def fact_Bytes_l (d_ : api_Fact) (z5 : ByteArray) (rec_ : ((List Int) × Int) → Option (List Int)) : ((List Int) × Int) → Option (List Int)
  | (x2, v) =>
  Option.bind (nextI z5 v) fun c => if decide (v < (z5.size : Int)) = true then
    if (c == 83) = true then
      Option.bind (fact_appendNumbers x2 1 [d_.State]) fun z6 => rec_ (z6, (nextP z5 v))
    else
      if (c == 80) = true then
        Option.bind (fact_appendNumbers x2 3 [d_.Span.From, d_.Span.To]) fun z7 => rec_ (z7, (nextP z5 v))
      else
        if (c == 84) = true then
          Option.bind (fact_appendNumbers x2 1 [d_.Seat]) fun z8 => rec_ (z8, (nextP z5 v))
        else
          if (c == 72) = true then
            Option.bind (fact_appendNumbers x2 1 [d_.Share]) fun z9 => rec_ (z9, (nextP z5 v))
          else
            if (c == 67) = true then
              Option.bind (fact_appendNumbers x2 2 [d_.Currency]) fun z10 => rec_ (z10, (nextP z5 v))
            else
              if (c == 65) = true then
                Option.bind (fact_appendNumbers x2 4 [d_.Amount]) fun z11 => rec_ (z11, (nextP z5 v))
              else
                if (c == 82) = true then
                  Option.bind (fact_appendNumbers x2 1 [d_.Ref]) fun z12 => rec_ (z12, (nextP z5 v))
                else
                  rec_ (x2, (nextP z5 v))
  else
    some x2
def fact_Bytes_j (d_ : api_Fact) (x : Int) : Option (List Int) :=
  Option.bind (fact_appendNumbers [] 1 [d_.Issuer]) fun z2 => Option.bind (fact_appendNumbers z2 2 [d_.Number]) fun z3 => Option.bind (fact_appendNumbers z3 1 [d_.Version, x, d_.Person, d_.Kind]) fun z4 => Option.bind (fact_Uses d_.Kind) fun z5 => loopC FU (fact_Bytes_l d_ z5) (z4, 0)
def fact_Bytes (d_ : api_Fact) : Option (List Int) :=
  Option.bind (fact_Valid d_) fun z => if (!z) = true then
    some []
  else
    if d_.Withdrawn = true then
      fact_Bytes_j d_ 1
    else
      fact_Bytes_j d_ 0
/- bytes.Compare -/
def bytes_Compare (a_ : List Int) (b_ : List Int) : Option Int :=
  some (cmpB a_ b_)
/- pension/fact.Less -/
def fact_Less (a_ : api_Fact) (b_ : api_Fact) : Option Bool :=
  Option.bind (fact_Valid a_) fun z => Option.bind (if (!z) = true then some true else Option.bind (fact_Valid b_) fun z2 => some (!z2)) fun c => if c = true then
    some false
  else
    Option.bind (fact_Bytes a_) fun z3 => Option.bind (fact_Bytes b_) fun z4 => Option.bind (bytes_Compare z3 z4) fun z5 => some (decide (z5 < 0))
/- pension/career.greater -/
def career_greater (a_ : api_Fact) (b_ : api_Fact) : Option api_Fact :=
  Option.bind (fact_Less a_ b_) fun z => if z = true then
    some b_
  else
    some a_
/- pension/career.ascending -/
def career_ascending_j (x : Int) (rec_ : ((List api_Fact) × Int) → Option (List api_Fact)) (out_2 : List api_Fact) : Option (List api_Fact) :=
  rec_ (out_2, i64 (x + 1))
def career_ascending_l (l_ : List api_Fact) (rec_ : ((List api_Fact) × Int) → Option (List api_Fact)) : ((List api_Fact) × Int) → Option (List api_Fact)
  | (out_, x) =>
  if decide (x < (l_.length : Int)) = true then
    Option.bind (getI l_ x) fun y => Option.bind (fact_Valid y) fun z => if z = true then
      Option.bind (career_merge_of_api_Fact out_ [y] (fun x => career_byIdentity x.1 x.2) (fun x => career_greater x.1 x.2)) fun z2 => career_ascending_j x rec_ z2
    else
      career_ascending_j x rec_ out_
  else
    some out_
def career_ascending (l_ : List api_Fact) : Option (List api_Fact) :=
  loopC FU (career_ascending_l l_) ([], 0)
/- pension/career.Merge -/
def career_Merge (a_ : List api_Fact) (b_ : List api_Fact) : Option (List api_Fact) :=
  Option.bind (career_ascending a_) fun z => Option.bind (career_ascending b_) fun z2 => Option.bind (career_merge_of_api_Fact z z2 (fun x => career_byIdentity x.1 x.2) (fun x => career_greater x.1 x.2)) fun z3 => some z3
/- pension/career.filter -/
def career_filter_j (x : Int) (rec_ : ((List api_Fact) × Int) → Option (List api_Fact)) (out_2 : List api_Fact) : Option (List api_Fact) :=
  rec_ (out_2, i64 (x + 1))
def career_filter_l (l_ : List api_Fact) (want_ : api_Fact → Option Bool) (rec_ : ((List api_Fact) × Int) → Option (List api_Fact)) : ((List api_Fact) × Int) → Option (List api_Fact)
  | (out_, x) =>
  if decide (x < (l_.length : Int)) = true then
    Option.bind (getI l_ x) fun y => Option.bind (want_ y) fun z => if z = true then
      Option.bind (appI 112 out_ [y]) fun l => career_filter_j x rec_ l
    else
      career_filter_j x rec_ out_
  else
    some out_
def career_filter (l_ : List api_Fact) (want_ : api_Fact → Option Bool) : Option (List api_Fact) :=
  loopC FU (career_filter_l l_ want_) ([], 0)
/- pension/career.current -/
def career_current (f_ : api_Fact) : Option Bool :=
  Option.bind (fact_Valid f_) fun z => some (z && (!f_.Withdrawn))
/- pension/career.Current -/
def career_Current (l_ : List api_Fact) : Option (List api_Fact) :=
  Option.bind (career_filter l_ (fun x => career_current x)) fun z => some z
/- pension/family.facts -/
def family_facts (l_ : List api_Fact) : Option (List api_Fact) :=
  Option.bind (career_Merge l_ []) fun z => Option.bind (career_Current z) fun z2 => some z2
/- pension/career.Of$1 -/
def career_Of_1 (f_ : api_Fact) (c_ : Int) : Option Bool :=
  some (f_.Person == c_)
/- pension/career.Of -/
def career_Of (l_ : List api_Fact) (person_ : Int) : Option (List api_Fact) :=
  Option.bind (career_filter l_ (fun x => career_Of_1 x person_)) fun z => some z
/- pension/career.first -/
def career_first_j (x : Int) (rec_ : (Int × Bool × Int) → Option (Int × Bool)) (day_2 : Int) (ok_2 : Bool) : Option (Int × Bool) :=
  rec_ (day_2, ok_2, i64 (x + 1))
def career_first_l (l_ : List api_Fact) (kind_ : Int) (rec_ : (Int × Bool × Int) → Option (Int × Bool)) : (Int × Bool × Int) → Option (Int × Bool)
  | (day_, ok_, x) =>
  if decide (x < (l_.length : Int)) = true then
    Option.bind (getI l_ x) fun y => Option.bind (career_current y) fun z => if ((z && (y.Kind == kind_)) && ((!ok_) || decide (y.Span.From < day_))) = true then
      career_first_j x rec_ y.Span.From true
    else
      career_first_j x rec_ day_ ok_
  else
    some (day_, ok_)
def career_first (l_ : List api_Fact) (kind_ : Int) : Option (Int × Bool) :=
  loopC FU (career_first_l l_ kind_) (0, false, 0)
/- pension/career.Death -/
def career_Death (l_ : List api_Fact) : Option (Int × Bool) :=
  Option.bind (career_first l_ 12) fun z => some (z.1, z.2)
/- pension/family.alive -/
def family_alive (l_ : List api_Fact) (person_ : Int) (day_ : Int) : Option Bool :=
  Option.bind (career_Of l_ person_) fun z => Option.bind (career_Death z) fun z2 => some ((!z2.2) || decide (day_ ≤ z2.1))
/- pension/family.raises$1 -/
def family_raises_1 (f_ : api_Fact) (c_ : Int) (c_2 : Int) : Option Bool :=
  some ((((f_.Kind == 10) && (f_.Ref == c_)) && decide (f_.Span.From ≤ c_2)) && decide (c_2 < f_.Span.To))
/- slices.IndexFunc(()pension/api.Fact,pension/api.Fact) -/
def slices_IndexFunc_of_api_Fact_l (s_ : List api_Fact) (f_ : api_Fact → Option Bool) (rec_ : Int → Option Int) (x : Int) : Option Int :=
  if decide (x < (s_.length : Int)) = true then
    Option.bind (getI s_ x) fun y => Option.bind (f_ y) fun z => if z = true then
      some x
    else
      rec_ (i64 (x + 1))
  else
    some (-1)
def slices_IndexFunc_of_api_Fact (s_ : List api_Fact) (f_ : api_Fact → Option Bool) : Option Int :=
  loopC FU (slices_IndexFunc_of_api_Fact_l s_ f_) 0
/- slices.ContainsFunc(()pension/api.Fact,pension/api.Fact) -/
def slices_ContainsFunc_of_api_Fact (s_ : List api_Fact) (f_ : api_Fact → Option Bool) : Option Bool :=
  Option.bind (slices_IndexFunc_of_api_Fact s_ f_) fun z => some (decide (0 ≤ z))
/- pension/family.raises -/
def family_raises (l_ : List api_Fact) (child_ : Int) (day_ : Int) : Option Bool :=
  Option.bind (slices_ContainsFunc_of_api_Fact l_ (fun x => family_raises_1 x child_ day_)) fun z => some z
/- pension/family.parents -/
def family_parents_j (p_ : Int) (rec_ : ((List Int) × Int) → Option (List Int)) (out_2 : List Int) : Option (List Int) :=
  rec_ (out_2, i64 (p_ + 1))
def family_parents_l (l_ : List api_Fact) (child_ : Int) (day_ : Int) (rec_ : ((List Int) × Int) → Option (List Int)) : ((List Int) × Int) → Option (List Int)
  | (out_, p_) =>
  if decide (p_ ≤ 99) = true then
    Option.bind (if (p_ != child_) = true then Option.bind (career_Of l_ p_) fun z2 => Option.bind (family_raises z2 child_ day_) fun z3 => some z3 else some false) fun c2 => Option.bind (if c2 = true then Option.bind (family_alive l_ p_ day_) fun z4 => some z4 else some false) fun c3 => if c3 = true then
      Option.bind (appI 8 out_ [p_]) fun l => family_parents_j p_ rec_ l
    else
      family_parents_j p_ rec_ out_
  else
    some out_
def family_parents (l_ : List api_Fact) (child_ : Int) (day_ : Int) : Option (List Int) :=
  Option.bind (if (((decide (child_ < 1) || decide (99 < child_)) || decide (day_ < 0)) || decide (73048 < day_)) = true then some true else Option.bind (family_alive l_ child_ day_) fun z => some (!z)) fun c => if c = true then
    some []
  else
    loopC FU (family_parents_l l_ child_ day_) ([], 1)
/- pension/calendar.Valid -/
def calendar_Valid (day_ : Int) : Option Bool :=
  some (decide (0 ≤ day_) && decide (day_ ≤ 73048))
/- pension/career.Birth -/
def career_Birth (l_ : List api_Fact) : Option (Int × Bool) :=
  Option.bind (career_first l_ 11) fun z => some (z.1, z.2)
/- pension/career.Life -/
def career_Life_j (z : Int × Bool) (death_ : Int) : Option Span :=
  if decide (death_ < z.1) = true then
    some (⟨0, 0⟩ : Span)
  else
    some (⟨z.1, i64 (death_ + 1)⟩ : Span)
def career_Life (l_ : List api_Fact) : Option Span :=
  Option.bind (career_Birth l_) fun z => Option.bind (career_Death l_) fun z2 => if (!z2.2) = true then
    career_Life_j z 73048
  else
    career_Life_j z z2.1
/- pension/spans.Contains$1 -/
def spans_Contains_1 (s_ : Span) (c_ : Int) : Option Bool :=
  some (decide (s_.From ≤ c_) && decide (c_ < s_.To))
/- slices.IndexFunc(()pension/api.Span,pension/api.Span) -/
def slices_IndexFunc_of_api_Span_l (s_ : List Span) (f_ : Span → Option Bool) (rec_ : Int → Option Int) (x : Int) : Option Int :=
  if decide (x < (s_.length : Int)) = true then
    Option.bind (getI s_ x) fun y => Option.bind (f_ y) fun z => if z = true then
      some x
    else
      rec_ (i64 (x + 1))
  else
    some (-1)
def slices_IndexFunc_of_api_Span (s_ : List Span) (f_ : Span → Option Bool) : Option Int :=
  loopC FU (slices_IndexFunc_of_api_Span_l s_ f_) 0
/- slices.ContainsFunc(()pension/api.Span,pension/api.Span) -/
def slices_ContainsFunc_of_api_Span (s_ : List Span) (f_ : Span → Option Bool) : Option Bool :=
  Option.bind (slices_IndexFunc_of_api_Span s_ f_) fun z => some (decide (0 ≤ z))
/- pension/spans.Contains -/
def spans_Contains (l_ : List Span) (day_ : Int) : Option Bool :=
  if (decide (day_ < 0) || decide (73049 ≤ day_)) = true then
    some false
  else
    Option.bind (slices_ContainsFunc_of_api_Span l_ (fun x => spans_Contains_1 x day_)) fun z => some z
/- pension/career.Residence -/
def career_Residence_j (x2 : Int) (rec_ : (Bool × Int × api_Fact) → Option (Int × Bool)) (x3 : Bool) (v2 : api_Fact) : Option (Int × Bool) :=
  rec_ (x3, i64 (x2 + 1), v2)
def career_Residence_l (d_ : List api_Fact) (i_ : Int) (rec_ : (Bool × Int × api_Fact) → Option (Int × Bool)) : (Bool × Int × api_Fact) → Option (Int × Bool)
  | (x, x2, v) =>
  if decide (x2 < (d_.length : Int)) = true then
    Option.bind (getI d_ x2) fun y => Option.bind (career_current y) fun z4 => if ((((!z4) || (y.Kind != 5)) || decide (i_ < y.Span.From)) || decide (y.Span.To ≤ i_)) = true then
      career_Residence_j x2 rec_ x v
    else
      if (((!x) || decide (v.Span.From < y.Span.From)) || ((y.Span.From == v.Span.From) && decide (y.State < v.State))) = true then
        career_Residence_j x2 rec_ true y
      else
        career_Residence_j x2 rec_ x v
  else
    some (v.State, x)
def career_Residence (d_ : List api_Fact) (i_ : Int) : Option (Int × Bool) :=
  Option.bind (calendar_Valid i_) fun z => Option.bind (if (!z) = true then some true else Option.bind (career_Life d_) fun z2 => Option.bind (spans_Contains [z2] i_) fun z3 => some (!z3)) fun c => if c = true then
    some (0, false)
  else
    loopC FU (career_Residence_l d_ i_) (false, 0, (⟨0, 0, 0, false, 0, 0, 0, (⟨0, 0⟩ : Span), 0, 0, 0, 0, 0⟩ : api_Fact))
/- pension/family.Home -/
def family_Home (l_ : List api_Fact) (child_ : Int) (day_ : Int) : Option (Int × Bool) :=
  Option.bind (family_facts l_) fun z => Option.bind (family_parents z child_ day_) fun z2 => if ((z2.length : Int) == 0) = true then
    some (0, false)
  else
    Option.bind (getI z2 0) fun y => Option.bind (career_Of z y) fun z3 => Option.bind (career_Residence z3 day_) fun z4 => some (z4.1, z4.2)
/- pension/pensionref12.uses -/
def pensionref12_uses_l (c_ : Int) (z : ByteArray) (rec_ : Int → Option Bool) (i_ : Int) : Option Bool :=
  if decide (i_ < (z.size : Int)) = true then
    Option.bind (strI z i_) fun y => if (y == c_) = true then
      some true
    else
      rec_ (i64 (i_ + 1))
  else
    some false
def pensionref12_uses (kind_ : Int) (c_ : Int) : Option Bool :=
  Option.bind (pensionref12_Uses kind_) fun z => loopC FU (pensionref12_uses_l c_ z) 0
/- pension/pensionref12.field -/
def pensionref12_field (kind_ : Int) (c_ : Int) (n_ : Int) (least_ : Int) (most_ : Int) : Option Bool :=
  Option.bind (pensionref12_uses kind_ c_) fun z => if z = true then
    some (decide (least_ ≤ n_) && decide (n_ ≤ most_))
  else
    some (n_ == 0)
/- pension/pensionref12.Valid -/
def pensionref12_Valid (d_ : api_Fact) : Option Bool :=
  Option.bind (if (((((((decide (d_.Issuer < 0) || decide (6 ≤ d_.Issuer)) || decide (d_.Number < 1)) || decide (999 < d_.Number)) || decide (d_.Version < 1)) || decide (99 < d_.Version)) || decide (d_.Person < 1)) || decide (99 < d_.Person)) = true then some true else Option.bind (pensionref12_Uses d_.Kind) fun z => some (z.toList == str1.toList)) fun c => if c = true then
    some false
  else
    if ((decide (d_.Span.From < 0) || decide (d_.Span.To ≤ d_.Span.From)) || decide (73049 < d_.Span.To)) = true then
      some false
    else
      if (((((d_.Kind == 11) || (d_.Kind == 12)) && (i64 (d_.Span.To - d_.Span.From) != 1)) || ((d_.Kind == 4) && (d_.Seat == d_.State))) || (((d_.Kind == 10) || (d_.Kind == 14)) && (d_.Ref == d_.Person))) = true then
        some false
      else
        Option.bind (pensionref12_field d_.Kind 83 d_.State 0 5) fun z2 => Option.bind (if z2 = true then Option.bind (pensionref12_field d_.Kind 84 d_.Seat 0 5) fun z3 => some z3 else some false) fun c2 => Option.bind (if c2 = true then Option.bind (pensionref12_field d_.Kind 72 d_.Share 1 100) fun z4 => some z4 else some false) fun c3 => Option.bind (if c3 = true then Option.bind (pensionref12_field d_.Kind 67 d_.Currency 1 999) fun z5 => some z5 else some false) fun c4 => Option.bind (if c4 = true then Option.bind (pensionref12_field d_.Kind 65 d_.Amount 0 1000000000) fun z6 => some z6 else some false) fun c5 => Option.bind (if c5 = true then Option.bind (pensionref12_field d_.Kind 82 d_.Ref 1 99) fun z7 => some z7 else some false) fun c6 => some c6
/- pension/pensionref12.ID -/
def pensionref12_ID (a_ : api_Fact) (b_ : api_Fact) : Option Int :=
  if (a_.Issuer != b_.Issuer) = true then
    some (i64 (a_.Issuer - b_.Issuer))
  else
    some (i64 (a_.Number - b_.Number))
/- pension/pensionref12.big -/
def pensionref12_big_l (n_ : Int) (rec_ : ((List Int) × Int) → Option (List Int)) : ((List Int) × Int) → Option (List Int)
  | (b_2, i_) =>
  if decide (0 ≤ i_) = true then
    Option.bind (shrO .i64 n_ (u64 (i64 (8 * i_)))) fun q => Option.bind (appI 1 b_2 [(IntKind.u8.wrap) q]) fun l => rec_ (l, i64 (i_ - 1))
  else
    some b_2
def pensionref12_big (b_ : List Int) (n_ : Int) (size_ : Int) : Option (List Int) :=
  loopC FU (pensionref12_big_l n_) (b_, i64 (size_ - 1))
/- pension/pensionref12.Bytes -/
def pensionref12_Bytes_j2 (x3 : Int) (rec_ : ((List Int) × Int) → Option (List Int)) (x4 : List Int) : Option (List Int) :=
  rec_ (x4, i64 (x3 + 1))
def pensionref12_Bytes_l (d_ : api_Fact) (z8 : ByteArray) (rec_ : ((List Int) × Int) → Option (List Int)) : ((List Int) × Int) → Option (List Int)
  | (x2, x3) =>
  if decide (x3 < (z8.size : Int)) = true then
    Option.bind (strI z8 x3) fun y => if (y == 83) = true then
      Option.bind (pensionref12_big x2 d_.State 1) fun z9 => pensionref12_Bytes_j2 x3 rec_ z9
    else
      if (y == 80) = true then
        Option.bind (pensionref12_big x2 d_.Span.From 3) fun z10 => Option.bind (pensionref12_big z10 d_.Span.To 3) fun z11 => pensionref12_Bytes_j2 x3 rec_ z11
      else
        if (y == 84) = true then
          Option.bind (pensionref12_big x2 d_.Seat 1) fun z12 => pensionref12_Bytes_j2 x3 rec_ z12
        else
          if (y == 72) = true then
            Option.bind (pensionref12_big x2 d_.Share 1) fun z13 => pensionref12_Bytes_j2 x3 rec_ z13
          else
            if (y == 67) = true then
              Option.bind (pensionref12_big x2 d_.Currency 2) fun z14 => pensionref12_Bytes_j2 x3 rec_ z14
            else
              if (y == 65) = true then
                Option.bind (pensionref12_big x2 d_.Amount 4) fun z15 => pensionref12_Bytes_j2 x3 rec_ z15
              else
                if (y == 82) = true then
                  Option.bind (pensionref12_big x2 d_.Ref 1) fun z16 => pensionref12_Bytes_j2 x3 rec_ z16
                else
                  pensionref12_Bytes_j2 x3 rec_ x2
  else
    some x2
def pensionref12_Bytes_j (d_ : api_Fact) (x : Int) : Option (List Int) :=
  Option.bind (pensionref12_big [] d_.Issuer 1) fun z2 => Option.bind (pensionref12_big z2 d_.Number 2) fun z3 => Option.bind (pensionref12_big z3 d_.Version 1) fun z4 => Option.bind (pensionref12_big z4 x 1) fun z5 => Option.bind (pensionref12_big z5 d_.Person 1) fun z6 => Option.bind (pensionref12_big z6 d_.Kind 1) fun z7 => Option.bind (pensionref12_Uses d_.Kind) fun z8 => loopC FU (pensionref12_Bytes_l d_ z8) (z7, 0)
def pensionref12_Bytes (d_ : api_Fact) : Option (List Int) :=
  Option.bind (pensionref12_Valid d_) fun z => if (!z) = true then
    some []
  else
    if d_.Withdrawn = true then
      pensionref12_Bytes_j d_ 1
    else
      pensionref12_Bytes_j d_ 0
/- pension/pensionref12.Less -/
def pensionref12_Less (a_ : api_Fact) (b_ : api_Fact) : Option Bool :=
  Option.bind (pensionref12_Valid a_) fun z => Option.bind (if (!z) = true then some true else Option.bind (pensionref12_Valid b_) fun z2 => some (!z2)) fun c => if c = true then
    some false
  else
    Option.bind (pensionref12_ID a_ b_) fun z3 => if (z3 != 0) = true then
      some (decide (z3 < 0))
    else
      if (a_.Version != b_.Version) = true then
        some (decide (a_.Version < b_.Version))
      else
        Option.bind (pensionref12_Bytes a_) fun z4 => Option.bind (pensionref12_Bytes b_) fun z5 => some (Op.bytesLess (bytesA z4).toList (bytesA z5).toList)
/- pension/pensionref12.Merge -/
def pensionref12_Merge_j (x2 : Int) (rec_ : ((List api_Fact) × Int) → Option (List api_Fact)) (x3 : List api_Fact) : Option (List api_Fact) :=
  rec_ (x3, i64 (x2 + 1))
def pensionref12_Merge_l2 (x : List api_Fact) (x2 : Int) (rec_ : ((List api_Fact) × Int) → Option (List api_Fact)) (v : api_Fact) (rec_2 : Int → Option (List api_Fact)) (x4 : Int) : Option (List api_Fact) :=
  Option.bind (if decide (0 < x4) = true then Option.bind (getI x (i64 (x4 - 1))) fun y => Option.bind (pensionref12_ID y v) fun z2 => some (decide (0 < z2)) else some false) fun c => if c = true then
    rec_2 (i64 (x4 - 1))
  else
    Option.bind (if decide (0 < x4) = true then Option.bind (getI x (i64 (x4 - 1))) fun y2 => Option.bind (pensionref12_ID y2 v) fun z3 => some (z3 == 0) else some false) fun c2 => if c2 = true then
      Option.bind (getI x (i64 (x4 - 1))) fun y3 => Option.bind (pensionref12_Less y3 v) fun z4 => if z4 = true then
        Option.bind (getI x (i64 (x4 - 1))) fun y4 => pensionref12_Merge_j x2 rec_ (setI x (i64 (x4 - 1)) v)
      else
        pensionref12_Merge_j x2 rec_ x
    else
      Option.bind (sliceI x 0 x4) fun s => Option.bind (appI 112 [] s) fun l => Option.bind (appI 112 l [v]) fun l2 => Option.bind (sliceI x x4 (x.length : Int)) fun s2 => Option.bind (appI 112 l2 s2) fun l3 => pensionref12_Merge_j x2 rec_ l3
def pensionref12_Merge_j2 (x : List api_Fact) (x2 : Int) (rec_ : ((List api_Fact) × Int) → Option (List api_Fact)) (v : api_Fact) : Option (List api_Fact) :=
  Option.bind (pensionref12_Valid v) fun z => if (!z) = true then
    pensionref12_Merge_j x2 rec_ x
  else
    loopC FU (pensionref12_Merge_l2 x x2 rec_ v) (x.length : Int)
def pensionref12_Merge_l (d_ : List api_Fact) (i_ : List api_Fact) (rec_ : ((List api_Fact) × Int) → Option (List api_Fact)) : ((List api_Fact) × Int) → Option (List api_Fact)
  | (x, x2) =>
  if decide (x2 < i64 ((d_.length : Int) + (i_.length : Int))) = true then
    if decide (x2 < (d_.length : Int)) = true then
      Option.bind (getI d_ x2) fun y5 => pensionref12_Merge_j2 x x2 rec_ y5
    else
      Option.bind (getI i_ (i64 (x2 - (d_.length : Int)))) fun y6 => pensionref12_Merge_j2 x x2 rec_ y6
  else
    some x
def pensionref12_Merge (d_ : List api_Fact) (i_ : List api_Fact) : Option (List api_Fact) :=
  loopC FU (pensionref12_Merge_l d_ i_) ([], 0)
/- pension/pensionref12.Current -/
def pensionref12_Current_j (i_ : Int) (rec_ : ((List api_Fact) × Int) → Option (List api_Fact)) (out_2 : List api_Fact) : Option (List api_Fact) :=
  rec_ (out_2, i64 (i_ + 1))
def pensionref12_Current_l (l_ : List api_Fact) (rec_ : ((List api_Fact) × Int) → Option (List api_Fact)) : ((List api_Fact) × Int) → Option (List api_Fact)
  | (out_, i_) =>
  if decide (i_ < (l_.length : Int)) = true then
    Option.bind (getI l_ i_) fun y => Option.bind (pensionref12_Valid y) fun z => Option.bind (if z = true then Option.bind (getI l_ i_) fun y2 => some (!y2.Withdrawn) else some false) fun c => if c = true then
      Option.bind (getI l_ i_) fun y3 => Option.bind (appI 112 out_ [y3]) fun l => pensionref12_Current_j i_ rec_ l
    else
      pensionref12_Current_j i_ rec_ out_
  else
    some out_
def pensionref12_Current (l_ : List api_Fact) : Option (List api_Fact) :=
  loopC FU (pensionref12_Current_l l_) ([], 0)
/- pension/pensionref21.facts -/
def pensionref21_facts (l_ : List api_Fact) : Option (List api_Fact) :=
  Option.bind (pensionref12_Merge l_ []) fun z => Option.bind (pensionref12_Current z) fun z2 => some z2
/- pension/pensionref1.ValidDay -/
def pensionref1_ValidDay (day_ : Int) : Option Bool :=
  some (decide (0 ≤ day_) && decide (day_ ≤ 73048))
/- pension/pensionref12.Of -/
def pensionref12_Of_j (i_ : Int) (rec_ : ((List api_Fact) × Int) → Option (List api_Fact)) (out_2 : List api_Fact) : Option (List api_Fact) :=
  rec_ (out_2, i64 (i_ + 1))
def pensionref12_Of_l (l_ : List api_Fact) (person_ : Int) (rec_ : ((List api_Fact) × Int) → Option (List api_Fact)) : ((List api_Fact) × Int) → Option (List api_Fact)
  | (out_, i_) =>
  if decide (i_ < (l_.length : Int)) = true then
    Option.bind (getI l_ i_) fun y => if (y.Person == person_) = true then
      Option.bind (getI l_ i_) fun y2 => Option.bind (appI 112 out_ [y2]) fun l => pensionref12_Of_j i_ rec_ l
    else
      pensionref12_Of_j i_ rec_ out_
  else
    some out_
def pensionref12_Of (l_ : List api_Fact) (person_ : Int) : Option (List api_Fact) :=
  loopC FU (pensionref12_Of_l l_ person_) ([], 0)
/- pension/pensionref12.least -/
def pensionref12_least_j (i_ : Int) (rec_ : (Int × Bool × Int) → Option (Int × Bool)) (day_2 : Int) (ok_2 : Bool) : Option (Int × Bool) :=
  rec_ (day_2, ok_2, i64 (i_ + 1))
def pensionref12_least_l (kind_ : Int) (z : (List api_Fact)) (rec_ : (Int × Bool × Int) → Option (Int × Bool)) : (Int × Bool × Int) → Option (Int × Bool)
  | (day_, ok_, i_) =>
  if decide (i_ < (z.length : Int)) = true then
    Option.bind (getI z i_) fun y => Option.bind (if (y.Kind == kind_) = true then Option.bind (if (!ok_) = true then some true else Option.bind (getI z i_) fun y2 => some (decide (y2.Span.From < day_))) fun c => some c else some false) fun c2 => if c2 = true then
      Option.bind (getI z i_) fun y3 => pensionref12_least_j i_ rec_ y3.Span.From true
    else
      pensionref12_least_j i_ rec_ day_ ok_
  else
    some (day_, ok_)
def pensionref12_least (l_ : List api_Fact) (kind_ : Int) : Option (Int × Bool) :=
  Option.bind (pensionref12_Current l_) fun z => loopC FU (pensionref12_least_l kind_ z) (0, false, 0)
/- pension/pensionref12.Death -/
def pensionref12_Death (l_ : List api_Fact) : Option (Int × Bool) :=
  Option.bind (pensionref12_least l_ 12) fun z => some (z.1, z.2)
/- pension/pensionref21.Alive -/
def pensionref21_Alive (l_ : List api_Fact) (person_ : Int) (day_ : Int) : Option Bool :=
  Option.bind (pensionref12_Of l_ person_) fun z => Option.bind (pensionref12_Death z) fun z2 => some ((!z2.2) || decide (day_ ≤ z2.1))
/- pension/pensionref21.raises -/
def pensionref21_raises_l (l_ : List api_Fact) (person_ : Int) (child_ : Int) (day_ : Int) (rec_ : Int → Option Bool) (i_ : Int) : Option Bool :=
  if decide (i_ < (l_.length : Int)) = true then
    Option.bind (getI l_ i_) fun y => Option.bind (if (y.Person == person_) = true then Option.bind (getI l_ i_) fun y2 => some (y2.Kind == 10) else some false) fun c => Option.bind (if c = true then Option.bind (getI l_ i_) fun y3 => some (y3.Ref == child_) else some false) fun c2 => Option.bind (if c2 = true then Option.bind (getI l_ i_) fun y4 => some (decide (y4.Span.From ≤ day_)) else some false) fun c3 => Option.bind (if c3 = true then Option.bind (getI l_ i_) fun y5 => some (decide (day_ < y5.Span.To)) else some false) fun c4 => if c4 = true then
      some true
    else
      rec_ (i64 (i_ + 1))
  else
    some false
def pensionref21_raises (l_ : List api_Fact) (person_ : Int) (child_ : Int) (day_ : Int) : Option Bool :=
  loopC FU (pensionref21_raises_l l_ person_ child_ day_) 0
/- pension/pensionref21.Parents -/
def pensionref21_Parents_j (p_ : Int) (rec_ : ((List Int) × Int) → Option (List Int)) (out_2 : List Int) : Option (List Int) :=
  rec_ (out_2, i64 (p_ + 1))
def pensionref21_Parents_l (child_ : Int) (day_ : Int) (z : (List api_Fact)) (rec_ : ((List Int) × Int) → Option (List Int)) : ((List Int) × Int) → Option (List Int)
  | (out_, p_) =>
  if decide (p_ ≤ 99) = true then
    Option.bind (if (p_ != child_) = true then Option.bind (pensionref21_Alive z p_ day_) fun z4 => some z4 else some false) fun c3 => Option.bind (if c3 = true then Option.bind (pensionref21_raises z p_ child_ day_) fun z5 => some z5 else some false) fun c4 => if c4 = true then
      Option.bind (appI 8 out_ [p_]) fun l => pensionref21_Parents_j p_ rec_ l
    else
      pensionref21_Parents_j p_ rec_ out_
  else
    some out_
def pensionref21_Parents (list_ : List api_Fact) (child_ : Int) (day_ : Int) : Option (List Int) :=
  Option.bind (pensionref21_facts list_) fun z => Option.bind (if (decide (child_ < 1) || decide (99 < child_)) = true then some true else Option.bind (pensionref1_ValidDay day_) fun z2 => some (!z2)) fun c => Option.bind (if c = true then some true else Option.bind (pensionref21_Alive z child_ day_) fun z3 => some (!z3)) fun c2 => if c2 = true then
    some []
  else
    loopC FU (pensionref21_Parents_l child_ day_ z) ([], 1)
/- pension/pensionref12.Birth -/
def pensionref12_Birth (l_ : List api_Fact) : Option (Int × Bool) :=
  Option.bind (pensionref12_least l_ 11) fun z => some (z.1, z.2)
/- pension/pensionref12.Life -/
def pensionref12_Life_j (z : Int × Bool) (to_ : Int) : Option Span :=
  if decide (to_ < z.1) = true then
    some (⟨0, 0⟩ : Span)
  else
    some (⟨z.1, i64 (to_ + 1)⟩ : Span)
def pensionref12_Life (l_ : List api_Fact) : Option Span :=
  Option.bind (pensionref12_Birth l_) fun z => Option.bind (pensionref12_Death l_) fun z2 => if (!z2.2) = true then
    pensionref12_Life_j z 73048
  else
    pensionref12_Life_j z z2.1
/- pension/pensionref12.in -/
def pensionref12_in (s_ : Span) (day_ : Int) : Option Bool :=
  some (decide (s_.From ≤ day_) && decide (day_ < s_.To))
/- pension/pensionref12.Residence -/
def pensionref12_Residence_j (x2 : Int) (rec_ : (Int × Int) → Option (Int × Bool)) (x3 : Int) : Option (Int × Bool) :=
  rec_ (x3, i64 (x2 + 1))
def pensionref12_Residence_l (d_ : List api_Fact) (i_ : Int) (z : (List api_Fact)) (rec_ : (Int × Int) → Option (Int × Bool)) : (Int × Int) → Option (Int × Bool)
  | (x, x2) =>
  Option.bind (if decide (x2 < (z.length : Int)) = true then Option.bind (pensionref12_Life d_) fun z2 => Option.bind (pensionref12_in z2 i_) fun z3 => some z3 else some false) fun c => if c = true then
    Option.bind (getI z x2) fun y => Option.bind (if (y.Kind != 5) = true then some true else Option.bind (getI z x2) fun y2 => Option.bind (pensionref12_in y2.Span i_) fun z4 => some (!z4)) fun c2 => if c2 = true then
      pensionref12_Residence_j x2 rec_ x
    else
      Option.bind (if decide (x < 0) = true then some true else Option.bind (getI z x2) fun y3 => Option.bind (getI z x) fun y4 => some (decide (y4.Span.From < y3.Span.From))) fun c3 => Option.bind (if c3 = true then some true else Option.bind (getI z x2) fun y5 => Option.bind (getI z x) fun y6 => Option.bind (if (y5.Span.From == y6.Span.From) = true then Option.bind (getI z x2) fun y7 => Option.bind (getI z x) fun y8 => some (decide (y7.State < y8.State)) else some false) fun c4 => some c4) fun c5 => if c5 = true then
        pensionref12_Residence_j x2 rec_ x2
      else
        pensionref12_Residence_j x2 rec_ x
  else
    if decide (x < 0) = true then
      some (0, false)
    else
      Option.bind (getI z x) fun y9 => some (y9.State, true)
def pensionref12_Residence (d_ : List api_Fact) (i_ : Int) : Option (Int × Bool) :=
  Option.bind (pensionref12_Current d_) fun z => loopC FU (pensionref12_Residence_l d_ i_ z) ((-1), 0)
/- pension/pensionref21.Home -/
def pensionref21_Home (list_ : List api_Fact) (child_ : Int) (day_ : Int) : Option (Int × Bool) :=
  Option.bind (pensionref21_Parents list_ child_ day_) fun z => if ((z.length : Int) == 0) = true then
    some (0, false)
  else
    Option.bind (pensionref21_facts list_) fun z2 => Option.bind (getI z 0) fun y => Option.bind (pensionref12_Of z2 y) fun z3 => Option.bind (pensionref12_Residence z3 day_) fun z4 => some (z4.1, z4.2)
/- pension/family.valid$1 -/
def family_valid_1 (o_ : Right) (c_ : Right) : Option Bool :=
  some (o_.State == c_.State)
/- slices.IndexFunc(()pension/api.Right,pension/api.Right) -/
def slices_IndexFunc_of_api_Right_l (s_ : List Right) (f_ : Right → Option Bool) (rec_ : Int → Option Int) (x : Int) : Option Int :=
  if decide (x < (s_.length : Int)) = true then
    Option.bind (getI s_ x) fun y => Option.bind (f_ y) fun z => if z = true then
      none
    else
      rec_ (i64 (x + 1))
  else
    some (-1)
def slices_IndexFunc_of_api_Right (s_ : List Right) (f_ : Right → Option Bool) : Option Int :=
  loopC FU (slices_IndexFunc_of_api_Right_l s_ f_) 0
/- slices.ContainsFunc(()pension/api.Right,pension/api.Right) -/
def slices_ContainsFunc_of_api_Right (s_ : List Right) (f_ : Right → Option Bool) : Option Bool :=
  Option.bind (slices_IndexFunc_of_api_Right s_ f_) fun z => some (decide (0 ≤ z))
/- pension/family.valid -/
def family_valid_l (l_ : List Right) (rec_ : Int → Option Bool) (x : Int) : Option Bool :=
  if decide (x < (l_.length : Int)) = true then
    Option.bind (getI l_ x) fun y => if (((((((decide (y.State < 0) || decide (6 ≤ y.State)) || decide (y.Basis < 1)) || decide (3 < y.Basis)) || decide (y.Currency < 1)) || decide (999 < y.Currency)) || decide (y.Amount < 1)) || decide (1000000000000 < y.Amount)) = true then
      none
    else
      Option.bind (sliceI l_ 0 x) fun s => Option.bind (slices_ContainsFunc_of_api_Right s (fun x => family_valid_1 x y)) fun z => if z = true then
        none
      else
        rec_ (i64 (x + 1))
  else
    some true
def family_valid (l_ : List Right) : Option Bool :=
  if decide (6 < (l_.length : Int)) = true then
    none
  else
    loopC FU (family_valid_l l_) 0
/- pension/money.currency -/
def money_currency (x_ : Int) : Option Bool :=
  some (decide (1 ≤ x_) && decide (x_ ≤ 999))
/- pension/calendar.validMonth -/
def calendar_validMonth (month_ : Int) : Option Bool :=
  some (decide (0 ≤ month_) && decide (month_ ≤ 2399))
/- pension/calendar.leap -/
def calendar_leap (year_ : Int) : Option Bool :=
  some (((Int.tmod year_ 4 == 0) && (Int.tmod year_ 100 != 0)) || (Int.tmod year_ 400 == 0))
/- pension/calendar.monthLength -/
def calendar_monthLength (year_ : Int) (month_ : Int) : Option Int :=
  Option.bind (if (month_ == 2) = true then Option.bind (calendar_leap year_) fun z => some z else some false) fun c => if c = true then
    none
  else
    Option.bind (getI [31, 28, 31, 30, 31, 30, 31, 31, 30, 31, 30, 31] (i64 (month_ - 1))) fun y => some y
/- pension/calendar.MonthDays -/
def calendar_MonthDays (month_ : Int) : Option Int :=
  Option.bind (calendar_validMonth month_) fun z => if (!z) = true then
    none
  else
    Option.bind (calendar_monthLength (i64 (1900 + i64 (Int.tdiv month_ 12))) (i64 (Int.tmod month_ 12 + 1))) fun z2 => some z2
/- pension/money.month -/
def money_month (x_ : Int) : Option Bool :=
  Option.bind (calendar_MonthDays x_) fun z => some (decide (0 < z))
/- pension/rational.size -/
def rational_size (x_ : Int) : Option Int :=
  if decide (x_ < 0) = true then
    none
  else
    none
/- pension/rational.gcd -/
def rational_gcd_l (rec_ : (Int × Int) → Option Int) : (Int × Int) → Option Int
  | (a_2, b_2) =>
  if (b_2 != 0) = true then
    none
  else
    none
def rational_gcd (a_ : Int) (b_ : Int) : Option Int :=
  loopC FU rational_gcd_l (a_, b_)
/- pension/rational.Valid -/
def rational_Valid (f_ : Fraction) : Option Bool :=
  Option.bind (if (((decide (1 ≤ f_.Den) && decide (f_.Den ≤ 1000000000)) && decide ((-1000000000000000) ≤ f_.Num)) && decide (f_.Num ≤ 1000000000000000)) = true then Option.bind (rational_size f_.Num) fun z => Option.bind (rational_size f_.Den) fun z2 => Option.bind (rational_gcd z z2) fun z3 => some (z3 == 1) else some false) fun c => some c
/- pension/money.small -/
def money_small (x_ : Int) : Option Bool :=
  some (decide (1 ≤ x_) && decide (x_ ≤ 1000000))
/- pension/money.CheckRates -/
def money_CheckRates_l (d_ : List Rate) (rec_ : Int → Option Int) (x : Int) : Option Int :=
  if decide (x < (d_.length : Int)) = true then
    none
  else
    some 0
def money_CheckRates (d_ : List Rate) : Option Int :=
  if decide (40 < (d_.length : Int)) = true then
    none
  else
    loopC FU (money_CheckRates_l d_) 0
/- pension/family.Order$1 -/
def family_Order_1 (r_ : Right) (c_ : Int) : Option Int :=
  if (r_.State == c_) = true then
    some 0
  else
    some 1
/- pension/money.Value -/
def money_Value_j (x : Int) (rec_ : (Int × Int) → Option (Fraction × Bool)) (best_2 : Int) : Option (Fraction × Bool) :=
  rec_ (best_2, i64 (x + 1))
def money_Value_l (t_ : List Rate) (rec_ : (Int × Int) → Option (Fraction × Bool)) : (Int × Int) → Option (Fraction × Bool)
  | (best_, x) =>
  if decide (x < (t_.length : Int)) = true then
    none
  else
    if decide (best_ < 0) = true then
      some ((⟨0, 0⟩ : Fraction), false)
    else
      none
def money_Value (t_ : List Rate) (currency_ : Int) (month_ : Int) : Option (Fraction × Bool) :=
  loopC FU (money_Value_l t_) ((-1), 0)
/- pension/family.worth -/
def family_worth (r_ : Right) (t_ : List Rate) (month_ : Int) : Option family_value :=
  Option.bind (money_Value t_ r_.Currency month_) fun z => if (!z.2) = true then
    some (⟨0, 1⟩ : family_value)
  else
    none
/- math/bits.Mul64 -/
def bits_Mul64 (x_ : Int) (y_ : Int) : Option (Int × Int) :=
  some (u64 (u64 (u64 (shrK .u64 x_ 32 * (shrK .u64 y_ 32)) + shrK .u64 (u64 (u64 (shrK .u64 x_ 32 * (andK .u64 y_ 4294967295)) + shrK .u64 (u64 (andK .u64 x_ 4294967295 * (andK .u64 y_ 4294967295))) 32)) 32) + shrK .u64 (u64 (andK .u64 (u64 (u64 (shrK .u64 x_ 32 * (andK .u64 y_ 4294967295)) + shrK .u64 (u64 (andK .u64 x_ 4294967295 * (andK .u64 y_ 4294967295))) 32)) 4294967295 + u64 (andK .u64 x_ 4294967295 * (shrK .u64 y_ 32)))) 32), u64 (x_ * y_))
/- cmp.isNaN(uint64) -/
def cmp_isNaN_of_uint64 (x_ : Int) : Option Bool :=
  some (x_ != x_)
/- cmp.Compare(uint64) -/
def cmp_Compare_of_uint64 (x_ : Int) (y_ : Int) : Option Int :=
  Option.bind (cmp_isNaN_of_uint64 x_) fun z => Option.bind (cmp_isNaN_of_uint64 y_) fun z2 => if z = true then
    none
  else
    if z2 = true then
      none
    else
      if decide (x_ < y_) = true then
        none
      else
        if decide (y_ < x_) = true then
          none
        else
          some 0
/- pension/family.compare -/
def family_compare (a_ : family_value) (b_ : family_value) : Option Int :=
  Option.bind (bits_Mul64 a_.num b_.den) fun z => Option.bind (bits_Mul64 b_.num a_.den) fun z2 => Option.bind (cmp_Compare_of_uint64 z.1 z2.1) fun z3 => Option.bind (cmp_Compare_of_uint64 z.2 z2.2) fun z4 => Option.bind (cmp_Or_of_int [z3, z4]) fun z5 => some z5
/- pension/family.Order$2 -/
def family_Order_2 (i_ : Int) (k_ : Int) (c_ : List Right) (c_2 : Right → Option Int) (c_3 : List Rate) (c_4 : Int) : Option Int :=
  Option.bind (getI c_ i_) fun y => Option.bind (getI c_ k_) fun y2 => Option.bind (cmp_Compare_of_int y.Basis y2.Basis) fun z => Option.bind (c_2 y) fun z2 => Option.bind (c_2 y2) fun z3 => Option.bind (cmp_Compare_of_int z2 z3) fun z4 => Option.bind (family_worth y2 c_3 c_4) fun z5 => Option.bind (family_worth y c_3 c_4) fun z6 => Option.bind (family_compare z5 z6) fun z7 => Option.bind (cmp_Compare_of_int y.State y2.State) fun z8 => Option.bind (cmp_Or_of_int [z, z4, z7, z8]) fun z9 => some z9
/- math/bits.Len64 -/
def bits_Len64_j3 (x_4 : Int) (n_3 : Int) : Option Int :=
  Option.bind (strI str16 ((IntKind.u8.wrap) x_4)) fun y => some (i64 (n_3 + i64 y))
def bits_Len64_j2 (x_3 : Int) (n_2 : Int) : Option Int :=
  if decide (256 ≤ x_3) = true then
    none
  else
    bits_Len64_j3 x_3 n_2
def bits_Len64_j (x_2 : Int) (n_ : Int) : Option Int :=
  if decide (65536 ≤ x_2) = true then
    none
  else
    bits_Len64_j2 x_2 n_
def bits_Len64 (x_ : Int) : Option Int :=
  if decide (4294967296 ≤ x_) = true then
    none
  else
    bits_Len64_j x_ 0
/- math/bits.Len -/
def bits_Len (x_ : Int) : Option Int :=
  Option.bind (bits_Len64 x_) fun z => some z
/- slices.insertionSortCmpFunc(int) -/
def slices_insertionSortCmpFunc_of_int_l2 (a_ : Int) (cmp_ : (Int × Int) → Option Int) (i_ : Int) (rec_ : (Int × (List Int)) → Option (List Int)) (rec_2 : (Int × (List Int)) → Option (List Int)) : (Int × (List Int)) → Option (List Int)
  | (j_, data_l2) =>
  Option.bind (if decide (a_ < j_) = true then Option.bind (getI data_l2 j_) fun y => Option.bind (getI data_l2 (i64 (j_ - 1))) fun y2 => Option.bind (cmp_ (y, y2)) fun z => some (decide (z < 0)) else some false) fun c => if c = true then
    Option.bind (getI data_l2 (i64 (j_ - 1))) fun y3 => Option.bind (getI data_l2 j_) fun y4 => Option.bind (getI data_l2 j_) fun y5 => Option.bind (getI data_l2 (i64 (j_ - 1))) fun y6 => rec_2 (i64 (j_ - 1), setI (setI data_l2 j_ y3) (i64 (j_ - 1)) y4)
  else
    rec_ (i64 (i_ + 1), data_l2)
def slices_insertionSortCmpFunc_of_int_l (a_ : Int) (b_ : Int) (cmp_ : (Int × Int) → Option Int) (rec_ : (Int × (List Int)) → Option (List Int)) : (Int × (List Int)) → Option (List Int)
  | (i_, data_l) =>
  if decide (i_ < b_) = true then
    loopC FU (slices_insertionSortCmpFunc_of_int_l2 a_ cmp_ i_ rec_) (i_, data_l)
  else
    some data_l
def slices_insertionSortCmpFunc_of_int (data_ : List Int) (a_ : Int) (b_ : Int) (cmp_ : (Int × Int) → Option Int) : Option (List Int) :=
  loopC FU (slices_insertionSortCmpFunc_of_int_l a_ b_ cmp_) (i64 (a_ + 1), data_)
/- slices.pdqsortCmpFunc(int) -/
def slices_pdqsortCmpFunc_of_int_j (x5 : Int) : Option (List Int) :=
  none
def slices_pdqsortCmpFunc_of_int_l (p_3 : (Int × Int) → Option Int) (rec_ : (Int × Int × Int × Bool × Bool × (List Int)) → Option (List Int)) : (Int × Int × Int × Bool × Bool × (List Int)) → Option (List Int)
  | (i_2, x, x2, x3, x4, d_l) =>
  if decide (i64 (x - i_2) ≤ 12) = true then
    Option.bind (slices_insertionSortCmpFunc_of_int d_l i_2 x p_3) fun z => some z
  else
    none
def slices_pdqsortCmpFunc_of_int (d_ : List Int) (i_ : Int) (p_ : Int) (p_2 : Int) (p_3 : (Int × Int) → Option Int) : Option (List Int) :=
  loopC FU (slices_pdqsortCmpFunc_of_int_l p_3) (i_, p_, p_2, true, true, d_)
/- slices.SortFunc(()int,int) -/
def slices_SortFunc_of__int_int (x_ : List Int) (cmp_ : (Int × Int) → Option Int) : Option (List Int) :=
  Option.bind (bits_Len (u64 (x_.length : Int))) fun z => Option.bind (slices_pdqsortCmpFunc_of_int x_ 0 (x_.length : Int) z cmp_) fun z2 => some z2
/- pension/family.Order -/
def family_Order_l (l_ : List Right) (home_ : Int) (t_ : List Rate) (month_ : Int) (rec_ : ((List Int) × Int) → Option ((List Int) × Int)) : ((List Int) × Int) → Option ((List Int) × Int)
  | (out_, x) =>
  if decide (x < (l_.length : Int)) = true then
    Option.bind (appI 8 out_ [x]) fun l => rec_ (l, i64 (x + 1))
  else
    Option.bind (slices_SortFunc_of__int_int out_ (fun x => family_Order_2 x.1 x.2 l_ (fun x => family_Order_1 x home_) t_ month_)) fun z3 => some (z3, 0)
def family_Order (l_ : List Right) (home_ : Int) (t_ : List Rate) (month_ : Int) : Option ((List Int) × Int) :=
  Option.bind (family_valid l_) fun z => Option.bind (if (((!z) || decide (month_ < 0)) || decide (2399 < month_)) = true then some true else Option.bind (money_CheckRates t_) fun z2 => some (z2 != 0)) fun c => if c = true then
    none
  else
    loopC FU (family_Order_l l_ home_ t_ month_) ([], 0)
/- pension/money.amount -/
def money_amount (x_ : Int) : Option Bool :=
  some (decide ((-1000000000000) ≤ x_) && decide (x_ ≤ 1000000000000))
/- pension/money.ValidRounding -/
def money_ValidRounding_j (r_ : Rounding) (x : Bool) : Option Bool :=
  if x = true then
    some (decide (1 ≤ r_.Unit) && decide (r_.Unit ≤ 100000))
  else
    none
def money_ValidRounding (r_ : Rounding) : Option Bool :=
  if (r_.Mode == 1) = true then
    money_ValidRounding_j r_ (r_.Mode == 1)
  else
    none
/- pension/money.size -/
def money_size (x_ : Int) : Option Int :=
  if decide (x_ < 0) = true then
    none
  else
    some (u64 x_)
/- math/bits.LeadingZeros64 -/
def bits_LeadingZeros64 (x_ : Int) : Option Int :=
  Option.bind (bits_Len64 x_) fun z => some (i64 (64 - z))
/- math/bits.Div64 -/
def bits_Div64_j4 (z : Int) (q3 : Int) (q4 : Int) (q5 : Int) (q6 : Int) (x : Int) (x2 : Int) : Option (Int × Int) :=
  Option.bind (shrO .u64 (u64 (u64 (u64 (u64 (u64 (u64 (orK .u64 q4 q5 * 4294967296) + shrK .u64 q6 32) - (u64 (x * q3))) * 4294967296) + andK .u64 q6 4294967295) - (u64 (x2 * q3)))) (u64 z)) fun q9 => some (u64 (u64 (x * 4294967296) + x2), q9)
def bits_Div64_l (q3 : Int) (q6 : Int) (rec_ : (Int × Int) → Option (Int × Int)) : (Int × Int) → Option (Int × Int)
  | (x3, x4) =>
  if (decide (4294967296 ≤ x4) || decide (u64 (u64 (4294967296 * x3) + andK .u64 q6 4294967295) < u64 (x4 * (andK .u64 q3 4294967295)))) = true then
    none
  else
    none
def bits_Div64_j3 (q3 : Int) (q4 : Int) (q5 : Int) (q6 : Int) (x : Int) : Option (Int × Int) :=
  Option.bind (quoU (u64 (u64 (u64 (orK .u64 q4 q5 * 4294967296) + shrK .u64 q6 32) - (u64 (x * q3)))) (shrK .u64 q3 32)) fun q8 => loopC FU (bits_Div64_l q3 q6) (u64 (u64 (u64 (u64 (orK .u64 q4 q5 * 4294967296) + shrK .u64 q6 32) - (u64 (x * q3))) - (u64 (q8 * (shrK .u64 q3 32)))), q8)
def bits_Div64_l2 (q3 : Int) (q6 : Int) (rec_2 : (Int × Int) → Option (Int × Int)) : (Int × Int) → Option (Int × Int)
  | (x5, x6) =>
  if (decide (4294967296 ≤ x5) || decide (u64 (u64 (4294967296 * x6) + shrK .u64 q6 32) < u64 (x5 * (andK .u64 q3 4294967295)))) = true then
    none
  else
    none
def bits_Div64_j2 (d_ : Int) (i_ : Int) (p_ : Int) : Option (Int × Int) :=
  if (d_ == 0) = true then
    Option.bind (quoU i_ p_) fun q => Option.bind (remI i_ p_) fun q2 => some (q, q2)
  else
    none
def bits_Div64_j (d_ : Int) (i_ : Int) (p_ : Int) : Option (Int × Int) :=
  if decide (p_ ≤ d_) = true then
    none
  else
    bits_Div64_j2 d_ i_ p_
def bits_Div64 (d_ : Int) (i_ : Int) (p_ : Int) : Option (Int × Int) :=
  if (p_ == 0) = true then
    none
  else
    bits_Div64_j d_ i_ p_
/- pension/money.divide -/
def money_divide_j3 (p_3 : Rounding) (x4 : Int) : Option (Int × Int) :=
  Option.bind (quoI 1000000000000 p_3.Unit) fun q => Option.bind (if decide (q < x4) = true then some true else Option.bind (quoI (-1000000000000) p_3.Unit) fun q2 => some (decide (x4 < q2))) fun c => if c = true then
    none
  else
    some (i64 (x4 * p_3.Unit), 0)
def money_divide_j2 (p_3 : Rounding) (x2 : Int) (x3 : Bool) : Option (Int × Int) :=
  if x3 = true then
    none
  else
    money_divide_j3 p_3 x2
def money_divide_j (p_3 : Rounding) (x : Int) (x2 : Int) : Option (Int × Int) :=
  if (p_3.Mode == 2) = true then
    none
  else
    if (p_3.Mode == 3) = true then
      none
    else
      if (p_3.Mode == 4) = true then
        none
      else
        money_divide_j2 p_3 x2 false
def money_divide (d_ : Bool) (i_ : Int) (p_ : Int) (p_2 : Int) (p_3 : Rounding) : Option (Int × Int) :=
  if decide (u64 (p_2 * (u64 p_3.Unit)) ≤ i_) = true then
    none
  else
    Option.bind (bits_Div64 i_ p_ (u64 (p_2 * (u64 p_3.Unit)))) fun z => if decide (2000000000000 < z.1) = true then
      none
    else
      if d_ = true then
        none
      else
        money_divide_j p_3 z.2 (i64 z.1)
/- pension/money.Convert -/
def money_Convert (d_ : Int) (i_ : Int) (p_ : Int) (p_2 : Int) (p_3 : List Rate) (p_4 : Rounding) : Option (Int × Int) :=
  Option.bind (money_amount d_) fun z => Option.bind (if (!z) = true then some true else Option.bind (money_currency i_) fun z2 => some (!z2)) fun c => Option.bind (if c = true then some true else Option.bind (money_currency p_) fun z3 => some (!z3)) fun c2 => Option.bind (if c2 = true then some true else Option.bind (money_month p_2) fun z4 => some (!z4)) fun c3 => Option.bind (if c3 = true then some true else Option.bind (money_ValidRounding p_4) fun z5 => some (!z5)) fun c4 => Option.bind (if c4 = true then some true else Option.bind (money_CheckRates p_3) fun z6 => some (z6 != 0)) fun c5 => if c5 = true then
    none
  else
    if (i_ == p_) = true then
      Option.bind (money_size d_) fun z7 => Option.bind (money_divide (decide (d_ < 0)) 0 z7 1 p_4) fun z8 => some (z8.1, z8.2)
    else
      none
/- pension/family.Payments -/
def family_Payments_j (x4 : Int) (rec_2 : (Int × Int) → Option ((List FamilyPay) × Int)) (x5 : Int) : Option ((List FamilyPay) × Int) :=
  rec_2 (x5, i64 (x4 + 1))
def family_Payments_l2 (d_ : List Right) (p_ : List Rate) (p_2 : Int) (x : List FamilyPay) (x2 : Int) (rec_ : ((List FamilyPay) × Int) → Option ((List FamilyPay) × Int)) (y2 : Right) (s : List Int) (rec_2 : (Int × Int) → Option ((List FamilyPay) × Int)) : (Int × Int) → Option ((List FamilyPay) × Int)
  | (x3, x4) =>
  if decide (x4 < (s.length : Int)) = true then
    Option.bind (getI s x4) fun y3 => Option.bind (getI d_ y3) fun y4 => Option.bind (getI d_ y3) fun y5 => Option.bind (money_Convert y4.Amount y5.Currency y2.Currency p_2 p_ (⟨1, 1⟩ : Rounding)) fun z2 => if (z2.2 == 0) = true then
      family_Payments_j x4 rec_2 (max x3 z2.1)
    else
      none
  else
    Option.bind (appI 32 x [(⟨y2.State, y2.Currency, max 0 (i64 (y2.Amount - x3)), (x2 == 0)⟩ : FamilyPay)]) fun l => rec_ (l, i64 (x2 + 1))
def family_Payments_l (d_ : List Right) (p_ : List Rate) (p_2 : Int) (z : (List Int) × Int) (rec_ : ((List FamilyPay) × Int) → Option ((List FamilyPay) × Int)) : ((List FamilyPay) × Int) → Option ((List FamilyPay) × Int)
  | (x, x2) =>
  if decide (x2 < (z.1.length : Int)) = true then
    Option.bind (getI z.1 x2) fun y => Option.bind (getI d_ y) fun y2 => Option.bind (sliceI z.1 0 x2) fun s => loopC FU (family_Payments_l2 d_ p_ p_2 x x2 rec_ y2 s) (0, 0)
  else
    some (x, 0)
def family_Payments (d_ : List Right) (i_ : Int) (p_ : List Rate) (p_2 : Int) : Option ((List FamilyPay) × Int) :=
  Option.bind (family_Order d_ i_ p_ p_2) fun z => if (z.2 != 0) = true then
    none
  else
    loopC FU (family_Payments_l d_ p_ p_2 z) ([], 0)
/- pension/pensionplain.Ints -/
def pensionplain_Ints_l (a_ : List Int) (b_ : List Int) (rec_ : Int → Option Bool) (i_ : Int) : Option Bool :=
  if decide (i_ < (a_.length : Int)) = true then
    Option.bind (getI a_ i_) fun y => Option.bind (getI b_ i_) fun y2 => if (y != y2) = true then
      some false
    else
      rec_ (i64 (i_ + 1))
  else
    some true
def pensionplain_Ints (a_ : List Int) (b_ : List Int) : Option Bool :=
  if ((a_.length : Int) != (b_.length : Int)) = true then
    some false
  else
    loopC FU (pensionplain_Ints_l a_ b_) 0
/- pension/pensionlaw24.awake -/
def pensionlaw24_awake : Option Bool :=
  Option.bind (family_Order [(⟨1, 3, 1, 130⟩ : Right), (⟨2, 1, 1, 100⟩ : Right)] 1 [] 5) fun z => Option.bind (family_Payments [(⟨1, 3, 1, 130⟩ : Right), (⟨2, 1, 1, 100⟩ : Right)] 1 [] 5) fun z2 => Option.bind (if ((z.2 == 0) && (z2.2 == 0)) = true then Option.bind (pensionplain_Ints z.1 [1, 0]) fun z3 => some z3 else some false) fun c => Option.bind (if (c && ((z2.1.length : Int) == 2)) = true then Option.bind (getI z2.1 0) fun y => some (FamilyPay.eqb y (⟨2, 1, 100, true⟩ : FamilyPay)) else some false) fun c2 => Option.bind (if c2 = true then Option.bind (getI z2.1 1) fun y2 => some (y2.Amount == 30) else some false) fun c3 => Option.bind (if c3 = true then Option.bind (getI z2.1 1) fun y3 => some (!y3.Primary) else some false) fun c4 => some c4
/- pension/family.Parents -/
def family_Parents (l_ : List api_Fact) (child_ : Int) (day_ : Int) : Option (List Int) :=
  Option.bind (family_facts l_) fun z => Option.bind (family_parents z child_ day_) fun z2 => some z2
/- pension/pensionlaw24.FamilyParentsAgree -/
def pensionlaw24_FamilyParentsAgree (d_ : List Int) (i_ : List pensionhand_Fact) (p_ : Int) (p_2 : Int) : Option Bool :=
  Option.bind (pensionhand_Lives d_) fun z => Option.bind (pensionhand_Facts i_) fun z2 => Option.bind (appI 112 z z2) fun l => Option.bind (pensionplain_Mod p_ 5) fun z3 => Option.bind (pensionplain_Mod p_2 6000) fun z4 => Option.bind (family_Home l (i64 (1 + z3)) (i64 (33000 + z4))) fun z5 => Option.bind (pensionref21_Home l (i64 (1 + z3)) (i64 (33000 + z4))) fun z6 => Option.bind (pensionlaw24_awake) fun z7 => Option.bind (if z7 = true then Option.bind (family_Parents l (i64 (1 + z3)) (i64 (33000 + z4))) fun z8 => Option.bind (pensionref21_Parents l (i64 (1 + z3)) (i64 (33000 + z4))) fun z9 => Option.bind (pensionplain_Ints z8 z9) fun z10 => some z10 else some false) fun c => Option.bind (if c = true then Option.bind (family_Parents l p_ p_2) fun z11 => Option.bind (pensionref21_Parents l p_ p_2) fun z12 => Option.bind (pensionplain_Ints z11 z12) fun z13 => some z13 else some false) fun c2 => some ((c2 && (z5.1 == z6.1)) && (z5.2 == z6.2))
end Go.PL
