/- The Go functions as Lean functions (printed by a program). -/
import Derived.Test.YtndkbfbjjnhgoaaBase
set_option linter.unusedVariables false
namespace Go.PL
open Go

structure pensionlaw25_Raw where
  Gap : Int
  Length : Int
  State : Int
instance : Inhabited pensionlaw25_Raw := ⟨⟨0, 0, 0⟩⟩
def pensionlaw25_Raw.cells (x : pensionlaw25_Raw) : List Go.Value := [.int .i64 x.Gap, .int .i64 x.Length, .int .i64 x.State]
def pensionlaw25_Raw.val (x : pensionlaw25_Raw) : Go.Value := .agg #[.int .i64 x.Gap, .int .i64 x.Length, .int .i64 x.State]
def pensionlaw25_Raw.R : TyR pensionlaw25_Raw := TyR.flat 3 pensionlaw25_Raw.cells (fun _ => rfl)
def pensionlaw25_Raw.eqb (x y : pensionlaw25_Raw) : Bool := (x.Gap == y.Gap) && ((x.Length == y.Length) && ((x.State == y.State) && true))
structure Span where
  From : Int
  To : Int
instance : Inhabited Span := ⟨⟨0, 0⟩⟩
def Span.cells (x : Span) : List Go.Value := [.int .i64 x.From, .int .i64 x.To]
def Span.val (x : Span) : Go.Value := .agg #[.int .i64 x.From, .int .i64 x.To]
def Span.R : TyR Span := TyR.flat 2 Span.cells (fun _ => rfl)
def Span.eqb (x y : Span) : Bool := (x.From == y.From) && ((x.To == y.To) && true)
structure api_Fact where
  Issuer : Int
  Number : Int
  Version : Int
  Withdrawn : Bool
  Person : Int
  Kind : Int
  State : Int
  Span : Span
  Seat : Int
  Share : Int
  Currency : Int
  Amount : Int
  Ref : Int
instance : Inhabited api_Fact := ⟨⟨0, 0, 0, false, 0, 0, 0, ⟨0, 0⟩, 0, 0, 0, 0, 0⟩⟩
def api_Fact.cells (x : api_Fact) : List Go.Value := [.int .i64 x.Issuer, .int .i64 x.Number, .int .i64 x.Version, .bool x.Withdrawn, .int .i64 x.Person, .int .i64 x.Kind, .int .i64 x.State, .int .i64 x.Span.From, .int .i64 x.Span.To, .int .i64 x.Seat, .int .i64 x.Share, .int .i64 x.Currency, .int .i64 x.Amount, .int .i64 x.Ref]
def api_Fact.val (x : api_Fact) : Go.Value := .agg #[.int .i64 x.Issuer, .int .i64 x.Number, .int .i64 x.Version, .bool x.Withdrawn, .int .i64 x.Person, .int .i64 x.Kind, .int .i64 x.State, .int .i64 x.Span.From, .int .i64 x.Span.To, .int .i64 x.Seat, .int .i64 x.Share, .int .i64 x.Currency, .int .i64 x.Amount, .int .i64 x.Ref]
def api_Fact.R : TyR api_Fact := TyR.flat 14 api_Fact.cells (fun _ => rfl)
def api_Fact.eqb (x y : api_Fact) : Bool := (x.Issuer == y.Issuer) && ((x.Number == y.Number) && ((x.Version == y.Version) && ((x.Withdrawn == y.Withdrawn) && ((x.Person == y.Person) && ((x.Kind == y.Kind) && ((x.State == y.State) && (Span.eqb x.Span y.Span && ((x.Seat == y.Seat) && ((x.Share == y.Share) && ((x.Currency == y.Currency) && ((x.Amount == y.Amount) && ((x.Ref == y.Ref) && true))))))))))))
structure pensionhand_Fact where
  Issuer : Int
  Number : Int
  Version : Int
  Withdrawn : Bool
  Person : Int
  Kind : Int
  State : Int
  Seat : Int
  From : Int
  Length : Int
  Share : Int
  Amount : Int
  Ref : Int
instance : Inhabited pensionhand_Fact := ⟨⟨0, 0, 0, false, 0, 0, 0, 0, 0, 0, 0, 0, 0⟩⟩
def pensionhand_Fact.cells (x : pensionhand_Fact) : List Go.Value := [.int .i64 x.Issuer, .int .i64 x.Number, .int .i64 x.Version, .bool x.Withdrawn, .int .i64 x.Person, .int .i64 x.Kind, .int .i64 x.State, .int .i64 x.Seat, .int .i64 x.From, .int .i64 x.Length, .int .i64 x.Share, .int .i64 x.Amount, .int .i64 x.Ref]
def pensionhand_Fact.val (x : pensionhand_Fact) : Go.Value := .agg #[.int .i64 x.Issuer, .int .i64 x.Number, .int .i64 x.Version, .bool x.Withdrawn, .int .i64 x.Person, .int .i64 x.Kind, .int .i64 x.State, .int .i64 x.Seat, .int .i64 x.From, .int .i64 x.Length, .int .i64 x.Share, .int .i64 x.Amount, .int .i64 x.Ref]
def pensionhand_Fact.R : TyR pensionhand_Fact := TyR.flat 13 pensionhand_Fact.cells (fun _ => rfl)
def pensionhand_Fact.eqb (x y : pensionhand_Fact) : Bool := (x.Issuer == y.Issuer) && ((x.Number == y.Number) && ((x.Version == y.Version) && ((x.Withdrawn == y.Withdrawn) && ((x.Person == y.Person) && ((x.Kind == y.Kind) && ((x.State == y.State) && ((x.Seat == y.Seat) && ((x.From == y.From) && ((x.Length == y.Length) && ((x.Share == y.Share) && ((x.Amount == y.Amount) && ((x.Ref == y.Ref) && true))))))))))))
structure sickness_window where
  days : List Int
instance : Inhabited sickness_window := ⟨⟨[]⟩⟩
def str1 : ByteArray := ⟨#[]⟩
def str2 : ByteArray := ⟨#[83, 80, 84, 72, 67, 65]⟩
def str3 : ByteArray := ⟨#[83, 80, 72, 67, 65]⟩
def str4 : ByteArray := ⟨#[83, 80, 84]⟩
def str5 : ByteArray := ⟨#[83, 80]⟩
def str6 : ByteArray := ⟨#[83, 80, 67, 65]⟩
def str7 : ByteArray := ⟨#[83, 80, 82]⟩
def str8 : ByteArray := ⟨#[80]⟩
def str9 : ByteArray := ⟨#[80, 82]⟩
def str10 : ByteArray := ⟨#[83]⟩
def str11 : ByteArray := ⟨#[84]⟩
def str12 : ByteArray := ⟨#[72]⟩
def str13 : ByteArray := ⟨#[67]⟩
def str14 : ByteArray := ⟨#[65]⟩
def str15 : ByteArray := ⟨#[82]⟩
def str16 : ByteArray := ⟨#[0, 1, 2, 2, 3, 3, 3, 3, 4, 4, 4, 4, 4, 4, 4, 4, 5, 5, 5, 5, 5, 5, 5, 5, 5, 5, 5, 5, 5, 5, 5, 5, 6, 6, 6, 6, 6, 6, 6, 6, 6, 6, 6, 6, 6, 6, 6, 6, 6, 6, 6, 6, 6, 6, 6, 6, 6, 6, 6, 6, 6, 6, 6, 6, 7, 7, 7, 7, 7, 7, 7, 7, 7, 7, 7, 7, 7, 7, 7, 7, 7, 7, 7, 7, 7, 7, 7, 7, 7, 7, 7, 7, 7, 7, 7, 7, 7, 7, 7, 7, 7, 7, 7, 7, 7, 7, 7, 7, 7, 7, 7, 7, 7, 7, 7, 7, 7, 7, 7, 7, 7, 7, 7, 7, 7, 7, 7, 7, 8, 8, 8, 8, 8, 8, 8, 8, 8, 8, 8, 8, 8, 8, 8, 8, 8, 8, 8, 8, 8, 8, 8, 8, 8, 8, 8, 8, 8, 8, 8, 8, 8, 8, 8, 8, 8, 8, 8, 8, 8, 8, 8, 8, 8, 8, 8, 8, 8, 8, 8, 8, 8, 8, 8, 8, 8, 8, 8, 8, 8, 8, 8, 8, 8, 8, 8, 8, 8, 8, 8, 8, 8, 8, 8, 8, 8, 8, 8, 8, 8, 8, 8, 8, 8, 8, 8, 8, 8, 8, 8, 8, 8, 8, 8, 8, 8, 8, 8, 8, 8, 8, 8, 8, 8, 8, 8, 8, 8, 8, 8, 8, 8, 8, 8, 8, 8, 8, 8, 8, 8, 8, 8, 8, 8, 8, 8, 8]⟩

/- pension/pensionplain.Mod -/
def pensionplain_Mod_j (r_ : Int) : Option Int :=
  some r_
def pensionplain_Mod (n_ : Int) (m_ : Int) : Option Int :=
  Option.bind (remI n_ m_) fun q => if decide (q < 0) = true then
    pensionplain_Mod_j (i64 (q + m_))
  else
    pensionplain_Mod_j q
/- pension/pensionlaw25.List -/
def pensionlaw25_List_j2 (d_ : List pensionlaw25_Raw) (x2 : List api_Fact) (x3 : Int) (rec_ : (Int × (List api_Fact) × Int) → Option (List api_Fact)) (x4 : Int) (x5 : Int) : Option (List api_Fact) :=
  Option.bind (getI d_ x3) fun y3 => Option.bind (pensionplain_Mod y3.State 3) fun z4 => Option.bind (getI d_ x3) fun y4 => Option.bind (pensionplain_Mod y4.State 3) fun z5 => Option.bind (appI 112 x2 [(⟨z4, i64 (1 + x3), 1, false, 1, 8, z5, (⟨x4, i64 (x4 + x5)⟩ : Span), 0, 0, 0, 0, 0⟩ : api_Fact)]) fun l => rec_ (i64 (x4 + x5), l, i64 (x3 + 1))
def pensionlaw25_List_j (d_ : List pensionlaw25_Raw) (x2 : List api_Fact) (x3 : Int) (rec_ : (Int × (List api_Fact) × Int) → Option (List api_Fact)) (x4 : Int) : Option (List api_Fact) :=
  Option.bind (getI d_ x3) fun y2 => Option.bind (pensionplain_Mod y2.Length 9) fun z3 => Option.bind (getI d_ x3) fun y5 => Option.bind (pensionplain_Mod y5.Length 3) fun z6 => if (z6 == 2) = true then
    Option.bind (getI d_ x3) fun y6 => Option.bind (pensionplain_Mod (i64 (Int.tdiv y6.Length 3)) 400) fun z7 => pensionlaw25_List_j2 d_ x2 x3 rec_ x4 (i64 (1 + z7))
  else
    pensionlaw25_List_j2 d_ x2 x3 rec_ x4 (i64 (1 + z3))
def pensionlaw25_List_l (d_ : List pensionlaw25_Raw) (rec_ : (Int × (List api_Fact) × Int) → Option (List api_Fact)) : (Int × (List api_Fact) × Int) → Option (List api_Fact)
  | (x, x2, x3) =>
  if (decide (x3 < (d_.length : Int)) && decide (x3 < 10)) = true then
    Option.bind (getI d_ x3) fun y => Option.bind (pensionplain_Mod y.Gap 130) fun z2 => Option.bind (getI d_ x3) fun y7 => Option.bind (pensionplain_Mod y7.Gap 7) fun z8 => if (z8 == 6) = true then
      pensionlaw25_List_j d_ x2 x3 rec_ (i64 (i64 (x + z2) + 50))
    else
      pensionlaw25_List_j d_ x2 x3 rec_ (i64 (x + z2))
  else
    some x2
def pensionlaw25_List (d_ : List pensionlaw25_Raw) (i_ : Int) : Option (List api_Fact) :=
  Option.bind (pensionplain_Mod i_ 20000) fun z => loopC FU (pensionlaw25_List_l d_) (i64 (20000 + z), [], 0)
/- pension/pensionhand.length -/
def pensionhand_length (n_ : Int) : Option Int :=
  Option.bind (pensionplain_Mod n_ 4) fun z => if (z == 0) = true then
    Option.bind (pensionplain_Mod (i64 (Int.tdiv n_ 4)) 9000) fun z2 => some (i64 (1 + z2))
  else
    if (z == 1) = true then
      Option.bind (pensionplain_Mod (i64 (Int.tdiv n_ 4)) 1200) fun z3 => some (i64 (1 + z3))
    else
      if (z == 2) = true then
        Option.bind (pensionplain_Mod (i64 (Int.tdiv n_ 4)) 120) fun z4 => some (i64 (1 + z4))
      else
        Option.bind (pensionplain_Mod (i64 (Int.tdiv n_ 4)) 12) fun z5 => some (i64 (1 + z5))
/- pension/pensionref12.Uses -/
def pensionref12_Uses (kind_ : Int) : Option ByteArray :=
  if (decide (kind_ < 1) || decide (([str1, str2, str3, str3, str4, str5, str6, str5, str5, str5, str7, str8, str8, str8, str9].length : Int) ≤ kind_)) = true then
    some str1
  else
    Option.bind (getI [str1, str2, str3, str3, str4, str5, str6, str5, str5, str5, str7, str8, str8, str8, str9] kind_) fun y => some y
/- pension/pensionhand.Make -/
def pensionhand_Make_j2 (x3 : Int) (rec_ : (Int × api_Fact) → Option api_Fact) (v2 : api_Fact) : Option api_Fact :=
  rec_ (i64 (x3 + 1), v2)
def pensionhand_Make_l (d_ : pensionhand_Fact) (x : Int) (x2 : Int) (z8 : ByteArray) (rec_ : (Int × api_Fact) → Option api_Fact) : (Int × api_Fact) → Option api_Fact
  | (x3, v) =>
  if decide (x3 < (z8.size : Int)) = true then
    Option.bind (strI z8 x3) fun y => if (y == 83) = true then
      Option.bind (pensionplain_Mod d_.State 3) fun z9 => pensionhand_Make_j2 x3 rec_ ({ v with State := z9 } : api_Fact)
    else
      if (y == 80) = true then
        pensionhand_Make_j2 x3 rec_ ({ v with Span := (⟨x, x2⟩ : Span) } : api_Fact)
      else
        if (y == 84) = true then
          Option.bind (pensionplain_Mod d_.Seat 3) fun z10 => if ((({ v with Seat := z10 } : api_Fact).Kind == 4) && (({ v with Seat := z10 } : api_Fact).Seat == ({ v with Seat := z10 } : api_Fact).State)) = true then
            Option.bind (pensionplain_Mod (i64 (({ v with Seat := z10 } : api_Fact).State + 1)) 3) fun z11 => pensionhand_Make_j2 x3 rec_ ({ ({ v with Seat := z10 } : api_Fact) with Seat := z11 } : api_Fact)
          else
            pensionhand_Make_j2 x3 rec_ ({ v with Seat := z10 } : api_Fact)
        else
          if (y == 72) = true then
            Option.bind (pensionplain_Mod d_.Share 100) fun z12 => pensionhand_Make_j2 x3 rec_ ({ v with Share := i64 (1 + z12) } : api_Fact)
          else
            if (y == 67) = true then
              Option.bind (pensionplain_Mod (i64 (d_.Seat + Int.tmod d_.State 3)) 3) fun z13 => pensionhand_Make_j2 x3 rec_ ({ v with Currency := i64 (1 + z13) } : api_Fact)
            else
              if (y == 65) = true then
                Option.bind (pensionplain_Mod d_.Amount 3000000) fun z14 => pensionhand_Make_j2 x3 rec_ ({ v with Amount := z14 } : api_Fact)
              else
                Option.bind (pensionplain_Mod d_.Ref 4) fun z15 => if (({ v with Ref := i64 (1 + z15) } : api_Fact).Ref == ({ v with Ref := i64 (1 + z15) } : api_Fact).Person) = true then
                  Option.bind (pensionplain_Mod (({ v with Ref := i64 (1 + z15) } : api_Fact).Person) 4) fun z16 => pensionhand_Make_j2 x3 rec_ ({ ({ v with Ref := i64 (1 + z15) } : api_Fact) with Ref := i64 (1 + z16) } : api_Fact)
                else
                  pensionhand_Make_j2 x3 rec_ ({ v with Ref := i64 (1 + z15) } : api_Fact)
  else
    some v
def pensionhand_Make_j (d_ : pensionhand_Fact) (z : Int) (z2 : Int) (z3 : Int) (z4 : Int) (z5 : Int) (x : Int) (x2 : Int) : Option api_Fact :=
  Option.bind (pensionref12_Uses (({ ({ (⟨z, i64 (1 + z2), i64 (1 + z3), d_.Withdrawn, 0, 0, 0, (⟨0, 0⟩ : Span), 0, 0, 0, 0, 0⟩ : api_Fact) with Person := i64 (1 + z4) } : api_Fact) with Kind := i64 (1 + z5) } : api_Fact).Kind)) fun z8 => loopC FU (pensionhand_Make_l d_ x x2 z8) (0, ({ ({ (⟨z, i64 (1 + z2), i64 (1 + z3), d_.Withdrawn, 0, 0, 0, (⟨0, 0⟩ : Span), 0, 0, 0, 0, 0⟩ : api_Fact) with Person := i64 (1 + z4) } : api_Fact) with Kind := i64 (1 + z5) } : api_Fact))
def pensionhand_Make (d_ : pensionhand_Fact) : Option api_Fact :=
  Option.bind (pensionplain_Mod d_.Issuer 3) fun z => Option.bind (pensionplain_Mod d_.Number 20) fun z2 => Option.bind (pensionplain_Mod d_.Version 3) fun z3 => Option.bind (pensionplain_Mod d_.Person 4) fun z4 => Option.bind (pensionplain_Mod d_.Kind 14) fun z5 => Option.bind (pensionplain_Mod d_.From 16000) fun z6 => Option.bind (pensionhand_length d_.Length) fun z7 => if (({ ({ (⟨z, i64 (1 + z2), i64 (1 + z3), d_.Withdrawn, 0, 0, 0, (⟨0, 0⟩ : Span), 0, 0, 0, 0, 0⟩ : api_Fact) with Person := i64 (1 + z4) } : api_Fact) with Kind := i64 (1 + z5) } : api_Fact).Kind == 11) = true then
    Option.bind (pensionplain_Mod d_.From 5000) fun z17 => pensionhand_Make_j d_ z z2 z3 z4 z5 (i64 (12000 + z17)) (i64 (i64 (12000 + z17) + 1))
  else
    if (({ ({ (⟨z, i64 (1 + z2), i64 (1 + z3), d_.Withdrawn, 0, 0, 0, (⟨0, 0⟩ : Span), 0, 0, 0, 0, 0⟩ : api_Fact) with Person := i64 (1 + z4) } : api_Fact) with Kind := i64 (1 + z5) } : api_Fact).Kind == 12) = true then
      Option.bind (pensionplain_Mod d_.From 6000) fun z18 => pensionhand_Make_j d_ z z2 z3 z4 z5 (i64 (34000 + z18)) (i64 (i64 (34000 + z18) + 1))
    else
      if (({ ({ (⟨z, i64 (1 + z2), i64 (1 + z3), d_.Withdrawn, 0, 0, 0, (⟨0, 0⟩ : Span), 0, 0, 0, 0, 0⟩ : api_Fact) with Person := i64 (1 + z4) } : api_Fact) with Kind := i64 (1 + z5) } : api_Fact).Kind == 8) = true then
        Option.bind (pensionplain_Mod d_.From 4000) fun z19 => Option.bind (pensionplain_Mod d_.Length 700) fun z20 => pensionhand_Make_j d_ z z2 z3 z4 z5 (i64 (34000 + z19)) (i64 (i64 (i64 (34000 + z19) + 1) + z20))
      else
        pensionhand_Make_j d_ z z2 z3 z4 z5 (i64 (21900 + z6)) (i64 (i64 (21900 + z6) + z7))
/- pension/pensionhand.Facts -/
def pensionhand_Facts_l (l_ : List pensionhand_Fact) (rec_ : ((List api_Fact) × Int) → Option (List api_Fact)) : ((List api_Fact) × Int) → Option (List api_Fact)
  | (out_, i_) =>
  if (decide (i_ < (l_.length : Int)) && decide (i_ < 12)) = true then
    Option.bind (getI l_ i_) fun y => Option.bind (pensionhand_Make y) fun z => Option.bind (appI 112 out_ [z]) fun l => rec_ (l, i64 (i_ + 1))
  else
    some out_
def pensionhand_Facts (l_ : List pensionhand_Fact) : Option (List api_Fact) :=
  loopC FU (pensionhand_Facts_l l_) ([], 0)
/- pension/pensionref12.Of -/
def pensionref12_Of_j (i_ : Int) (rec_ : ((List api_Fact) × Int) → Option (List api_Fact)) (out_2 : List api_Fact) : Option (List api_Fact) :=
  rec_ (out_2, i64 (i_ + 1))
def pensionref12_Of_l (l_ : List api_Fact) (person_ : Int) (rec_ : ((List api_Fact) × Int) → Option (List api_Fact)) : ((List api_Fact) × Int) → Option (List api_Fact)
  | (out_, i_) =>
  if decide (i_ < (l_.length : Int)) = true then
    Option.bind (getI l_ i_) fun y => if (y.Person == person_) = true then
      Option.bind (getI l_ i_) fun y2 => Option.bind (appI 112 out_ [y2]) fun l => pensionref12_Of_j i_ rec_ l
    else
      pensionref12_Of_j i_ rec_ out_
  else
    some out_
def pensionref12_Of (l_ : List api_Fact) (person_ : Int) : Option (List api_Fact) :=
  loopC FU (pensionref12_Of_l l_ person_) ([], 0)
/- pension/fact.Uses -/
def fact_Uses_j3 (kind_ : Int) (x3 : Bool) : Option ByteArray :=
  if x3 = true then
    some str8
  else
    if (kind_ == 14) = true then
      some str9
    else
      some str1
def fact_Uses_j2 (kind_ : Int) (x2 : Bool) : Option ByteArray :=
  if x2 = true then
    some str5
  else
    if (kind_ == 6) = true then
      some str6
    else
      if (kind_ == 10) = true then
        some str7
      else
        if (kind_ == 11) = true then
          fact_Uses_j3 kind_ (kind_ == 11)
        else
          if (kind_ == 12) = true then
            fact_Uses_j3 kind_ (kind_ == 12)
          else
            fact_Uses_j3 kind_ (kind_ == 13)
def fact_Uses_j (kind_ : Int) (x : Bool) : Option ByteArray :=
  if x = true then
    some str3
  else
    if (kind_ == 4) = true then
      some str4
    else
      if (kind_ == 5) = true then
        fact_Uses_j2 kind_ (kind_ == 5)
      else
        if (kind_ == 7) = true then
          fact_Uses_j2 kind_ (kind_ == 7)
        else
          if (kind_ == 8) = true then
            fact_Uses_j2 kind_ (kind_ == 8)
          else
            fact_Uses_j2 kind_ (kind_ == 9)
def fact_Uses (kind_ : Int) : Option ByteArray :=
  if (kind_ == 1) = true then
    some str2
  else
    if (kind_ == 2) = true then
      fact_Uses_j kind_ (kind_ == 2)
    else
      fact_Uses_j kind_ (kind_ == 3)
/- internal/stringslite.IndexByte -/
def stringslite_IndexByte (s_ : ByteArray) (c_ : Int) : Option Int :=
  none
/- internal/bytealg.Cutover -/
def bytealg_Cutover (n_ : Int) : Option Int :=
  some (i64 (Int.tdiv (i64 (n_ + 16)) 8))
/- internal/bytealg.hashStr(string) -/
def bytealg_hashStr_of_string_j (sq_ : Int) (i_2 : Int) (rec_2 : (Int × Int × Int) → Option (Int × Int)) (pow_2 : Int) : Option (Int × Int) :=
  rec_2 (pow_2, (IntKind.u32.wrap) (sq_ * sq_), shrK .i64 i_2 1)
def bytealg_hashStr_of_string_l2 (hash_ : Int) (rec_2 : (Int × Int × Int) → Option (Int × Int)) : (Int × Int × Int) → Option (Int × Int)
  | (pow_, sq_, i_2) =>
  if decide (0 < i_2) = true then
    if (andK .i64 i_2 1 != 0) = true then
      bytealg_hashStr_of_string_j sq_ i_2 rec_2 ((IntKind.u32.wrap) (pow_ * sq_))
    else
      bytealg_hashStr_of_string_j sq_ i_2 rec_2 pow_
  else
    some (hash_, pow_)
def bytealg_hashStr_of_string_l (sep_ : ByteArray) (rec_ : (Int × Int) → Option (Int × Int)) : (Int × Int) → Option (Int × Int)
  | (hash_, i_) =>
  if decide (i_ < (sep_.size : Int)) = true then
    Option.bind (strI sep_ i_) fun y => rec_ ((IntKind.u32.wrap) ((IntKind.u32.wrap) (hash_ * 16777619) + ((IntKind.u32.wrap) y)), i64 (i_ + 1))
  else
    loopC FU (bytealg_hashStr_of_string_l2 hash_) (1, 16777619, (sep_.size : Int))
def bytealg_hashStr_of_string (sep_ : ByteArray) : Option (Int × Int) :=
  loopC FU (bytealg_hashStr_of_string_l sep_) (0, 0)
/- internal/bytealg.IndexRabinKarp(string) -/
def bytealg_IndexRabinKarp_of_string_l (d_ : ByteArray) (i_ : ByteArray) (rec_ : (Int × Int) → Option Int) : (Int × Int) → Option Int
  | (x, x2) =>
  if decide (x2 < (i_.size : Int)) = true then
    Option.bind (strI d_ x2) fun y => rec_ ((IntKind.u32.wrap) ((IntKind.u32.wrap) (x * 16777619) + ((IntKind.u32.wrap) y)), i64 (x2 + 1))
  else
    none
def bytealg_IndexRabinKarp_of_string (d_ : ByteArray) (i_ : ByteArray) : Option Int :=
  Option.bind (bytealg_hashStr_of_string i_) fun z => loopC FU (bytealg_IndexRabinKarp_of_string_l d_ i_) (0, 0)
/- strings.Index -/
def strings_Index (s_ : ByteArray) (substr_ : ByteArray) : Option Int :=
  none
/- strings.Contains -/
def strings_Contains (s_ sub_ : ByteArray) : Option Bool := containsF s_ sub_
/- pension/fact.Valid$1 -/
def fact_Valid_1 (letter_ : ByteArray) (c_ : ByteArray) : Option Bool :=
  Option.bind (strings_Contains c_ letter_) fun z => some z
/- pension/fact.within -/
def fact_within (x_ : Int) (low_ : Int) (high_ : Int) : Option Bool :=
  some (decide (low_ ≤ x_) && decide (x_ ≤ high_))
/- pension/fact.field -/
def fact_field (used_ : Bool) (x_ : Int) (low_ : Int) (high_ : Int) : Option Bool :=
  Option.bind (if used_ = true then Option.bind (fact_within x_ low_ high_) fun z => some z else some false) fun c => some (c || ((!used_) && (x_ == 0)))
/- pension/fact.validSpan -/
def fact_validSpan (s_ : Span) : Option Bool :=
  some ((decide (0 ≤ s_.From) && decide (s_.From < s_.To)) && decide (s_.To ≤ 73049))
/- pension/fact.Valid -/
def fact_Valid_j2 (d_ : api_Fact) (x2 : Bool) : Option Bool :=
  if x2 = true then
    some (d_.Ref != d_.Person)
  else
    some true
def fact_Valid_j (d_ : api_Fact) (x : Bool) : Option Bool :=
  if x = true then
    some (d_.Span.To == i64 (d_.Span.From + 1))
  else
    if (d_.Kind == 10) = true then
      fact_Valid_j2 d_ (d_.Kind == 10)
    else
      fact_Valid_j2 d_ (d_.Kind == 14)
def fact_Valid (d_ : api_Fact) : Option Bool :=
  Option.bind (fact_Uses d_.Kind) fun z => Option.bind (if (z.toList == str1.toList) = true then some true else Option.bind (fact_within d_.Issuer 0 5) fun z2 => some (!z2)) fun c => Option.bind (if c = true then some true else Option.bind (fact_within d_.Number 1 999) fun z3 => some (!z3)) fun c2 => Option.bind (if c2 = true then some true else Option.bind (fact_within d_.Version 1 99) fun z4 => some (!z4)) fun c3 => Option.bind (if c3 = true then some true else Option.bind (fact_within d_.Person 1 99) fun z5 => some (!z5)) fun c4 => if c4 = true then
    some false
  else
    Option.bind ((fun x => fact_Valid_1 x z) str10) fun z6 => Option.bind (fact_field z6 d_.State 0 5) fun z7 => Option.bind (if (!z7) = true then some true else Option.bind ((fun x => fact_Valid_1 x z) str11) fun z8 => Option.bind (fact_field z8 d_.Seat 0 5) fun z9 => some (!z9)) fun c5 => Option.bind (if c5 = true then some true else Option.bind (fact_validSpan d_.Span) fun z10 => some (!z10)) fun c6 => if c6 = true then
      some false
    else
      Option.bind ((fun x => fact_Valid_1 x z) str12) fun z11 => Option.bind (fact_field z11 d_.Share 1 100) fun z12 => Option.bind (if (!z12) = true then some true else Option.bind ((fun x => fact_Valid_1 x z) str13) fun z13 => Option.bind (fact_field z13 d_.Currency 1 999) fun z14 => some (!z14)) fun c7 => Option.bind (if c7 = true then some true else Option.bind ((fun x => fact_Valid_1 x z) str14) fun z15 => Option.bind (fact_field z15 d_.Amount 0 1000000000) fun z16 => some (!z16)) fun c8 => Option.bind (if c8 = true then some true else Option.bind ((fun x => fact_Valid_1 x z) str15) fun z17 => Option.bind (fact_field z17 d_.Ref 1 99) fun z18 => some (!z18)) fun c9 => if c9 = true then
        some false
      else
        if (d_.Kind == 4) = true then
          some (d_.State != d_.Seat)
        else
          if (d_.Kind == 11) = true then
            fact_Valid_j d_ (d_.Kind == 11)
          else
            fact_Valid_j d_ (d_.Kind == 12)
/- pension/career.current -/
def career_current (f_ : api_Fact) : Option Bool :=
  Option.bind (fact_Valid f_) fun z => some (z && (!f_.Withdrawn))
/- pension/career.first -/
def career_first_j (x : Int) (rec_ : (Int × Bool × Int) → Option (Int × Bool)) (day_2 : Int) (ok_2 : Bool) : Option (Int × Bool) :=
  rec_ (day_2, ok_2, i64 (x + 1))
def career_first_l (l_ : List api_Fact) (kind_ : Int) (rec_ : (Int × Bool × Int) → Option (Int × Bool)) : (Int × Bool × Int) → Option (Int × Bool)
  | (day_, ok_, x) =>
  if decide (x < (l_.length : Int)) = true then
    Option.bind (getI l_ x) fun y => Option.bind (career_current y) fun z => if ((z && (y.Kind == kind_)) && ((!ok_) || decide (y.Span.From < day_))) = true then
      career_first_j x rec_ y.Span.From true
    else
      career_first_j x rec_ day_ ok_
  else
    some (day_, ok_)
def career_first (l_ : List api_Fact) (kind_ : Int) : Option (Int × Bool) :=
  loopC FU (career_first_l l_ kind_) (0, false, 0)
/- pension/career.Birth -/
def career_Birth (l_ : List api_Fact) : Option (Int × Bool) :=
  Option.bind (career_first l_ 11) fun z => some (z.1, z.2)
/- pension/career.Death -/
def career_Death (l_ : List api_Fact) : Option (Int × Bool) :=
  Option.bind (career_first l_ 12) fun z => some (z.1, z.2)
/- pension/career.Life -/
def career_Life_j (z : Int × Bool) (death_ : Int) : Option Span :=
  if decide (death_ < z.1) = true then
    some (⟨0, 0⟩ : Span)
  else
    some (⟨z.1, i64 (death_ + 1)⟩ : Span)
def career_Life (l_ : List api_Fact) : Option Span :=
  Option.bind (career_Birth l_) fun z => Option.bind (career_Death l_) fun z2 => if (!z2.2) = true then
    career_Life_j z 73048
  else
    career_Life_j z z2.1
/- pension/spans.clamp -/
def spans_clamp (s_ : Span) : Option Span :=
  some (⟨max s_.From 0, min s_.To 73049⟩ : Span)
/- pension/spans.Make$1 -/
def spans_Make_1 (i_ : Int) (j_ : Int) (c_ : List Span) : Option Bool :=
  Option.bind (getI c_ i_) fun y => Option.bind (getI c_ j_) fun y2 => some (decide (y.From < y2.From))
/- math/bits.Len32 -/
def bits_Len32_j2 (x_3 : Int) (n_2 : Int) : Option Int :=
  Option.bind (strI str16 ((IntKind.u8.wrap) x_3)) fun y => some (i64 (n_2 + i64 y))
def bits_Len32_j (x_2 : Int) (n_ : Int) : Option Int :=
  if decide (256 ≤ x_2) = true then
    bits_Len32_j2 (shrK .u32 x_2 8) (i64 (n_ + 8))
  else
    bits_Len32_j2 x_2 n_
def bits_Len32 (x_ : Int) : Option Int :=
  if decide (65536 ≤ x_) = true then
    bits_Len32_j (shrK .u32 x_ 16) 16
  else
    bits_Len32_j x_ 0
/- math/bits.Len64 -/
def bits_Len64_j3 (x_4 : Int) (n_3 : Int) : Option Int :=
  Option.bind (strI str16 ((IntKind.u8.wrap) x_4)) fun y => some (i64 (n_3 + i64 y))
def bits_Len64_j2 (x_3 : Int) (n_2 : Int) : Option Int :=
  if decide (256 ≤ x_3) = true then
    bits_Len64_j3 (shrK .u64 x_3 8) (i64 (n_2 + 8))
  else
    bits_Len64_j3 x_3 n_2
def bits_Len64_j (x_2 : Int) (n_ : Int) : Option Int :=
  if decide (65536 ≤ x_2) = true then
    bits_Len64_j2 (shrK .u64 x_2 16) (i64 (n_ + 16))
  else
    bits_Len64_j2 x_2 n_
def bits_Len64 (x_ : Int) : Option Int :=
  if decide (4294967296 ≤ x_) = true then
    bits_Len64_j (shrK .u64 x_ 32) 32
  else
    bits_Len64_j x_ 0
/- math/bits.Len -/
def bits_Len (x_ : Int) : Option Int :=
  Option.bind (bits_Len64 x_) fun z => some z
/- sort.nextPowerOfTwo -/
def sort_nextPowerOfTwo (length_ : Int) : Option Int :=
  Option.bind (bits_Len (u64 length_)) fun z => Option.bind (shlO .u64 1 (u64 z)) fun q => some q
/- sort.Slice of spans -/
def sort_Slice_44 (l : List Span) : Option (List Span) := sortSF (fun x y => decide (x.From < y.From)) l
/- pension/spans.Make -/
def spans_Make_j (x : Int) (rec_ : (Int × (List Span)) → Option (List Span)) (v2 : List Span) : Option (List Span) :=
  rec_ (i64 (x + 1), v2)
def spans_Make_j2 (x3 : Int) (rec_2 : ((List Span) × Int) → Option (List Span)) (x4 : List Span) : Option (List Span) :=
  rec_2 (x4, i64 (x3 + 1))
def spans_Make_l2 (z2 : List Span) (rec_2 : ((List Span) × Int) → Option (List Span)) : ((List Span) × Int) → Option (List Span)
  | (x2, x3) =>
  if decide (x3 < (z2.length : Int)) = true then
    Option.bind (getI z2 x3) fun y2 => Option.bind (if decide (0 < (x2.length : Int)) = true then Option.bind (getI x2 (i64 ((x2.length : Int) - 1))) fun y3 => some (decide (y2.From ≤ y3.To)) else some false) fun c => if c = true then
      Option.bind (getI x2 (i64 ((x2.length : Int) - 1))) fun y4 => Option.bind (getI x2 (i64 ((x2.length : Int) - 1))) fun y5 => spans_Make_j2 x3 rec_2 (setI x2 (i64 ((x2.length : Int) - 1)) ({ y5 with To := max y4.To y2.To } : Span))
    else
      Option.bind (appI 16 x2 [y2]) fun l2 => spans_Make_j2 x3 rec_2 l2
  else
    some x2
def spans_Make_l (d_ : List Span) (rec_ : (Int × (List Span)) → Option (List Span)) : (Int × (List Span)) → Option (List Span)
  | (x, v) =>
  if decide (x < (d_.length : Int)) = true then
    Option.bind (getI d_ x) fun y => Option.bind (spans_clamp y) fun z => if decide (z.From < z.To) = true then
      Option.bind (appI 16 v [z]) fun l => spans_Make_j x rec_ l
    else
      spans_Make_j x rec_ v
  else
    Option.bind (sort_Slice_44 v) fun z2 => loopC FU (spans_Make_l2 z2) ([], 0)
def spans_Make (d_ : List Span) : Option (List Span) :=
  loopC FU (spans_Make_l d_) (0, [])
/- pension/spans.Intersect -/
def spans_Intersect_j (z : (List Span)) (z2 : (List Span)) (x2 : Int) (x3 : Int) (rec_ : ((List Span) × Int × Int) → Option (List Span)) (x4 : List Span) : Option (List Span) :=
  Option.bind (getI z x2) fun y5 => Option.bind (getI z2 x3) fun y6 => if decide (y5.To < y6.To) = true then
    rec_ (x4, i64 (x2 + 1), x3)
  else
    rec_ (x4, x2, i64 (x3 + 1))
def spans_Intersect_l (z : (List Span)) (z2 : (List Span)) (rec_ : ((List Span) × Int × Int) → Option (List Span)) : ((List Span) × Int × Int) → Option (List Span)
  | (x, x2, x3) =>
  if (decide (x2 < (z.length : Int)) && decide (x3 < (z2.length : Int))) = true then
    Option.bind (getI z x2) fun y => Option.bind (getI z2 x3) fun y2 => Option.bind (getI z x2) fun y3 => Option.bind (getI z2 x3) fun y4 => if decide (max y.From y2.From < min y3.To y4.To) = true then
      Option.bind (appI 16 x [(⟨max y.From y2.From, min y3.To y4.To⟩ : Span)]) fun l => spans_Intersect_j z z2 x2 x3 rec_ l
    else
      spans_Intersect_j z z2 x2 x3 rec_ x
  else
    some x
def spans_Intersect (d_ : List Span) (i_ : List Span) : Option (List Span) :=
  Option.bind (spans_Make d_) fun z => Option.bind (spans_Make i_) fun z2 => loopC FU (spans_Intersect_l z z2) ([], 0, 0)
/- pension/spans.Clip -/
def spans_Clip (l_ : List Span) (s_ : Span) : Option (List Span) :=
  Option.bind (spans_Intersect l_ [s_]) fun z => some z
/- pension/career.Spans -/
def career_Spans_j (x : Int) (rec_ : ((List Span) × Int) → Option (List Span)) (out_2 : List Span) : Option (List Span) :=
  rec_ (out_2, i64 (x + 1))
def career_Spans_l (l_ : List api_Fact) (kind_ : Int) (state_ : Int) (rec_ : ((List Span) × Int) → Option (List Span)) : ((List Span) × Int) → Option (List Span)
  | (out_, x) =>
  if decide (x < (l_.length : Int)) = true then
    Option.bind (getI l_ x) fun y => Option.bind (career_current y) fun z => if ((z && (y.Kind == kind_)) && (y.State == state_)) = true then
      Option.bind (appI 16 out_ [y.Span]) fun l => career_Spans_j x rec_ l
    else
      career_Spans_j x rec_ out_
  else
    Option.bind (career_Life l_) fun z2 => Option.bind (spans_Clip out_ z2) fun z3 => some z3
def career_Spans (l_ : List api_Fact) (kind_ : Int) (state_ : Int) : Option (List Span) :=
  loopC FU (career_Spans_l l_ kind_ state_) ([], 0)
/- pension/sickness.Sick -/
def sickness_Sick_l (l_ : List api_Fact) (rec_ : ((List Span) × Int) → Option (List Span)) : ((List Span) × Int) → Option (List Span)
  | (out_, x) =>
  if decide (x < 6) = true then
    Option.bind (career_Spans l_ 8 x) fun z => Option.bind (appI 16 out_ z) fun l => rec_ (l, i64 (x + 1))
  else
    Option.bind (spans_Make out_) fun z2 => some z2
def sickness_Sick (l_ : List api_Fact) : Option (List Span) :=
  loopC FU (sickness_Sick_l l_) ([], 0)
/- pension/sickness.Spells -/
def sickness_Spells_j (x : Int) (rec_ : ((List Span) × Int) → Option (List Span)) (out_2 : List Span) : Option (List Span) :=
  rec_ (out_2, i64 (x + 1))
def sickness_Spells_l (z : (List Span)) (rec_ : ((List Span) × Int) → Option (List Span)) : ((List Span) × Int) → Option (List Span)
  | (out_, x) =>
  if decide (x < (z.length : Int)) = true then
    Option.bind (getI z x) fun y => Option.bind (if decide (0 < (out_.length : Int)) = true then Option.bind (getI out_ (i64 ((out_.length : Int) - 1))) fun y2 => some (decide (i64 (y.From - y2.To) ≤ 56)) else some false) fun c => if c = true then
      Option.bind (getI out_ (i64 ((out_.length : Int) - 1))) fun y3 => sickness_Spells_j x rec_ (setI out_ (i64 ((out_.length : Int) - 1)) ({ y3 with To := y.To } : Span))
    else
      Option.bind (appI 16 out_ [y]) fun l => sickness_Spells_j x rec_ l
  else
    some out_
def sickness_Spells (l_ : List api_Fact) : Option (List Span) :=
  Option.bind (sickness_Sick l_) fun z => loopC FU (sickness_Spells_l z) ([], 0)
/- (*pension/sickness.window).room -/
def sickness_window_room_l (day_ : Int) (rec_ : sickness_window → Option (Bool × sickness_window)) (v : sickness_window) : Option (Bool × sickness_window) :=
  Option.bind (if decide (0 < (v.days.length : Int)) = true then Option.bind (getI v.days 0) fun y => some (decide (y < i64 (day_ - 1094))) else some false) fun c => if c = true then
    Option.bind (sliceI v.days 1 (v.days.length : Int)) fun s => rec_ (⟨s⟩ : sickness_window)
  else
    some (decide ((v.days.length : Int) < 546), v)
def sickness_window_room (w_ : sickness_window) (day_ : Int) : Option (Bool × sickness_window) :=
  loopC FU (sickness_window_room_l day_) w_
/- pension/sickness.Payable -/
def sickness_Payable_j (day_ : Int) (rec_3 : ((List Span) × Int × Int × sickness_window) → Option (List Span)) (out_4 : List Span) (wait_3 : Int) (v4 : sickness_window) : Option (List Span) :=
  rec_3 (out_4, wait_3, i64 (day_ + 1), v4)
def sickness_Payable_l3 (x2 : Int) (rec_2 : ((List Span) × Int × Int × sickness_window) → Option (List Span)) (y2 : Span) (rec_3 : ((List Span) × Int × Int × sickness_window) → Option (List Span)) : ((List Span) × Int × Int × sickness_window) → Option (List Span)
  | (out_3, wait_2, day_, v3) =>
  if decide (day_ < y2.To) = true then
    if decide (0 < wait_2) = true then
      sickness_Payable_j day_ rec_3 out_3 (i64 (wait_2 - 1)) v3
    else
      Option.bind (sickness_window_room v3 day_) fun z4 => if z4.1 = true then
        Option.bind (appI 8 z4.2.days [day_]) fun l => Option.bind (appI 16 out_3 [(⟨day_, i64 (day_ + 1)⟩ : Span)]) fun l2 => sickness_Payable_j day_ rec_3 l2 wait_2 (⟨l⟩ : sickness_window)
      else
        sickness_Payable_j day_ rec_3 out_3 wait_2 z4.2
  else
    rec_2 (out_3, wait_2, i64 (x2 + 1), v3)
def sickness_Payable_l2 (x : Int) (rec_ : ((List Span) × Int × sickness_window) → Option (List Span)) (z3 : (List Span)) (rec_2 : ((List Span) × Int × Int × sickness_window) → Option (List Span)) : ((List Span) × Int × Int × sickness_window) → Option (List Span)
  | (out_2, wait_, x2, v2) =>
  if decide (x2 < (z3.length : Int)) = true then
    Option.bind (getI z3 x2) fun y2 => loopC FU (sickness_Payable_l3 x2 rec_2 y2) (out_2, wait_, y2.From, v2)
  else
    rec_ (out_2, i64 (x + 1), v2)
def sickness_Payable_l (z : (List Span)) (z2 : (List Span)) (rec_ : ((List Span) × Int × sickness_window) → Option (List Span)) : ((List Span) × Int × sickness_window) → Option (List Span)
  | (out_, x, v) =>
  if decide (x < (z2.length : Int)) = true then
    Option.bind (getI z2 x) fun y => Option.bind (spans_Clip z y) fun z3 => loopC FU (sickness_Payable_l2 x rec_ z3) (out_, 3, 0, v)
  else
    Option.bind (spans_Make out_) fun z5 => some z5
def sickness_Payable (l_ : List api_Fact) : Option (List Span) :=
  Option.bind (sickness_Sick l_) fun z => Option.bind (sickness_Spells l_) fun z2 => loopC FU (sickness_Payable_l z z2) ([], 0, (⟨[]⟩ : sickness_window))
/- pension/pensionlaw25.awake -/
def pensionlaw25_awake : Option Bool :=
  Option.bind (sickness_Payable [(⟨0, 1, 1, false, 1, 8, 0, (⟨100, 110⟩ : Span), 0, 0, 0, 0, 0⟩ : api_Fact)]) fun z => Option.bind (if ((z.length : Int) == 1) = true then Option.bind (getI z 0) fun y => some (Span.eqb y (⟨103, 110⟩ : Span)) else some false) fun c => Option.bind (if c = true then Option.bind (sickness_Sick [(⟨0, 1, 1, false, 1, 8, 0, (⟨100, 110⟩ : Span), 0, 0, 0, 0, 0⟩ : api_Fact)]) fun z2 => some ((z2.length : Int) == 1) else some false) fun c2 => Option.bind (if c2 = true then Option.bind (sickness_Spells [(⟨0, 1, 1, false, 1, 8, 0, (⟨100, 110⟩ : Span), 0, 0, 0, 0, 0⟩ : api_Fact)]) fun z3 => some ((z3.length : Int) == 1) else some false) fun c3 => some c3
/- pension/pensionref12.uses -/
def pensionref12_uses_l (c_ : Int) (z : ByteArray) (rec_ : Int → Option Bool) (i_ : Int) : Option Bool :=
  if decide (i_ < (z.size : Int)) = true then
    Option.bind (strI z i_) fun y => if (y == c_) = true then
      some true
    else
      rec_ (i64 (i_ + 1))
  else
    some false
def pensionref12_uses (kind_ : Int) (c_ : Int) : Option Bool :=
  Option.bind (pensionref12_Uses kind_) fun z => loopC FU (pensionref12_uses_l c_ z) 0
/- pension/pensionref12.field -/
def pensionref12_field (kind_ : Int) (c_ : Int) (n_ : Int) (least_ : Int) (most_ : Int) : Option Bool :=
  Option.bind (pensionref12_uses kind_ c_) fun z => if z = true then
    some (decide (least_ ≤ n_) && decide (n_ ≤ most_))
  else
    some (n_ == 0)
/- pension/pensionref12.Valid -/
def pensionref12_Valid (d_ : api_Fact) : Option Bool :=
  Option.bind (if (((((((decide (d_.Issuer < 0) || decide (6 ≤ d_.Issuer)) || decide (d_.Number < 1)) || decide (999 < d_.Number)) || decide (d_.Version < 1)) || decide (99 < d_.Version)) || decide (d_.Person < 1)) || decide (99 < d_.Person)) = true then some true else Option.bind (pensionref12_Uses d_.Kind) fun z => some (z.toList == str1.toList)) fun c => if c = true then
    some false
  else
    if ((decide (d_.Span.From < 0) || decide (d_.Span.To ≤ d_.Span.From)) || decide (73049 < d_.Span.To)) = true then
      some false
    else
      if (((((d_.Kind == 11) || (d_.Kind == 12)) && (i64 (d_.Span.To - d_.Span.From) != 1)) || ((d_.Kind == 4) && (d_.Seat == d_.State))) || (((d_.Kind == 10) || (d_.Kind == 14)) && (d_.Ref == d_.Person))) = true then
        some false
      else
        Option.bind (pensionref12_field d_.Kind 83 d_.State 0 5) fun z2 => Option.bind (if z2 = true then Option.bind (pensionref12_field d_.Kind 84 d_.Seat 0 5) fun z3 => some z3 else some false) fun c2 => Option.bind (if c2 = true then Option.bind (pensionref12_field d_.Kind 72 d_.Share 1 100) fun z4 => some z4 else some false) fun c3 => Option.bind (if c3 = true then Option.bind (pensionref12_field d_.Kind 67 d_.Currency 1 999) fun z5 => some z5 else some false) fun c4 => Option.bind (if c4 = true then Option.bind (pensionref12_field d_.Kind 65 d_.Amount 0 1000000000) fun z6 => some z6 else some false) fun c5 => Option.bind (if c5 = true then Option.bind (pensionref12_field d_.Kind 82 d_.Ref 1 99) fun z7 => some z7 else some false) fun c6 => some c6
/- pension/pensionref12.Current -/
def pensionref12_Current_j (i_ : Int) (rec_ : ((List api_Fact) × Int) → Option (List api_Fact)) (out_2 : List api_Fact) : Option (List api_Fact) :=
  rec_ (out_2, i64 (i_ + 1))
def pensionref12_Current_l (l_ : List api_Fact) (rec_ : ((List api_Fact) × Int) → Option (List api_Fact)) : ((List api_Fact) × Int) → Option (List api_Fact)
  | (out_, i_) =>
  if decide (i_ < (l_.length : Int)) = true then
    Option.bind (getI l_ i_) fun y => Option.bind (pensionref12_Valid y) fun z => Option.bind (if z = true then Option.bind (getI l_ i_) fun y2 => some (!y2.Withdrawn) else some false) fun c => if c = true then
      Option.bind (getI l_ i_) fun y3 => Option.bind (appI 112 out_ [y3]) fun l => pensionref12_Current_j i_ rec_ l
    else
      pensionref12_Current_j i_ rec_ out_
  else
    some out_
def pensionref12_Current (l_ : List api_Fact) : Option (List api_Fact) :=
  loopC FU (pensionref12_Current_l l_) ([], 0)
/- pension/pensionref12.least -/
def pensionref12_least_j (i_ : Int) (rec_ : (Int × Bool × Int) → Option (Int × Bool)) (day_2 : Int) (ok_2 : Bool) : Option (Int × Bool) :=
  rec_ (day_2, ok_2, i64 (i_ + 1))
def pensionref12_least_l (kind_ : Int) (z : (List api_Fact)) (rec_ : (Int × Bool × Int) → Option (Int × Bool)) : (Int × Bool × Int) → Option (Int × Bool)
  | (day_, ok_, i_) =>
  if decide (i_ < (z.length : Int)) = true then
    Option.bind (getI z i_) fun y => Option.bind (if (y.Kind == kind_) = true then Option.bind (if (!ok_) = true then some true else Option.bind (getI z i_) fun y2 => some (decide (y2.Span.From < day_))) fun c => some c else some false) fun c2 => if c2 = true then
      Option.bind (getI z i_) fun y3 => pensionref12_least_j i_ rec_ y3.Span.From true
    else
      pensionref12_least_j i_ rec_ day_ ok_
  else
    some (day_, ok_)
def pensionref12_least (l_ : List api_Fact) (kind_ : Int) : Option (Int × Bool) :=
  Option.bind (pensionref12_Current l_) fun z => loopC FU (pensionref12_least_l kind_ z) (0, false, 0)
/- pension/pensionref12.Birth -/
def pensionref12_Birth (l_ : List api_Fact) : Option (Int × Bool) :=
  Option.bind (pensionref12_least l_ 11) fun z => some (z.1, z.2)
/- pension/pensionref12.Death -/
def pensionref12_Death (l_ : List api_Fact) : Option (Int × Bool) :=
  Option.bind (pensionref12_least l_ 12) fun z => some (z.1, z.2)
/- pension/pensionref12.Life -/
def pensionref12_Life_j (z : Int × Bool) (to_ : Int) : Option Span :=
  if decide (to_ < z.1) = true then
    some (⟨0, 0⟩ : Span)
  else
    some (⟨z.1, i64 (to_ + 1)⟩ : Span)
def pensionref12_Life (l_ : List api_Fact) : Option Span :=
  Option.bind (pensionref12_Birth l_) fun z => Option.bind (pensionref12_Death l_) fun z2 => if (!z2.2) = true then
    pensionref12_Life_j z 73048
  else
    pensionref12_Life_j z z2.1
/- pension/pensionref1.cutSpan -/
def pensionref1_cutSpan (s_ : Span) : Option (Span × Bool) :=
  some ((⟨max s_.From 0, min s_.To 73049⟩ : Span), decide (max s_.From 0 < min s_.To 73049))
/- pension/pensionref1.Ins -/
def pensionref1_Ins_l (l_ : List Int) (n_ : Int) (rec_ : Int → Option (List Int)) (at_ : Int) : Option (List Int) :=
  Option.bind (if decide (0 < at_) = true then Option.bind (getI l_ (i64 (at_ - 1))) fun y => some (decide (n_ ≤ y)) else some false) fun c => if c = true then
    rec_ (i64 (at_ - 1))
  else
    Option.bind (if decide (at_ < (l_.length : Int)) = true then Option.bind (getI l_ at_) fun y2 => some (y2 == n_) else some false) fun c2 => if c2 = true then
      some l_
    else
      Option.bind (sliceI l_ 0 at_) fun s => Option.bind (appI 8 [] s) fun l => Option.bind (appI 8 l [n_]) fun l2 => Option.bind (sliceI l_ at_ (l_.length : Int)) fun s2 => Option.bind (appI 8 l2 s2) fun l3 => some l3
def pensionref1_Ins (l_ : List Int) (n_ : Int) : Option (List Int) :=
  loopC FU (pensionref1_Ins_l l_ n_) (l_.length : Int)
/- pension/pensionref1.edges -/
def pensionref1_edges_j (k_2 : Int) (rec_2 : ((List Int) × Int) → Option (List Int)) (out_3 : List Int) : Option (List Int) :=
  rec_2 (out_3, i64 (k_2 + 1))
def pensionref1_edges_l2 (lists_ : List (List Span)) (i_ : Int) (rec_ : ((List Int) × Int) → Option (List Int)) (rec_2 : ((List Int) × Int) → Option (List Int)) : ((List Int) × Int) → Option (List Int)
  | (out_2, k_2) =>
  Option.bind (getI lists_ i_) fun y => if decide (k_2 < (y.length : Int)) = true then
    Option.bind (getI lists_ i_) fun y2 => Option.bind (getI y2 k_2) fun y3 => Option.bind (pensionref1_cutSpan y3) fun z => if z.2 = true then
      Option.bind (pensionref1_Ins out_2 z.1.From) fun z2 => Option.bind (pensionref1_Ins z2 z.1.To) fun z3 => pensionref1_edges_j k_2 rec_2 z3
    else
      pensionref1_edges_j k_2 rec_2 out_2
  else
    rec_ (out_2, i64 (i_ + 1))
def pensionref1_edges_l (lists_ : List (List Span)) (rec_ : ((List Int) × Int) → Option (List Int)) : ((List Int) × Int) → Option (List Int)
  | (out_, i_) =>
  if decide (i_ < (lists_.length : Int)) = true then
    loopC FU (pensionref1_edges_l2 lists_ i_ rec_) (out_, 0)
  else
    some out_
def pensionref1_edges (lists_ : List (List Span)) : Option (List Int) :=
  loopC FU (pensionref1_edges_l lists_) ([], 0)
/- pension/pensionref1.ValidDay -/
def pensionref1_ValidDay (day_ : Int) : Option Bool :=
  some (decide (0 ≤ day_) && decide (day_ ≤ 73048))
/- pension/pensionref1.Contains -/
def pensionref1_Contains_l (l_ : List Span) (day_ : Int) (rec_ : Int → Option Bool) (i_ : Int) : Option Bool :=
  if decide (i_ < (l_.length : Int)) = true then
    Option.bind (getI l_ i_) fun y => Option.bind (if decide (y.From ≤ day_) = true then Option.bind (getI l_ i_) fun y2 => some (decide (day_ < y2.To)) else some false) fun c => Option.bind (if c = true then Option.bind (pensionref1_ValidDay day_) fun z => some z else some false) fun c2 => if c2 = true then
      some true
    else
      rec_ (i64 (i_ + 1))
  else
    some false
def pensionref1_Contains (l_ : List Span) (day_ : Int) : Option Bool :=
  loopC FU (pensionref1_Contains_l l_ day_) 0
/- pension/pensionref1.add -/
def pensionref1_add (l_ : List Span) (s_ : Span) : Option (List Span) :=
  Option.bind (if decide (0 < (l_.length : Int)) = true then Option.bind (getI l_ (i64 ((l_.length : Int) - 1))) fun y => some (y.To == s_.From) else some false) fun c => if c = true then
    Option.bind (appI 16 [] l_) fun l => Option.bind (getI l (i64 ((l_.length : Int) - 1))) fun y2 => some (setI l (i64 ((l_.length : Int) - 1)) ({ y2 with To := s_.To } : Span))
  else
    Option.bind (appI 16 [] l_) fun l2 => Option.bind (appI 16 l2 [s_]) fun l3 => some l3
/- pension/pensionref1.combine -/
def pensionref1_combine_j (x2 : Int) (rec_ : ((List Span) × Int) → Option (List Span)) (x3 : List Span) : Option (List Span) :=
  rec_ (x3, i64 (x2 + 1))
def pensionref1_combine_l (d_ : List Span) (i_ : List Span) (p_ : Int) (z : (List Int)) (rec_ : ((List Span) × Int) → Option (List Span)) : ((List Span) × Int) → Option (List Span)
  | (x, x2) =>
  if decide (i64 (x2 + 1) < (z.length : Int)) = true then
    Option.bind (getI z x2) fun y => Option.bind (pensionref1_Contains d_ y) fun z2 => Option.bind (getI z x2) fun y2 => Option.bind (pensionref1_Contains i_ y2) fun z3 => if (((((p_ == 1) && z2) && z3) || ((p_ == 2) && (z2 || z3))) || (((p_ == 3) && z2) && (!z3))) = true then
      Option.bind (getI z x2) fun y3 => Option.bind (getI z (i64 (x2 + 1))) fun y4 => Option.bind (pensionref1_add x (⟨y3, y4⟩ : Span)) fun z4 => pensionref1_combine_j x2 rec_ z4
    else
      pensionref1_combine_j x2 rec_ x
  else
    some x
def pensionref1_combine (d_ : List Span) (i_ : List Span) (p_ : Int) : Option (List Span) :=
  Option.bind (pensionref1_edges [d_, i_]) fun z => loopC FU (pensionref1_combine_l d_ i_ p_ z) ([], 0)
/- pension/pensionref1.Clip -/
def pensionref1_Clip (l_ : List Span) (s_ : Span) : Option (List Span) :=
  Option.bind (pensionref1_combine l_ [s_] 1) fun z => some z
/- pension/pensionref12.Spans -/
def pensionref12_Spans_j (i_ : Int) (rec_ : ((List Span) × Int) → Option (List Span)) (out_2 : List Span) : Option (List Span) :=
  rec_ (out_2, i64 (i_ + 1))
def pensionref12_Spans_l (l_ : List api_Fact) (kind_ : Int) (state_ : Int) (z : (List api_Fact)) (rec_ : ((List Span) × Int) → Option (List Span)) : ((List Span) × Int) → Option (List Span)
  | (out_, i_) =>
  if decide (i_ < (z.length : Int)) = true then
    Option.bind (getI z i_) fun y => Option.bind (if (y.Kind == kind_) = true then Option.bind (getI z i_) fun y2 => some (y2.State == state_) else some false) fun c => if c = true then
      Option.bind (getI z i_) fun y3 => Option.bind (appI 16 out_ [y3.Span]) fun l => pensionref12_Spans_j i_ rec_ l
    else
      pensionref12_Spans_j i_ rec_ out_
  else
    Option.bind (pensionref12_Life l_) fun z2 => Option.bind (pensionref1_Clip out_ z2) fun z3 => some z3
def pensionref12_Spans (l_ : List api_Fact) (kind_ : Int) (state_ : Int) : Option (List Span) :=
  Option.bind (pensionref12_Current l_) fun z => loopC FU (pensionref12_Spans_l l_ kind_ state_ z) ([], 0)
/- pension/pensionref1.Union -/
def pensionref1_Union (a_ : List Span) (b_ : List Span) : Option (List Span) :=
  Option.bind (pensionref1_combine a_ b_ 2) fun z => some z
/- pension/pensionref21.Sick -/
def pensionref21_Sick_l (l_ : List api_Fact) (rec_ : ((List Span) × Int) → Option (List Span)) : ((List Span) × Int) → Option (List Span)
  | (out_, s_) =>
  if decide (s_ < 6) = true then
    Option.bind (pensionref12_Spans l_ 8 s_) fun z => Option.bind (pensionref1_Union out_ z) fun z2 => rec_ (z2, i64 (s_ + 1))
  else
    some out_
def pensionref21_Sick (l_ : List api_Fact) : Option (List Span) :=
  loopC FU (pensionref21_Sick_l l_) ([], 0)
/- pension/pensionplain.Same(pension/api.Span) -/
def pensionplain_Same_of_api_Span_l (a_ : List Span) (b_ : List Span) (rec_ : Int → Option Bool) (i_ : Int) : Option Bool :=
  if decide (i_ < (a_.length : Int)) = true then
    Option.bind (getI a_ i_) fun y => Option.bind (getI b_ i_) fun y2 => if (!Span.eqb y y2) = true then
      some false
    else
      rec_ (i64 (i_ + 1))
  else
    some true
def pensionplain_Same_of_api_Span (a_ : List Span) (b_ : List Span) : Option Bool :=
  if ((a_.length : Int) != (b_.length : Int)) = true then
    some false
  else
    loopC FU (pensionplain_Same_of_api_Span_l a_ b_) 0
/- pension/pensionref21.Spells -/
def pensionref21_Spells_j (i_ : Int) (rec_ : ((List Span) × Int) → Option (List Span)) (out_2 : List Span) : Option (List Span) :=
  rec_ (out_2, i64 (i_ + 1))
def pensionref21_Spells_l (z : (List Span)) (rec_ : ((List Span) × Int) → Option (List Span)) : ((List Span) × Int) → Option (List Span)
  | (out_, i_) =>
  if decide (i_ < (z.length : Int)) = true then
    Option.bind (if decide (0 < (out_.length : Int)) = true then Option.bind (getI z i_) fun y => Option.bind (getI out_ (i64 ((out_.length : Int) - 1))) fun y2 => some (decide (i64 (y.From - y2.To) ≤ 56)) else some false) fun c => if c = true then
      Option.bind (getI z i_) fun y3 => Option.bind (getI out_ (i64 ((out_.length : Int) - 1))) fun y4 => pensionref21_Spells_j i_ rec_ (setI out_ (i64 ((out_.length : Int) - 1)) ({ y4 with To := y3.To } : Span))
    else
      Option.bind (getI z i_) fun y5 => Option.bind (appI 16 out_ [y5]) fun l => pensionref21_Spells_j i_ rec_ l
  else
    some out_
def pensionref21_Spells (l_ : List api_Fact) : Option (List Span) :=
  Option.bind (pensionref21_Sick l_) fun z => loopC FU (pensionref21_Spells_l z) ([], 0)
/- pension/pensionlaw25.SicknessSpellsAgree -/
def pensionlaw25_SicknessSpellsAgree (l_ : List pensionlaw25_Raw) (from_ : Int) (k_ : List pensionhand_Fact) : Option Bool :=
  Option.bind (pensionlaw25_List l_ from_) fun z => Option.bind (pensionhand_Facts k_) fun z2 => Option.bind (pensionref12_Of z2 1) fun z3 => Option.bind (pensionlaw25_awake) fun z4 => Option.bind (if z4 = true then Option.bind (sickness_Sick z) fun z5 => Option.bind (pensionref21_Sick z) fun z6 => Option.bind (pensionplain_Same_of_api_Span z5 z6) fun z7 => some z7 else some false) fun c => Option.bind (if c = true then Option.bind (sickness_Spells z) fun z8 => Option.bind (pensionref21_Spells z) fun z9 => Option.bind (pensionplain_Same_of_api_Span z8 z9) fun z10 => some z10 else some false) fun c2 => Option.bind (if c2 = true then Option.bind (sickness_Sick z3) fun z11 => Option.bind (pensionref21_Sick z3) fun z12 => Option.bind (pensionplain_Same_of_api_Span z11 z12) fun z13 => some z13 else some false) fun c3 => Option.bind (if c3 = true then Option.bind (sickness_Spells z3) fun z14 => Option.bind (pensionref21_Spells z3) fun z15 => Option.bind (pensionplain_Same_of_api_Span z14 z15) fun z16 => some z16 else some false) fun c4 => some c4
/- pension/pensionref21.Payable -/
def pensionref21_Payable_j (x12 : Int) (rec_2 : ((List Span) × (List Int) × Int × Int × Int × Int) → Option (List Span)) (x13 : List Span) (x14 : List Int) (x15 : Int) (x16 : Int) (x17 : Int) : Option (List Span) :=
  rec_2 (x13, x14, x15, x16, x17, i64 (x12 + 1))
def pensionref21_Payable_l4 (x7 : List Span) (x8 : List Int) (x12 : Int) (rec_2 : ((List Span) × (List Int) × Int × Int × Int × Int) → Option (List Span)) (x18 : Int) (x19 : Int) (rec_4 : Int → Option (List Span)) (x20 : Int) : Option (List Span) :=
  Option.bind (if decide (x20 < (x8.length : Int)) = true then Option.bind (getI x8 x20) fun y4 => some (decide (y4 < i64 (x12 - 1094))) else some false) fun c2 => if c2 = true then
    rec_4 (i64 (x20 + 1))
  else
    if (decide (i64 (x19 + 1) ≤ 3) || decide (546 ≤ i64 ((x8.length : Int) - x20))) = true then
      pensionref21_Payable_j x12 rec_2 x7 x8 x18 (i64 (x19 + 1)) x20
    else
      Option.bind (appI 8 x8 [x12]) fun l => Option.bind (if decide (0 < (x7.length : Int)) = true then Option.bind (getI x7 (i64 ((x7.length : Int) - 1))) fun y5 => some (y5.To == x12) else some false) fun c3 => if c3 = true then
        Option.bind (getI x7 (i64 ((x7.length : Int) - 1))) fun y6 => pensionref21_Payable_j x12 rec_2 (setI x7 (i64 ((x7.length : Int) - 1)) ({ y6 with To := i64 (x12 + 1) } : Span)) l x18 (i64 (x19 + 1)) x20
      else
        Option.bind (appI 16 x7 [(⟨x12, i64 (x12 + 1)⟩ : Span)]) fun l2 => pensionref21_Payable_j x12 rec_2 l2 l x18 (i64 (x19 + 1)) x20
def pensionref21_Payable_l3 (z2 : (List Span)) (x7 : List Span) (x8 : List Int) (x11 : Int) (x12 : Int) (rec_2 : ((List Span) × (List Int) × Int × Int × Int × Int) → Option (List Span)) (rec_3 : (Int × Int) → Option (List Span)) : (Int × Int) → Option (List Span)
  | (x18, x19) =>
  Option.bind (if decide (x18 < (z2.length : Int)) = true then Option.bind (getI z2 x18) fun y3 => some (decide (y3.To ≤ x12)) else some false) fun c => if c = true then
    rec_3 (i64 (x18 + 1), 0)
  else
    loopC FU (pensionref21_Payable_l4 x7 x8 x12 rec_2 x18 x19) x11
def pensionref21_Payable_l2 (z : (List Span)) (z2 : (List Span)) (x6 : Int) (rec_ : ((List Span) × (List Int) × Int × Int × Int × Int) → Option (List Span)) (rec_2 : ((List Span) × (List Int) × Int × Int × Int × Int) → Option (List Span)) : ((List Span) × (List Int) × Int × Int × Int × Int) → Option (List Span)
  | (x7, x8, x9, x10, x11, x12) =>
  Option.bind (getI z x6) fun y2 => if decide (x12 < y2.To) = true then
    loopC FU (pensionref21_Payable_l3 z2 x7 x8 x11 x12 rec_2) (x9, x10)
  else
    rec_ (x7, x8, x9, x10, x11, i64 (x6 + 1))
def pensionref21_Payable_l (z : (List Span)) (z2 : (List Span)) (rec_ : ((List Span) × (List Int) × Int × Int × Int × Int) → Option (List Span)) : ((List Span) × (List Int) × Int × Int × Int × Int) → Option (List Span)
  | (x, x2, x3, x4, x5, x6) =>
  if decide (x6 < (z.length : Int)) = true then
    Option.bind (getI z x6) fun y => loopC FU (pensionref21_Payable_l2 z z2 x6 rec_) (x, x2, x3, x4, x5, y.From)
  else
    some x
def pensionref21_Payable (d_ : List api_Fact) : Option (List Span) :=
  Option.bind (pensionref21_Sick d_) fun z => Option.bind (pensionref21_Spells d_) fun z2 => loopC FU (pensionref21_Payable_l z z2) ([], [], 0, 0, 0, 0)
/- pension/pensionlaw25.SicknessPayableAgrees -/
def pensionlaw25_SicknessPayableAgrees (l_ : List pensionlaw25_Raw) (from_ : Int) (k_ : List pensionhand_Fact) : Option Bool :=
  Option.bind (pensionlaw25_List l_ from_) fun z => Option.bind (pensionhand_Facts k_) fun z2 => Option.bind (pensionref12_Of z2 1) fun z3 => Option.bind (pensionlaw25_awake) fun z4 => Option.bind (if z4 = true then Option.bind (sickness_Payable z) fun z5 => Option.bind (pensionref21_Payable z) fun z6 => Option.bind (pensionplain_Same_of_api_Span z5 z6) fun z7 => some z7 else some false) fun c => Option.bind (if c = true then Option.bind (sickness_Payable z3) fun z8 => Option.bind (pensionref21_Payable z3) fun z9 => Option.bind (pensionplain_Same_of_api_Span z8 z9) fun z10 => some z10 else some false) fun c2 => some c2
/- pension/pensionref1.Normal -/
def pensionref1_Normal_l (l_ : List Span) (rec_ : Int → Option Bool) (i_ : Int) : Option Bool :=
  if decide (i_ < (l_.length : Int)) = true then
    Option.bind (getI l_ i_) fun y => Option.bind (if decide (y.From < 0) = true then some true else Option.bind (getI l_ i_) fun y2 => Option.bind (getI l_ i_) fun y3 => some (decide (y3.To ≤ y2.From))) fun c => Option.bind (if c = true then some true else Option.bind (getI l_ i_) fun y4 => some (decide (73049 < y4.To))) fun c2 => Option.bind (if c2 = true then some true else Option.bind (if decide (0 < i_) = true then Option.bind (getI l_ (i64 (i_ - 1))) fun y5 => Option.bind (getI l_ i_) fun y6 => some (decide (y6.From ≤ y5.To)) else some false) fun c3 => some c3) fun c4 => if c4 = true then
      some false
    else
      rec_ (i64 (i_ + 1))
  else
    some true
def pensionref1_Normal (l_ : List Span) : Option Bool :=
  loopC FU (pensionref1_Normal_l l_) 0
/- pension/pensionref1.Subtract -/
def pensionref1_Subtract (a_ : List Span) (b_ : List Span) : Option (List Span) :=
  Option.bind (pensionref1_combine a_ b_ 3) fun z => some z
/- pension/pensionlaw25.SicknessSpellsAreApart -/
def pensionlaw25_SicknessSpellsAreApart_l (z2 : (List Span)) (z3 : (List Span)) (rec_ : Int → Option Bool) (i_ : Int) : Option Bool :=
  if decide (i_ < (z3.length : Int)) = true then
    Option.bind (getI z3 i_) fun y => Option.bind (getI z3 (i64 (i_ - 1))) fun y2 => if decide (i64 (y.From - y2.To) ≤ 56) = true then
      some false
    else
      rec_ (i64 (i_ + 1))
  else
    some (((z2.length : Int) == 0) == ((z3.length : Int) == 0))
def pensionlaw25_SicknessSpellsAreApart (l_ : List pensionlaw25_Raw) (from_ : Int) : Option Bool :=
  Option.bind (pensionlaw25_List l_ from_) fun z => Option.bind (sickness_Sick z) fun z2 => Option.bind (sickness_Spells z) fun z3 => Option.bind (pensionlaw25_awake) fun z4 => Option.bind (if (!z4) = true then some true else Option.bind (pensionref1_Normal z2) fun z5 => some (!z5)) fun c => Option.bind (if c = true then some true else Option.bind (pensionref1_Normal z3) fun z6 => some (!z6)) fun c2 => Option.bind (if c2 = true then some true else Option.bind (pensionref1_Subtract z2 z3) fun z7 => some (decide (0 < (z7.length : Int)))) fun c3 => if c3 = true then
    some false
  else
    loopC FU (pensionlaw25_SicknessSpellsAreApart_l z2 z3) 1
/- pension/pensionref1.MakeSpans -/
def pensionref1_MakeSpans (l_ : List Span) : Option (List Span) :=
  Option.bind (pensionref1_combine l_ [] 2) fun z => some z
/- pension/pensionref1.Days -/
def pensionref1_Days_l (z : (List Span)) (rec_ : (Int × Int) → Option Int) : (Int × Int) → Option Int
  | (n_, i_) =>
  if decide (i_ < (z.length : Int)) = true then
    Option.bind (getI z i_) fun y => Option.bind (getI z i_) fun y2 => rec_ (i64 (n_ + i64 (y.To - y2.From)), i64 (i_ + 1))
  else
    some n_
def pensionref1_Days (l_ : List Span) : Option Int :=
  Option.bind (pensionref1_MakeSpans l_) fun z => loopC FU (pensionref1_Days_l z) (0, 0)
/- pension/pensionref1.Prefix -/
def pensionref1_Prefix_l (z : (List Span)) (rec_ : (Int × (List Span) × Int) → Option (List Span)) : (Int × (List Span) × Int) → Option (List Span)
  | (n_2, out_, i_) =>
  if (decide (i_ < (z.length : Int)) && decide (0 < n_2)) = true then
    Option.bind (getI z i_) fun y => Option.bind (getI z i_) fun y2 => Option.bind (getI z i_) fun y3 => Option.bind (getI z i_) fun y4 => Option.bind (appI 16 out_ [(⟨y3.From, i64 (y4.From + min n_2 (i64 (y.To - y2.From)))⟩ : Span)]) fun l => rec_ (i64 (n_2 - (min n_2 (i64 (y.To - y2.From)))), l, i64 (i_ + 1))
  else
    some out_
def pensionref1_Prefix (l_ : List Span) (n_ : Int) : Option (List Span) :=
  Option.bind (pensionref1_MakeSpans l_) fun z => loopC FU (pensionref1_Prefix_l z) (n_, [], 0)
/- pension/pensionref1.Intersect -/
def pensionref1_Intersect (a_ : List Span) (b_ : List Span) : Option (List Span) :=
  Option.bind (pensionref1_combine a_ b_ 1) fun z => some z
/- pension/pensionlaw25.SicknessWaitingDays -/
def pensionlaw25_SicknessWaitingDays_l (z2 : (List Span)) (z3 : (List Span)) (z4 : (List Span)) (z8 : Int) (rec_ : Int → Option Bool) (x : Int) : Option Bool :=
  if decide (x < (z3.length : Int)) = true then
    Option.bind (getI z3 x) fun y => Option.bind (pensionref1_Clip z2 y) fun z9 => Option.bind (pensionref1_Prefix z9 3) fun z10 => Option.bind (pensionref1_Intersect z4 z10) fun z11 => if decide (0 < (z11.length : Int)) = true then
      some false
    else
      Option.bind (if decide (z8 ≤ 546) = true then Option.bind (pensionref1_Subtract z9 z10) fun z12 => Option.bind (pensionref1_Subtract z12 z4) fun z13 => some (decide (0 < (z13.length : Int))) else some false) fun c3 => if c3 = true then
        some false
      else
        rec_ (i64 (x + 1))
  else
    some true
def pensionlaw25_SicknessWaitingDays (d_ : List pensionlaw25_Raw) (i_ : Int) : Option Bool :=
  Option.bind (pensionlaw25_List d_ i_) fun z => Option.bind (sickness_Sick z) fun z2 => Option.bind (sickness_Spells z) fun z3 => Option.bind (sickness_Payable z) fun z4 => Option.bind (pensionlaw25_awake) fun z5 => Option.bind (if (!z5) = true then some true else Option.bind (pensionref1_Normal z4) fun z6 => some (!z6)) fun c => Option.bind (if c = true then some true else Option.bind (pensionref1_Subtract z4 z2) fun z7 => some (decide (0 < (z7.length : Int)))) fun c2 => if c2 = true then
    some false
  else
    Option.bind (pensionref1_Days z2) fun z8 => loopC FU (pensionlaw25_SicknessWaitingDays_l z2 z3 z4 z8) 0
/- pension/pensionref1.Nth -/
def pensionref1_Nth_l (z : (List Span)) (rec_ : (Int × Int) → Option (Int × Bool)) : (Int × Int) → Option (Int × Bool)
  | (n_2, i_) =>
  if (decide (i_ < (z.length : Int)) && decide (0 ≤ n_2)) = true then
    Option.bind (getI z i_) fun y => Option.bind (getI z i_) fun y2 => if decide (n_2 < i64 (y.To - y2.From)) = true then
      Option.bind (getI z i_) fun y3 => some (i64 (y3.From + n_2), true)
    else
      rec_ (i64 (n_2 - (i64 (y.To - y2.From))), i64 (i_ + 1))
  else
    some (0, false)
def pensionref1_Nth (l_ : List Span) (n_ : Int) : Option (Int × Bool) :=
  Option.bind (pensionref1_MakeSpans l_) fun z => loopC FU (pensionref1_Nth_l z) (n_, 0)
/- pension/pensionlaw25.SicknessMostDays -/
def pensionlaw25_SicknessMostDays_l (z2 : (List Span)) (z3 : (List Span)) (z4 : (List Span)) (z8 : Int × Bool) (z10 : Int) (rec_ : (Bool × Int) → Option Bool) : (Bool × Int) → Option Bool
  | (x, x2) =>
  if decide (x2 < (z3.length : Int)) = true then
    Option.bind (if x = true then some true else Option.bind (getI z3 x2) fun y => Option.bind (pensionref1_Clip z2 y) fun z11 => Option.bind (pensionref1_Prefix z11 3) fun z12 => Option.bind (pensionref1_Contains z12 z8.1) fun z13 => some z13) fun c => rec_ (c, i64 (x2 + 1))
  else
    Option.bind (pensionref1_Contains z4 z8.1) fun z14 => some (z14 == ((!x) && decide (z10 < 546)))
def pensionlaw25_SicknessMostDays (d_ : List pensionlaw25_Raw) (i_ : Int) (p_ : Int) : Option Bool :=
  Option.bind (pensionlaw25_List d_ i_) fun z => Option.bind (sickness_Sick z) fun z2 => Option.bind (sickness_Spells z) fun z3 => Option.bind (sickness_Payable z) fun z4 => Option.bind (pensionlaw25_awake) fun z5 => if (!z5) = true then
    some false
  else
    Option.bind (pensionref1_Days z2) fun z6 => if (z6 == 0) = true then
      some ((z4.length : Int) == 0)
    else
      Option.bind (pensionplain_Mod p_ z6) fun z7 => Option.bind (pensionref1_Nth z2 z7) fun z8 => if (!z8.2) = true then
        some false
      else
        Option.bind (pensionref1_Clip z4 (⟨i64 (z8.1 - 1094), z8.1⟩ : Span)) fun z9 => Option.bind (pensionref1_Days z9) fun z10 => if decide (546 < z10) = true then
          some false
        else
          loopC FU (pensionlaw25_SicknessMostDays_l z2 z3 z4 z8 z10) (false, 0)
end Go.PL
