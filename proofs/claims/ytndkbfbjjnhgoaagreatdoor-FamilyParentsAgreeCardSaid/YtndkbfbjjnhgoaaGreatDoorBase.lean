/- What the printed functions stand on; sort.Slice as a function of lists. It holds for every program. -/
import Derived.Sort.Defs
import Derived.Test.YtndkbfbjjnhgoaaGreatDoorBox
import Derived.Test.YtndkbfbjjnhgoaaGreatDoorSortK
namespace Go.PL
open Go
/-- sort.Slice by an order of the elements. -/
def sortSF {α : Type} [Inhabited α] (lt : α → α → Bool) (l : List α) : Option (List α) :=
  if l.length ≤ 1 then some l else if l.length < 4611686018427387904 then some (Go.Sort.pdq lt l.toArray 0 l.length (Lib.bitLen l.length) true true).toList else none
end Go.PL
