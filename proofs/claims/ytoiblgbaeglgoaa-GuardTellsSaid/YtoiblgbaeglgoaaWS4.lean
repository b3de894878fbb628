/-
  SMALL SEQUENCES; STROKES THAT SUIT: ref14.Few, ref13.Suits.
-/
import Derived.Test.YtoiblgbaeglgoaaWS2
namespace Go.Proofs.Ytoiblgbaeglgoaa
open Go Go.Am
def suitB (x : List Bool) (l : List Sk) : Bool := l.all fun s => !(x.getD s.a.toNat false == s.o)
end Go.Proofs.Ytoiblgbaeglgoaa
