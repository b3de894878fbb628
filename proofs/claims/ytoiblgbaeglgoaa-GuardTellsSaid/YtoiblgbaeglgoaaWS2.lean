/-
  WAYS OF ACTUATORS, SMALL SEQUENCES: ref13.Way, ref14.moves, ref14.Few.
-/
import Derived.Test.YtoiblgbaeglgoaaWS1
namespace Go.Proofs.Ytoiblgbaeglgoaa
open Go Go.Am
def wayI (a : Int) : List Sk → Int
 | [] => 0
 | s :: r => if (s.a == a) = true then (if s.o = true then 1 else -1) else wayI a r
def movB (a : Int) : List Sp → Bool
 | [] => false
 | p :: r => if (wayI a p.l != 0) = true then true else movB a r
end Go.Proofs.Ytoiblgbaeglgoaa
