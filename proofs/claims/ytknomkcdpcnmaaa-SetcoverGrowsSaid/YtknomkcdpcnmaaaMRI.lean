/-
  THE GREEDY CHOICE OF THE REFERENCE: Greedy.
-/
import Derived.Test.YtknomkcdpcnmaaaMV4
import Derived.Test.YtknomkcdpcnmaaaMVA
import Derived.Test.YtknomkcdpcnmaaaMS0
import Derived.Test.YtknomkcdpcnmaaaMVD
import Derived.Test.YtknomkcdpcnmaaaMP4
import Derived.Test.YtknomkcdpcnmaaaMVN
namespace Go.Proofs.Ytknomkcdpcnmaaa
open Go Go.Am
def resL (out : List Int) (i : Nat) : List Int := ((List.range i).filter fun k => out.contains ((k : Nat) : Int)).map fun k : Nat => ((k : Nat) : Int)
end Go.Proofs.Ytknomkcdpcnmaaa
