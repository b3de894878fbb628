/-
  THE GREEDY CHOICE OF THE REFERENCE: Greedy.
-/
import Derived.Test.YtknomkcdpcnmaaaERE
import Derived.Test.YtknomkcdpcnmaaaEVN
namespace Go.Proofs.Ytknomkcdpcnmaaa
open Go Go.Am
def resL (out : List Int) (i : Nat) : List Int := ((List.range i).filter fun k => out.contains ((k : Nat) : Int)).map fun k : Nat => ((k : Nat) : Int)
end Go.Proofs.Ytknomkcdpcnmaaa
