/-
  THE SETS THAT ARE NEEDED, OF THE REFERENCE: Needed.
-/
import Derived.Test.YtknomkcdpcnmaaaMV4
import Derived.Test.YtknomkcdpcnmaaaMVA
import Derived.Test.YtknomkcdpcnmaaaMS0
import Derived.Test.YtknomkcdpcnmaaaMVB
namespace Go.Proofs.Ytknomkcdpcnmaaa
open Go Go.Am
def zcc (m : Nat) : List Int := (List.range m).map fun k : Nat => ((k : Nat) : Int)
theorem zbu (m : Nat) : zcc (m + 1) = zcc m ++ [(m : Int)] := by
 unfold zcc
 rw [List.range_succ, List.map_append]
 rfl
end Go.Proofs.Ytknomkcdpcnmaaa
