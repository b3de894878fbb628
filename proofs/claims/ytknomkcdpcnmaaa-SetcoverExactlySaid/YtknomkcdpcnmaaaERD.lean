/-
  THE SETS THAT ARE NEEDED, OF THE REFERENCE: Needed.
-/
import Derived.Test.YtknomkcdpcnmaaaEV4
import Derived.Test.YtknomkcdpcnmaaaEVA
import Derived.Test.YtknomkcdpcnmaaaES0
import Derived.Test.YtknomkcdpcnmaaaEVB
namespace Go.Proofs.Ytknomkcdpcnmaaa
open Go Go.Am
def zcb (m : Nat) : List Int := (List.range m).map fun k : Nat => ((k : Nat) : Int)
theorem zbs (m : Nat) : zcb (m + 1) = zcb m ++ [(m : Int)] := by
 unfold zcb
 rw [List.range_succ, List.map_append]
 rfl
end Go.Proofs.Ytknomkcdpcnmaaa
