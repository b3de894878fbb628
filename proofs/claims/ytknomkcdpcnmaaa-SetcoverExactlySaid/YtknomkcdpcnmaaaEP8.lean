/-
  WHAT BOUNDS COMPARES: the plain law of Greedy.
-/
import Derived.Test.YtknomkcdpcnmaaaERI
import Derived.Test.YtknomkcdpcnmaaaEP4
namespace Go.Proofs.Ytknomkcdpcnmaaa
open Go Go.Am
theorem zcl (l : List Int) (i k : Nat) (v : Int) (h : i < l.length) : (l.set i v).getD k 0 = if i = k then v else l.getD k 0 := by
 rw [List.getD_eq_getElem?_getD, List.getElem?_set, List.getD_eq_getElem?_getD]
 by_cases e : i = k
 ·rw [if_pos e, if_pos (by omega), if_pos e]
  rfl
 ·rw [if_neg e, if_neg e]
end Go.Proofs.Ytknomkcdpcnmaaa
