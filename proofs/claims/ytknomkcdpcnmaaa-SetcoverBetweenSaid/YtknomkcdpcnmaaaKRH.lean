/-
  LISTS THAT ARE APART, OF THE REFERENCE: Apart, Bound.
-/
import Derived.Test.YtknomkcdpcnmaaaKRG
namespace Go.Proofs.Ytknomkcdpcnmaaa
open Go Go.Am
def boR (N : Nat) (s : List (BitVec 64)) : Nat → Option (List Int)
 | 0 => none
 | k + 1 => ((asc N (k + 1) 0).find? (zfn s)).or (boR N s k)
end Go.Proofs.Ytknomkcdpcnmaaa
