/-
  LISTS THAT ARE APART, OF THE REFERENCE: Lonely, Apart, Bound.
-/
import Derived.Test.YtknomkcdpcnmaaaKRE
import Derived.Test.YtknomkcdpcnmaaaKVI
namespace Go.Proofs.Ytknomkcdpcnmaaa
open Go Go.Am
def zh4 (c : List Int) : BitVec 64 := c.foldl (fun a k => a ||| (1#64 <<< k.toNat)) 0
def zfn (s : List (BitVec 64)) (c : List Int) : Bool := s.all fun x => decide (szB (x &&& zh4 c) ≤ 1)
end Go.Proofs.Ytknomkcdpcnmaaa
