/-
  THE SETS THAT ARE NEEDED: setcover.Needed.
-/
import Derived.Test.YtknomkcdpcnmaaaKV4
import Derived.Test.YtknomkcdpcnmaaaKS0
namespace Go.Proofs.Ytknomkcdpcnmaaa
open Go Go.Am
def zgn (s : List (BitVec 64)) (i : Nat) : BitVec 64 × BitVec 64 := (s.take i).foldl (fun a x => (a.1 ||| x, a.2 ||| (a.1 &&& x))) (0#64, 0#64)
theorem zl8 {s : List (BitVec 64)} {i : Nat} (h : i < s.length) : zgn s (i + 1) = ((zgn s i).1 ||| s[i], (zgn s i).2 ||| ((zgn s i).1 &&& s[i])) := by
 unfold zgn
 rw [List.take_add_one, List.getElem?_eq_getElem h, List.foldl_append]
 rfl
end Go.Proofs.Ytknomkcdpcnmaaa
