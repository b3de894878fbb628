/-
  STROKES AND STEPS: stroke.CheckStep.
-/
import Derived.Test.YtoiblgbaeglgoaaYPA
namespace Go.Proofs.Ytoiblgbaeglgoaa
open Go Go.Am

structure Sk where
  a : Int
  o : Bool

structure Sp where
  l : List Sk
  w : Int

def cS (s : Sk) : List AV := [.int .i64 s.a, .bool s.o]
def cSs (l : List Sk) : List (List AV) := l.map cS
theorem cSs_length (l : List Sk) : (cSs l).length = l.length := List.length_map ..
theorem cSs_get {l : List Sk} {i : Nat} (h : i < l.length) : (cSs l)[((i : Nat) : Int).toNat]? = some (cS l[i]) := by
  unfold cSs
  rw [Int.toNat_natCast, List.getElem?_map, List.getElem?_eq_getElem h]
  rfl

end Go.Proofs.Ytoiblgbaeglgoaa
