/-
  ENDS BEHIND A STEP: ref13.After.
-/
import Derived.Test.YtoiblgbaeglgoaaWS4
import Derived.Test.YtoiblgbaeglgoaaWA9
namespace Go.Proofs.Ytoiblgbaeglgoaa
open Go Go.Am
def aft (x : List Bool) (l : List Sk) : List Bool := l.foldl (fun x s => x.set s.a.toNat s.o) x
theorem zr6 (l : List Sk) : ∀ x : List Bool, (aft x l).length = x.length := by
 induction l with
 | nil => exact fun _ => rfl
 | cons s l ih =>
  intro x
  show (aft (x.set s.a.toNat s.o) l).length = _
  rw [ih, List.length_set]
end Go.Proofs.Ytoiblgbaeglgoaa
