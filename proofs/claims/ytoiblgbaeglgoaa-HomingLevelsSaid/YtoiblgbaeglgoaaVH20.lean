/-
  WITHOUT AN EXPRESSION NO LEVEL IS GREATER: the plain law, and the walk.
-/
import Derived.Test.YtoiblgbaeglgoaaVH18
import Derived.Test.YtoiblgbaeglgoaaVCB
namespace Go.Proofs.Ytoiblgbaeglgoaa
open Go Go.Am

theorem beq_neH {a b : Nat} (h : a ≠ b) : Nat.beq a b = false := by
  cases hb : Nat.beq a b with
  | false => rfl
  | true => exact absurd (Nat.eq_of_beq_eq_true hb) h

end Go.Proofs.Ytoiblgbaeglgoaa
