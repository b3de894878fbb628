/-
  READING AN EXPRESSION.
-/
import Derived.Test.YtoiblgbaeglgoaaWSR
import Derived.Test.YtoiblgbaeglgoaaWQD
namespace Go.Proofs.Ytoiblgbaeglgoaa
open Go Go.Am Go.ChangeShapes Go.WideShapes Go.ChangeAt Go.RowKit Go.Deep
section
variable {H : Type} {enc : TypeId × Value → H} {w : World} {base : Nat} {spare : Nat → Bool} {held : Bool}
theorem slimX {n : Nat} {cs : List Value} {d : DataW H} {p : List MemPlace} (h : DataW.trod enc Try.prog w base spare held n 51 cs = some (d, p)) : Slim (exD d) :=
 zns Try.underlying51 rfl Try.underlying22 _ d (Nat.le_refl _) _ _ _ h
end
end Go.Proofs.Ytoiblgbaeglgoaa
