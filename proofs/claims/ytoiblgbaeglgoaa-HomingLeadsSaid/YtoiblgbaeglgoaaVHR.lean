/-
  READING THE ARGUMENTS: lists of ends, of numbers, of strokes.
-/
import Derived.Test.YtoiblgbaeglgoaaVH3
import Derived.Test.YtoiblgbaeglgoaaVBase
namespace Go.Proofs.Ytoiblgbaeglgoaa
open Go Go.Am Go.ChangeShapes Go.WideShapes Go.ChangeAt Go.RowKit Go.Deep

section
variable {H : Type} {enc : TypeId × Value → H} {w : World} {base : Nat} {spare : Nat → Bool} {held : Bool}

theorem rdO : Rd enc Try.prog w base spare held 4 cBool := rd_bool Try.underlying4 (by kernel_rfl)

theorem rdB : Rd enc Try.prog w base spare held 42 (cSlice cBool) :=
  rd_slice Try.underlying42 (by kernel_rfl) (by rw [show Try.prog.cellsOf 4 = 1 from by kernel_rfl]; decide) rdO

end

end Go.Proofs.Ytoiblgbaeglgoaa
