/-
  READING THE ARGUMENTS: lists of ends, of numbers, of strokes.
-/
import Derived.Test.YtoiblgbaeglgoaaYH3
import Derived.Test.YtoiblgbaeglgoaaYBase
namespace Go.Proofs.Ytoiblgbaeglgoaa
open Go Go.Am Go.ChangeShapes Go.WideShapes Go.ChangeAt Go.RowKit Go.Deep

section
variable {H : Type} {enc : TypeId × Value → H} {w : World} {base : Nat} {spare : Nat → Bool} {held : Bool}

theorem rdN : Rd enc Try.prog w base spare held 3 (cInt .i64) := rd_int Try.underlying3 (by kernel_rfl)

end

end Go.Proofs.Ytoiblgbaeglgoaa
