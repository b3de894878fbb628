/-
  READING A SEQUENCE.
-/
import Derived.Test.YtoiblgbaeglgoaaWS8
import Derived.Test.YtoiblgbaeglgoaaWBase
namespace Go.Proofs.Ytoiblgbaeglgoaa
open Go Go.Am Go.ChangeShapes Go.WideShapes Go.ChangeAt Go.RowKit Go.Deep
section
variable {H : Type} {enc : TypeId × Value → H} {w : World} {base : Nat} {spare : Nat → Bool} {held : Bool}
theorem rqN : Rd enc Try.prog w base spare held 3 (cInt .i64) := zuz Try.underlying3 (by kernel_rfl)
end
end Go.Proofs.Ytoiblgbaeglgoaa
