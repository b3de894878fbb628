/-
  SEQUENCES THAT CAN BE CARRIED OUT, IN THE REFERENCE: ref14.steps, ref14.Check, ref14.Behind.
-/
import Derived.Test.YtoiblgbaeglgoaaWD2
import Derived.Test.YtoiblgbaeglgoaaWS0
namespace Go.Proofs.Ytoiblgbaeglgoaa
open Go Go.Am
section
variable {w0 : World} {N0 : Nat} {k : List Fr} {Q : Exit → AS → Prop}
end
end Go.Proofs.Ytoiblgbaeglgoaa
