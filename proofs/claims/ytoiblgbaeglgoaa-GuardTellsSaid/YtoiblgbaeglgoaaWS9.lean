/-
  SEQUENCES THAT CAN BE CARRIED OUT: sequence.Check.
-/
import Derived.Test.YtoiblgbaeglgoaaWD1
import Derived.Test.YtoiblgbaeglgoaaWS0
namespace Go.Proofs.Ytoiblgbaeglgoaa
open Go Go.Am
section
variable {w0 : World} {N0 : Nat} {k : List Fr} {Q : Exit → AS → Prop}
end
end Go.Proofs.Ytoiblgbaeglgoaa
