/-
  DANGERS: guard.Danger.
-/
import Derived.Test.YtoiblgbaeglgoaaWS16
import Derived.Test.YtoiblgbaeglgoaaWS9
import Derived.Test.YtoiblgbaeglgoaaWA10
namespace Go.Proofs.Ytoiblgbaeglgoaa
open Go Go.Am
section
variable {w0 : World} {N0 : Nat} {k : List Fr} {Q : Exit → AS → Prop}
end
end Go.Proofs.Ytoiblgbaeglgoaa
