/-
  STEPS IN THE REFERENCE: ref13.CheckStep.
-/
import Derived.Test.YtoiblgbaeglgoaaWS2
namespace Go.Proofs.Ytoiblgbaeglgoaa
open Go Go.Am
end Go.Proofs.Ytoiblgbaeglgoaa
