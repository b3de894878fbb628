/-
  DANGERS IN THE REFERENCE: ref.Danger.
-/
import Derived.Test.YtoiblgbaeglgoaaWS11
namespace Go.Proofs.Ytoiblgbaeglgoaa
open Go Go.Am
section
variable {w0 : World} {N0 : Nat} {k : List Fr} {Q : Exit → AS → Prop}
end
end Go.Proofs.Ytoiblgbaeglgoaa
