/-
  THE CHOICES OF A STEP, in guard.Danger: both loops, and the choices as contents.
-/
import Derived.Test.YtoiblgbaeglgoaaWS15
namespace Go.Proofs.Ytoiblgbaeglgoaa
open Go Go.Am
section
variable {w0 : World} {N0 : Nat} {k : List Fr} {Q : Exit → AS → Prop}
end
end Go.Proofs.Ytoiblgbaeglgoaa
