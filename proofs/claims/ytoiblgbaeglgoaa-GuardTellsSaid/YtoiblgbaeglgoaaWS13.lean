/-
  THE CHOICES OF A STEP: the loops of guard.Danger.
-/
import Derived.Test.YtoiblgbaeglgoaaWS12
import Derived.Test.YtoiblgbaeglgoaaWG1
namespace Go.Proofs.Ytoiblgbaeglgoaa
open Go Go.Am
noncomputable def ca18_0 : Code := match env0.fn 18 with
 | some i => ((zc4 i.ic)[0]?.getD (.skip, .skip)).1
 | none => .skip
noncomputable def cb18_0 : Code := match env0.fn 18 with
 | some i => ((zc4 i.ic)[0]?.getD (.skip, .skip)).2
 | none => .skip
section
variable {w0 : World} {N0 : Nat} {k : List Fr} {Q : Exit → AS → Prop}
end
end Go.Proofs.Ytoiblgbaeglgoaa
