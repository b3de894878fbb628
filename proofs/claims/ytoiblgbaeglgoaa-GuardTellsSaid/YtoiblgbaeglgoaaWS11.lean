/-
  THE POSITIONS OF A STEP, IN THE REFERENCE: ref14.Behind, ref.Stations.
-/
import Derived.Test.YtoiblgbaeglgoaaWS10
import Derived.Test.YtoiblgbaeglgoaaWP3
namespace Go.Proofs.Ytoiblgbaeglgoaa
open Go Go.Am
section
variable {w0 : World} {N0 : Nat} {k : List Fr} {Q : Exit → AS → Prop}
theorem StpOk.len {n : Int} {E : List Bool} {p : Sp} (h : StpOk n E p) : p.l.length ≤ 6 := (spC_ok h.sp).1
end
end Go.Proofs.Ytoiblgbaeglgoaa
