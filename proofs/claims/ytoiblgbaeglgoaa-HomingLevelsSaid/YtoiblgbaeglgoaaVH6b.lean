/-
  WHETHER STROKES LEAD HOME: homing.Check, and the reference's.
-/
import Derived.Test.YtoiblgbaeglgoaaVH5
namespace Go.Proofs.Ytoiblgbaeglgoaa
open Go Go.Am

end Go.Proofs.Ytoiblgbaeglgoaa
