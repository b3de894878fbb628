/-
  WHETHER STROKES LEAD HOME: homing.Check, and the reference's.
-/
import Derived.Test.YtoiblgbaeglgoaaYH5
namespace Go.Proofs.Ytoiblgbaeglgoaa
open Go Go.Am

end Go.Proofs.Ytoiblgbaeglgoaa
