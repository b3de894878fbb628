/-
  ENDS BEHIND A STEP: ref13.After.
-/
import Derived.Test.YtoiblgbaeglgoaaYS4
import Derived.Test.YtoiblgbaeglgoaaYA9
namespace Go.Proofs.Ytoiblgbaeglgoaa
open Go Go.Am

end Go.Proofs.Ytoiblgbaeglgoaa
