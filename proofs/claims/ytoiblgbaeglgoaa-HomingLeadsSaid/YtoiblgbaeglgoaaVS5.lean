/-
  ENDS BEHIND A STEP: ref13.After.
-/
import Derived.Test.YtoiblgbaeglgoaaVS4
import Derived.Test.YtoiblgbaeglgoaaVA9
namespace Go.Proofs.Ytoiblgbaeglgoaa
open Go Go.Am

end Go.Proofs.Ytoiblgbaeglgoaa
