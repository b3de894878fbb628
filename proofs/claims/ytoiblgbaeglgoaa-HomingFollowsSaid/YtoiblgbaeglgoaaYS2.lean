/-
  WAYS OF ACTUATORS, SMALL SEQUENCES: ref13.Way, ref14.moves, ref14.Few.
-/
import Derived.Test.YtoiblgbaeglgoaaYS1
namespace Go.Proofs.Ytoiblgbaeglgoaa
open Go Go.Am

end Go.Proofs.Ytoiblgbaeglgoaa
