/-
  SMALL SEQUENCES; STROKES THAT SUIT: ref14.Few, ref13.Suits.
-/
import Derived.Test.YtoiblgbaeglgoaaYS2
namespace Go.Proofs.Ytoiblgbaeglgoaa
open Go Go.Am

end Go.Proofs.Ytoiblgbaeglgoaa
