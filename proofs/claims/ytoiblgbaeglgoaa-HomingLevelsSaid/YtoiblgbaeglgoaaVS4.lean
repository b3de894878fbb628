/-
  SMALL SEQUENCES; STROKES THAT SUIT: ref14.Few, ref13.Suits.
-/
import Derived.Test.YtoiblgbaeglgoaaVS2
namespace Go.Proofs.Ytoiblgbaeglgoaa
open Go Go.Am

end Go.Proofs.Ytoiblgbaeglgoaa
