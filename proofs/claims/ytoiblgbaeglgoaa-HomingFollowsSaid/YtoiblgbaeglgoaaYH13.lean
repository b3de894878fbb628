/-
  THE REFERENCE's LEVELS: All, its walk; Levels twice.
-/
import Derived.Test.YtoiblgbaeglgoaaYH12
namespace Go.Proofs.Ytoiblgbaeglgoaa
open Go Go.Am

end Go.Proofs.Ytoiblgbaeglgoaa
