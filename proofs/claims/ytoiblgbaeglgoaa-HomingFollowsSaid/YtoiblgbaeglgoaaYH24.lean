/-
  LEVELS LEAD HOME: the law's walk.
-/
import Derived.Test.YtoiblgbaeglgoaaYH23
namespace Go.Proofs.Ytoiblgbaeglgoaa
open Go Go.Am

end Go.Proofs.Ytoiblgbaeglgoaa
