/-
  THE FIRST HOMING: the reference's Home and Find; the law of homings.
-/
import Derived.Test.YtoiblgbaeglgoaaYH15
namespace Go.Proofs.Ytoiblgbaeglgoaa
open Go Go.Am

end Go.Proofs.Ytoiblgbaeglgoaa
