/-
  THE FIRST HOMING: homing.Find, and the reference's; the law of homings.
-/
import Derived.Test.YtoiblgbaeglgoaaVH14
import Derived.Test.YtoiblgbaeglgoaaVT3d
namespace Go.Proofs.Ytoiblgbaeglgoaa
open Go Go.Am

end Go.Proofs.Ytoiblgbaeglgoaa
