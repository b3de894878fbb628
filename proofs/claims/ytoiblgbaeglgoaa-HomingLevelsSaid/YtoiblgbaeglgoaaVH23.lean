/-
  LEVELS ARE A LEVELLING, AND HOMINGS ARE AS LONG AS THEY SAY: the plain law.
-/
import Derived.Test.YtoiblgbaeglgoaaVH22
import Derived.Test.YtoiblgbaeglgoaaVH20
import Derived.Test.YtoiblgbaeglgoaaVH6b
namespace Go.Proofs.Ytoiblgbaeglgoaa
open Go Go.Am

end Go.Proofs.Ytoiblgbaeglgoaa
