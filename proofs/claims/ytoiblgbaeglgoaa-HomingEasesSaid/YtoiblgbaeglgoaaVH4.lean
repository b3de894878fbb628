/-
  A STROKE THAT IS PERMITTED, FOR THE REFERENCE: free, May, Moves, Permitted.
-/
import Derived.Test.YtoiblgbaeglgoaaVH3
import Derived.Test.YtoiblgbaeglgoaaVS5
namespace Go.Proofs.Ytoiblgbaeglgoaa
open Go Go.Am

end Go.Proofs.Ytoiblgbaeglgoaa
