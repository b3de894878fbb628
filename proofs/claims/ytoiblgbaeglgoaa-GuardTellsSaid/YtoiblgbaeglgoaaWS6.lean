/-
  ENDS BEHIND A STEP: sequence.ends.behind.
-/
import Derived.Test.YtoiblgbaeglgoaaWS5
namespace Go.Proofs.Ytoiblgbaeglgoaa
open Go Go.Am
-- (pneumatic/sequence.ends).behind
end Go.Proofs.Ytoiblgbaeglgoaa
