/-
  MEMBERS OF LISTS OF TRUTH VALUES: slices.Contains.
-/
import Derived.Test.YtoiblgbaeglgoaaWS7
namespace Go.Proofs.Ytoiblgbaeglgoaa
open Go Go.Am
-- slices.Index[[]bool,bool]
-- slices.Contains[[]bool,bool]
end Go.Proofs.Ytoiblgbaeglgoaa
