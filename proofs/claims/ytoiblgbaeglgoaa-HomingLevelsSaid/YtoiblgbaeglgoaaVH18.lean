/-
  STROKES AND THE OPPOSITE ONES: the law's walk.
-/
import Derived.Test.YtoiblgbaeglgoaaVH17
namespace Go.Proofs.Ytoiblgbaeglgoaa
open Go Go.Am

-- slices.Index[[]pneumatic/api.Stroke,pneumatic/api.Stroke]
-- slices.Contains[[]pneumatic/api.Stroke,pneumatic/api.Stroke]
end Go.Proofs.Ytoiblgbaeglgoaa
