/-
  ALL LISTS OF THE REFERENCE: the walk of Lists.
-/
import Derived.Test.YtknomkcdpcnmaaaKRA
namespace Go.Proofs.Ytknomkcdpcnmaaa
open Go Go.Am
end Go.Proofs.Ytknomkcdpcnmaaa
