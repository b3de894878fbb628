/-
  ALL LISTS OF THE REFERENCE: the walk of Lists.
-/
import Derived.Test.YtknomkcdpcnmaaaJRA
namespace Go.Proofs.Ytknomkcdpcnmaaa
open Go Go.Am
end Go.Proofs.Ytknomkcdpcnmaaa
