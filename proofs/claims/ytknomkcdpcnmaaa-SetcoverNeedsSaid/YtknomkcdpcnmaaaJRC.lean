/-
  THE FIRST AND THE FEWEST OF THE REFERENCE: First, Fewest.
-/
import Derived.Test.YtknomkcdpcnmaaaJRB
import Derived.Test.YtknomkcdpcnmaaaJVB
namespace Go.Proofs.Ytknomkcdpcnmaaa
open Go Go.Am
end Go.Proofs.Ytknomkcdpcnmaaa
