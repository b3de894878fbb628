/-
  THE EXACT COVERS OF THE REFERENCE: Size, exactly, Exact.
-/
import Derived.Test.YtknomkcdpcnmaaaKRB
import Derived.Test.YtknomkcdpcnmaaaKVD
import Derived.Test.YtknomkcdpcnmaaaKP4
namespace Go.Proofs.Ytknomkcdpcnmaaa
open Go Go.Am
end Go.Proofs.Ytknomkcdpcnmaaa
