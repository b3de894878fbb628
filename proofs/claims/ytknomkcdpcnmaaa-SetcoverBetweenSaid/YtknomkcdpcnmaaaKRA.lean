/-
  ALL LISTS OF THE REFERENCE: Lists.
-/
import Derived.Test.YtknomkcdpcnmaaaKV4
import Derived.Test.YtknomkcdpcnmaaaKVA
import Derived.Test.YtknomkcdpcnmaaaKS0
namespace Go.Proofs.Ytknomkcdpcnmaaa
open Go Go.Am
end Go.Proofs.Ytknomkcdpcnmaaa
