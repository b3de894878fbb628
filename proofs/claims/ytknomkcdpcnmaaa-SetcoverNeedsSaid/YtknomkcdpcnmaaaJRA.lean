/-
  ALL LISTS OF THE REFERENCE: Lists.
-/
import Derived.Test.YtknomkcdpcnmaaaJV4
import Derived.Test.YtknomkcdpcnmaaaJVA
import Derived.Test.YtknomkcdpcnmaaaJS0
namespace Go.Proofs.Ytknomkcdpcnmaaa
open Go Go.Am
end Go.Proofs.Ytknomkcdpcnmaaa
