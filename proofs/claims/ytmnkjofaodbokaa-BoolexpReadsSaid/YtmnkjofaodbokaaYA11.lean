/-
  AN ABSTRACT MACHINE FOR PROOFS, PART 11. A general base for proofs: no program is named here.
-/
import Derived.Test.YtmnkjofaodbokaaYA10
import Derived.Lib.SmallJoins
import Derived.Sort.Grow
import Derived.Lib.SlicesCompact
namespace Go.Am
open Go Go.RowKit
end Go.Am
namespace Go.Am
open Go Go.RowKit
section
variable {P : Program} {w0 : World} {N0 : Nat}
end
end Go.Am
