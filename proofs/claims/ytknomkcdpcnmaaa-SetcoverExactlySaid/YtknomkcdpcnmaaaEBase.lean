/-
  WHAT EVERY LAW OF THE SEAT SHARES.
-/
import Derived.Test.YtknomkcdpcnmaaaET1
import Derived.Test.YtknomkcdpcnmaaaRows
import Derived.JoinedCond
namespace Go.Proofs.Ytknomkcdpcnmaaa
open Go Go.Am Go.ChangeShapes Go.WideShapes Go.ChangeAt Go.RowKit
theorem own : ownKnob Try.prog.godebug = none := by kernel_rfl
theorem gok {W : World} : GOk (fun _ => True) W := fun _ hx => absurd hx List.not_mem_nil
theorem solid : zse Try.prog Try.prog.types.size := solid_of (by kernel_rfl)
end Go.Proofs.Ytknomkcdpcnmaaa
