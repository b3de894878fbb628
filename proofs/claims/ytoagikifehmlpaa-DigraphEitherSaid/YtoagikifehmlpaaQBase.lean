/-
  WHAT EVERY LAW OF THE SEAT SHARES.
-/
import Derived.Test.YtoagikifehmlpaaQT1
import Derived.Test.YtoagikifehmlpaaRows
import Derived.JoinedCond
namespace Go.Proofs.Ytoagikifehmlpaa
open Go Go.Am Go.ChangeShapes Go.WideShapes Go.ChangeAt Go.RowKit
theorem own : ownKnob Try.prog.godebug = none := by kernel_rfl
theorem gok {W : World} : GOk (fun _ => True) W := fun _ hx => absurd hx List.not_mem_nil
theorem solid : zqe Try.prog Try.prog.types.size := solid_of (by kernel_rfl)
end Go.Proofs.Ytoagikifehmlpaa
