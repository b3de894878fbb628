/-
  WHAT EVERY LAW OF THE SEAT SHARES.
-/
import Derived.Test.YtofkihmckookjaaT2
import Derived.Test.YtofkihmckookjaaRows
import Derived.JoinedCond
namespace Go.Proofs.Ytofkihmckookjaa
open Go Go.Am Go.ChangeShapes Go.WideShapes Go.ChangeAt Go.RowKit

theorem own : ownKnob Try.prog.godebug = none := by kernel_rfl

theorem gok {W : World} : GOk (fun _ => True) W := fun _ hx => absurd hx List.not_mem_nil

theorem solid : Solid Try.prog Try.prog.types.size := solid_of (by kernel_rfl)

theorem awake13 : PF Try.prog 13 [] (.bool true) := tabA_ok _ (List.mem_cons_self ..) _ (List.mem_cons_self ..)

end Go.Proofs.Ytofkihmckookjaa
