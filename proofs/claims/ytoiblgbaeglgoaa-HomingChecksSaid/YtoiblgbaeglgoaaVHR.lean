/-
  READING THE ARGUMENTS: lists of ends, of numbers, of strokes.
-/
import Derived.Test.YtoiblgbaeglgoaaVH3
import Derived.Test.YtoiblgbaeglgoaaVBase
namespace Go.Proofs.Ytoiblgbaeglgoaa
open Go Go.Am Go.ChangeShapes Go.WideShapes Go.ChangeAt Go.RowKit Go.Deep

section
variable {H : Type} {enc : TypeId × Value → H} {w : World} {base : Nat} {spare : Nat → Bool} {held : Bool}

def skD (d : DataW H) : Sk := ⟨intD ((fieldsD d).headD .nil), boolD ((fieldsD d).tail.headD .nil)⟩

theorem rdN : Rd enc Try.prog w base spare held 3 (cInt .i64) := rd_int Try.underlying3 (by kernel_rfl)

theorem rdO : Rd enc Try.prog w base spare held 4 cBool := rd_bool Try.underlying4 (by kernel_rfl)

theorem rdB : Rd enc Try.prog w base spare held 42 (cSlice cBool) :=
  rd_slice Try.underlying42 (by kernel_rfl) (by rw [show Try.prog.cellsOf 4 = 1 from by kernel_rfl]; decide) rdO

theorem rdK : Rd enc Try.prog w base spare held 71 (cStruct [cInt .i64, cBool]) := by
  refine rd_struct Try.underlying71 rfl (by kernel_rfl) fun i f g e1 e2 => ?_
  match i, e1, e2 with
  | 0, e1, e2 => injection e1 with e1; injection e2 with e2; subst e1 e2; exact rdN
  | 1, e1, e2 => injection e1 with e1; injection e2 with e2; subst e1 e2; exact rdO
  | i + 2, e1, e2 => simp at e1

theorem rdS : Rd enc Try.prog w base spare held 45 (cSlice (cStruct [cInt .i64, cBool])) :=
  rd_slice Try.underlying45 (by kernel_rfl) (by rw [show Try.prog.cellsOf 71 = 2 from by kernel_rfl]; decide) rdK

end

end Go.Proofs.Ytoiblgbaeglgoaa
