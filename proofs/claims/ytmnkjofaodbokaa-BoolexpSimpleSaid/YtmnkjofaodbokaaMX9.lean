/-
  WHAT EVERY LAW OF THE SEAT SHARES.; READING THE ARGUMENTS.
-/
import Derived.Test.YtmnkjofaodbokaaMX8
import Derived.Test.YtmnkjofaodbokaaRows
import Derived.JoinedCond
namespace Go.Proofs.Ytmnkjofaodbokaa
open Go Go.Am Go.ChangeShapes Go.WideShapes Go.ChangeAt Go.RowKit
theorem own : ownKnob Try.prog.godebug = none := by kernel_rfl
theorem gok {W : World} : GOk (fun _ => True) W := fun _ hx => absurd hx List.not_mem_nil
theorem solid : zsr Try.prog Try.prog.types.size := solid_of (by kernel_rfl)
end Go.Proofs.Ytmnkjofaodbokaa
namespace Go.Proofs.Ytmnkjofaodbokaa
open Go Go.Am Go.ChangeShapes Go.WideShapes Go.ChangeAt Go.RowKit Go.Deep
section
variable {H : Type} {enc : TypeId × Value → H} {w : World} {base : Nat} {spare : Nat → Bool} {held : Bool}
theorem rdT : Rd enc Try.prog w base spare held 24 fun d => cX (exD d) :=
 rd_tree Try.underlying24 rfl Try.underlying3 (by kernel_rfl) Try.underlying22 (by kernel_rfl) (by rw [show Try.prog.cellsOf 24 = 3 from by kernel_rfl]; decide) (by kernel_rfl)
theorem slimX {n : Nat} {cs : List Value} {d : DataW H} {p : List MemPlace} (h : DataW.trod enc Try.prog w base spare held n 24 cs = some (d, p)) : Slim (exD d) :=
 zw4 Try.underlying24 rfl Try.underlying22 _ d (Nat.le_refl _) _ _ _ h
end
end Go.Proofs.Ytmnkjofaodbokaa
