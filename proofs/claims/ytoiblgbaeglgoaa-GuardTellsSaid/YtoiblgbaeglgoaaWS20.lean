/-
  THE LAW OF WHAT DANGER FINDS: its walk.
-/
import Derived.Test.YtoiblgbaeglgoaaWD3
import Derived.Test.YtoiblgbaeglgoaaWS18
namespace Go.Proofs.Ytoiblgbaeglgoaa
open Go Go.Am
theorem zvr {f : List Ex} {p : List Int} : decide ((((zek f p).map fun z => ([.int .i64 z] : List AV)).length : Int) = 0) = (zek f p).isEmpty := by
 cases h : zek f p with
 | nil => rfl
 | cons _ t => exact decide_eq_false (by show ¬ (((t.map _).length + 1 : Nat) : Int) = 0; omega)
section
variable {w0 : World} {N0 : Nat} {k : List Fr} {Q : Exit → AS → Prop}
theorem zpm {f : List Ex} (hsl : ∀ y ∈ f, Slim y) {n : Nat} (hg : zc5 f n = 0) {q : List Int} (hq : q.length = n) (hp : posL q = 0) : PF Try.prog 25 [.agg [.vs (cXs f)], vsI q] (.tup [.bool (zek f q).isEmpty, .int .i64 0]) := by
 have := zsj f hsl q
 rw [zl3, if_pos (by unfold posC; rw [hq, if_pos hg]; exact hp)] at this
 exact this
end
end Go.Proofs.Ytoiblgbaeglgoaa
