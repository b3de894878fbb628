/-
  DANGERS IN THE REFERENCE: ref.Danger.
-/
import Derived.Test.YtoiblgbaeglgoaaXS11
namespace Go.Proofs.Ytoiblgbaeglgoaa
open Go Go.Am
section
variable {w0 : World} {N0 : Nat} {k : List Fr} {Q : Exit → AS → Prop}
theorem dgS_step {f : List Ex} {n : Nat} {l : List Sp} (E0 : List Bool) (hE0 : E0.length = n) {i : Nat} (h : i < l.length) : dgS f i (zg7 E0 (l.take i)) (l.drop i) = match badP f (zdr (zey (zg7 E0 (l.take i)) (aft (zg7 E0 (l.take i)) l[i].l) l[i].l n)) with
  | some q => ((i : Int), q, true)
  | none => dgS f (i + 1) (zg7 E0 (l.take (i + 1))) (l.drop (i + 1)) := by
 rw [List.drop_eq_getElem_cons h, dgS, zh2, hE0, zjs h]
 rfl
end
end Go.Proofs.Ytoiblgbaeglgoaa
