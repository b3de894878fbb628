/-
  THE REFERENCE's DISTANCES: Far walked.
-/
import Derived.Test.YtoagikifehmlpaaQF7
import Derived.Test.YtoagikifehmlpaaQF2
import Derived.Test.YtoagikifehmlpaaQF5
namespace Go.Proofs.Ytoagikifehmlpaa
open Go Go.Am
theorem zrk (E : List (Nat × Nat)) (m f r : Nat) : zcx E m f (r + 1) = E.foldl (rndE (r : Int)) (zcx E m f r) := by
 unfold zcx
 rw [List.range_succ, List.foldl_append]
 rfl
theorem farR_len (E : List (Nat × Nat)) (m f : Nat) : ∀ r, (zcx E m f r).length = m := by
 have h1 : ∀ (r : Int) (E : List (Nat × Nat)) (o : List Int), (E.foldl (rndE r) o).length = o.length := by
  intro r E
  induction E with
  | nil => intro o; rfl
  | cons e E ih =>
   intro o
   rw [List.foldl_cons, ih]
   unfold rndE
   split
   ·rw [List.length_set]
   ·rfl
 intro r
 induction r with
 | zero => show ((List.replicate m (-1 : Int)).set f 0).length = m; rw [List.length_set, List.length_replicate]
 | succ r ih => rw [zrk, h1, ih]
end Go.Proofs.Ytoagikifehmlpaa
