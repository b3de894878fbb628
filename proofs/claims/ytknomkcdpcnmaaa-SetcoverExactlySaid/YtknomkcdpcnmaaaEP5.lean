/-
  WHAT FINDS COMPARES: the plain law.
-/
import Derived.Test.YtknomkcdpcnmaaaERD
import Derived.Test.YtknomkcdpcnmaaaEV4
import Derived.Test.YtknomkcdpcnmaaaES0
namespace Go.Proofs.Ytknomkcdpcnmaaa
open Go Go.Am
theorem few_mem {n : Int} {s : List (BitVec 64)} {c : List Int} (h : fewO n s = some c) : c.length ≤ s.length ∧ zs7 n s c = true ∧ ∀ z ∈ c, 0 ≤ z ∧ z < s.length := by
 have h2 := List.mem_of_find?_eq_some h
 have h3 := List.find?_some h
 unfold zny at h2
 obtain ⟨j, hj, hm⟩ := List.mem_flatMap.1 h2
 rw [List.mem_range'_1] at hj
 have hm : c.length = j ∧ ∀ z ∈ c, ((0 : Nat) : Int) ≤ z ∧ z < s.length := zgz hm
 exact ⟨by omega, h3, fun z hz => by have := hm.2 z hz; omega⟩
end Go.Proofs.Ytknomkcdpcnmaaa
