/-
  WHAT BOUNDS COMPARES: the plain law of Apart and Bound.
-/
import Derived.Test.YtknomkcdpcnmaaaERE
import Derived.Test.YtknomkcdpcnmaaaEVI
import Derived.Test.YtknomkcdpcnmaaaEVK
import Derived.Test.YtknomkcdpcnmaaaEP4
namespace Go.Proofs.Ytknomkcdpcnmaaa
open Go Go.Am
def Up : List Int → Prop
 | [] => True
 | k :: c => 0 ≤ k ∧ k < 64 ∧ (∀ z ∈ c, k < z) ∧ Up c
theorem up_asc {n : Nat} (hn : n ≤ 64) : ∀ {k f : Nat} {c : List Int}, c ∈ asc n k f → Up c
 | 0, f, c, h => by
  rw [asc] at h
  obtain rfl := List.mem_singleton.1 h
  trivial
 | k + 1, f, c, h => by
  rw [asc] at h
  obtain ⟨i, hi, h⟩ := List.mem_flatMap.1 h
  obtain ⟨d, hd, rfl⟩ := List.mem_map.1 h
  rw [List.mem_range'_1] at hi
  have hm : d.length = k ∧ ∀ z ∈ d, ((i + 1 : Nat) : Int) ≤ z ∧ z < n := zgz hd
  exact ⟨by omega, by omega, fun z hz => by have := (hm.2 z hz).1; omega, up_asc hn hd⟩
end Go.Proofs.Ytknomkcdpcnmaaa
