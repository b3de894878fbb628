/-
  THE FIRST AND THE FEWEST OF THE REFERENCE: First, Fewest.
-/
import Derived.Test.YtknomkcdpcnmaaaKRB
import Derived.Test.YtknomkcdpcnmaaaKVB
namespace Go.Proofs.Ytknomkcdpcnmaaa
open Go Go.Am
end Go.Proofs.Ytknomkcdpcnmaaa
namespace Go.Proofs.Ytknomkcdpcnmaaa
open Go Go.Am
def zcr (m : Nat) : List Int := (List.range m).map fun k : Nat => ((k : Nat) : Int)
theorem zck (m : Nat) : zcr (m + 1) = zcr m ++ [(m : Int)] := by
 unfold zcr
 rw [List.range_succ, List.map_append]
 rfl
theorem upTo_mem {m : Nat} {z : Int} (h : z ∈ zcr m) : 0 ≤ z ∧ z < m := by
 unfold zcr at h
 obtain ⟨k, hk, rfl⟩ := List.mem_map.1 h
 have := List.mem_range.1 hk
 omega
end Go.Proofs.Ytknomkcdpcnmaaa
