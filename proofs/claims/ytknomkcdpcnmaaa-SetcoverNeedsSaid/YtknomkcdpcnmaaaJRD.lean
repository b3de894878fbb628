/-
  THE SETS THAT ARE NEEDED, OF THE REFERENCE: Needed.
-/
import Derived.Test.YtknomkcdpcnmaaaJRC
namespace Go.Proofs.Ytknomkcdpcnmaaa
open Go Go.Am
def zca (m : Nat) : List Int := (List.range m).map fun k : Nat => ((k : Nat) : Int)
theorem zci (m : Nat) : zca (m + 1) = zca m ++ [(m : Int)] := by
 unfold zca
 rw [List.range_succ, List.map_append]
 rfl
theorem zme (m : Nat) : (zca m).length = m := by unfold zca; rw [List.length_map, List.length_range]
theorem upTo_mem {m : Nat} {z : Int} (h : z ∈ zca m) : 0 ≤ z ∧ z < m := by
 unfold zca at h
 obtain ⟨k, hk, rfl⟩ := List.mem_map.1 h
 have := List.mem_range.1 hk
 omega
def zv0 (n : Int) (s : List (BitVec 64)) (i : Nat) : List Int := ((List.range i).filter fun k => uni s ((zca s.length).eraseIdx k) != zcy n).map fun k : Nat => ((k : Nat) : Int)
theorem lonR_len (n : Int) (s : List (BitVec 64)) (i : Nat) : (zv0 n s i).length ≤ i := by
 unfold zv0
 rw [List.length_map]
 exact Nat.le_trans (List.length_filter_le ..) (by rw [List.length_range]; exact Nat.le_refl _)
def neeW (n : Int) (s : List (BitVec 64)) : AV := if zek n s = 0 then (match zq4 n s with | some _ => .tup [vsI (zv0 n s s.length), .int .i64 0] | none => .tup [.vs [], .int .i64 6]) else .tup [.vs [], .int .i64 (zek n s)]
end Go.Proofs.Ytknomkcdpcnmaaa
