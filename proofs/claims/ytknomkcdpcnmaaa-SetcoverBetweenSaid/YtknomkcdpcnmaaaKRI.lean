/-
  THE GREEDY CHOICE OF THE REFERENCE: Greedy.
-/
import Derived.Test.YtknomkcdpcnmaaaKRE
import Derived.Test.YtknomkcdpcnmaaaKVN
namespace Go.Proofs.Ytknomkcdpcnmaaa
open Go Go.Am
def resL (out : List Int) (i : Nat) : List Int := ((List.range i).filter fun k => out.contains ((k : Nat) : Int)).map fun k : Nat => ((k : Nat) : Int)
theorem resL_len (out : List Int) (i : Nat) : (resL out i).length ≤ i := by
 unfold resL
 rw [List.length_map]
 exact Nat.le_trans (List.length_filter_le ..) (by rw [List.length_range]; exact Nat.le_refl _)
def greW (n : Int) (s : List (BitVec 64)) : AV := if zfa n s = 0 then (match zie s (szB (zc5 n) + 1) (zc5 n) [] with | some out => .tup [vsI (resL out s.length), .int .i64 0] | none => .tup [.vs [], .int .i64 6]) else .tup [.vs [], .int .i64 (zfa n s)]
theorem bitwise5 {A x l : BitVec 64} (h : l &&& ~~~ A = 0#64) : (l &&& ~~~ x) &&& ~~~ A = 0#64 := by
 apply BitVec.eq_of_getLsbD_eq
 intro i hi
 have a := congrArg (fun z => z.getLsbD i) h
 simp only [BitVec.getLsbD_and, BitVec.getLsbD_not, BitVec.getLsbD_zero, hi, decide_true, Bool.true_and] at a ⊢
 revert a
 cases x.getLsbD i <;> cases A.getLsbD i <;> cases l.getLsbD i <;> simp
end Go.Proofs.Ytknomkcdpcnmaaa
