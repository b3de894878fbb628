/-
  WHAT FINDS COMPARES: the plain law.
-/
import Derived.Test.YtknomkcdpcnmaaaMRD
import Derived.Test.YtknomkcdpcnmaaaMV4
import Derived.Test.YtknomkcdpcnmaaaMS0
namespace Go.Proofs.Ytknomkcdpcnmaaa
open Go Go.Am
theorem zvf (s : List (BitVec 64)) (c : List Int) (b : Nat) : (uni s c).getLsbD b = c.any fun i => (s.getD i.toNat 0).getLsbD b := by
 have key : ∀ (c : List Int) (a : BitVec 64), (c.foldl (fun a i => a ||| s.getD i.toNat 0) a).getLsbD b = (a.getLsbD b || c.any fun i => (s.getD i.toNat 0).getLsbD b) := by
  intro c
  induction c with
  | nil => intro a; simp
  | cons z c ih => intro a; rw [List.foldl_cons, ih, BitVec.getLsbD_or, List.any_cons, Bool.or_assoc]
 unfold uni
 rw [key c 0]
 simp
theorem bits_eq {x y : BitVec 64} (h : ∀ b, x.getLsbD b = true ↔ y.getLsbD b = true) : x = y := by
 refine BitVec.eq_of_getLsbD_eq fun b _ => ?_
 have := h b
 cases hx : x.getLsbD b <;> cases hy : y.getLsbD b <;> simp_all
theorem zfw {n : Int} {s : List (BitVec 64)} {c : List Int} (h : zjp n s = some c) : c.length ≤ s.length ∧ zhs n s c = true ∧ ∀ z ∈ c, 0 ≤ z ∧ z < s.length := by
 have h2 := List.mem_of_find?_eq_some h
 have h3 := List.find?_some h
 unfold zkq at h2
 obtain ⟨j, hj, hm⟩ := List.mem_flatMap.1 h2
 rw [List.mem_range'_1] at hj
 have hm : c.length = j ∧ ∀ z ∈ c, ((0 : Nat) : Int) ≤ z ∧ z < s.length := zfq hm
 exact ⟨by omega, h3, fun z hz => by have := hm.2 z hz; omega⟩
end Go.Proofs.Ytknomkcdpcnmaaa
