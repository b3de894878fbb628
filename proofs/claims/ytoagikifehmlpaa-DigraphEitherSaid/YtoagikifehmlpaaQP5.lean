/-
  WHAT A PATH IS, in plain Lean: joined by edges, ever nearer, to its end.
-/
import Derived.Test.YtoagikifehmlpaaQP1
namespace Go.Proofs.Ytoagikifehmlpaa
open Go Go.Am
def gN (l : List Nat) (i : Nat) : Nat := l.getD i 0
theorem gN_at {l : List Nat} {i : Nat} (h : i < l.length) : l[i] = gN l i := by
 unfold gN
 rw [List.getD_eq_getElem?_getD, List.getElem?_eq_getElem h]
 rfl
theorem zn9 {E : List (Nat × Nat)} {m t : Nat} {back : List Int} (hL : Lab (rvE E) m t back) (hb : ∀ u v, (u, v) ∈ E → u < m ∧ v < m) : ∀ (k v : Nat), gI back v = (k : Int) →
  (∀ i, i < k → (gN (v :: zcm E m back k v) i, gN (v :: zcm E m back k v) (i + 1)) ∈ E) ∧ gN (v :: zcm E m back k v) k = t ∧ ∀ i, i ≤ k → gI back (gN (v :: zcm E m back k v) i) = (k : Int) - i
 | 0, v, e => ⟨fun i h => absurd h (Nat.not_lt_zero _), hL.root v e, fun i h => by
   obtain rfl : i = 0 := by omega
   show gI back v = _
   rw [e]
   rfl⟩
 | k + 1, v, e => by
  obtain ⟨_, h1, _, h2⟩ := nxt_ok hL hb (show 0 < gI back v by omega)
  obtain ⟨a, b, c⟩ := zn9 hL hb k (nxt E m back v) (by omega)
  refine ⟨fun i hi => ?_, b, fun i hi => ?_⟩
  ·cases i with
   | zero => exact h1
   | succ i => exact a i (by omega)
  ·cases i with
   | zero => show gI back v = _; rw [e]; omega
   | succ i =>
    have := c i (by omega)
    show gI back (gN (nxt E m back v :: zcm E m back k (nxt E m back v)) i) = _
    omega
end Go.Proofs.Ytoagikifehmlpaa
