/-
  DANGERS IN PLAIN LEAN.
-/
import Derived.Test.YtoiblgbaeglgoaaWD1
import Derived.Test.YtoiblgbaeglgoaaWPA
namespace Go.Proofs.Ytoiblgbaeglgoaa
open Go Go.Am
structure StpOk (n : Int) (E : List Bool) (p : Sp) : Prop where
 sp : spC p = 0
 hi : highB n p.l = false
 su : suitB E p.l = true
theorem stp_head {n : Int} {E : List Bool} {p : Sp} {r : List Sp} (h : stpC n (p :: r) E = 0) : StpOk n E p ∧ stpC n r (aft E p.l) = 0 := by
 rw [stpC] at h
 split at h
 ·rename_i h1; exact absurd h h1
 rename_i h1
 split at h
 ·exact absurd h (by decide)
 rename_i h2
 split at h
 ·rename_i h3
  exact ⟨⟨by simpa using h1, by simpa using h2, h3⟩, h⟩
 ·exact absurd h (by decide)
theorem zpd {n : Int} : ∀ (l : List Sp) (E : List Bool), stpC n l E = 0 → (∀ k (h : k < l.length), StpOk n (behL E (l.take k)) l[k]) ∧ (behL E l).any id = false
 | [], E, h => by
  refine ⟨fun k h => absurd h (Nat.not_lt_zero k), ?_⟩
  rw [stpC] at h
  show E.any id = false
  cases e : E.any id with
  | false => rfl
  | true => rw [e, if_pos rfl] at h; exact absurd h (by decide)
 | p :: r, E, h => by
  obtain ⟨h1, h2⟩ := stp_head h
  obtain ⟨h3, h4⟩ := zpd r _ h2
  refine ⟨fun k hk => ?_, h4⟩
  cases k with
  | zero => exact h1
  | succ k => exact h3 k (by rw [List.length_cons] at hk; omega)
structure SeqOk (n : Nat) (l : List Sp) : Prop where
 n1 : 1 ≤ n
 n6 : n ≤ 6
 l0 : l.length ≠ 0
 l64 : l.length ≤ 64
 st : stpC n l (List.replicate n false) = 0
 mv : (List.range n).all (fun i => movB (i : Nat) l) = true
theorem SeqOk.step {n : Nat} {l : List Sp} (h : SeqOk n l) {k : Nat} (hk : k < l.length) : StpOk n (behL (List.replicate n false) (l.take k)) l[k] := (zpd l _ h.st).1 k hk
theorem SeqOk.last {n : Nat} {l : List Sp} (h : SeqOk n l) : behL (List.replicate n false) l = List.replicate n false := by
 have := (zk2 _).1 (zpd l _ h.st).2
 rwa [zo2, List.length_replicate] at this
end Go.Proofs.Ytoiblgbaeglgoaa
