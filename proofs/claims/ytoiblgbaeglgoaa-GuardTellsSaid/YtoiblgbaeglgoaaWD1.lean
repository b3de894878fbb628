/-
  SEQUENCES IN PLAIN LEAN: the checks agree, the choices of a step are its stations.
-/
import Derived.Test.YtoiblgbaeglgoaaWS8
namespace Go.Proofs.Ytoiblgbaeglgoaa
open Go Go.Am
theorem zvj : ∀ (l : List Sk) (z : Int), zvi z l = 0 → ∀ s ∈ l, z < s.a
 | [], _, _, s, hs => by cases hs
 | t :: r, z, h, s, hs => by
  rw [zvi] at h
  split at h
  ·exact absurd h (by decide)
  split at h
  ·exact absurd h (by decide)
  rename_i h1
  split at h
  ·exact absurd h (by decide)
  rename_i h2
  have h1 : ¬ t.a = z := by simpa using h1
  have h2 : ¬ t.a < z := by simpa using h2
  rcases List.mem_cons.1 hs with rfl | hs
  ·omega
  ·have := zvj r _ h s hs
   omega
theorem znu {s : Sk} {r : List Sk} {z : Int} (h : zvi z (s :: r) = 0) : zvi s.a r = 0 := by
 rw [zvi] at h
 split at h
 ·exact absurd h (by decide)
 split at h
 ·exact absurd h (by decide)
 split at h
 ·exact absurd h (by decide)
 exact h
def behL (E : List Bool) (l : List Sp) : List Bool := l.foldl (fun E p => aft E p.l) E
theorem zo2 (l : List Sp) : ∀ E : List Bool, (behL E l).length = E.length := by
 induction l with
 | nil => exact fun _ => rfl
 | cons p l ih =>
  intro E
  show (behL (aft E p.l) l).length = _
  rw [ih, zr6]
def stpC (n : Int) : List Sp → List Bool → Int
 | [], E => if E.any id = true then 9 else 0
 | p :: r, E => if spC p ≠ 0 then spC p else if highB n p.l = true then 6 else if suitB E p.l = true then stpC n r (aft E p.l) else 14
theorem zk2 : ∀ (E : List Bool), E.any id = false ↔ E = List.replicate E.length false
 | [] => ⟨fun _ => rfl, fun _ => rfl⟩
 | b :: E => by
  rw [List.any_cons, List.length_cons, List.replicate_succ, Bool.or_eq_false_iff, zk2 E]
  constructor
  ·rintro ⟨h1, h2⟩
   have h1 : b = false := h1
   rw [h1, ← h2]
  ·intro h
   injection h with h1 h2
   exact ⟨h1, h2⟩
end Go.Proofs.Ytoiblgbaeglgoaa
