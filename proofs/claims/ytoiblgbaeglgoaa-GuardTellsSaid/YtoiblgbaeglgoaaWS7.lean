/-
  STEPS THAT FIT: sequence.fits.
-/
import Derived.Test.YtoiblgbaeglgoaaWS6
import Derived.Test.YtoiblgbaeglgoaaWS3
namespace Go.Proofs.Ytoiblgbaeglgoaa
open Go Go.Am
theorem zkw : ∀ (l : List Sk) (z : Int), zvi z l = 0 → ∀ s ∈ l, 0 ≤ s.a ∧ s.a < 6
 | [], _, _, s, hs => by cases hs
 | t :: r, z, h, s, hs => by
  rw [zvi] at h
  split at h
  ·exact absurd h (by decide)
  rename_i hk
  split at h
  ·exact absurd h (by decide)
  split at h
  ·exact absurd h (by decide)
  rcases List.mem_cons.1 hs with rfl | hs
  ·have hk : zuk s.a = true := by simpa using hk
   unfold zuk at hk
   rw [Bool.and_eq_true, decide_eq_true_eq, decide_eq_true_eq] at hk
   exact hk
  ·exact zkw r _ h s hs
theorem spC_ok {p : Sp} (h : spC p = 0) : p.l.length ≤ 6 ∧ ∀ s ∈ p.l, 0 ≤ s.a ∧ s.a < 6 := by
 unfold spC at h
 split at h
 ·exact absurd h (by decide)
 split at h
 ·exact absurd h (by decide)
 split at h
 ·rename_i h1; exact absurd h h1
 ·rename_i h1
  exact ⟨by omega, zkw _ _ (by simpa using h1)⟩
def highB (n : Int) (l : List Sk) : Bool := l.any fun s => decide (s.a ≥ n)
end Go.Proofs.Ytoiblgbaeglgoaa
