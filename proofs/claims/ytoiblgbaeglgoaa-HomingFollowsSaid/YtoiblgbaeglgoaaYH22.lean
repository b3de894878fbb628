/-
  LEVELS THAT PROVE THEMSELVES: homing.proves, homing.Verify.
-/
import Derived.Test.YtoiblgbaeglgoaaYH18
namespace Go.Proofs.Ytoiblgbaeglgoaa
open Go Go.Am

structure Prv (l : List Ex) (n : Nat) (D : List Int) (k : Nat) : Prop where
  shut : freeB l (posE (bitsE n k)) = false → D.getD k 0 = -1
  zero : freeB l (posE (bitsE n k)) = true → (D.getD k 0 = 0 ↔ k = 0)
  near : freeB l (posE (bitsE n k)) = true → ∀ i ∈ mv l n k, (D.getD (nxt n k i) 0 < 0 ↔ D.getD k 0 < 0) ∧ D.getD (nxt n k i) 0 - D.getD k 0 ≤ 1 ∧ D.getD k 0 - D.getD (nxt n k i) 0 ≤ 1
  low : freeB l (posE (bitsE n k)) = true → D.getD k 0 ≤ 0 ∨ ∃ i ∈ mv l n k, D.getD (nxt n k i) 0 = D.getD k 0 - 1

-- slices.IndexFunc[[]int,int]
-- slices.ContainsFunc[[]int,int]
end Go.Proofs.Ytoiblgbaeglgoaa
