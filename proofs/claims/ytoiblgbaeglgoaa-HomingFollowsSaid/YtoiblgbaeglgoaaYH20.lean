/-
  WITHOUT AN EXPRESSION NO LEVEL IS GREATER: the plain law, and the walk.
-/
import Derived.Test.YtoiblgbaeglgoaaYH18
import Derived.Test.YtoiblgbaeglgoaaYCB
namespace Go.Proofs.Ytoiblgbaeglgoaa
open Go Go.Am

theorem lev_some {l : List Ex} {n : Nat} (h1 : 1 ≤ n) (h4 : n ≤ 4) {k : Nat} (hk : k < 2 ^ n) (h0 : 0 ≤ (levL l n).getD k 0) : freeB l (posE (bitsE n 0)) = true := by
  cases hf : freeB l (posE (bitsE n 0)) with
  | true => rfl
  | false =>
    have e : levL l n = List.replicate (2 ^ n) (-1) := by unfold levL; rw [hf]; rfl
    rw [e, rep_get h1 h4 k hk] at h0
    omega

theorem beq_neH {a b : Nat} (h : a ≠ b) : Nat.beq a b = false := by
  cases hb : Nat.beq a b with
  | false => rfl
  | true => exact absurd (Nat.eq_of_beq_eq_true hb) h

end Go.Proofs.Ytoiblgbaeglgoaa
