/-
  WITHOUT AN EXPRESSION NO LEVEL IS GREATER: the plain law, and the walk.
-/
import Derived.Test.YtoiblgbaeglgoaaVH18
import Derived.Test.YtoiblgbaeglgoaaVCB
namespace Go.Proofs.Ytoiblgbaeglgoaa
open Go Go.Am

theorem lev_some {l : List Ex} {n : Nat} (h1 : 1 ≤ n) (h4 : n ≤ 4) {k : Nat} (hk : k < 2 ^ n) (h0 : 0 ≤ (levL l n).getD k 0) : freeB l (posE (bitsE n 0)) = true := by
  cases hf : freeB l (posE (bitsE n 0)) with
  | true => rfl
  | false =>
    have e : levL l n = List.replicate (2 ^ n) (-1) := by unfold levL; rw [hf]; rfl
    rw [e, rep_get h1 h4 k hk] at h0
    omega

end Go.Proofs.Ytoiblgbaeglgoaa
