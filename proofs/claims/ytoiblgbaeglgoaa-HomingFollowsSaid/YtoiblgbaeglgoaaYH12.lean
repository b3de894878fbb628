/-
  THE REFERENCE's LEVELS: round by round.
-/
import Derived.Test.YtoiblgbaeglgoaaYH11
namespace Go.Proofs.Ytoiblgbaeglgoaa
open Go Go.Am

def tv (D : List Int) (r : Int) (z : Nat) : Int := if D.getD z 0 ≤ r then D.getD z 0 else -1

structure Mix (n : Nat) (D : List Int) (far k : Nat) (out : List Int) : Prop where
  len : out.length = 2 ^ n
  get : ∀ z, z < 2 ^ n → out.getD z 0 = if z < k then tv D (far + 1 : Nat) z else tv D far z

section
variable {l : List Ex} {n : Nat} (h1 : 1 ≤ n) (h4 : n ≤ 4) {D : List Int} (hD : LevW l n D) {far k : Nat} {out : List Int}
include h1 h4 hD

end

section
variable {l : List Ex} {n : Nat} (h1 : 1 ≤ n) (h4 : n ≤ 4)
include h1 h4

end

end Go.Proofs.Ytoiblgbaeglgoaa
