/-
  C1, C2, C3, C4 in one text.
-/
import Derived.Test.YtoiblgbaeglgoaaYQD
import Derived.Test.YtoiblgbaeglgoaaYA9
namespace Go.Proofs.Ytoiblgbaeglgoaa
open Go Go.Am

def combs : List (List Int) → List (List Int)
  | [] => [[]]
  | c :: cs => c.flatMap fun x => (combs cs).map (x :: ·)

def rest : List (List Int) → List Nat → List (List Int)
  | c :: cs, d :: ds => (rest cs ds).map (c.getD d 0 :: ·) ++ (c.drop (d + 1)).flatMap fun x => (combs cs).map (x :: ·)
  | _, _ => [[]]

def pick : List (List Int) → List Nat → List Int
  | c :: cs, d :: ds => c.getD d 0 :: pick cs ds
  | _, _ => []

def Fits : List (List Int) → List Nat → Prop
  | c :: cs, d :: ds => d < c.length ∧ Fits cs ds
  | [], [] => True
  | _, _ => False

end Go.Proofs.Ytoiblgbaeglgoaa
namespace Go.Proofs.Ytoiblgbaeglgoaa
open Go Go.Am

section
variable {w0 : World} {N0 : Nat} {k : List Fr} {Q : Exit → AS → Prop}

end
end Go.Proofs.Ytoiblgbaeglgoaa
namespace Go.Proofs.Ytoiblgbaeglgoaa
open Go Go.Am

section
variable {w0 : World} {N0 : Nat} {k : List Fr} {Q : Exit → AS → Prop}

end
end Go.Proofs.Ytoiblgbaeglgoaa
namespace Go.Proofs.Ytoiblgbaeglgoaa
open Go Go.Am

section
variable {σ τ : Type} {step : σ → List Int → σ ⊕ τ} {M : Nat → Prop} {I : σ → HS → Prop} {J : τ → HS → Prop}

end
end Go.Proofs.Ytoiblgbaeglgoaa
