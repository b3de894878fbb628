/-
  STROKES AND STEPS: stroke.CheckStep.
-/
import Derived.Test.YtoiblgbaeglgoaaWPA
namespace Go.Proofs.Ytoiblgbaeglgoaa
open Go Go.Am
structure Sk where
 a : Int
 o : Bool
structure Sp where
 l : List Sk
 w : Int
def zuk (a : Int) : Bool := decide (a ≥ 0) && decide (a < 6)
def zvi : Int → List Sk → Int
 | _, [] => 0
 | z, s :: r => if zuk s.a = false then 2 else if (s.a == z) = true then 7 else if decide (s.a < z) = true then 9 else zvi s.a r
def spC (p : Sp) : Int := if p.l.length = 0 then 13 else if p.l.length > 6 then 5 else if zvi (-1) p.l ≠ 0 then zvi (-1) p.l else if p.w < 0 ∨ p.w > 1000000 then 2 else 0
end Go.Proofs.Ytoiblgbaeglgoaa
