/-
  MAKE OF A LIST OF A LENGTH THAT IS NOT KNOWN; STATES PUT ANEW, WITH MARKS.
-/
import Derived.Test.YtoiblgbaeglgoaaWS8
namespace Go.Proofs.Ytoiblgbaeglgoaa
open Go Go.Am
section
variable {P : Program} {w0 : World} {N0 : Nat} {k : List Fr} {Q : Exit → AS → Prop} {pf : Kn} {ios : List Opr} {n nx ck : Nat} {mk : List (Nat × Nat)} {md : Md} {l : List (Nat × AV)} {hp : List (Nat × Nat × AObj)}
end
end Go.Proofs.Ytoiblgbaeglgoaa
