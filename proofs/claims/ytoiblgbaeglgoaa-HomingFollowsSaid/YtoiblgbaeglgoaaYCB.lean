/-
  C5, C6, TB, D1 in one text.
-/
import Derived.Test.YtoiblgbaeglgoaaYCA
import Derived.KernelRfl
import Derived.Test.YtoiblgbaeglgoaaYQD
import Derived.Test.YtoiblgbaeglgoaaYA9
namespace Go.Proofs.Ytoiblgbaeglgoaa
open Go Go.Am

def ext (out : List (List Int)) (c : List Int) : List (List Int) := out.flatMap fun p => c.map fun x => p ++ [x]

section
variable {w0 : World} {N0 : Nat} {k : List Fr} {Q : Exit → AS → Prop}

end
end Go.Proofs.Ytoiblgbaeglgoaa
namespace Go.Proofs.Ytoiblgbaeglgoaa
open Go Go.Am

section
variable {w0 : World} {N0 : Nat} {k : List Fr} {Q : Exit → AS → Prop}

end
end Go.Proofs.Ytoiblgbaeglgoaa
namespace Go.Proofs.Ytoiblgbaeglgoaa
open Go Go.Am

end Go.Proofs.Ytoiblgbaeglgoaa
namespace Go.Proofs.Ytoiblgbaeglgoaa
open Go Go.Am

-- slices.Clone[[]pneumatic/api.Expr,pneumatic/api.Expr]
-- slices.Delete[[]pneumatic/api.Expr,pneumatic/api.Expr]
end Go.Proofs.Ytoiblgbaeglgoaa
