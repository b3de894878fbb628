/-
  A STROKE THAT IS PERMITTED, FOR THE REFERENCE: free, May, Moves, Permitted.
-/
import Derived.Test.YtoiblgbaeglgoaaVH3
import Derived.Test.YtoiblgbaeglgoaaVS5
namespace Go.Proofs.Ytoiblgbaeglgoaa
open Go Go.Am

theorem ne_not {b o : Bool} (h : ¬ b = o) : o = !b := by cases b <;> cases o <;> simp_all

end Go.Proofs.Ytoiblgbaeglgoaa
