/-
  THE LAW OF DANGERS: its walk; reading a sequence.
-/
import Derived.Test.YtoiblgbaeglgoaaWS17
import Derived.Test.YtoiblgbaeglgoaaWT2
import Derived.Test.YtoiblgbaeglgoaaWBase
namespace Go.Proofs.Ytoiblgbaeglgoaa
open Go Go.Am
theorem awake17 : PF Try.prog 17 [] (.bool true) := tabA_ok _ (List.mem_cons_self ..) _ (List.mem_cons_self ..)
end Go.Proofs.Ytoiblgbaeglgoaa
