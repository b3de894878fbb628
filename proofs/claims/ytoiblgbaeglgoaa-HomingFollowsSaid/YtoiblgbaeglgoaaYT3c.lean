/-
  THE EXAMPLES OF THE HOMINGS: known calls, run by the kernel.
-/
import Derived.Test.YtoiblgbaeglgoaaYT3a
import Derived.Test.YtoiblgbaeglgoaaYT3b
namespace Go.Proofs.Ytoiblgbaeglgoaa
open Go Go.Am

def tabL : Tab := [
  (96, [
    ([.agg [.vs [[.int .i64 3, .int .i64 0, .vs [[.int .i64 1, .int .i64 3, .vs []], [.int .i64 2, .int .i64 0, .vs [[.int .i64 1, .int .i64 0, .nils]]]]]]], .int .i64 2], .vs [[.int .i64 0], [.int .i64 1], [.int .i64 1], [.int .i64 (-1)]]),
    ([.agg [.vs [[.int .i64 3, .int .i64 0, .vs [[.int .i64 2, .int .i64 0, .vs [[.int .i64 1, .int .i64 0, .nils]]], [.int .i64 2, .int .i64 0, .vs [[.int .i64 1, .int .i64 1, .nils]]], [.int .i64 1, .int .i64 2, .vs []]]]]], .int .i64 2], .vs [[.int .i64 0], [.int .i64 3], [.int .i64 1], [.int .i64 2]])])]

theorem tabL_ok : TabOk Try.prog tabL := TabOk.of_run (env0_ok.tab (((tab1_ok.append tabK_ok).append tabG_ok).append (tabM0_ok.append tabM1_ok)) (pure := [])) (n := 80) (by kernel_rfl)

end Go.Proofs.Ytoiblgbaeglgoaa
