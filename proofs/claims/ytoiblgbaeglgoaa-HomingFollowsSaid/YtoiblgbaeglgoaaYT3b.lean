/-
  THE EXAMPLES OF THE HOMINGS: known calls, run by the kernel.
-/
import Derived.Test.YtoiblgbaeglgoaaYT3
namespace Go.Proofs.Ytoiblgbaeglgoaa
open Go Go.Am

def tabM1 : Tab := [
  (101, [
    ([.agg [.vs [[.int .i64 3, .int .i64 0, .vs [[.int .i64 2, .int .i64 0, .vs [[.int .i64 1, .int .i64 0, .nils]]], [.int .i64 2, .int .i64 0, .vs [[.int .i64 1, .int .i64 1, .nils]]], [.int .i64 1, .int .i64 2, .vs []]]]]], .int .i64 2, .int .i64 0], .vs [[.int .i64 1, .bool true]]),
    ([.agg [.vs [[.int .i64 3, .int .i64 0, .vs [[.int .i64 2, .int .i64 0, .vs [[.int .i64 1, .int .i64 0, .nils]]], [.int .i64 2, .int .i64 0, .vs [[.int .i64 1, .int .i64 1, .nils]]], [.int .i64 1, .int .i64 2, .vs []]]]]], .int .i64 2, .int .i64 1], .vs [[.int .i64 1, .bool true]]),
    ([.agg [.vs [[.int .i64 3, .int .i64 0, .vs [[.int .i64 2, .int .i64 0, .vs [[.int .i64 1, .int .i64 0, .nils]]], [.int .i64 2, .int .i64 0, .vs [[.int .i64 1, .int .i64 1, .nils]]], [.int .i64 1, .int .i64 2, .vs []]]]]], .int .i64 2, .int .i64 2], .vs [[.int .i64 0, .bool true], [.int .i64 1, .bool false]]),
    ([.agg [.vs [[.int .i64 3, .int .i64 0, .vs [[.int .i64 2, .int .i64 0, .vs [[.int .i64 1, .int .i64 0, .nils]]], [.int .i64 2, .int .i64 0, .vs [[.int .i64 1, .int .i64 1, .nils]]], [.int .i64 1, .int .i64 2, .vs []]]]]], .int .i64 2, .int .i64 3], .vs [[.int .i64 0, .bool false], [.int .i64 1, .bool false]])])]

theorem tabM1_ok : TabOk Try.prog tabM1 := TabOk.of_run (env0_ok.tab (tab1_ok.append tabK_ok) (pure := [])) (n := 80) (by kernel_rfl)

end Go.Proofs.Ytoiblgbaeglgoaa
