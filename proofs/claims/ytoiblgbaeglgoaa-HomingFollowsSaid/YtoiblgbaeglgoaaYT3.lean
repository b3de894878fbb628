/-
  THE EXAMPLES OF THE HOMINGS: known calls, run by the kernel.
-/
import Derived.Test.YtoiblgbaeglgoaaYT1
namespace Go.Proofs.Ytoiblgbaeglgoaa
open Go Go.Am

def tabW : Tab := [
  (92, [
    ([], .agg [.vs [[.int .i64 3, .int .i64 0, .vs [[.int .i64 2, .int .i64 0, .vs [[.int .i64 1, .int .i64 0, .nils]]], [.int .i64 2, .int .i64 0, .vs [[.int .i64 1, .int .i64 1, .nils]]], [.int .i64 1, .int .i64 2, .vs []]]]]])])]

theorem tabW_ok : TabOk Try.prog tabW := TabOk.of_run (env0_ok.tab (tab1_ok) (pure := [])) (n := 80) (by kernel_rfl)

def tabK : Tab := [
  (128, [
    ([.agg [.int .i64 3, .int .i64 0, .vs [[.int .i64 1, .int .i64 3, .vs []], [.int .i64 2, .int .i64 0, .vs [[.int .i64 1, .int .i64 0, .nils]]]]], .int .i64 4], .int .i64 0),
    ([.agg [.int .i64 3, .int .i64 0, .vs [[.int .i64 2, .int .i64 0, .vs [[.int .i64 1, .int .i64 0, .nils]]], [.int .i64 2, .int .i64 0, .vs [[.int .i64 1, .int .i64 1, .nils]]], [.int .i64 1, .int .i64 2, .vs []]]], .int .i64 4], .int .i64 0)])]

theorem tabK_ok : TabOk Try.prog tabK := TabOk.of_run (env0_ok.tab (tab1_ok) (pure := [])) (n := 80) (by kernel_rfl)

def tabG : Tab := [
  (80, [
    ([.agg [.vs [[.int .i64 3, .int .i64 0, .vs [[.int .i64 1, .int .i64 3, .vs []], [.int .i64 2, .int .i64 0, .vs [[.int .i64 1, .int .i64 0, .nils]]]]]]], .int .i64 2], .int .i64 0),
    ([.agg [.vs [[.int .i64 3, .int .i64 0, .vs [[.int .i64 2, .int .i64 0, .vs [[.int .i64 1, .int .i64 0, .nils]]], [.int .i64 2, .int .i64 0, .vs [[.int .i64 1, .int .i64 1, .nils]]], [.int .i64 1, .int .i64 2, .vs []]]]]], .int .i64 2], .int .i64 0)])]

theorem tabG_ok : TabOk Try.prog tabG := TabOk.of_run (env0_ok.tab (tab1_ok.append tabK_ok) (pure := [])) (n := 80) (by kernel_rfl)

end Go.Proofs.Ytoiblgbaeglgoaa
