/-
  THE EXAMPLES OF THE HOMINGS: known calls, run by the kernel.
-/
import Derived.Test.YtoiblgbaeglgoaaYT3c
namespace Go.Proofs.Ytoiblgbaeglgoaa
open Go Go.Am

def tabV : Tab := [
  (42, [
    ([.agg [.vs [[.int .i64 3, .int .i64 0, .vs [[.int .i64 2, .int .i64 0, .vs [[.int .i64 1, .int .i64 0, .nils]]], [.int .i64 2, .int .i64 0, .vs [[.int .i64 1, .int .i64 1, .nils]]], [.int .i64 1, .int .i64 2, .vs []]]]]], .int .i64 2], .tup [.vs [[.int .i64 0], [.int .i64 3], [.int .i64 1], [.int .i64 2]], .int .i64 0])])]

theorem tabV_ok : TabOk Try.prog tabV := TabOk.of_run (env0_ok.tab (((((tab1_ok.append tabW_ok).append tabK_ok).append tabG_ok).append (tabM0_ok.append tabM1_ok)).append tabL_ok) (pure := [])) (n := 80) (by kernel_rfl)

def tab36 : Tab := [
  (36, [
    ([], .bool true)])]

theorem tab36_ok : TabOk Try.prog tab36 := TabOk.of_run (env0_ok.tab ((((((tab1_ok.append tabW_ok).append tabK_ok).append tabG_ok).append (tabM0_ok.append tabM1_ok)).append tabL_ok).append tabV_ok) (pure := [])) (n := 80) (by kernel_rfl)

end Go.Proofs.Ytoiblgbaeglgoaa
