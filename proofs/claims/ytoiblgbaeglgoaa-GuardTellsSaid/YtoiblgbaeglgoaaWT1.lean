/-
  THE SEAT's CODE, READ, AND THE CHAPTER's EXAMPLES: known calls, run by the kernel (1).
-/
import Derived.Test.YtoiblgbaeglgoaaWA9
import Derived.KernelRfl
import Derived.Test.YtoiblgbaeglgoaaChecked
namespace Go.Proofs.Ytoiblgbaeglgoaa
open Go Go.Am
noncomputable def env0 : Env := envOf Try.prog 10000
theorem env0_ok : EnvOk Try.prog env0 := envOf_ok 10000 (by kernel_rfl)
def tab1 : Tab := [
 (167, [
  ([], .agg [.int .i64 0, .int .i64 0, .nilf, .int .i64 0, .int .i64 0, .nilf, .int .i64 1, .int .i64 1, .fn 174 [] [.vptr [.bool false]], .int .i64 2, .int .i64 256, .fn 174 [] [.vptr [.bool true]], .int .i64 2, .int .i64 256, .fn 172 [] []])]),
 (75, [
  ([], .agg [.vs [[.int .i64 3, .int .i64 0, .vs [[.int .i64 1, .int .i64 3, .vs []], [.int .i64 2, .int .i64 0, .vs [[.int .i64 1, .int .i64 0, .nils]]]]]]])]),
 (76, [
  ([.str [65, 43, 59, 32, 66, 43, 59, 32, 66, 45, 59, 32, 65, 45]], .agg [.int .i64 2, .vs [[.vs [[.int .i64 0, .bool true]], .int .i64 0], [.vs [[.int .i64 1, .bool true]], .int .i64 0], [.vs [[.int .i64 1, .bool false]], .int .i64 0], [.vs [[.int .i64 0, .bool false]], .int .i64 0]]]),
  ([.str [65, 43, 59, 32, 65, 45, 59, 32, 66, 43, 59, 32, 66, 45]], .agg [.int .i64 2, .vs [[.vs [[.int .i64 0, .bool true]], .int .i64 0], [.vs [[.int .i64 0, .bool false]], .int .i64 0], [.vs [[.int .i64 1, .bool true]], .int .i64 0], [.vs [[.int .i64 1, .bool false]], .int .i64 0]]]),
  ([.str [65, 43, 32, 66, 43, 59, 32, 65, 45, 32, 66, 45]], .agg [.int .i64 2, .vs [[.vs [[.int .i64 0, .bool true], [.int .i64 1, .bool true]], .int .i64 0], [.vs [[.int .i64 0, .bool false], [.int .i64 1, .bool false]], .int .i64 0]]])])]
theorem tab1_ok : TabOk Try.prog tab1 := TabOk.of_run (env0_ok.tab TabOk.nil (pure := [])) (n := 80) (by kernel_rfl)
def tab2 : Tab := [
 (27, [
  ([.agg [.vs [[.int .i64 3, .int .i64 0, .vs [[.int .i64 1, .int .i64 3, .vs []], [.int .i64 2, .int .i64 0, .vs [[.int .i64 1, .int .i64 0, .nils]]]]]]], .int .i64 2], .tup [.vs [[.vs [[.int .i64 0], [.int .i64 0]]], [.vs [[.int .i64 0], [.int .i64 2]]], [.vs [[.int .i64 2], [.int .i64 0]]]], .int .i64 0])]),
 (78, [
  ([.vs [[.int .i64 0, .bool false, .bool true], [.int .i64 400, .bool true, .bool true], [.int .i64 900, .bool true, .bool false], [.int .i64 950, .bool true, .bool true]], .int .i64 500], .tup [.vs [[.int .i64 400, .int .i64 900]], .int .i64 0])]),
 (18, [
  ([.agg [.vs [[.int .i64 3, .int .i64 0, .vs [[.int .i64 1, .int .i64 3, .vs []], [.int .i64 2, .int .i64 0, .vs [[.int .i64 1, .int .i64 0, .nils]]]]]]], .agg [.int .i64 2, .vs [[.vs [[.int .i64 0, .bool true]], .int .i64 0], [.vs [[.int .i64 1, .bool true]], .int .i64 0], [.vs [[.int .i64 1, .bool false]], .int .i64 0], [.vs [[.int .i64 0, .bool false]], .int .i64 0]]]], .tup [.int .i64 1, .vs [[.int .i64 2], [.int .i64 2]], .bool true, .int .i64 0])])]
theorem tab2_ok : TabOk Try.prog tab2 := TabOk.of_run (env0_ok.tab tab1_ok (pure := [])) (n := 80) (by kernel_rfl)
end Go.Proofs.Ytoiblgbaeglgoaa
