/-
  THE SEAT's CODE, READ, AND THE CHAPTER's EXAMPLES: known calls, run by the kernel (2).
-/
import Derived.Test.YtoiblgbaeglgoaaWT1
namespace Go.Proofs.Ytoiblgbaeglgoaa
open Go Go.Am
def tab3 : Tab := [
 (18, [
  ([.agg [.vs [[.int .i64 3, .int .i64 0, .vs [[.int .i64 1, .int .i64 3, .vs []], [.int .i64 2, .int .i64 0, .vs [[.int .i64 1, .int .i64 0, .nils]]]]]]], .agg [.int .i64 2, .vs [[.vs [[.int .i64 0, .bool true]], .int .i64 0], [.vs [[.int .i64 0, .bool false]], .int .i64 0], [.vs [[.int .i64 1, .bool true]], .int .i64 0], [.vs [[.int .i64 1, .bool false]], .int .i64 0]]]], .tup [.int .i64 0, .vs [], .bool false, .int .i64 0])])]
theorem tab3_ok : TabOk Try.prog tab3 := TabOk.of_run (env0_ok.tab tab1_ok (pure := [])) (n := 80) (by kernel_rfl)
def tab4 : Tab := [
 (18, [
  ([.agg [.vs [[.int .i64 3, .int .i64 0, .vs [[.int .i64 1, .int .i64 3, .vs []], [.int .i64 2, .int .i64 0, .vs [[.int .i64 1, .int .i64 0, .nils]]]]]]], .agg [.int .i64 2, .vs [[.vs [[.int .i64 0, .bool true], [.int .i64 1, .bool true]], .int .i64 0], [.vs [[.int .i64 0, .bool false], [.int .i64 1, .bool false]], .int .i64 0]]]], .tup [.int .i64 0, .vs [[.int .i64 1], [.int .i64 2]], .bool true, .int .i64 0])])]
theorem tab4_ok : TabOk Try.prog tab4 := TabOk.of_run (env0_ok.tab tab1_ok (pure := [])) (n := 80) (by kernel_rfl)
def tabA : Tab := [
 (17, [
  ([], .bool true)])]
theorem tabA_ok : TabOk Try.prog tabA := TabOk.of_run (env0_ok.tab (((tab1_ok.append tab2_ok).append tab3_ok).append tab4_ok) (pure := [])) (n := 80) (by kernel_rfl)
end Go.Proofs.Ytoiblgbaeglgoaa
