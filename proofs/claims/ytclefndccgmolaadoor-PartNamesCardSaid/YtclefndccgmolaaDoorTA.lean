/-
  THE CHAPTER's EXAMPLES: a known call, run by the kernel.
-/
import Derived.Test.YtclefndccgmolaaDoorT1
import Derived.KernelRfl
import Derived.Test.YtclefndccgmolaaDoorChecked
namespace Go.Proofs.YtclefndccgmolaaDoor
open Go Go.Am

def tabA : Tab := [
  (14, [
    ([], .bool true)])]

theorem tabA_ok : TabOk Tryd.prog tabA := TabOk.of_run (env0_ok.tab tab12_ok (pure := [])) (n := 60) (by kernel_rfl)

end Go.Proofs.YtclefndccgmolaaDoor
