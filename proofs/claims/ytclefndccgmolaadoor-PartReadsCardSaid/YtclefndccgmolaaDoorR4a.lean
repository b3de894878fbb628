/-
  THE LAW OF WORDS, PORTS AND ROLES: known calls, each run by the kernel.
-/
import Derived.Test.YtclefndccgmolaaDoorR3
import Derived.KernelRfl
import Derived.Test.YtclefndccgmolaaDoorChecked
namespace Go.Proofs.YtclefndccgmolaaDoor
open Go Go.Am

theorem reads0_ok : TabOk Tryd.prog (tabReads 0) := TabOk.of_run (env0_ok.tab tabR_ok (pure := [])) (n := 60) (by kernel_rfl)

theorem reads1_ok : TabOk Tryd.prog (tabReads 1) := TabOk.of_run (env0_ok.tab tabR_ok (pure := [])) (n := 60) (by kernel_rfl)

theorem reads2_ok : TabOk Tryd.prog (tabReads 2) := TabOk.of_run (env0_ok.tab tabR_ok (pure := [])) (n := 60) (by kernel_rfl)

theorem reads3_ok : TabOk Tryd.prog (tabReads 3) := TabOk.of_run (env0_ok.tab tabR_ok (pure := [])) (n := 60) (by kernel_rfl)

end Go.Proofs.YtclefndccgmolaaDoor
