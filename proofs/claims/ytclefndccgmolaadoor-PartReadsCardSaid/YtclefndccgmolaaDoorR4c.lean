/-
  THE LAW OF WORDS, PORTS AND ROLES: known calls, each run by the kernel.
-/
import Derived.Test.YtclefndccgmolaaDoorR3
import Derived.KernelRfl
import Derived.Test.YtclefndccgmolaaDoorChecked
namespace Go.Proofs.YtclefndccgmolaaDoor
open Go Go.Am

theorem reads9_ok : TabOk Tryd.prog (tabReads 9) := TabOk.of_run (env0_ok.tab tabR_ok (pure := [])) (n := 60) (by kernel_rfl)

theorem reads10_ok : TabOk Tryd.prog (tabReads 10) := TabOk.of_run (env0_ok.tab tabR_ok (pure := [])) (n := 60) (by kernel_rfl)

theorem reads11_ok : TabOk Tryd.prog (tabReads 11) := TabOk.of_run (env0_ok.tab tabR_ok (pure := [])) (n := 60) (by kernel_rfl)

theorem reads12_ok : TabOk Tryd.prog (tabReads 12) := TabOk.of_run (env0_ok.tab tabR_ok (pure := [])) (n := 60) (by kernel_rfl)

theorem reads13_ok : TabOk Tryd.prog (tabReads 13) := TabOk.of_run (env0_ok.tab tabR_ok (pure := [])) (n := 60) (by kernel_rfl)

end Go.Proofs.YtclefndccgmolaaDoor
