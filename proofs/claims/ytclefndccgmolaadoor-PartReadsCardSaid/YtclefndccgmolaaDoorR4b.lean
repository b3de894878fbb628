/-
  THE LAW OF WORDS, PORTS AND ROLES: known calls, each run by the kernel.
-/
import Derived.Test.YtclefndccgmolaaDoorR3
import Derived.KernelRfl
import Derived.Test.YtclefndccgmolaaDoorChecked
namespace Go.Proofs.YtclefndccgmolaaDoor
open Go Go.Am

theorem reads4_ok : TabOk Tryd.prog (tabReads 4) := TabOk.of_run (env0_ok.tab tabR_ok (pure := [])) (n := 60) (by kernel_rfl)

theorem reads5_ok : TabOk Tryd.prog (tabReads 5) := TabOk.of_run (env0_ok.tab tabR_ok (pure := [])) (n := 60) (by kernel_rfl)

theorem reads6_ok : TabOk Tryd.prog (tabReads 6) := TabOk.of_run (env0_ok.tab tabR_ok (pure := [])) (n := 60) (by kernel_rfl)

theorem reads7_ok : TabOk Tryd.prog (tabReads 7) := TabOk.of_run (env0_ok.tab tabR_ok (pure := [])) (n := 60) (by kernel_rfl)

theorem reads8_ok : TabOk Tryd.prog (tabReads 8) := TabOk.of_run (env0_ok.tab tabR_ok (pure := [])) (n := 60) (by kernel_rfl)

end Go.Proofs.YtclefndccgmolaaDoor
