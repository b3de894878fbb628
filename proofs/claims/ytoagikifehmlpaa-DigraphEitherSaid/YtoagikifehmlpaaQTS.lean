/-
  sort.Ints and slices.Compact of no list.
-/
import Derived.Test.YtoagikifehmlpaaQU1
namespace Go.Proofs.Ytoagikifehmlpaa
open Go Go.Am
def tabS : Tab := [(64, [([.vs []], .tup [])]), (65, [([.vs []], .vs [])])]
theorem ztm : TabOk Try.prog tabS := TabOk.of_run (env0_ok.tab TabOk.nil (pure := [])) (n := 60) (by kernel_rfl)
theorem ints64 : PF Try.prog 64 [.vs []] (.tup []) := ztm _ (List.mem_cons_self ..) _ (List.mem_cons_self ..)
theorem zr8 : PF Try.prog 65 [.vs []] (.vs []) := ztm _ (List.mem_cons_of_mem _ (List.mem_cons_self ..)) _ (List.mem_cons_self ..)
end Go.Proofs.Ytoagikifehmlpaa
