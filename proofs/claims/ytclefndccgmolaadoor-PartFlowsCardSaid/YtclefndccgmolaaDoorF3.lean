/-
  THE LAW OF FLOWS: known calls, each run by the kernel.
-/
import Derived.Test.YtclefndccgmolaaDoorF2
import Derived.KernelRfl
import Derived.Test.YtclefndccgmolaaDoorChecked
namespace Go.Proofs.YtclefndccgmolaaDoor
open Go Go.Am

theorem tabF_ok : TabOk Tryd.prog (tabA ++ (tabF10 ++ (tabF12 ++ (tabF22 ++ (tabF31 ++ tabF33))))) := tabA_ok.append (tabF10_ok.append (tabF12_ok.append (tabF22_ok.append (tabF31_ok.append tabF33_ok))))

/-- The bytes that leave a rest. -/
def residue (m c : Nat) : List Int := ((List.range 256).filter fun n => Nat.beq (n % m) c).map fun (n : Nat) => (n : Int)

def flowsRow (k : Nat) : List (List AV × AV) := (List.range 2).map fun p => ([.ints .u8 (residue 14 k), .ints .u8 (residue 2 p)], .bool true)

def tabFlows (l : List Nat) : Tab := [(8, l.flatMap flowsRow)]

theorem flows1_ok : TabOk Tryd.prog (tabFlows [0, 1, 2, 3, 4, 5, 6]) := TabOk.of_run (env0_ok.tab tabF_ok (pure := [])) (n := 60) (by kernel_rfl)

theorem flows2_ok : TabOk Tryd.prog (tabFlows [7, 8, 9, 10, 11, 12, 13]) := TabOk.of_run (env0_ok.tab tabF_ok (pure := [])) (n := 60) (by kernel_rfl)

end Go.Proofs.YtclefndccgmolaaDoor
