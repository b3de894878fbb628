/-
  THE SEAT's CODE, READ.
-/
import Derived.Test.YtmnkjofaodbokaaYA11
import Derived.KernelRfl
import Derived.Test.YtmnkjofaodbokaaChecked
namespace Go.Proofs.Ytmnkjofaodbokaa
open Go Go.Am
noncomputable def env0 : Env := envOf Try.prog 10000
theorem env0_ok : EnvOk Try.prog env0 := envOf_ok 10000 (by kernel_rfl)
end Go.Proofs.Ytmnkjofaodbokaa
