/-
  KNOWN CALLS of the part package and of its reference, each run by the kernel.
-/
import Derived.Test.YtclefndccgmolaaDoorT2
import Derived.KernelRfl
import Derived.Test.YtclefndccgmolaaDoorChecked
namespace Go.Proofs.YtclefndccgmolaaDoor
open Go Go.Am

theorem tabP_ok : TabOk Tryd.prog (tabA ++ (tabP10 ++ (tabP12 ++ (tabP11 ++ tabP13)))) := tabA_ok.append (tabP10_ok.append (tabP12_ok.append (tabP11_ok.append tabP13_ok)))

def tabPasses : Tab := [
  (3, [
    ([.int .i64 0, .rng .i64 (-9223372036854775808) (-1)], .bool true),
    ([.int .i64 0, .int .i64 0], .bool true),
    ([.int .i64 0, .rng .i64 1 9223372036854775807], .bool true),
    ([.int .i64 1, .rng .i64 (-9223372036854775808) (-1)], .bool true),
    ([.int .i64 1, .int .i64 0], .bool true),
    ([.int .i64 1, .rng .i64 1 9223372036854775807], .bool true),
    ([.int .i64 2, .rng .i64 (-9223372036854775808) (-1)], .bool true),
    ([.int .i64 2, .int .i64 0], .bool true),
    ([.int .i64 2, .int .i64 1], .bool true),
    ([.int .i64 2, .rng .i64 2 9223372036854775807], .bool true),
    ([.int .i64 3, .rng .i64 (-9223372036854775808) (-1)], .bool true),
    ([.int .i64 3, .int .i64 0], .bool true),
    ([.int .i64 3, .int .i64 1], .bool true),
    ([.int .i64 3, .rng .i64 2 9223372036854775807], .bool true),
    ([.int .i64 4, .rng .i64 (-9223372036854775808) (-1)], .bool true),
    ([.int .i64 4, .int .i64 0], .bool true),
    ([.int .i64 4, .int .i64 1], .bool true),
    ([.int .i64 4, .rng .i64 2 9223372036854775807], .bool true),
    ([.int .i64 5, .rng .i64 (-9223372036854775808) (-1)], .bool true),
    ([.int .i64 5, .int .i64 0], .bool true),
    ([.int .i64 5, .int .i64 1], .bool true),
    ([.int .i64 5, .rng .i64 2 9223372036854775807], .bool true),
    ([.int .i64 6, .rng .i64 (-9223372036854775808) (-1)], .bool true),
    ([.int .i64 6, .int .i64 0], .bool true),
    ([.int .i64 6, .int .i64 1], .bool true),
    ([.int .i64 6, .rng .i64 2 9223372036854775807], .bool true),
    ([.int .i64 7, .rng .i64 (-9223372036854775808) (-1)], .bool true),
    ([.int .i64 7, .int .i64 0], .bool true),
    ([.int .i64 7, .int .i64 1], .bool true),
    ([.int .i64 7, .rng .i64 2 9223372036854775807], .bool true),
    ([.int .i64 8, .rng .i64 (-9223372036854775808) (-1)], .bool true),
    ([.int .i64 8, .int .i64 0], .bool true),
    ([.int .i64 8, .rng .i64 1 9223372036854775807], .bool true),
    ([.int .i64 9, .rng .i64 (-9223372036854775808) (-1)], .bool true),
    ([.int .i64 9, .int .i64 0], .bool true),
    ([.int .i64 9, .rng .i64 1 9223372036854775807], .bool true),
    ([.int .i64 10, .rng .i64 (-9223372036854775808) (-1)], .bool true),
    ([.int .i64 10, .int .i64 0], .bool true),
    ([.int .i64 10, .rng .i64 1 9223372036854775807], .bool true),
    ([.int .i64 11, .rng .i64 (-9223372036854775808) (-1)], .bool true),
    ([.int .i64 11, .int .i64 0], .bool true),
    ([.int .i64 11, .rng .i64 1 9223372036854775807], .bool true),
    ([.int .i64 12, .rng .i64 (-9223372036854775808) (-1)], .bool true),
    ([.int .i64 12, .int .i64 0], .bool true),
    ([.int .i64 12, .int .i64 1], .bool true),
    ([.int .i64 12, .rng .i64 2 9223372036854775807], .bool true),
    ([.int .i64 13, .rng .i64 (-9223372036854775808) (-1)], .bool true),
    ([.int .i64 13, .int .i64 0], .bool true),
    ([.int .i64 13, .int .i64 1], .bool true),
    ([.int .i64 13, .rng .i64 2 9223372036854775807], .bool true),
    ([.rng .i64 (-9223372036854775808) (-1), .top], .bool true),
    ([.rng .i64 14 9223372036854775807, .top], .bool true)])]

theorem tabPasses_ok : TabOk Tryd.prog tabPasses := TabOk.of_run (env0_ok.tab tabP_ok (pure := [])) (n := 60) (by kernel_rfl)

end Go.Proofs.YtclefndccgmolaaDoor
