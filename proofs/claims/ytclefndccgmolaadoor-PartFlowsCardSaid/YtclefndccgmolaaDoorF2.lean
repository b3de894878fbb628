/-
  PASSES, VENTS, PORTS, ROLES AND POSITIONS: known calls, each run by the kernel.
-/
import Derived.Test.YtclefndccgmolaaDoorTA
import Derived.KernelRfl
import Derived.Test.YtclefndccgmolaaDoorChecked
namespace Go.Proofs.YtclefndccgmolaaDoor
open Go Go.Am

def tabF10 : Tab := [
  (10, [
    ([.int .i64 0, .int .i64 0], .tup [.vs [], .int .i64 0]),
    ([.int .i64 1, .int .i64 0], .tup [.vs [], .int .i64 0]),
    ([.int .i64 2, .int .i64 0], .tup [.vs [[.str [50], .vs [[.str [49]]], .bool false]], .int .i64 0]),
    ([.int .i64 2, .int .i64 1], .tup [.vs [[.str [52], .vs [[.str [49]]], .bool false]], .int .i64 0]),
    ([.int .i64 3, .int .i64 0], .tup [.vs [[.str [50], .vs [[.str [49]]], .bool false]], .int .i64 0]),
    ([.int .i64 3, .int .i64 1], .tup [.vs [[.str [52], .vs [[.str [49]]], .bool false]], .int .i64 0]),
    ([.int .i64 4, .int .i64 0], .tup [.vs [], .int .i64 0]),
    ([.int .i64 4, .int .i64 1], .tup [.vs [[.str [50], .vs [[.str [49]]], .bool false]], .int .i64 0]),
    ([.int .i64 5, .int .i64 0], .tup [.vs [[.str [50], .vs [[.str [49]]], .bool false]], .int .i64 0]),
    ([.int .i64 5, .int .i64 1], .tup [.vs [], .int .i64 0]),
    ([.int .i64 6, .int .i64 0], .tup [.vs [], .int .i64 0]),
    ([.int .i64 6, .int .i64 1], .tup [.vs [[.str [50], .vs [[.str [49]]], .bool false]], .int .i64 0]),
    ([.int .i64 7, .int .i64 0], .tup [.vs [], .int .i64 0]),
    ([.int .i64 7, .int .i64 1], .tup [.vs [[.str [50], .vs [[.str [49]]], .bool false]], .int .i64 0]),
    ([.int .i64 8, .int .i64 0], .tup [.vs [[.str [50], .vs [[.str [49]], [.str [49, 49]]], .bool false]], .int .i64 0]),
    ([.int .i64 9, .int .i64 0], .tup [.vs [[.str [50], .vs [[.str [49]], [.str [49, 49]]], .bool true]], .int .i64 0]),
    ([.int .i64 10, .int .i64 0], .tup [.vs [[.str [50], .vs [[.str [49]]], .bool false]], .int .i64 0]),
    ([.int .i64 11, .int .i64 0], .tup [.vs [[.str [50], .vs [[.str [49]]], .bool false]], .int .i64 0]),
    ([.int .i64 12, .int .i64 0], .tup [.vs [], .int .i64 0]),
    ([.int .i64 12, .int .i64 1], .tup [.vs [[.str [50], .vs [[.str [49]]], .bool false]], .int .i64 0]),
    ([.int .i64 13, .int .i64 0], .tup [.vs [], .int .i64 0]),
    ([.int .i64 13, .int .i64 1], .tup [.vs [[.str [50], .vs [[.str [49]]], .bool false]], .int .i64 0])])]

theorem tabF10_ok : TabOk Tryd.prog tabF10 := TabOk.of_run (env0_ok.tab tab12_ok (pure := [])) (n := 60) (by kernel_rfl)

def tabF12 : Tab := [
  (12, [
    ([.int .i64 0, .int .i64 0], .tup [.vs [], .int .i64 0]),
    ([.int .i64 1, .int .i64 0], .tup [.vs [], .int .i64 0]),
    ([.int .i64 2, .int .i64 0], .tup [.vs [[.str [52]]], .int .i64 0]),
    ([.int .i64 2, .int .i64 1], .tup [.vs [[.str [50]]], .int .i64 0]),
    ([.int .i64 3, .int .i64 0], .tup [.vs [[.str [52]]], .int .i64 0]),
    ([.int .i64 3, .int .i64 1], .tup [.vs [[.str [50]]], .int .i64 0]),
    ([.int .i64 4, .int .i64 0], .tup [.vs [[.str [50]]], .int .i64 0]),
    ([.int .i64 4, .int .i64 1], .tup [.vs [], .int .i64 0]),
    ([.int .i64 5, .int .i64 0], .tup [.vs [], .int .i64 0]),
    ([.int .i64 5, .int .i64 1], .tup [.vs [[.str [50]]], .int .i64 0]),
    ([.int .i64 6, .int .i64 0], .tup [.vs [[.str [50]]], .int .i64 0]),
    ([.int .i64 6, .int .i64 1], .tup [.vs [], .int .i64 0]),
    ([.int .i64 7, .int .i64 0], .tup [.vs [[.str [50]]], .int .i64 0]),
    ([.int .i64 7, .int .i64 1], .tup [.vs [], .int .i64 0]),
    ([.int .i64 8, .int .i64 0], .tup [.vs [], .int .i64 0]),
    ([.int .i64 9, .int .i64 0], .tup [.vs [], .int .i64 0]),
    ([.int .i64 10, .int .i64 0], .tup [.vs [], .int .i64 0]),
    ([.int .i64 11, .int .i64 0], .tup [.vs [], .int .i64 0]),
    ([.int .i64 12, .int .i64 0], .tup [.vs [[.str [50]]], .int .i64 0]),
    ([.int .i64 12, .int .i64 1], .tup [.vs [], .int .i64 0]),
    ([.int .i64 13, .int .i64 0], .tup [.vs [[.str [50]]], .int .i64 0]),
    ([.int .i64 13, .int .i64 1], .tup [.vs [], .int .i64 0])])]

theorem tabF12_ok : TabOk Tryd.prog tabF12 := TabOk.of_run (env0_ok.tab tab12_ok (pure := [])) (n := 60) (by kernel_rfl)

def tabF22 : Tab := [
  (22, [
    ([.int .i64 0], .tup [.int .i64 1, .int .i64 0]),
    ([.int .i64 1], .tup [.int .i64 1, .int .i64 0]),
    ([.int .i64 2], .tup [.int .i64 2, .int .i64 0]),
    ([.int .i64 3], .tup [.int .i64 2, .int .i64 0]),
    ([.int .i64 4], .tup [.int .i64 2, .int .i64 0]),
    ([.int .i64 5], .tup [.int .i64 2, .int .i64 0]),
    ([.int .i64 6], .tup [.int .i64 2, .int .i64 0]),
    ([.int .i64 7], .tup [.int .i64 2, .int .i64 0]),
    ([.int .i64 8], .tup [.int .i64 1, .int .i64 0]),
    ([.int .i64 9], .tup [.int .i64 1, .int .i64 0]),
    ([.int .i64 10], .tup [.int .i64 1, .int .i64 0]),
    ([.int .i64 11], .tup [.int .i64 1, .int .i64 0]),
    ([.int .i64 12], .tup [.int .i64 2, .int .i64 0]),
    ([.int .i64 13], .tup [.int .i64 2, .int .i64 0])])]

theorem tabF22_ok : TabOk Tryd.prog tabF22 := TabOk.of_run (env0_ok.tab tab12_ok (pure := [])) (n := 60) (by kernel_rfl)

def tabF31 : Tab := [
  (31, [
    ([.int .i64 0], .tup [.vs [[.str [49]]], .int .i64 0]),
    ([.int .i64 1], .tup [.vs [[.str [50]], [.str [52]]], .int .i64 0]),
    ([.int .i64 2], .tup [.vs [[.str [49]], [.str [49, 50]], [.str [49, 52]], [.str [50]], [.str [51]], [.str [52]], [.str [53]]], .int .i64 0]),
    ([.int .i64 3], .tup [.vs [[.str [49]], [.str [49, 52]], [.str [50]], [.str [51]], [.str [52]], [.str [53]]], .int .i64 0]),
    ([.int .i64 4], .tup [.vs [[.str [49]], [.str [49, 50]], [.str [50]], [.str [51]]], .int .i64 0]),
    ([.int .i64 5], .tup [.vs [[.str [49]], [.str [49, 48]], [.str [50]], [.str [51]]], .int .i64 0]),
    ([.int .i64 6], .tup [.vs [[.str [49]], [.str [50]], [.str [51]]], .int .i64 0]),
    ([.int .i64 7], .tup [.vs [[.str [49]], [.str [50]], [.str [51]]], .int .i64 0]),
    ([.int .i64 8], .tup [.vs [[.str [49]], [.str [49, 49]], [.str [50]]], .int .i64 0]),
    ([.int .i64 9], .tup [.vs [[.str [49]], [.str [49, 49]], [.str [50]]], .int .i64 0]),
    ([.int .i64 10], .tup [.vs [[.str [49]], [.str [50]], [.str [51]]], .int .i64 0]),
    ([.int .i64 11], .tup [.vs [[.str [49]], [.str [50]]], .int .i64 0]),
    ([.int .i64 12], .tup [.vs [[.str [49]], [.str [49, 50]], [.str [50]], [.str [51]]], .int .i64 0]),
    ([.int .i64 13], .tup [.vs [[.str [49]], [.str [49, 50]], [.str [50]], [.str [51]]], .int .i64 0])])]

theorem tabF31_ok : TabOk Tryd.prog tabF31 := TabOk.of_run (env0_ok.tab tab12_ok (pure := [])) (n := 60) (by kernel_rfl)

def tabF33 : Tab := [
  (33, [
    ([.int .i64 0, .str [49]], .tup [.int .i64 1, .int .i64 0]),
    ([.int .i64 1, .str [50]], .tup [.int .i64 4, .int .i64 0]),
    ([.int .i64 1, .str [52]], .tup [.int .i64 4, .int .i64 0]),
    ([.int .i64 2, .str [49]], .tup [.int .i64 0, .int .i64 0]),
    ([.int .i64 2, .str [49, 50]], .tup [.int .i64 3, .int .i64 0]),
    ([.int .i64 2, .str [49, 52]], .tup [.int .i64 3, .int .i64 0]),
    ([.int .i64 2, .str [50]], .tup [.int .i64 1, .int .i64 0]),
    ([.int .i64 2, .str [51]], .tup [.int .i64 2, .int .i64 0]),
    ([.int .i64 2, .str [52]], .tup [.int .i64 1, .int .i64 0]),
    ([.int .i64 2, .str [53]], .tup [.int .i64 2, .int .i64 0]),
    ([.int .i64 3, .str [49]], .tup [.int .i64 0, .int .i64 0]),
    ([.int .i64 3, .str [49, 52]], .tup [.int .i64 3, .int .i64 0]),
    ([.int .i64 3, .str [50]], .tup [.int .i64 1, .int .i64 0]),
    ([.int .i64 3, .str [51]], .tup [.int .i64 2, .int .i64 0]),
    ([.int .i64 3, .str [52]], .tup [.int .i64 1, .int .i64 0]),
    ([.int .i64 3, .str [53]], .tup [.int .i64 2, .int .i64 0]),
    ([.int .i64 4, .str [49]], .tup [.int .i64 0, .int .i64 0]),
    ([.int .i64 4, .str [49, 50]], .tup [.int .i64 3, .int .i64 0]),
    ([.int .i64 4, .str [50]], .tup [.int .i64 1, .int .i64 0]),
    ([.int .i64 4, .str [51]], .tup [.int .i64 2, .int .i64 0]),
    ([.int .i64 5, .str [49]], .tup [.int .i64 0, .int .i64 0]),
    ([.int .i64 5, .str [49, 48]], .tup [.int .i64 3, .int .i64 0]),
    ([.int .i64 5, .str [50]], .tup [.int .i64 1, .int .i64 0]),
    ([.int .i64 5, .str [51]], .tup [.int .i64 2, .int .i64 0]),
    ([.int .i64 6, .str [49]], .tup [.int .i64 0, .int .i64 0]),
    ([.int .i64 6, .str [50]], .tup [.int .i64 1, .int .i64 0]),
    ([.int .i64 6, .str [51]], .tup [.int .i64 2, .int .i64 0]),
    ([.int .i64 7, .str [49]], .tup [.int .i64 0, .int .i64 0]),
    ([.int .i64 7, .str [50]], .tup [.int .i64 1, .int .i64 0]),
    ([.int .i64 7, .str [51]], .tup [.int .i64 2, .int .i64 0]),
    ([.int .i64 8, .str [49]], .tup [.int .i64 0, .int .i64 0]),
    ([.int .i64 8, .str [49, 49]], .tup [.int .i64 0, .int .i64 0]),
    ([.int .i64 8, .str [50]], .tup [.int .i64 1, .int .i64 0]),
    ([.int .i64 9, .str [49]], .tup [.int .i64 0, .int .i64 0]),
    ([.int .i64 9, .str [49, 49]], .tup [.int .i64 0, .int .i64 0]),
    ([.int .i64 9, .str [50]], .tup [.int .i64 1, .int .i64 0]),
    ([.int .i64 10, .str [49]], .tup [.int .i64 0, .int .i64 0]),
    ([.int .i64 10, .str [50]], .tup [.int .i64 1, .int .i64 0]),
    ([.int .i64 10, .str [51]], .tup [.int .i64 2, .int .i64 0]),
    ([.int .i64 11, .str [49]], .tup [.int .i64 0, .int .i64 0]),
    ([.int .i64 11, .str [50]], .tup [.int .i64 1, .int .i64 0]),
    ([.int .i64 12, .str [49]], .tup [.int .i64 0, .int .i64 0]),
    ([.int .i64 12, .str [49, 50]], .tup [.int .i64 3, .int .i64 0]),
    ([.int .i64 12, .str [50]], .tup [.int .i64 1, .int .i64 0]),
    ([.int .i64 12, .str [51]], .tup [.int .i64 2, .int .i64 0]),
    ([.int .i64 13, .str [49]], .tup [.int .i64 0, .int .i64 0]),
    ([.int .i64 13, .str [49, 50]], .tup [.int .i64 3, .int .i64 0]),
    ([.int .i64 13, .str [50]], .tup [.int .i64 1, .int .i64 0]),
    ([.int .i64 13, .str [51]], .tup [.int .i64 2, .int .i64 0])])]

theorem tabF33_ok : TabOk Tryd.prog tabF33 := TabOk.of_run (env0_ok.tab tab12_ok (pure := [])) (n := 60) (by kernel_rfl)

end Go.Proofs.YtclefndccgmolaaDoor
