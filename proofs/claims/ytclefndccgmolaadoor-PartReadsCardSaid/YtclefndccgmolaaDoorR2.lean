/-
  WORDS, KINDS, PORTS AND ROLES: known calls, each run by the kernel.
-/
import Derived.Test.YtclefndccgmolaaDoorTA
import Derived.KernelRfl
import Derived.Test.YtclefndccgmolaaDoorChecked
namespace Go.Proofs.YtclefndccgmolaaDoor
open Go Go.Am

def tabR23 : Tab := [
  (23, [
    ([.int .i64 0], .tup [.str [115, 117, 112, 112, 108, 121], .int .i64 0]),
    ([.int .i64 1], .tup [.str [99, 121, 108, 105, 110, 100, 101, 114], .int .i64 0]),
    ([.int .i64 2], .tup [.str [118, 97, 108, 118, 101, 53, 50], .int .i64 0]),
    ([.int .i64 3], .tup [.str [118, 97, 108, 118, 101, 53, 50, 115], .int .i64 0]),
    ([.int .i64 4], .tup [.str [118, 97, 108, 118, 101, 51, 50], .int .i64 0]),
    ([.int .i64 5], .tup [.str [118, 97, 108, 118, 101, 51, 50, 111], .int .i64 0]),
    ([.int .i64 6], .tup [.str [108, 105, 109, 105, 116], .int .i64 0]),
    ([.int .i64 7], .tup [.str [98, 117, 116, 116, 111, 110], .int .i64 0]),
    ([.int .i64 8], .tup [.str [115, 104, 117, 116, 116, 108, 101], .int .i64 0]),
    ([.int .i64 9], .tup [.str [116, 119, 105, 110], .int .i64 0]),
    ([.int .i64 10], .tup [.str [113, 117, 105, 99, 107], .int .i64 0]),
    ([.int .i64 11], .tup [.str [116, 104, 114, 111, 116, 116, 108, 101], .int .i64 0]),
    ([.int .i64 12], .tup [.str [100, 101, 108, 97, 121], .int .i64 0]),
    ([.int .i64 13], .tup [.str [99, 111, 117, 110, 116, 101, 114], .int .i64 0])])]

theorem tabR23_ok : TabOk Tryd.prog tabR23 := TabOk.of_run (env0_ok.tab tab12_ok (pure := [])) (n := 60) (by kernel_rfl)

def tabR25 : Tab := [
  (25, [
    ([.str [115, 117, 112, 112, 108, 121]], .tup [.int .i64 0, .int .i64 0]),
    ([.str [99, 121, 108, 105, 110, 100, 101, 114]], .tup [.int .i64 1, .int .i64 0]),
    ([.str [118, 97, 108, 118, 101, 53, 50]], .tup [.int .i64 2, .int .i64 0]),
    ([.str [118, 97, 108, 118, 101, 53, 50, 115]], .tup [.int .i64 3, .int .i64 0]),
    ([.str [118, 97, 108, 118, 101, 51, 50]], .tup [.int .i64 4, .int .i64 0]),
    ([.str [118, 97, 108, 118, 101, 51, 50, 111]], .tup [.int .i64 5, .int .i64 0]),
    ([.str [108, 105, 109, 105, 116]], .tup [.int .i64 6, .int .i64 0]),
    ([.str [98, 117, 116, 116, 111, 110]], .tup [.int .i64 7, .int .i64 0]),
    ([.str [115, 104, 117, 116, 116, 108, 101]], .tup [.int .i64 8, .int .i64 0]),
    ([.str [116, 119, 105, 110]], .tup [.int .i64 9, .int .i64 0]),
    ([.str [113, 117, 105, 99, 107]], .tup [.int .i64 10, .int .i64 0]),
    ([.str [116, 104, 114, 111, 116, 116, 108, 101]], .tup [.int .i64 11, .int .i64 0]),
    ([.str [100, 101, 108, 97, 121]], .tup [.int .i64 12, .int .i64 0]),
    ([.str [99, 111, 117, 110, 116, 101, 114]], .tup [.int .i64 13, .int .i64 0])])]

theorem tabR25_ok : TabOk Tryd.prog tabR25 := TabOk.of_run (env0_ok.tab tab12_ok (pure := [])) (n := 60) (by kernel_rfl)

def tabR31 : Tab := [
  (31, [
    ([.int .i64 0], .tup [.vs [[.str [49]]], .int .i64 0]),
    ([.int .i64 1], .tup [.vs [[.str [50]], [.str [52]]], .int .i64 0]),
    ([.int .i64 2], .tup [.vs [[.str [49]], [.str [49, 50]], [.str [49, 52]], [.str [50]], [.str [51]], [.str [52]], [.str [53]]], .int .i64 0]),
    ([.int .i64 3], .tup [.vs [[.str [49]], [.str [49, 52]], [.str [50]], [.str [51]], [.str [52]], [.str [53]]], .int .i64 0]),
    ([.int .i64 4], .tup [.vs [[.str [49]], [.str [49, 50]], [.str [50]], [.str [51]]], .int .i64 0]),
    ([.int .i64 5], .tup [.vs [[.str [49]], [.str [49, 48]], [.str [50]], [.str [51]]], .int .i64 0]),
    ([.int .i64 6], .tup [.vs [[.str [49]], [.str [50]], [.str [51]]], .int .i64 0]),
    ([.int .i64 7], .tup [.vs [[.str [49]], [.str [50]], [.str [51]]], .int .i64 0]),
    ([.int .i64 8], .tup [.vs [[.str [49]], [.str [49, 49]], [.str [50]]], .int .i64 0]),
    ([.int .i64 9], .tup [.vs [[.str [49]], [.str [49, 49]], [.str [50]]], .int .i64 0]),
    ([.int .i64 10], .tup [.vs [[.str [49]], [.str [50]], [.str [51]]], .int .i64 0]),
    ([.int .i64 11], .tup [.vs [[.str [49]], [.str [50]]], .int .i64 0]),
    ([.int .i64 12], .tup [.vs [[.str [49]], [.str [49, 50]], [.str [50]], [.str [51]]], .int .i64 0]),
    ([.int .i64 13], .tup [.vs [[.str [49]], [.str [49, 50]], [.str [50]], [.str [51]]], .int .i64 0])])]

theorem tabR31_ok : TabOk Tryd.prog tabR31 := TabOk.of_run (env0_ok.tab tab12_ok (pure := [])) (n := 60) (by kernel_rfl)

def tabR33 : Tab := [
  (33, [
    ([.int .i64 0, .str [49]], .tup [.int .i64 1, .int .i64 0]),
    ([.int .i64 0, .strA [[49]] 0 9223372036854775807], .tup [.int .i64 0, .int .i64 6]),
    ([.int .i64 1, .str [50]], .tup [.int .i64 4, .int .i64 0]),
    ([.int .i64 1, .str [52]], .tup [.int .i64 4, .int .i64 0]),
    ([.int .i64 1, .strA [[50], [52]] 0 9223372036854775807], .tup [.int .i64 0, .int .i64 6]),
    ([.int .i64 2, .str [49]], .tup [.int .i64 0, .int .i64 0]),
    ([.int .i64 2, .str [49, 50]], .tup [.int .i64 3, .int .i64 0]),
    ([.int .i64 2, .str [49, 52]], .tup [.int .i64 3, .int .i64 0]),
    ([.int .i64 2, .str [50]], .tup [.int .i64 1, .int .i64 0]),
    ([.int .i64 2, .str [51]], .tup [.int .i64 2, .int .i64 0]),
    ([.int .i64 2, .str [52]], .tup [.int .i64 1, .int .i64 0]),
    ([.int .i64 2, .str [53]], .tup [.int .i64 2, .int .i64 0]),
    ([.int .i64 2, .strA [[49], [49, 50], [49, 52], [50], [51], [52], [53]] 0 9223372036854775807], .tup [.int .i64 0, .int .i64 6]),
    ([.int .i64 3, .str [49]], .tup [.int .i64 0, .int .i64 0]),
    ([.int .i64 3, .str [49, 52]], .tup [.int .i64 3, .int .i64 0]),
    ([.int .i64 3, .str [50]], .tup [.int .i64 1, .int .i64 0]),
    ([.int .i64 3, .str [51]], .tup [.int .i64 2, .int .i64 0]),
    ([.int .i64 3, .str [52]], .tup [.int .i64 1, .int .i64 0]),
    ([.int .i64 3, .str [53]], .tup [.int .i64 2, .int .i64 0]),
    ([.int .i64 3, .strA [[49], [49, 52], [50], [51], [52], [53]] 0 9223372036854775807], .tup [.int .i64 0, .int .i64 6]),
    ([.int .i64 4, .str [49]], .tup [.int .i64 0, .int .i64 0]),
    ([.int .i64 4, .str [49, 50]], .tup [.int .i64 3, .int .i64 0]),
    ([.int .i64 4, .str [50]], .tup [.int .i64 1, .int .i64 0]),
    ([.int .i64 4, .str [51]], .tup [.int .i64 2, .int .i64 0]),
    ([.int .i64 4, .strA [[49], [49, 50], [50], [51]] 0 9223372036854775807], .tup [.int .i64 0, .int .i64 6]),
    ([.int .i64 5, .str [49]], .tup [.int .i64 0, .int .i64 0]),
    ([.int .i64 5, .str [49, 48]], .tup [.int .i64 3, .int .i64 0]),
    ([.int .i64 5, .str [50]], .tup [.int .i64 1, .int .i64 0]),
    ([.int .i64 5, .str [51]], .tup [.int .i64 2, .int .i64 0]),
    ([.int .i64 5, .strA [[49], [49, 48], [50], [51]] 0 9223372036854775807], .tup [.int .i64 0, .int .i64 6]),
    ([.int .i64 6, .str [49]], .tup [.int .i64 0, .int .i64 0]),
    ([.int .i64 6, .str [50]], .tup [.int .i64 1, .int .i64 0]),
    ([.int .i64 6, .str [51]], .tup [.int .i64 2, .int .i64 0]),
    ([.int .i64 6, .strA [[49], [50], [51]] 0 9223372036854775807], .tup [.int .i64 0, .int .i64 6]),
    ([.int .i64 7, .str [49]], .tup [.int .i64 0, .int .i64 0]),
    ([.int .i64 7, .str [50]], .tup [.int .i64 1, .int .i64 0]),
    ([.int .i64 7, .str [51]], .tup [.int .i64 2, .int .i64 0]),
    ([.int .i64 7, .strA [[49], [50], [51]] 0 9223372036854775807], .tup [.int .i64 0, .int .i64 6]),
    ([.int .i64 8, .str [49]], .tup [.int .i64 0, .int .i64 0]),
    ([.int .i64 8, .str [49, 49]], .tup [.int .i64 0, .int .i64 0]),
    ([.int .i64 8, .str [50]], .tup [.int .i64 1, .int .i64 0]),
    ([.int .i64 8, .strA [[49], [49, 49], [50]] 0 9223372036854775807], .tup [.int .i64 0, .int .i64 6]),
    ([.int .i64 9, .str [49]], .tup [.int .i64 0, .int .i64 0]),
    ([.int .i64 9, .str [49, 49]], .tup [.int .i64 0, .int .i64 0]),
    ([.int .i64 9, .str [50]], .tup [.int .i64 1, .int .i64 0]),
    ([.int .i64 9, .strA [[49], [49, 49], [50]] 0 9223372036854775807], .tup [.int .i64 0, .int .i64 6]),
    ([.int .i64 10, .str [49]], .tup [.int .i64 0, .int .i64 0]),
    ([.int .i64 10, .str [50]], .tup [.int .i64 1, .int .i64 0]),
    ([.int .i64 10, .str [51]], .tup [.int .i64 2, .int .i64 0]),
    ([.int .i64 10, .strA [[49], [50], [51]] 0 9223372036854775807], .tup [.int .i64 0, .int .i64 6]),
    ([.int .i64 11, .str [49]], .tup [.int .i64 0, .int .i64 0]),
    ([.int .i64 11, .str [50]], .tup [.int .i64 1, .int .i64 0]),
    ([.int .i64 11, .strA [[49], [50]] 0 9223372036854775807], .tup [.int .i64 0, .int .i64 6]),
    ([.int .i64 12, .str [49]], .tup [.int .i64 0, .int .i64 0]),
    ([.int .i64 12, .str [49, 50]], .tup [.int .i64 3, .int .i64 0]),
    ([.int .i64 12, .str [50]], .tup [.int .i64 1, .int .i64 0]),
    ([.int .i64 12, .str [51]], .tup [.int .i64 2, .int .i64 0]),
    ([.int .i64 12, .strA [[49], [49, 50], [50], [51]] 0 9223372036854775807], .tup [.int .i64 0, .int .i64 6]),
    ([.int .i64 13, .str [49]], .tup [.int .i64 0, .int .i64 0]),
    ([.int .i64 13, .str [49, 50]], .tup [.int .i64 3, .int .i64 0]),
    ([.int .i64 13, .str [50]], .tup [.int .i64 1, .int .i64 0]),
    ([.int .i64 13, .str [51]], .tup [.int .i64 2, .int .i64 0]),
    ([.int .i64 13, .strA [[49], [49, 50], [50], [51]] 0 9223372036854775807], .tup [.int .i64 0, .int .i64 6])])]

theorem tabR33_ok : TabOk Tryd.prog tabR33 := TabOk.of_run (env0_ok.tab tab12_ok (pure := [])) (n := 60) (by kernel_rfl)

end Go.Proofs.YtclefndccgmolaaDoor
