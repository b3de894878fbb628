/-
  WORDS, KINDS AND LETTERS: known calls, each run by the kernel.
-/
import Derived.Test.YtclefndccgmolaaDoorTA
import Derived.KernelRfl
import Derived.Test.YtclefndccgmolaaDoorChecked
namespace Go.Proofs.YtclefndccgmolaaDoor
open Go Go.Am

def tabN23 : Tab := [
  (23, [
    ([.int .i64 0], .tup [.str [115, 117, 112, 112, 108, 121], .int .i64 0]),
    ([.int .i64 1], .tup [.str [99, 121, 108, 105, 110, 100, 101, 114], .int .i64 0]),
    ([.int .i64 2], .tup [.str [118, 97, 108, 118, 101, 53, 50], .int .i64 0]),
    ([.int .i64 3], .tup [.str [118, 97, 108, 118, 101, 53, 50, 115], .int .i64 0]),
    ([.int .i64 4], .tup [.str [118, 97, 108, 118, 101, 51, 50], .int .i64 0]),
    ([.int .i64 5], .tup [.str [118, 97, 108, 118, 101, 51, 50, 111], .int .i64 0]),
    ([.int .i64 6], .tup [.str [108, 105, 109, 105, 116], .int .i64 0]),
    ([.int .i64 7], .tup [.str [98, 117, 116, 116, 111, 110], .int .i64 0]),
    ([.int .i64 8], .tup [.str [115, 104, 117, 116, 116, 108, 101], .int .i64 0]),
    ([.int .i64 9], .tup [.str [116, 119, 105, 110], .int .i64 0]),
    ([.int .i64 10], .tup [.str [113, 117, 105, 99, 107], .int .i64 0]),
    ([.int .i64 11], .tup [.str [116, 104, 114, 111, 116, 116, 108, 101], .int .i64 0]),
    ([.int .i64 12], .tup [.str [100, 101, 108, 97, 121], .int .i64 0]),
    ([.int .i64 13], .tup [.str [99, 111, 117, 110, 116, 101, 114], .int .i64 0]),
    ([.rng .i64 (-9223372036854775808) (-1)], .tup [.str [], .int .i64 1]),
    ([.rng .i64 14 9223372036854775807], .tup [.str [], .int .i64 1])])]

theorem tabN23_ok : TabOk Tryd.prog tabN23 := TabOk.of_run (env0_ok.tab tab12_ok (pure := [])) (n := 60) (by kernel_rfl)

def tabN24 : Tab := [
  (24, [
    ([.int .i64 0], .tup [.str [115, 117, 112, 112, 108, 121], .int .i64 0]),
    ([.int .i64 1], .tup [.str [99, 121, 108, 105, 110, 100, 101, 114], .int .i64 0]),
    ([.int .i64 2], .tup [.str [118, 97, 108, 118, 101, 53, 50], .int .i64 0]),
    ([.int .i64 3], .tup [.str [118, 97, 108, 118, 101, 53, 50, 115], .int .i64 0]),
    ([.int .i64 4], .tup [.str [118, 97, 108, 118, 101, 51, 50], .int .i64 0]),
    ([.int .i64 5], .tup [.str [118, 97, 108, 118, 101, 51, 50, 111], .int .i64 0]),
    ([.int .i64 6], .tup [.str [108, 105, 109, 105, 116], .int .i64 0]),
    ([.int .i64 7], .tup [.str [98, 117, 116, 116, 111, 110], .int .i64 0]),
    ([.int .i64 8], .tup [.str [115, 104, 117, 116, 116, 108, 101], .int .i64 0]),
    ([.int .i64 9], .tup [.str [116, 119, 105, 110], .int .i64 0]),
    ([.int .i64 10], .tup [.str [113, 117, 105, 99, 107], .int .i64 0]),
    ([.int .i64 11], .tup [.str [116, 104, 114, 111, 116, 116, 108, 101], .int .i64 0]),
    ([.int .i64 12], .tup [.str [100, 101, 108, 97, 121], .int .i64 0]),
    ([.int .i64 13], .tup [.str [99, 111, 117, 110, 116, 101, 114], .int .i64 0]),
    ([.rng .i64 (-9223372036854775808) (-1)], .tup [.str [], .int .i64 1]),
    ([.rng .i64 14 9223372036854775807], .tup [.str [], .int .i64 1])])]

theorem tabN24_ok : TabOk Tryd.prog tabN24 := TabOk.of_run (env0_ok.tab tab12_ok (pure := [])) (n := 60) (by kernel_rfl)

def tabN25 : Tab := [
  (25, [
    ([.str [115, 117, 112, 112, 108, 121]], .tup [.int .i64 0, .int .i64 0]),
    ([.str [99, 121, 108, 105, 110, 100, 101, 114]], .tup [.int .i64 1, .int .i64 0]),
    ([.str [118, 97, 108, 118, 101, 53, 50]], .tup [.int .i64 2, .int .i64 0]),
    ([.str [118, 97, 108, 118, 101, 53, 50, 115]], .tup [.int .i64 3, .int .i64 0]),
    ([.str [118, 97, 108, 118, 101, 51, 50]], .tup [.int .i64 4, .int .i64 0]),
    ([.str [118, 97, 108, 118, 101, 51, 50, 111]], .tup [.int .i64 5, .int .i64 0]),
    ([.str [108, 105, 109, 105, 116]], .tup [.int .i64 6, .int .i64 0]),
    ([.str [98, 117, 116, 116, 111, 110]], .tup [.int .i64 7, .int .i64 0]),
    ([.str [115, 104, 117, 116, 116, 108, 101]], .tup [.int .i64 8, .int .i64 0]),
    ([.str [116, 119, 105, 110]], .tup [.int .i64 9, .int .i64 0]),
    ([.str [113, 117, 105, 99, 107]], .tup [.int .i64 10, .int .i64 0]),
    ([.str [116, 104, 114, 111, 116, 116, 108, 101]], .tup [.int .i64 11, .int .i64 0]),
    ([.str [100, 101, 108, 97, 121]], .tup [.int .i64 12, .int .i64 0]),
    ([.str [99, 111, 117, 110, 116, 101, 114]], .tup [.int .i64 13, .int .i64 0]),
    ([.strA [[115, 117, 112, 112, 108, 121], [99, 121, 108, 105, 110, 100, 101, 114], [118, 97, 108, 118, 101, 53, 50], [118, 97, 108, 118, 101, 53, 50, 115], [118, 97, 108, 118, 101, 51, 50], [118, 97, 108, 118, 101, 51, 50, 111], [108, 105, 109, 105, 116], [98, 117, 116, 116, 111, 110], [115, 104, 117, 116, 116, 108, 101], [116, 119, 105, 110], [113, 117, 105, 99, 107], [116, 104, 114, 111, 116, 116, 108, 101], [100, 101, 108, 97, 121], [99, 111, 117, 110, 116, 101, 114]] 0 60], .tup [.int .i64 0, .int .i64 6])])]

theorem tabN25_ok : TabOk Tryd.prog tabN25 := TabOk.of_run (env0_ok.tab tab12_ok (pure := [])) (n := 60) (by kernel_rfl)

def tabN26 : Tab := [
  (26, [
    ([.str [115, 117, 112, 112, 108, 121]], .tup [.int .i64 0, .int .i64 0]),
    ([.str [99, 121, 108, 105, 110, 100, 101, 114]], .tup [.int .i64 1, .int .i64 0]),
    ([.str [118, 97, 108, 118, 101, 53, 50]], .tup [.int .i64 2, .int .i64 0]),
    ([.str [118, 97, 108, 118, 101, 53, 50, 115]], .tup [.int .i64 3, .int .i64 0]),
    ([.str [118, 97, 108, 118, 101, 51, 50]], .tup [.int .i64 4, .int .i64 0]),
    ([.str [118, 97, 108, 118, 101, 51, 50, 111]], .tup [.int .i64 5, .int .i64 0]),
    ([.str [108, 105, 109, 105, 116]], .tup [.int .i64 6, .int .i64 0]),
    ([.str [98, 117, 116, 116, 111, 110]], .tup [.int .i64 7, .int .i64 0]),
    ([.str [115, 104, 117, 116, 116, 108, 101]], .tup [.int .i64 8, .int .i64 0]),
    ([.str [116, 119, 105, 110]], .tup [.int .i64 9, .int .i64 0]),
    ([.str [113, 117, 105, 99, 107]], .tup [.int .i64 10, .int .i64 0]),
    ([.str [116, 104, 114, 111, 116, 116, 108, 101]], .tup [.int .i64 11, .int .i64 0]),
    ([.str [100, 101, 108, 97, 121]], .tup [.int .i64 12, .int .i64 0]),
    ([.str [99, 111, 117, 110, 116, 101, 114]], .tup [.int .i64 13, .int .i64 0]),
    ([.strA [[115, 117, 112, 112, 108, 121], [99, 121, 108, 105, 110, 100, 101, 114], [118, 97, 108, 118, 101, 53, 50], [118, 97, 108, 118, 101, 53, 50, 115], [118, 97, 108, 118, 101, 51, 50], [118, 97, 108, 118, 101, 51, 50, 111], [108, 105, 109, 105, 116], [98, 117, 116, 116, 111, 110], [115, 104, 117, 116, 116, 108, 101], [116, 119, 105, 110], [113, 117, 105, 99, 107], [116, 104, 114, 111, 116, 116, 108, 101], [100, 101, 108, 97, 121], [99, 111, 117, 110, 116, 101, 114]] 0 60], .tup [.int .i64 0, .int .i64 6])])]

theorem tabN26_ok : TabOk Tryd.prog tabN26 := TabOk.of_run (env0_ok.tab tab12_ok (pure := [])) (n := 60) (by kernel_rfl)

def tabN27 : Tab := [
  (27, [
    ([.int .i64 0], .tup [.str [90], .int .i64 0]),
    ([.int .i64 1], .tup [.str [65], .int .i64 0]),
    ([.int .i64 2], .tup [.str [86], .int .i64 0]),
    ([.int .i64 3], .tup [.str [86], .int .i64 0]),
    ([.int .i64 4], .tup [.str [86], .int .i64 0]),
    ([.int .i64 5], .tup [.str [86], .int .i64 0]),
    ([.int .i64 6], .tup [.str [83], .int .i64 0]),
    ([.int .i64 7], .tup [.str [83], .int .i64 0]),
    ([.int .i64 8], .tup [.str [86], .int .i64 0]),
    ([.int .i64 9], .tup [.str [86], .int .i64 0]),
    ([.int .i64 10], .tup [.str [86], .int .i64 0]),
    ([.int .i64 11], .tup [.str [86], .int .i64 0]),
    ([.int .i64 12], .tup [.str [86], .int .i64 0]),
    ([.int .i64 13], .tup [.str [86], .int .i64 0]),
    ([.rng .i64 (-9223372036854775808) (-1)], .tup [.str [], .int .i64 1]),
    ([.rng .i64 14 9223372036854775807], .tup [.str [], .int .i64 1])])]

theorem tabN27_ok : TabOk Tryd.prog tabN27 := TabOk.of_run (env0_ok.tab tab12_ok (pure := [])) (n := 60) (by kernel_rfl)

def tabN28 : Tab := [
  (28, [
    ([.int .i64 0], .tup [.str [90], .int .i64 0]),
    ([.int .i64 1], .tup [.str [65], .int .i64 0]),
    ([.int .i64 2], .tup [.str [86], .int .i64 0]),
    ([.int .i64 3], .tup [.str [86], .int .i64 0]),
    ([.int .i64 4], .tup [.str [86], .int .i64 0]),
    ([.int .i64 5], .tup [.str [86], .int .i64 0]),
    ([.int .i64 6], .tup [.str [83], .int .i64 0]),
    ([.int .i64 7], .tup [.str [83], .int .i64 0]),
    ([.int .i64 8], .tup [.str [86], .int .i64 0]),
    ([.int .i64 9], .tup [.str [86], .int .i64 0]),
    ([.int .i64 10], .tup [.str [86], .int .i64 0]),
    ([.int .i64 11], .tup [.str [86], .int .i64 0]),
    ([.int .i64 12], .tup [.str [86], .int .i64 0]),
    ([.int .i64 13], .tup [.str [86], .int .i64 0]),
    ([.rng .i64 (-9223372036854775808) (-1)], .tup [.str [], .int .i64 1]),
    ([.rng .i64 14 9223372036854775807], .tup [.str [], .int .i64 1])])]

theorem tabN28_ok : TabOk Tryd.prog tabN28 := TabOk.of_run (env0_ok.tab tab12_ok (pure := [])) (n := 60) (by kernel_rfl)

def tabN44 : Tab := [
  (44, [
    ([.int .i64 0], .int .i64 0),
    ([.int .i64 1], .int .i64 0),
    ([.int .i64 2], .int .i64 0),
    ([.int .i64 3], .int .i64 0),
    ([.int .i64 4], .int .i64 0),
    ([.int .i64 5], .int .i64 0),
    ([.int .i64 6], .int .i64 0),
    ([.int .i64 7], .int .i64 0),
    ([.int .i64 8], .int .i64 0),
    ([.int .i64 9], .int .i64 0),
    ([.int .i64 10], .int .i64 0),
    ([.int .i64 11], .int .i64 0),
    ([.int .i64 12], .int .i64 0),
    ([.int .i64 13], .int .i64 0),
    ([.rng .i64 (-9223372036854775808) (-1)], .int .i64 1),
    ([.rng .i64 14 9223372036854775807], .int .i64 1)])]

theorem tabN44_ok : TabOk Tryd.prog tabN44 := TabOk.of_run (env0_ok.tab tab12_ok (pure := [])) (n := 60) (by kernel_rfl)

end Go.Proofs.YtclefndccgmolaaDoor
