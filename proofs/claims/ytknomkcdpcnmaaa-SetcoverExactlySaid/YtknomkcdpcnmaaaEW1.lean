/-
  THE CHAPTER's EXAMPLES.
-/
import Derived.Test.YtknomkcdpcnmaaaEVN
import Derived.Test.YtknomkcdpcnmaaaEVK
import Derived.Test.YtknomkcdpcnmaaaEVG
namespace Go.Proofs.Ytknomkcdpcnmaaa
open Go Go.Am
def zts : List (BitVec 64) := [7#64, 12#64, 25#64, 18#64]
def fiveM : List (BitVec 64) := [7#64, 12#64, 25#64, 18#64, 24#64]
def fA : AV := .agg [.int .i64 5, .vs [[.int .u64 7], [.int .u64 12], [.int .u64 25], [.int .u64 18]]]
def gA : AV := .agg [.int .i64 5, .vs [[.int .u64 7], [.int .u64 12], [.int .u64 25], [.int .u64 18], [.int .u64 24]]]
def tab1 : Tab := [
 (24, [([fA], .tup [.vs [[.int .i64 0], [.int .i64 2]], .int .i64 0])]),
 (21, [([fA], .tup [.vs [[.int .i64 0], [.int .i64 2]], .int .i64 0])]),
 (17, [([fA, .vs [[.int .i64 1], [.int .i64 3]]], .tup [.bool true, .int .i64 0])]),
 (13, [([fA], .tup [.vs [], .int .i64 0, .int .i64 6]), ([gA], .tup [.vs [[.int .i64 0], [.int .i64 4]], .int .i64 1, .int .i64 0])]),
 (19, [([fA], .tup [.vs [[.int .i64 1], [.int .i64 3]], .int .i64 0])])]
theorem f_eq : fA = cF 5 zts := by kernel_rfl
theorem g_eq : gA = cF 5 fiveM := by kernel_rfl
theorem e1 : fewV 5 zts = .tup [.vs [[.int .i64 0], [.int .i64 2]], .int .i64 0] := by kernel_rfl
theorem e2 : greV 5 zts = .tup [.vs [[.int .i64 0], [.int .i64 2]], .int .i64 0] := by kernel_rfl
theorem e3 : apaV 5 zts [1, 3] = .tup [.bool true, .int .i64 0] := by kernel_rfl
theorem e4 : exaV 5 zts = .tup [.vs [], .int .i64 0, .int .i64 6] := by kernel_rfl
theorem e5 : exaV 5 fiveM = .tup [.vs [[.int .i64 0], [.int .i64 4]], .int .i64 1, .int .i64 0] := by kernel_rfl
theorem e6 : bouV 5 zts = .tup [.vs [[.int .i64 1], [.int .i64 3]], .int .i64 0] := by kernel_rfl
theorem tab1_ok : TabOk Try.prog tab1 := by
 intro x hx y hy
 unfold tab1 at hx
 simp only [List.mem_cons, List.not_mem_nil, or_false] at hx
 rcases hx with rfl | rfl | rfl | rfl | rfl
 ·obtain rfl := List.mem_singleton.1 hy
  have := zpz 5 zts
  rw [e1, ← f_eq] at this
  exact this
 ·obtain rfl := List.mem_singleton.1 hy
  have := greedy21 5 zts fun _ => by decide
  rw [e2, ← f_eq] at this
  exact this
 ·obtain rfl := List.mem_singleton.1 hy
  have := apart17 5 zts [1, 3] (by decide)
  rw [e3, ← f_eq] at this
  exact this
 ·simp only [List.mem_cons, List.not_mem_nil, or_false] at hy
  rcases hy with rfl | rfl
  ·have := zim 5 zts
   rw [e4, ← f_eq] at this
   exact this
  ·have := zim 5 fiveM
   rw [e5, ← g_eq] at this
   exact this
 ·obtain rfl := List.mem_singleton.1 hy
  have := bound19 5 zts
  rw [e6, ← f_eq] at this
  exact this
def tab0 : Tab := [
 (40, [([.bool false], fA), ([.bool true], gA)]),
 (14, [([fA], fA), ([gA], gA)])]
theorem tab0_ok : TabOk Try.prog tab0 := TabOk.of_run (env0_ok.tab TabOk.nil (pure := [])) (n := 80) (by kernel_rfl)
def tabA : Tab := [
 (12, [
  ([], .bool true)])]
theorem tabA_ok : TabOk Try.prog tabA := TabOk.of_run (env0_ok.tab (tab0_ok.append tab1_ok) (pure := [])) (n := 80) (by kernel_rfl)
theorem zg0 : PF Try.prog 12 [] (.bool true) := tabA_ok _ (List.mem_cons_self ..) _ (List.mem_cons_self ..)
end Go.Proofs.Ytknomkcdpcnmaaa
