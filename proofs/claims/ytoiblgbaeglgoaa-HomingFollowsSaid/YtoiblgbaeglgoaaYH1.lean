/-
  ENDS OF FEW ACTUATORS: their positions, their index, and back: known calls, run by the kernel.
-/
import Derived.Test.YtoiblgbaeglgoaaYA10
import Derived.Test.YtoiblgbaeglgoaaYQD
namespace Go.Proofs.Ytoiblgbaeglgoaa
open Go Go.Am

def allE : List (List Bool) := [
  [false],
  [true],
  [false, false],
  [false, true],
  [true, false],
  [true, true],
  [false, false, false],
  [false, false, true],
  [false, true, false],
  [false, true, true],
  [true, false, false],
  [true, false, true],
  [true, true, false],
  [true, true, true],
  [false, false, false, false],
  [false, false, false, true],
  [false, false, true, false],
  [false, false, true, true],
  [false, true, false, false],
  [false, true, false, true],
  [false, true, true, false],
  [false, true, true, true],
  [true, false, false, false],
  [true, false, false, true],
  [true, false, true, false],
  [true, false, true, true],
  [true, true, false, false],
  [true, true, false, true],
  [true, true, true, false],
  [true, true, true, true]]

def idxE : List Bool → Nat
  | [] => 0
  | b :: e => (if b then 1 else 0) + 2 * idxE e

def posE (e : List Bool) : List Int := e.map fun b => if b then 2 else 0

theorem allE_mem : ∀ e : List Bool, 1 ≤ e.length → e.length ≤ 4 → e ∈ allE
  | [], h, _ => by simp at h
  | [a], _, _ => by cases a <;> decide
  | [a, b], _, _ => by cases a <;> cases b <;> decide
  | [a, b, c], _, _ => by cases a <;> cases b <;> cases c <;> decide
  | [a, b, c, d], _, _ => by cases a <;> cases b <;> cases c <;> cases d <;> decide
  | _ :: _ :: _ :: _ :: _ :: e, _, h => by simp only [List.length_cons] at h; omega

def rows55 : List (List AV × AV) := [
  ([.int .i64 1, .int .i64 0], .vs [[.bool false]]),
  ([.int .i64 1, .int .i64 1], .vs [[.bool true]]),
  ([.int .i64 2, .int .i64 0], .vs [[.bool false], [.bool false]]),
  ([.int .i64 2, .int .i64 2], .vs [[.bool false], [.bool true]]),
  ([.int .i64 2, .int .i64 1], .vs [[.bool true], [.bool false]]),
  ([.int .i64 2, .int .i64 3], .vs [[.bool true], [.bool true]]),
  ([.int .i64 3, .int .i64 0], .vs [[.bool false], [.bool false], [.bool false]]),
  ([.int .i64 3, .int .i64 4], .vs [[.bool false], [.bool false], [.bool true]]),
  ([.int .i64 3, .int .i64 2], .vs [[.bool false], [.bool true], [.bool false]]),
  ([.int .i64 3, .int .i64 6], .vs [[.bool false], [.bool true], [.bool true]]),
  ([.int .i64 3, .int .i64 1], .vs [[.bool true], [.bool false], [.bool false]]),
  ([.int .i64 3, .int .i64 5], .vs [[.bool true], [.bool false], [.bool true]]),
  ([.int .i64 3, .int .i64 3], .vs [[.bool true], [.bool true], [.bool false]]),
  ([.int .i64 3, .int .i64 7], .vs [[.bool true], [.bool true], [.bool true]]),
  ([.int .i64 4, .int .i64 0], .vs [[.bool false], [.bool false], [.bool false], [.bool false]]),
  ([.int .i64 4, .int .i64 8], .vs [[.bool false], [.bool false], [.bool false], [.bool true]]),
  ([.int .i64 4, .int .i64 4], .vs [[.bool false], [.bool false], [.bool true], [.bool false]]),
  ([.int .i64 4, .int .i64 12], .vs [[.bool false], [.bool false], [.bool true], [.bool true]]),
  ([.int .i64 4, .int .i64 2], .vs [[.bool false], [.bool true], [.bool false], [.bool false]]),
  ([.int .i64 4, .int .i64 10], .vs [[.bool false], [.bool true], [.bool false], [.bool true]]),
  ([.int .i64 4, .int .i64 6], .vs [[.bool false], [.bool true], [.bool true], [.bool false]]),
  ([.int .i64 4, .int .i64 14], .vs [[.bool false], [.bool true], [.bool true], [.bool true]]),
  ([.int .i64 4, .int .i64 1], .vs [[.bool true], [.bool false], [.bool false], [.bool false]]),
  ([.int .i64 4, .int .i64 9], .vs [[.bool true], [.bool false], [.bool false], [.bool true]]),
  ([.int .i64 4, .int .i64 5], .vs [[.bool true], [.bool false], [.bool true], [.bool false]]),
  ([.int .i64 4, .int .i64 13], .vs [[.bool true], [.bool false], [.bool true], [.bool true]]),
  ([.int .i64 4, .int .i64 3], .vs [[.bool true], [.bool true], [.bool false], [.bool false]]),
  ([.int .i64 4, .int .i64 11], .vs [[.bool true], [.bool true], [.bool false], [.bool true]]),
  ([.int .i64 4, .int .i64 7], .vs [[.bool true], [.bool true], [.bool true], [.bool false]]),
  ([.int .i64 4, .int .i64 15], .vs [[.bool true], [.bool true], [.bool true], [.bool true]])]
def rows56 : List (List AV × AV) := [
  ([.vs [[.bool false]]], .vs [[.int .i64 0]]),
  ([.vs [[.bool true]]], .vs [[.int .i64 2]]),
  ([.vs [[.bool false], [.bool false]]], .vs [[.int .i64 0], [.int .i64 0]]),
  ([.vs [[.bool false], [.bool true]]], .vs [[.int .i64 0], [.int .i64 2]]),
  ([.vs [[.bool true], [.bool false]]], .vs [[.int .i64 2], [.int .i64 0]]),
  ([.vs [[.bool true], [.bool true]]], .vs [[.int .i64 2], [.int .i64 2]]),
  ([.vs [[.bool false], [.bool false], [.bool false]]], .vs [[.int .i64 0], [.int .i64 0], [.int .i64 0]]),
  ([.vs [[.bool false], [.bool false], [.bool true]]], .vs [[.int .i64 0], [.int .i64 0], [.int .i64 2]]),
  ([.vs [[.bool false], [.bool true], [.bool false]]], .vs [[.int .i64 0], [.int .i64 2], [.int .i64 0]]),
  ([.vs [[.bool false], [.bool true], [.bool true]]], .vs [[.int .i64 0], [.int .i64 2], [.int .i64 2]]),
  ([.vs [[.bool true], [.bool false], [.bool false]]], .vs [[.int .i64 2], [.int .i64 0], [.int .i64 0]]),
  ([.vs [[.bool true], [.bool false], [.bool true]]], .vs [[.int .i64 2], [.int .i64 0], [.int .i64 2]]),
  ([.vs [[.bool true], [.bool true], [.bool false]]], .vs [[.int .i64 2], [.int .i64 2], [.int .i64 0]]),
  ([.vs [[.bool true], [.bool true], [.bool true]]], .vs [[.int .i64 2], [.int .i64 2], [.int .i64 2]]),
  ([.vs [[.bool false], [.bool false], [.bool false], [.bool false]]], .vs [[.int .i64 0], [.int .i64 0], [.int .i64 0], [.int .i64 0]]),
  ([.vs [[.bool false], [.bool false], [.bool false], [.bool true]]], .vs [[.int .i64 0], [.int .i64 0], [.int .i64 0], [.int .i64 2]]),
  ([.vs [[.bool false], [.bool false], [.bool true], [.bool false]]], .vs [[.int .i64 0], [.int .i64 0], [.int .i64 2], [.int .i64 0]]),
  ([.vs [[.bool false], [.bool false], [.bool true], [.bool true]]], .vs [[.int .i64 0], [.int .i64 0], [.int .i64 2], [.int .i64 2]]),
  ([.vs [[.bool false], [.bool true], [.bool false], [.bool false]]], .vs [[.int .i64 0], [.int .i64 2], [.int .i64 0], [.int .i64 0]]),
  ([.vs [[.bool false], [.bool true], [.bool false], [.bool true]]], .vs [[.int .i64 0], [.int .i64 2], [.int .i64 0], [.int .i64 2]]),
  ([.vs [[.bool false], [.bool true], [.bool true], [.bool false]]], .vs [[.int .i64 0], [.int .i64 2], [.int .i64 2], [.int .i64 0]]),
  ([.vs [[.bool false], [.bool true], [.bool true], [.bool true]]], .vs [[.int .i64 0], [.int .i64 2], [.int .i64 2], [.int .i64 2]]),
  ([.vs [[.bool true], [.bool false], [.bool false], [.bool false]]], .vs [[.int .i64 2], [.int .i64 0], [.int .i64 0], [.int .i64 0]]),
  ([.vs [[.bool true], [.bool false], [.bool false], [.bool true]]], .vs [[.int .i64 2], [.int .i64 0], [.int .i64 0], [.int .i64 2]]),
  ([.vs [[.bool true], [.bool false], [.bool true], [.bool false]]], .vs [[.int .i64 2], [.int .i64 0], [.int .i64 2], [.int .i64 0]]),
  ([.vs [[.bool true], [.bool false], [.bool true], [.bool true]]], .vs [[.int .i64 2], [.int .i64 0], [.int .i64 2], [.int .i64 2]]),
  ([.vs [[.bool true], [.bool true], [.bool false], [.bool false]]], .vs [[.int .i64 2], [.int .i64 2], [.int .i64 0], [.int .i64 0]]),
  ([.vs [[.bool true], [.bool true], [.bool false], [.bool true]]], .vs [[.int .i64 2], [.int .i64 2], [.int .i64 0], [.int .i64 2]]),
  ([.vs [[.bool true], [.bool true], [.bool true], [.bool false]]], .vs [[.int .i64 2], [.int .i64 2], [.int .i64 2], [.int .i64 0]]),
  ([.vs [[.bool true], [.bool true], [.bool true], [.bool true]]], .vs [[.int .i64 2], [.int .i64 2], [.int .i64 2], [.int .i64 2]])]
def rows61 : List (List AV × AV) := [
  ([.vs [[.bool false]]], .int .i64 0),
  ([.vs [[.bool true]]], .int .i64 1),
  ([.vs [[.bool false], [.bool false]]], .int .i64 0),
  ([.vs [[.bool false], [.bool true]]], .int .i64 2),
  ([.vs [[.bool true], [.bool false]]], .int .i64 1),
  ([.vs [[.bool true], [.bool true]]], .int .i64 3),
  ([.vs [[.bool false], [.bool false], [.bool false]]], .int .i64 0),
  ([.vs [[.bool false], [.bool false], [.bool true]]], .int .i64 4),
  ([.vs [[.bool false], [.bool true], [.bool false]]], .int .i64 2),
  ([.vs [[.bool false], [.bool true], [.bool true]]], .int .i64 6),
  ([.vs [[.bool true], [.bool false], [.bool false]]], .int .i64 1),
  ([.vs [[.bool true], [.bool false], [.bool true]]], .int .i64 5),
  ([.vs [[.bool true], [.bool true], [.bool false]]], .int .i64 3),
  ([.vs [[.bool true], [.bool true], [.bool true]]], .int .i64 7),
  ([.vs [[.bool false], [.bool false], [.bool false], [.bool false]]], .int .i64 0),
  ([.vs [[.bool false], [.bool false], [.bool false], [.bool true]]], .int .i64 8),
  ([.vs [[.bool false], [.bool false], [.bool true], [.bool false]]], .int .i64 4),
  ([.vs [[.bool false], [.bool false], [.bool true], [.bool true]]], .int .i64 12),
  ([.vs [[.bool false], [.bool true], [.bool false], [.bool false]]], .int .i64 2),
  ([.vs [[.bool false], [.bool true], [.bool false], [.bool true]]], .int .i64 10),
  ([.vs [[.bool false], [.bool true], [.bool true], [.bool false]]], .int .i64 6),
  ([.vs [[.bool false], [.bool true], [.bool true], [.bool true]]], .int .i64 14),
  ([.vs [[.bool true], [.bool false], [.bool false], [.bool false]]], .int .i64 1),
  ([.vs [[.bool true], [.bool false], [.bool false], [.bool true]]], .int .i64 9),
  ([.vs [[.bool true], [.bool false], [.bool true], [.bool false]]], .int .i64 5),
  ([.vs [[.bool true], [.bool false], [.bool true], [.bool true]]], .int .i64 13),
  ([.vs [[.bool true], [.bool true], [.bool false], [.bool false]]], .int .i64 3),
  ([.vs [[.bool true], [.bool true], [.bool false], [.bool true]]], .int .i64 11),
  ([.vs [[.bool true], [.bool true], [.bool true], [.bool false]]], .int .i64 7),
  ([.vs [[.bool true], [.bool true], [.bool true], [.bool true]]], .int .i64 15)]
def rows95 : List (List AV × AV) := [
  ([.int .i64 1, .int .i64 0], .vs [[.int .i64 0]]),
  ([.int .i64 1, .int .i64 1], .vs [[.int .i64 2]]),
  ([.int .i64 2, .int .i64 0], .vs [[.int .i64 0], [.int .i64 0]]),
  ([.int .i64 2, .int .i64 2], .vs [[.int .i64 0], [.int .i64 2]]),
  ([.int .i64 2, .int .i64 1], .vs [[.int .i64 2], [.int .i64 0]]),
  ([.int .i64 2, .int .i64 3], .vs [[.int .i64 2], [.int .i64 2]]),
  ([.int .i64 3, .int .i64 0], .vs [[.int .i64 0], [.int .i64 0], [.int .i64 0]]),
  ([.int .i64 3, .int .i64 4], .vs [[.int .i64 0], [.int .i64 0], [.int .i64 2]]),
  ([.int .i64 3, .int .i64 2], .vs [[.int .i64 0], [.int .i64 2], [.int .i64 0]]),
  ([.int .i64 3, .int .i64 6], .vs [[.int .i64 0], [.int .i64 2], [.int .i64 2]]),
  ([.int .i64 3, .int .i64 1], .vs [[.int .i64 2], [.int .i64 0], [.int .i64 0]]),
  ([.int .i64 3, .int .i64 5], .vs [[.int .i64 2], [.int .i64 0], [.int .i64 2]]),
  ([.int .i64 3, .int .i64 3], .vs [[.int .i64 2], [.int .i64 2], [.int .i64 0]]),
  ([.int .i64 3, .int .i64 7], .vs [[.int .i64 2], [.int .i64 2], [.int .i64 2]]),
  ([.int .i64 4, .int .i64 0], .vs [[.int .i64 0], [.int .i64 0], [.int .i64 0], [.int .i64 0]]),
  ([.int .i64 4, .int .i64 8], .vs [[.int .i64 0], [.int .i64 0], [.int .i64 0], [.int .i64 2]]),
  ([.int .i64 4, .int .i64 4], .vs [[.int .i64 0], [.int .i64 0], [.int .i64 2], [.int .i64 0]]),
  ([.int .i64 4, .int .i64 12], .vs [[.int .i64 0], [.int .i64 0], [.int .i64 2], [.int .i64 2]]),
  ([.int .i64 4, .int .i64 2], .vs [[.int .i64 0], [.int .i64 2], [.int .i64 0], [.int .i64 0]]),
  ([.int .i64 4, .int .i64 10], .vs [[.int .i64 0], [.int .i64 2], [.int .i64 0], [.int .i64 2]]),
  ([.int .i64 4, .int .i64 6], .vs [[.int .i64 0], [.int .i64 2], [.int .i64 2], [.int .i64 0]]),
  ([.int .i64 4, .int .i64 14], .vs [[.int .i64 0], [.int .i64 2], [.int .i64 2], [.int .i64 2]]),
  ([.int .i64 4, .int .i64 1], .vs [[.int .i64 2], [.int .i64 0], [.int .i64 0], [.int .i64 0]]),
  ([.int .i64 4, .int .i64 9], .vs [[.int .i64 2], [.int .i64 0], [.int .i64 0], [.int .i64 2]]),
  ([.int .i64 4, .int .i64 5], .vs [[.int .i64 2], [.int .i64 0], [.int .i64 2], [.int .i64 0]]),
  ([.int .i64 4, .int .i64 13], .vs [[.int .i64 2], [.int .i64 0], [.int .i64 2], [.int .i64 2]]),
  ([.int .i64 4, .int .i64 3], .vs [[.int .i64 2], [.int .i64 2], [.int .i64 0], [.int .i64 0]]),
  ([.int .i64 4, .int .i64 11], .vs [[.int .i64 2], [.int .i64 2], [.int .i64 0], [.int .i64 2]]),
  ([.int .i64 4, .int .i64 7], .vs [[.int .i64 2], [.int .i64 2], [.int .i64 2], [.int .i64 0]]),
  ([.int .i64 4, .int .i64 15], .vs [[.int .i64 2], [.int .i64 2], [.int .i64 2], [.int .i64 2]])]
def own95 : List (List AV × List AV) := [
  ([.int .i64 1, .int .i64 0], [.int .i64 0]),
  ([.int .i64 1, .int .i64 1], [.int .i64 2]),
  ([.int .i64 2, .int .i64 0], [.int .i64 0, .int .i64 0]),
  ([.int .i64 2, .int .i64 2], [.int .i64 0, .int .i64 2]),
  ([.int .i64 2, .int .i64 1], [.int .i64 2, .int .i64 0]),
  ([.int .i64 2, .int .i64 3], [.int .i64 2, .int .i64 2]),
  ([.int .i64 3, .int .i64 0], [.int .i64 0, .int .i64 0, .int .i64 0]),
  ([.int .i64 3, .int .i64 4], [.int .i64 0, .int .i64 0, .int .i64 2]),
  ([.int .i64 3, .int .i64 2], [.int .i64 0, .int .i64 2, .int .i64 0]),
  ([.int .i64 3, .int .i64 6], [.int .i64 0, .int .i64 2, .int .i64 2]),
  ([.int .i64 3, .int .i64 1], [.int .i64 2, .int .i64 0, .int .i64 0]),
  ([.int .i64 3, .int .i64 5], [.int .i64 2, .int .i64 0, .int .i64 2]),
  ([.int .i64 3, .int .i64 3], [.int .i64 2, .int .i64 2, .int .i64 0]),
  ([.int .i64 3, .int .i64 7], [.int .i64 2, .int .i64 2, .int .i64 2]),
  ([.int .i64 4, .int .i64 0], [.int .i64 0, .int .i64 0, .int .i64 0, .int .i64 0]),
  ([.int .i64 4, .int .i64 8], [.int .i64 0, .int .i64 0, .int .i64 0, .int .i64 2]),
  ([.int .i64 4, .int .i64 4], [.int .i64 0, .int .i64 0, .int .i64 2, .int .i64 0]),
  ([.int .i64 4, .int .i64 12], [.int .i64 0, .int .i64 0, .int .i64 2, .int .i64 2]),
  ([.int .i64 4, .int .i64 2], [.int .i64 0, .int .i64 2, .int .i64 0, .int .i64 0]),
  ([.int .i64 4, .int .i64 10], [.int .i64 0, .int .i64 2, .int .i64 0, .int .i64 2]),
  ([.int .i64 4, .int .i64 6], [.int .i64 0, .int .i64 2, .int .i64 2, .int .i64 0]),
  ([.int .i64 4, .int .i64 14], [.int .i64 0, .int .i64 2, .int .i64 2, .int .i64 2]),
  ([.int .i64 4, .int .i64 1], [.int .i64 2, .int .i64 0, .int .i64 0, .int .i64 0]),
  ([.int .i64 4, .int .i64 9], [.int .i64 2, .int .i64 0, .int .i64 0, .int .i64 2]),
  ([.int .i64 4, .int .i64 5], [.int .i64 2, .int .i64 0, .int .i64 2, .int .i64 0]),
  ([.int .i64 4, .int .i64 13], [.int .i64 2, .int .i64 0, .int .i64 2, .int .i64 2]),
  ([.int .i64 4, .int .i64 3], [.int .i64 2, .int .i64 2, .int .i64 0, .int .i64 0]),
  ([.int .i64 4, .int .i64 11], [.int .i64 2, .int .i64 2, .int .i64 0, .int .i64 2]),
  ([.int .i64 4, .int .i64 7], [.int .i64 2, .int .i64 2, .int .i64 2, .int .i64 0]),
  ([.int .i64 4, .int .i64 15], [.int .i64 2, .int .i64 2, .int .i64 2, .int .i64 2])]

theorem eq55 : rows55 = allE.map fun e => ([.int .i64 (e.length : Nat), .int .i64 (idxE e : Nat)], vsB e) := by kernel_rfl
theorem eq56 : rows56 = allE.map fun e => ([vsB e], vsI (posE e)) := by kernel_rfl
theorem eq61 : rows61 = allE.map fun e => ([vsB e], .int .i64 (idxE e : Nat)) := by kernel_rfl
theorem eq95 : rows95 = allE.map fun e => ([.int .i64 (e.length : Nat), .int .i64 (idxE e : Nat)], vsI (posE e)) := by kernel_rfl
theorem eqO95 : own95 = allE.map fun e => ([.int .i64 (e.length : Nat), .int .i64 (idxE e : Nat)], (posE e).map (AV.int .i64)) := by kernel_rfl

def tabX : Tab := [(55, rows55), (56, rows56), (61, rows61), (93, rows61), (95, rows95)]

theorem tabX_ok : TabOk Try.prog tabX := TabOk.of_run (env0_ok.tab TabOk.nil (pure := [])) (n := 80) (by kernel_rfl)

theorem own95_ok : ownRun Try.prog (env0.tab [] []) 80 95 some own95 = true := by kernel_rfl
def flipE (e : List Bool) (i : Nat) : List Bool := e.set i (!(e.getD i false))

theorem flip_len (e : List Bool) (i : Nat) : (flipE e i).length = e.length := List.length_set ..

theorem shl1 {i : Nat} (h : i < 4) : Am.binOp .shl (.int .i64 1) (.int .i64 (i : Nat)) = some (.int .i64 ((2 ^ i : Nat) : Int)) := by
  rcases (show i = 0 ∨ i = 1 ∨ i = 2 ∨ i = 3 by omega) with rfl | rfl | rfl | rfl <;> rfl

theorem xorE_all : ∀ e ∈ allE, ∀ i ∈ [0, 1, 2, 3], i < e.length → IntKind.i64.wrap (BitVec.ofInt 64 (idxE e : Nat) ^^^ BitVec.ofInt 64 ((2 ^ i : Nat) : Int)).toNat = ((idxE (flipE e i) : Nat) : Int) := by decide +kernel

theorem xorE {e : List Bool} (h1 : 1 ≤ e.length) (h4 : e.length ≤ 4) {i : Nat} (hi : i < e.length) : Am.binOp .xor (.int .i64 (idxE e : Nat)) (.int .i64 ((2 ^ i : Nat) : Int)) = some (.int .i64 (idxE (flipE e i) : Nat)) := by
  have := xorE_all e (allE_mem e h1 h4) i (by rcases (show i = 0 ∨ i = 1 ∨ i = 2 ∨ i = 3 by omega) with rfl | rfl | rfl | rfl <;> simp) hi
  exact congrArg (fun z => some (AV.int .i64 z)) this

theorem flip_ne_all : ∀ e ∈ allE, ∀ i ∈ [0, 1, 2, 3], i < e.length → idxE e ≠ idxE (flipE e i) := by decide +kernel

theorem flip_ne {e : List Bool} (h1 : 1 ≤ e.length) (h4 : e.length ≤ 4) {i : Nat} (hi : i < e.length) : idxE e ≠ idxE (flipE e i) :=
  flip_ne_all e (allE_mem e h1 h4) i (by rcases (show i = 0 ∨ i = 1 ∨ i = 2 ∨ i = 3 by omega) with rfl | rfl | rfl | rfl <;> simp) hi

section
variable {e : List Bool} (h1 : 1 ≤ e.length) (h4 : e.length ≤ 4)
include h1 h4

theorem ends55 : PF Try.prog 55 [.int .i64 (e.length : Nat), .int .i64 (idxE e : Nat)] (vsB e) :=
  tabX_ok (55, rows55) (.head _) _ (by rw [eq55]; exact List.mem_map.2 ⟨e, allE_mem e h1 h4, rfl⟩)

theorem pos56 : PF Try.prog 56 [vsB e] (vsI (posE e)) :=
  tabX_ok (56, rows56) (.tail _ (.head _)) _ (by rw [eq56]; exact List.mem_map.2 ⟨e, allE_mem e h1 h4, rfl⟩)

theorem index93 : PF Try.prog 93 [vsB e] (.int .i64 (idxE e : Nat)) :=
  tabX_ok (93, rows61) (.tail _ (.tail _ (.tail _ (.head _)))) _ (by rw [eq61]; exact List.mem_map.2 ⟨e, allE_mem e h1 h4, rfl⟩)

theorem pos95 : PF Try.prog 95 [.int .i64 (e.length : Nat), .int .i64 (idxE e : Nat)] (vsI (posE e)) :=
  tabX_ok (95, rows95) (.tail _ (.tail _ (.tail _ (.tail _ (.head _))))) _ (by rw [eq95]; exact List.mem_map.2 ⟨e, allE_mem e h1 h4, rfl⟩)

theorem pos95o : PFo Try.prog 95 [.int .i64 (e.length : Nat), .int .i64 (idxE e : Nat)] 1 e.length (some e.length) ((posE e).map (AV.int .i64)) := by
  have := own_rows (env0_ok.tab TabOk.nil) own95_ok _ (by rw [eqO95]; exact List.mem_map.2 ⟨e, allE_mem e h1 h4, rfl⟩)
  simpa [posE] using this

end

end Go.Proofs.Ytoiblgbaeglgoaa
