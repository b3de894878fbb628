/-
  FAMILIES OF SETS IN PLAIN LEAN: the checks, the union of a choice, covers, spare sets.
-/
import Derived.Test.YtknomkcdpcnmaaaEU1
namespace Go.Proofs.Ytknomkcdpcnmaaa
open Go Go.Am
def zce (n : Int) : BitVec 64 := if n ≥ 64 then BitVec.allOnes 64 else (1#64 <<< n.toNat) - 1#64
def cUs (s : List (BitVec 64)) : List (List AV) := s.map fun x => [cU x]
theorem zbh (s : List (BitVec 64)) : (cUs s).length = s.length := List.length_map ..
theorem zid {s : List (BitVec 64)} {i : Nat} (h : i < s.length) : (cUs s)[((i : Nat) : Int).toNat]? = some [cU s[i]] := by
 rw [Int.toNat_natCast, cUs, List.getElem?_map, List.getElem?_eq_getElem h]
 rfl
theorem zl3 {s : List (BitVec 64)} {z : Int} (_h0 : 0 ≤ z) (h : z.toNat < s.length) : (cUs s)[z.toNat]? = some [cU (s.getD z.toNat 0)] := by
 rw [cUs, List.getElem?_map, List.getD_eq_getElem?_getD, List.getElem?_eq_getElem h]
 rfl
def cF (n : Int) (s : List (BitVec 64)) : AV := .agg [.int .i64 n, .vs (cUs s)]
def zt0 (n : Int) (x : BitVec 64) : Bool := x &&& ~~~ zce n != 0#64
def zqv (n : Int) (s : List (BitVec 64)) : Int := if s.any (zt0 n) = true then 2 else 0
def ze8 (n : Int) (s : List (BitVec 64)) : Int := if n < 0 then 2 else if n > 64 then 2 else if s.length > 64 then 5 else zqv n s
theorem zvt (n : Int) (x : BitVec 64) (s : List (BitVec 64)) : zqv n (x :: s) = if zt0 n x = true then 2 else zqv n s := by
 unfold zqv
 rw [List.any_cons]
 cases zt0 n x <;> rfl
def ordE (n : Int) : Int → List Int → Int
 | _, [] => 0
 | p, k :: l => if k < 0 then 2 else if k ≥ n then 2 else if k ≤ p then 9 else ordE n k l
def prv (l : List Int) (i : Nat) : Int := if i = 0 then -1 else l.getD (i - 1) 0
theorem zv9 {n : Int} {l : List Int} {i : Nat} (h : i < l.length) : ordE n (prv l i) (l.drop i) = if l[i] < 0 then 2 else if l[i] ≥ n then 2 else if l[i] ≤ prv l i then 9 else ordE n (prv l (i + 1)) (l.drop (i + 1)) := by
 rw [List.drop_eq_getElem_cons h, ordE]
 have : prv l (i + 1) = l[i] := by
  unfold prv
  rw [if_neg (Nat.succ_ne_zero i), Nat.add_sub_cancel, List.getD_eq_getElem?_getD, List.getElem?_eq_getElem h]
  rfl
 rw [this]
theorem zv8 {n : Int} : ∀ {l : List Int} {p : Int}, ordE n p l = 0 → ∀ z ∈ l, 0 ≤ z ∧ z < n ∧ p < z
 | [], _, _, z, hz => by cases hz
 | k :: l, p, h, z, hz => by
  rw [ordE] at h
  split at h
  ·exact absurd h (by decide)
  split at h
  ·exact absurd h (by decide)
  split at h
  ·exact absurd h (by decide)
  rcases List.mem_cons.1 hz with rfl | hz
  ·omega
  ·have := zv8 h z hz
   omega
def givE (n : Int) (s : List (BitVec 64)) (l : List Int) (m : Int) : Int := if ze8 n s = 0 then ordE m (-1) l else ze8 n s
def uni (s : List (BitVec 64)) (c : List Int) : BitVec 64 := c.foldl (fun a i => a ||| s.getD i.toNat 0) 0
theorem zqz (s : List (BitVec 64)) (c : List Int) (z : Int) : uni s (c ++ [z]) = uni s c ||| s.getD z.toNat 0 := by
 unfold uni
 rw [List.foldl_append]
 rfl
theorem uni_take {s : List (BitVec 64)} {c : List Int} {i : Nat} (h : i < c.length) : uni s (c.take (i + 1)) = uni s (c.take i) ||| s.getD c[i].toNat 0 := by
 rw [List.take_add_one, List.getElem?_eq_getElem h]
 exact zqz ..
def zs7 (n : Int) (s : List (BitVec 64)) (c : List Int) : Bool := uni s c == zce n
end Go.Proofs.Ytknomkcdpcnmaaa
