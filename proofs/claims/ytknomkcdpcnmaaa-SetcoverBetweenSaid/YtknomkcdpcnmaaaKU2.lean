/-
  FAMILIES OF SETS IN PLAIN LEAN: the checks, the union of a choice, covers, spare sets.
-/
import Derived.Test.YtknomkcdpcnmaaaKU1
namespace Go.Proofs.Ytknomkcdpcnmaaa
open Go Go.Am
def zc5 (n : Int) : BitVec 64 := if n ≥ 64 then BitVec.allOnes 64 else (1#64 <<< n.toNat) - 1#64
def cUs (s : List (BitVec 64)) : List (List AV) := s.map fun x => [cU x]
theorem zch (s : List (BitVec 64)) : (cUs s).length = s.length := List.length_map ..
theorem zhk {s : List (BitVec 64)} {i : Nat} (h : i < s.length) : (cUs s)[((i : Nat) : Int).toNat]? = some [cU s[i]] := by
 rw [Int.toNat_natCast, cUs, List.getElem?_map, List.getElem?_eq_getElem h]
 rfl
theorem zlq {s : List (BitVec 64)} {z : Int} (_h0 : 0 ≤ z) (h : z.toNat < s.length) : (cUs s)[z.toNat]? = some [cU (s.getD z.toNat 0)] := by
 rw [cUs, List.getElem?_map, List.getD_eq_getElem?_getD, List.getElem?_eq_getElem h]
 rfl
def cF (n : Int) (s : List (BitVec 64)) : AV := .agg [.int .i64 n, .vs (cUs s)]
def zql (n : Int) (x : BitVec 64) : Bool := x &&& ~~~ zc5 n != 0#64
def zta (n : Int) (s : List (BitVec 64)) : Int := if s.any (zql n) = true then 2 else 0
def zfa (n : Int) (s : List (BitVec 64)) : Int := if n < 0 then 2 else if n > 64 then 2 else if s.length > 64 then 5 else zta n s
theorem zwr (n : Int) (x : BitVec 64) (s : List (BitVec 64)) : zta n (x :: s) = if zql n x = true then 2 else zta n s := by
 unfold zta
 rw [List.any_cons]
 cases zql n x <;> rfl
def zt8 (n : Int) : Int → List Int → Int
 | _, [] => 0
 | p, k :: l => if k < 0 then 2 else if k ≥ n then 2 else if k ≤ p then 9 else zt8 n k l
def prv (l : List Int) (i : Nat) : Int := if i = 0 then -1 else l.getD (i - 1) 0
theorem zw6 {n : Int} {l : List Int} {i : Nat} (h : i < l.length) : zt8 n (prv l i) (l.drop i) = if l[i] < 0 then 2 else if l[i] ≥ n then 2 else if l[i] ≤ prv l i then 9 else zt8 n (prv l (i + 1)) (l.drop (i + 1)) := by
 rw [List.drop_eq_getElem_cons h, zt8]
 have : prv l (i + 1) = l[i] := by
  unfold prv
  rw [if_neg (Nat.succ_ne_zero i), Nat.add_sub_cancel, List.getD_eq_getElem?_getD, List.getElem?_eq_getElem h]
  rfl
 rw [this]
theorem zml {n : Int} : ∀ {l : List Int} {p : Int}, zt8 n p l = 0 → ∀ z ∈ l, 0 ≤ z ∧ z < n ∧ p < z
 | [], _, _, z, hz => by cases hz
 | k :: l, p, h, z, hz => by
  rw [zt8] at h
  split at h
  ·exact absurd h (by decide)
  split at h
  ·exact absurd h (by decide)
  split at h
  ·exact absurd h (by decide)
  rcases List.mem_cons.1 hz with rfl | hz
  ·omega
  ·have := zml h z hz
   omega
def zom (n : Int) (s : List (BitVec 64)) (l : List Int) (m : Int) : Int := if zfa n s = 0 then zt8 m (-1) l else zfa n s
def uni (s : List (BitVec 64)) (c : List Int) : BitVec 64 := c.foldl (fun a i => a ||| s.getD i.toNat 0) 0
theorem zmy (s : List (BitVec 64)) (c : List Int) (z : Int) : uni s (c ++ [z]) = uni s c ||| s.getD z.toNat 0 := by
 unfold uni
 rw [List.foldl_append]
 rfl
theorem uni_take {s : List (BitVec 64)} {c : List Int} {i : Nat} (h : i < c.length) : uni s (c.take (i + 1)) = uni s (c.take i) ||| s.getD c[i].toNat 0 := by
 rw [List.take_add_one, List.getElem?_eq_getElem h]
 exact zmy ..
def zki (n : Int) (s : List (BitVec 64)) (c : List Int) : Bool := uni s c == zc5 n
def covV (n : Int) (s : List (BitVec 64)) (c : List Int) : AV := if zom n s c s.length = 0 then .tup [.bool (zki n s c), .int .i64 0] else .tup [.bool false, .int .i64 (zom n s c s.length)]
def ztb (n : Int) (s : List (BitVec 64)) (c : List Int) (k : Nat) : List Int := ((List.range k).filter fun i => zki n s (c.eraseIdx i)).map fun i => c.getD i 0
theorem zwu {n : Int} {s : List (BitVec 64)} {c : List Int} {k : Nat} (h : k < c.length) : ztb n s c (k + 1) = if zki n s (c.eraseIdx k) = true then ztb n s c k ++ [c[k]] else ztb n s c k := by
 unfold ztb
 rw [List.range_succ, List.filter_append, List.map_append, List.filter_cons]
 split
 ·rw [List.filter_nil]
  show _ ++ [c.getD k 0] = _
  rw [List.getD_eq_getElem?_getD, List.getElem?_eq_getElem h]
  rfl
 ·rw [List.filter_nil, List.map_nil, List.append_nil]
theorem spaL_len (n : Int) (s : List (BitVec 64)) (c : List Int) (k : Nat) : (ztb n s c k).length ≤ k := by
 unfold ztb
 rw [List.length_map]
 exact Nat.le_trans (List.length_filter_le ..) (by rw [List.length_range]; exact Nat.le_refl _)
def spaV (n : Int) (s : List (BitVec 64)) (c : List Int) : AV :=
 if zom n s c s.length = 0 then
  if zki n s c = true then .tup [vsI (ztb n s c c.length), .int .i64 0] else .tup [.vs [], .int .i64 14]
 else .tup [.vs [], .int .i64 (zom n s c s.length)]
end Go.Proofs.Ytknomkcdpcnmaaa
