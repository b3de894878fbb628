/-
  FAMILIES OF SETS IN PLAIN LEAN: the checks, the union of a choice, covers, spare sets.
-/
import Derived.Test.YtknomkcdpcnmaaaVU1
namespace Go.Proofs.Ytknomkcdpcnmaaa
open Go Go.Am
def zdg (n : Int) : BitVec 64 := if n ≥ 64 then BitVec.allOnes 64 else (1#64 <<< n.toNat) - 1#64
def cUs (s : List (BitVec 64)) : List (List AV) := s.map fun x => [cU x]
theorem zcw (s : List (BitVec 64)) : (cUs s).length = s.length := List.length_map ..
theorem zio {s : List (BitVec 64)} {i : Nat} (h : i < s.length) : (cUs s)[((i : Nat) : Int).toNat]? = some [cU s[i]] := by
 rw [Int.toNat_natCast, cUs, List.getElem?_map, List.getElem?_eq_getElem h]
 rfl
theorem zl7 {s : List (BitVec 64)} {z : Int} (_h0 : 0 ≤ z) (h : z.toNat < s.length) : (cUs s)[z.toNat]? = some [cU (s.getD z.toNat 0)] := by
 rw [cUs, List.getElem?_map, List.getD_eq_getElem?_getD, List.getElem?_eq_getElem h]
 rfl
def cF (n : Int) (s : List (BitVec 64)) : AV := .agg [.int .i64 n, .vs (cUs s)]
def badU (n : Int) (x : BitVec 64) : Bool := x &&& ~~~ zdg n != 0#64
def zsa (n : Int) (s : List (BitVec 64)) : Int := if s.any (badU n) = true then 2 else 0
def zga (n : Int) (s : List (BitVec 64)) : Int := if n < 0 then 2 else if n > 64 then 2 else if s.length > 64 then 5 else zsa n s
theorem zvh (n : Int) (x : BitVec 64) (s : List (BitVec 64)) : zsa n (x :: s) = if badU n x = true then 2 else zsa n s := by
 unfold zsa
 rw [List.any_cons]
 cases badU n x <;> rfl
def zru (n : Int) : Int → List Int → Int
 | _, [] => 0
 | p, k :: l => if k < 0 then 2 else if k ≥ n then 2 else if k ≤ p then 9 else zru n k l
def prv (l : List Int) (i : Nat) : Int := if i = 0 then -1 else l.getD (i - 1) 0
theorem zn9 {n : Int} {l : List Int} {i : Nat} (h : i < l.length) : zru n (prv l i) (l.drop i) = if l[i] < 0 then 2 else if l[i] ≥ n then 2 else if l[i] ≤ prv l i then 9 else zru n (prv l (i + 1)) (l.drop (i + 1)) := by
 rw [List.drop_eq_getElem_cons h, zru]
 have : prv l (i + 1) = l[i] := by
  unfold prv
  rw [if_neg (Nat.succ_ne_zero i), Nat.add_sub_cancel, List.getD_eq_getElem?_getD, List.getElem?_eq_getElem h]
  rfl
 rw [this]
theorem zhq {n : Int} : ∀ {l : List Int} {p : Int}, zru n p l = 0 → ∀ z ∈ l, 0 ≤ z ∧ z < n ∧ p < z
 | [], _, _, z, hz => by cases hz
 | k :: l, p, h, z, hz => by
  rw [zru] at h
  split at h
  ·exact absurd h (by decide)
  split at h
  ·exact absurd h (by decide)
  split at h
  ·exact absurd h (by decide)
  rcases List.mem_cons.1 hz with rfl | hz
  ·omega
  ·have := zhq h z hz
   omega
def zmz (n : Int) (s : List (BitVec 64)) (l : List Int) (m : Int) : Int := if zga n s = 0 then zru m (-1) l else zga n s
def uni (s : List (BitVec 64)) (c : List Int) : BitVec 64 := c.foldl (fun a i => a ||| s.getD i.toNat 0) 0
theorem uni_snoc (s : List (BitVec 64)) (c : List Int) (z : Int) : uni s (c ++ [z]) = uni s c ||| s.getD z.toNat 0 := by
 unfold uni
 rw [List.foldl_append]
 rfl
theorem zr0 {s : List (BitVec 64)} {c : List Int} {i : Nat} (h : i < c.length) : uni s (c.take (i + 1)) = uni s (c.take i) ||| s.getD c[i].toNat 0 := by
 rw [List.take_add_one, List.getElem?_eq_getElem h]
 exact uni_snoc ..
def zk5 (n : Int) (s : List (BitVec 64)) (c : List Int) : Bool := uni s c == zdg n
def covV (n : Int) (s : List (BitVec 64)) (c : List Int) : AV := if zmz n s c s.length = 0 then .tup [.bool (zk5 n s c), .int .i64 0] else .tup [.bool false, .int .i64 (zmz n s c s.length)]
def zqx (n : Int) (s : List (BitVec 64)) (c : List Int) (k : Nat) : List Int := ((List.range k).filter fun i => zk5 n s (c.eraseIdx i)).map fun i => c.getD i 0
theorem zno {n : Int} {s : List (BitVec 64)} {c : List Int} {k : Nat} (h : k < c.length) : zqx n s c (k + 1) = if zk5 n s (c.eraseIdx k) = true then zqx n s c k ++ [c[k]] else zqx n s c k := by
 unfold zqx
 rw [List.range_succ, List.filter_append, List.map_append, List.filter_cons]
 split
 ·rw [List.filter_nil]
  show _ ++ [c.getD k 0] = _
  rw [List.getD_eq_getElem?_getD, List.getElem?_eq_getElem h]
  rfl
 ·rw [List.filter_nil, List.map_nil, List.append_nil]
theorem zm8 (n : Int) (s : List (BitVec 64)) (c : List Int) (k : Nat) : (zqx n s c k).length ≤ k := by
 unfold zqx
 rw [List.length_map]
 exact Nat.le_trans (List.length_filter_le ..) (by rw [List.length_range]; exact Nat.le_refl _)
def spaV (n : Int) (s : List (BitVec 64)) (c : List Int) : AV :=
 if zmz n s c s.length = 0 then
  if zk5 n s c = true then .tup [vsI (zqx n s c c.length), .int .i64 0] else .tup [.vs [], .int .i64 14]
 else .tup [.vs [], .int .i64 (zmz n s c s.length)]
end Go.Proofs.Ytknomkcdpcnmaaa
