/-
  WHAT GROWS COMPARES: the plain law.
-/
import Derived.Test.YtknomkcdpcnmaaaEP10
import Derived.Test.YtknomkcdpcnmaaaEP12
import Derived.Test.YtknomkcdpcnmaaaEP6
import Derived.Test.YtknomkcdpcnmaaaERJ
import Derived.Test.YtknomkcdpcnmaaaES0
import Derived.Test.YtknomkcdpcnmaaaEU1
import Derived.Test.YtknomkcdpcnmaaaERP
namespace Go.Proofs.Ytknomkcdpcnmaaa
open Go Go.Am
theorem few_some {n : Int} {s : List (BitVec 64)} {c : List Int} (hp : c.Pairwise (· < ·)) (hm : ∀ z ∈ c, 0 ≤ z ∧ z < s.length) (hu : uni s c = zce n) (hl : c.length ≤ s.length) : (fewO n s).isSome = true := by
 unfold fewO zny
 rw [List.find?_isSome]
 refine ⟨c, List.mem_flatMap.2 ⟨c.length, by rw [List.mem_range'_1]; omega, zpi hp fun z hz => by have := hm z hz; omega⟩, ?_⟩
 unfold zs7
 rw [hu]
 exact beq_self_eq_true _
end Go.Proofs.Ytknomkcdpcnmaaa
namespace Go.Proofs.Ytknomkcdpcnmaaa
open Go Go.Am
def zth (A : BitVec 64) : List (BitVec 64) → BitVec 64 → Nat
 | [], _ => 0
 | x :: xs, h => (if x != 0#64 && x &&& h == 0#64 then (if h ||| x == A then 1 else zth A xs (h ||| x)) else 0) + zth A xs h
def znd (A : BitVec 64) (t : List (BitVec 64)) (h : BitVec 64) : Nat := if h == A then 1 else zth A t h
theorem zok (A : BitVec 64) : ∀ (t : List (BitVec 64)) (i : Nat) (h : BitVec 64), (lvs A t i h).length = zth A t h
 | [], _, _ => rfl
 | x :: xs, i, h => by
  rw [lvs, zth, List.length_append, zok A xs]
  congr 1
  split
  ·rw [List.length_map]
   split
   ·rfl
   ·exact zok A xs _ _
  ·rfl
theorem zil (n : Int) (s : List (BitVec 64)) : (ze7 n s).length = znd (zce n) s 0#64 := by
 unfold ze7 zd6 znd
 show (if 0#64 == zce n then [[]] else _).length = _
 split
 ·rfl
 ·rw [List.drop_zero, zok]
  rfl
theorem zfy {x g y : BitVec 64} : x &&& (g ||| y) = 0#64 ↔ x &&& g = 0#64 ∧ x &&& y = 0#64 := by
 constructor
 ·intro h
  refine ⟨BitVec.eq_of_getLsbD_eq fun i hi => ?_, BitVec.eq_of_getLsbD_eq fun i hi => ?_⟩ <;>
  ·have := congrArg (fun z => z.getLsbD i) h
   simp only [BitVec.getLsbD_and, BitVec.getLsbD_or, BitVec.getLsbD_zero] at this ⊢
   revert this
   cases x.getLsbD i <;> cases g.getLsbD i <;> cases y.getLsbD i <;> simp
 ·rintro ⟨h1, h2⟩
  refine BitVec.eq_of_getLsbD_eq fun i hi => ?_
  have a := congrArg (fun z => z.getLsbD i) h1
  have b := congrArg (fun z => z.getLsbD i) h2
  simp only [BitVec.getLsbD_and, BitVec.getLsbD_or, BitVec.getLsbD_zero] at a b ⊢
  revert a b
  cases x.getLsbD i <;> cases g.getLsbD i <;> cases y.getLsbD i <;> simp
theorem zm8 {x A : BitVec 64} (h : x &&& ~~~ A = 0#64) : x &&& A = x := by
 refine BitVec.eq_of_getLsbD_eq fun i hi => ?_
 have a := congrArg (fun z => z.getLsbD i) h
 simp only [BitVec.getLsbD_and, BitVec.getLsbD_not, BitVec.getLsbD_zero, hi, decide_true, Bool.true_and] at a ⊢
 revert a
 cases x.getLsbD i <;> cases A.getLsbD i <;> simp
theorem zfp {A y g : BitVec 64} (t : List (BitVec 64)) (h : ¬ (y ≠ 0#64 ∧ y &&& g = 0#64)) : znd A (y :: t) g = znd A t g := by
 unfold znd
 split
 ·rfl
 ·rw [zth, if_neg, Nat.zero_add]
  rw [Bool.and_eq_true, bne_iff_ne, beq_iff_eq]
  exact h
theorem zgm {A y g : BitVec 64} (t : List (BitVec 64)) (hn : g ≠ A) (h0 : y ≠ 0#64) (h1 : y &&& g = 0#64) : znd A (y :: t) g = znd A t (g ||| y) + znd A t g := by
 have e : (g == A) = false := beq_eq_false_iff_ne.2 hn
 unfold znd
 rw [e, if_neg Bool.false_ne_true, if_neg Bool.false_ne_true, zth, if_pos (by rw [Bool.and_eq_true, bne_iff_ne, beq_iff_eq]; exact ⟨h0, h1⟩)]
theorem zl8 {A x : BitVec 64} (hx : x ≠ 0#64) (hxA : x &&& ~~~ A = 0#64) : ∀ (t : List (BitVec 64)), (∀ y ∈ t, y &&& ~~~ A = 0#64) → ∀ g, g ≠ A → znd A (t ++ [x]) g = znd A t g + (if x &&& g = 0#64 then znd A t (g ||| x) else 0)
 | [], _, g, hn => by
  by_cases hq : x &&& g = 0#64
  ·rw [if_pos hq, List.nil_append, zgm [] hn hx hq, Nat.add_comm]
  ·rw [if_neg hq, List.nil_append, zfp [] (fun h => hq h.2), Nat.add_zero]
 | y :: ys, hs, g, hn => by
  have hys := fun z hz => hs z (List.mem_cons_of_mem _ hz)
  have ih1 := zl8 hx hxA ys hys g hn
  have hyA := zm8 (hs y (List.mem_cons_self ..))
  have hxA2 := zm8 hxA
  rw [List.cons_append]
  by_cases hp : y ≠ 0#64 ∧ y &&& g = 0#64
  ·obtain ⟨hy0, hyg⟩ := hp
   rw [zgm _ hn hy0 hyg, zgm _ hn hy0 hyg, ih1]
   have key : znd A (ys ++ [x]) (g ||| y) = znd A ys (g ||| y) + (if x &&& (g ||| y) = 0#64 then znd A ys (g ||| y ||| x) else 0) := by
    by_cases e : g ||| y = A
    ·have : ¬ x &&& (g ||| y) = 0#64 := by rw [e, hxA2]; exact hx
     rw [if_neg this, e]
     unfold znd
     rw [if_pos (beq_self_eq_true A), if_pos (beq_self_eq_true A)]
    ·exact zl8 hx hxA ys hys (g ||| y) e
   rw [key]
   by_cases hq : x &&& g = 0#64
   ·rw [if_pos hq, if_pos hq]
    by_cases hxy : x &&& y = 0#64
    ·have hyx : y &&& x = 0#64 := by rw [BitVec.and_comm]; exact hxy
     rw [if_pos (zfy.2 ⟨hq, hxy⟩)]
     have hgx : g ||| x ≠ A := fun e => hy0 (by rw [← hyA, ← e]; exact zfy.2 ⟨hyg, hyx⟩)
     rw [zgm ys hgx hy0 (zfy.2 ⟨hyg, hyx⟩), show g ||| x ||| y = g ||| y ||| x by rw [BitVec.or_assoc, BitVec.or_comm x y, BitVec.or_assoc]]
     omega
    ·rw [if_neg fun e => hxy (zfy.1 e).2, zfp ys (fun e => hxy (by rw [BitVec.and_comm]; exact (zfy.1 e.2).2))]
     omega
   ·rw [if_neg hq, if_neg hq, if_neg fun e => hq (zfy.1 e).1]
    omega
  ·rw [zfp _ hp, zfp _ hp, ih1, zfp ys (fun e => hp ⟨e.1, (zfy.1 e.2).1⟩)]
theorem zo0 {n : Int} {s : List (BitVec 64)} (hc : ze8 n s = 0) : ∀ y ∈ s, y &&& ~~~ zce n = 0#64 := fun y hy => by
 have := (zf2 hc).2.2.2 y hy
 unfold zt0 at this
 simpa using this
theorem zw5 {n : Int} {x : BitVec 64} {xs : List (BitVec 64)} (hc : ze8 n (x :: xs) = 0) (hx : x ≠ 0#64) :
  (ze7 n xs).length ≤ (ze7 n (x :: xs)).length ∧ (ze7 n (x :: xs ++ [x])).length + (ze7 n xs).length = 2 * (ze7 n (x :: xs)).length := by
 have hb := zo0 hc
 have hxA := hb x (List.mem_cons_self ..)
 have h0 : (0#64 : BitVec 64) ≠ zce n := fun e => hx (by have := zm8 hxA; rw [← e] at this; rw [← this]; simp)
 rw [zil, zil, zil, zl8 hx hxA (x :: xs) hb 0#64 h0, if_pos (by simp), zgm xs h0 hx (by simp)]
 rw [zfp xs (fun e => e.1 (by have := e.2; simpa using this))]
 omega
theorem zero_cnt {n : Int} (t : List (BitVec 64)) : (ze7 n (t ++ [0#64])).length = (ze7 n t).length := by
 have key : ∀ (t : List (BitVec 64)) (g : BitVec 64), zth (zce n) (t ++ [0#64]) g = zth (zce n) t g := by
  intro t
  induction t with
  | nil => intro g; rfl
  | cons y ys ih => intro g; rw [List.cons_append, zth, zth, ih, ih]
 rw [zil, zil]
 unfold znd
 rw [key]
theorem exa_best {m : Nat} {s : List (BitVec 64)} (hm : m ≤ 12) (hc : ze8 (m : Nat) s = 0) {a : List Int} (hE : ze7 (m : Nat) s ≠ []) (ha : ((ze7 (m : Nat) s).foldl zbu ([], 0)).1 = a) :
  a.Pairwise (· < ·) ∧ (∀ z ∈ a, 0 ≤ z ∧ z < s.length) ∧ uni s a = zce (m : Nat) ∧ szs s a = m := by
 have hsz := (zsn (n := m) hm).1
 obtain ⟨_, _, s1, _⟩ := zf2 hc
 by_cases hA : 0#64 = zce (m : Nat)
 ·have hE2 : ze7 (m : Nat) s = [[]] := by
   unfold ze7 zd6
   show (if 0#64 == zce (m : Nat) then [[]] else _) = _
   rw [if_pos (beq_iff_eq.2 hA)]
  rw [hE2] at ha
  obtain rfl : [] = a := ha
  have hz : m = 0 := by rw [← hsz, ← hA]; exact zmb.2 rfl
  exact ⟨List.Pairwise.nil, fun z hz => absurd hz List.not_mem_nil, hA, hz.symm⟩
 ·have hEq : ze7 (m : Nat) s = (zs1 s 0).filter (exq (zce (m : Nat)) s 0 0) := by
   unfold ze7 zd6
   show (if 0#64 == zce (m : Nat) then [[]] else _) = _
   rw [if_neg (by rw [beq_iff_eq]; exact hA), List.drop_zero]
   exact zuu _ s (zo0 hc) s 0 0 rfl hA
  have hasc : Asc (ze7 (m : Nat) s) := by
   rw [hEq]
   exact (zm9 s 0).filter _
  have hmem : a ∈ ze7 (m : Nat) s := by
   have := (best_all hasc hE).2
   rw [ha] at this
   exact (List.mem_filter.1 (List.mem_of_mem_head? this)).1
  rw [hEq, List.mem_filter] at hmem
  obtain ⟨h1, h2⟩ := hmem
  rw [zto, show szB (0 : BitVec 64) = 0 from zmb.2 rfl, hsz, Nat.zero_add, Bool.and_eq_true, Bool.and_eq_true, beq_iff_eq, beq_iff_eq] at h2
  have hlen : a ≠ [] := fun e => zjm s 0 (e ▸ h1)
  obtain ⟨k, hk⟩ : ∃ k, a.length = k + 1 := ⟨a.length - 1, by have := List.length_pos_iff.2 hlen; omega⟩
  have h3 : a ∈ asc s.length (k + 1) 0 := by
   rw [← zma k s 0 (Nat.zero_add _)]
   exact List.mem_filter.2 ⟨h1, by rw [hk]; exact beq_self_eq_true _⟩
  refine ⟨up_pw (up_asc s1 h3), fun z hz => ?_, h2.2, h2.1.2⟩
  have := (zgz h3).2 z hz
  omega
end Go.Proofs.Ytknomkcdpcnmaaa
namespace Go.Proofs.Ytknomkcdpcnmaaa
open Go Go.Am
def b5_0 : IC := .seq (.region [⟨(some 74), .bin .lss (.t 73) (.t 72), none⟩] none)
 (.seq (.cond (.t 74) (.skip)
 (.exit 0))
 (.seq (.block 1 (.seq (.region [⟨(some 75), .idxs 1 (.t 71) (.t 73), none⟩,
  ⟨(some 76), .load none (.t 75), none⟩,
  ⟨(some 10), .mov (.t 76), none⟩] none)
 (.region [⟨(some 77), .mov (.t 8), none⟩,
  ⟨(some 78), .faddr 1 (.t 1), none⟩,
  ⟨(some 79), .load none (.t 78), none⟩,
  ⟨(some 80), .mov (.t 10), none⟩,
  ⟨(some 81), .idxs 1 (.t 79) (.t 80), none⟩,
  ⟨(some 82), .load none (.t 81), none⟩,
  ⟨(some 83), .call (.c (.fn 26 [] [])) [(.t 82)], none⟩,
  ⟨(some 84), .bin .add (.t 77) (.t 83), none⟩,
  ⟨(some 8), .mov (.t 84), none⟩] none)))
 (.region [⟨(some 85), .bin .add (.t 73) (.c (.int .i64 1)), none⟩,
  ⟨(some 73), .mov (.t 85), none⟩] none)))
-- pneumatic/pneumaticlaw09.SetcoverExactly
def ic5 : IC := .seq (.region [⟨(some 1), .box (.t 0), none⟩,
  ⟨(some 2), .mov (.c (.bool false)), none⟩] none)
 (.seq (.seq (.region [⟨(some 18), .load (some 2) (.t 1), none⟩,
  ⟨(some 19), .call (.c (.fn 23 [] [])) [(.t 18)], none⟩,
  ⟨(some 20), .un .not (.t 19), none⟩,
  ⟨(some 21), .mov (.t 20), none⟩,
  ⟨(some 22), .faddr 1 (.t 1), some (21, false)⟩,
  ⟨(some 23), .load none (.t 22), some (21, false)⟩,
  ⟨(some 24), .len false (.t 23), some (21, false)⟩,
  ⟨(some 25), .bin .gtr (.t 24) (.c (.int .i64 7)), some (21, false)⟩,
  ⟨(some 26), .pick (.t 21) (.c (.bool true)) (.t 25), none⟩] none)
 (.cond (.t 26) (.seq (.region [⟨(some 27), .call (.c (.fn 12 [] [])) [], none⟩,
  ⟨(some 2), .mov (.t 27), none⟩] none)
 (.ret))
 (.skip)))
 (.seq (.region [⟨(some 29), .load (some 2) (.t 1), none⟩,
  ⟨(some 30), .call (.c (.fn 14 [] [])) [(.t 29)], none⟩,
  ⟨(some 31), .call (.c (.fn 13 [] [])) [(.t 30)], none⟩,
  ⟨(some 28), .mov (.t 31), none⟩,
  ⟨(some 32), .extract (.t 28) 0, none⟩,
  ⟨(some 33), .extract (.t 28) 1, none⟩,
  ⟨(some 34), .extract (.t 28) 2, none⟩,
  ⟨(some 3), .mov (.t 32), none⟩,
  ⟨(some 4), .mov (.t 33), none⟩,
  ⟨(some 5), .mov (.t 34), none⟩] none)
 (.seq (.seq (.region [⟨(some 35), .mov (.t 5), none⟩,
  ⟨(some 36), .bin .neq (.t 35) (.c (.int .i64 0)), none⟩] none)
 (.cond (.t 36) (.seq (.region [⟨(some 37), .mov (.t 5), none⟩,
  ⟨(some 38), .bin .eql (.t 37) (.c (.int .i64 6)), none⟩,
  ⟨(some 39), .mov (.t 38), none⟩,
  ⟨(some 40), .mov (.t 4), some (39, true)⟩,
  ⟨(some 41), .bin .eql (.t 40) (.c (.int .i64 0)), some (39, true)⟩,
  ⟨(some 42), .pick (.t 39) (.t 41) (.c (.bool false)), none⟩,
  ⟨(some 43), .mov (.t 42), none⟩,
  ⟨(some 44), .call (.c (.fn 12 [] [])) [], some (43, true)⟩,
  ⟨(some 45), .pick (.t 43) (.t 44) (.c (.bool false)), none⟩,
  ⟨(some 2), .mov (.t 45), none⟩] none)
 (.ret))
 (.skip)))
 (.seq (.region [⟨(some 47), .load (some 2) (.t 1), none⟩,
  ⟨(some 48), .call (.c (.fn 14 [] [])) [(.t 47)], none⟩,
  ⟨(some 49), .call (.c (.fn 24 [] [])) [(.t 48)], none⟩,
  ⟨(some 46), .mov (.t 49), none⟩,
  ⟨(some 50), .extract (.t 46) 0, none⟩,
  ⟨(some 51), .extract (.t 46) 1, none⟩,
  ⟨(some 6), .mov (.t 50), none⟩,
  ⟨(some 7), .mov (.t 51), none⟩] none)
 (.seq (.seq (.region [⟨(some 52), .mov (.t 7), none⟩,
  ⟨(some 53), .bin .neq (.t 52) (.c (.int .i64 0)), none⟩,
  ⟨(some 54), .mov (.t 53), none⟩,
  ⟨(some 55), .mov (.t 4), some (54, false)⟩,
  ⟨(some 56), .bin .lss (.t 55) (.c (.int .i64 1)), some (54, false)⟩,
  ⟨(some 57), .pick (.t 54) (.c (.bool true)) (.t 56), none⟩,
  ⟨(some 58), .mov (.t 57), none⟩,
  ⟨(some 59), .load (some 2) (.t 1), some (58, false)⟩,
  ⟨(some 60), .mov (.t 3), some (58, false)⟩,
  ⟨(some 61), .call (.c (.fn 25 [] [])) [(.t 59), (.t 60)], some (58, false)⟩,
  ⟨(some 62), .un .not (.t 61), some (58, false)⟩,
  ⟨(some 63), .pick (.t 58) (.c (.bool true)) (.t 62), none⟩,
  ⟨(some 64), .mov (.t 63), none⟩,
  ⟨(some 65), .mov (.t 6), some (64, false)⟩,
  ⟨(some 66), .len false (.t 65), some (64, false)⟩,
  ⟨(some 67), .mov (.t 3), some (64, false)⟩,
  ⟨(some 68), .len false (.t 67), some (64, false)⟩,
  ⟨(some 69), .bin .gtr (.t 66) (.t 68), some (64, false)⟩,
  ⟨(some 70), .pick (.t 64) (.c (.bool true)) (.t 69), none⟩] none)
 (.cond (.t 70) (.seq (.region [⟨(some 2), .mov (.c (.bool false)), none⟩] none)
 (.ret))
 (.skip)))
 (.seq (.region [⟨(some 8), .mov (.c (.int .i64 0)), none⟩] none)
 (.seq (.seq (.region [⟨(some 71), .mov (.t 3), none⟩,
  ⟨(some 72), .len false (.t 71), none⟩,
  ⟨(some 73), .mov (.c (.int .i64 0)), none⟩] none)
 (.block 0 (.loop b5_0)))
 (.seq (.seq (.region [⟨(some 86), .mov (.t 8), none⟩,
  ⟨(some 87), .faddr 0 (.t 1), none⟩,
  ⟨(some 88), .load none (.t 87), none⟩,
  ⟨(some 89), .bin .neq (.t 86) (.t 88), none⟩,
  ⟨(some 90), .mov (.t 89), none⟩,
  ⟨(some 91), .faddr 1 (.t 1), some (90, false)⟩,
  ⟨(some 92), .load none (.t 91), some (90, false)⟩,
  ⟨(some 93), .len false (.t 92), some (90, false)⟩,
  ⟨(some 94), .bin .eql (.t 93) (.c (.int .i64 0)), some (90, false)⟩,
  ⟨(some 95), .pick (.t 90) (.c (.bool true)) (.t 94), none⟩] none)
 (.cond (.t 95) (.seq (.region [⟨(some 96), .mov (.t 8), none⟩,
  ⟨(some 97), .faddr 0 (.t 1), none⟩,
  ⟨(some 98), .load none (.t 97), none⟩,
  ⟨(some 99), .bin .eql (.t 96) (.t 98), none⟩,
  ⟨(some 100), .mov (.t 99), none⟩,
  ⟨(some 101), .call (.c (.fn 12 [] [])) [], some (100, true)⟩,
  ⟨(some 102), .pick (.t 100) (.t 101) (.c (.bool false)), none⟩,
  ⟨(some 2), .mov (.t 102), none⟩] none)
 (.ret))
 (.skip)))
 (.seq (.region [⟨(some 103), .faddr 0 (.t 1), none⟩,
  ⟨(some 104), .load none (.t 103), none⟩,
  ⟨(some 105), .faddr 1 (.t 1), none⟩,
  ⟨(some 106), .load none (.t 105), none⟩,
  ⟨(some 107), .call (.c (.fn 27 [] [])) [(.t 106)], none⟩,
  ⟨(some 108), .faddr 1 (.t 1), none⟩,
  ⟨(some 109), .load none (.t 108), none⟩,
  ⟨(some 110), .idxs 1 (.t 109) (.c (.int .i64 0)), none⟩,
  ⟨(some 111), .load none (.t 110), none⟩,
  ⟨(some 112), .bslice 1 1 [.int .u64 0] [(0, 1, (.t 111))], none⟩,
  ⟨(some 113), .append 1 8 [.int .u64 0] (.t 107) (.t 112), none⟩,
  ⟨(some 114), .build [.int .i64 0, .nils] [(0, 1, (.t 104)), (1, 1, (.t 113))], none⟩,
  ⟨(some 11), .alloc [.int .i64 0, .nils], none⟩,
  ⟨none, .store 2 (.t 11) (.t 114), none⟩] (some [[], [0], [], [2], [3], [], [5], [6], [7], [8], [4, 9, 4], [1, 10], [], [12, 11, 10, 0, 1, 2, 3, 4, 5, 6, 7, 8, 9, 10, 11, 12]]))
 (.seq (.region [⟨(some 115), .faddr 0 (.t 1), none⟩,
  ⟨(some 116), .load none (.t 115), none⟩,
  ⟨(some 117), .faddr 1 (.t 1), none⟩,
  ⟨(some 118), .load none (.t 117), none⟩,
  ⟨(some 119), .slsl 1 (.t 118) (some (.c (.int .i64 1))) none none, none⟩,
  ⟨(some 120), .build [.int .i64 0, .nils] [(0, 1, (.t 116)), (1, 1, (.t 119))], none⟩,
  ⟨(some 12), .alloc [.int .i64 0, .nils], none⟩,
  ⟨none, .store 2 (.t 12) (.t 120), none⟩] (some [[], [0], [], [2], [3], [1, 4], [], [6, 5, 0, 1, 2, 3, 4, 5, 6]]))
 (.seq (.region [⟨(some 122), .load (some 2) (.t 11), none⟩,
  ⟨(some 123), .call (.c (.fn 14 [] [])) [(.t 122)], none⟩,
  ⟨(some 124), .call (.c (.fn 13 [] [])) [(.t 123)], none⟩,
  ⟨(some 121), .mov (.t 124), none⟩,
  ⟨(some 125), .extract (.t 121) 0, none⟩,
  ⟨(some 126), .extract (.t 121) 1, none⟩,
  ⟨(some 127), .extract (.t 121) 2, none⟩,
  ⟨(some 13), .mov (.t 125), none⟩,
  ⟨(some 14), .mov (.t 126), none⟩,
  ⟨(some 7), .mov (.t 127), none⟩] none)
 (.seq (.region [⟨(some 129), .load (some 2) (.t 12), none⟩,
  ⟨(some 130), .call (.c (.fn 14 [] [])) [(.t 129)], none⟩,
  ⟨(some 131), .call (.c (.fn 13 [] [])) [(.t 130)], none⟩,
  ⟨(some 128), .mov (.t 131), none⟩,
  ⟨(some 132), .extract (.t 128) 0, none⟩,
  ⟨(some 133), .extract (.t 128) 1, none⟩,
  ⟨(some 134), .extract (.t 128) 2, none⟩,
  ⟨(some 15), .mov (.t 132), none⟩,
  ⟨(some 16), .mov (.t 133), none⟩,
  ⟨(some 17), .mov (.t 134), none⟩] none)
 (.seq (.seq (.region [⟨(some 135), .faddr 1 (.t 1), none⟩,
  ⟨(some 136), .load none (.t 135), none⟩,
  ⟨(some 137), .idxs 1 (.t 136) (.c (.int .i64 0)), none⟩,
  ⟨(some 138), .load none (.t 137), none⟩,
  ⟨(some 139), .bin .eql (.t 138) (.c (.int .u64 0)), none⟩] none)
 (.cond (.t 139) (.seq (.region [⟨(some 140), .mov (.t 7), none⟩,
  ⟨(some 141), .bin .eql (.t 140) (.c (.int .i64 0)), none⟩,
  ⟨(some 142), .mov (.t 141), none⟩,
  ⟨(some 143), .mov (.t 14), some (142, true)⟩,
  ⟨(some 144), .mov (.t 4), some (142, true)⟩,
  ⟨(some 145), .bin .eql (.t 143) (.t 144), some (142, true)⟩,
  ⟨(some 146), .pick (.t 142) (.t 145) (.c (.bool false)), none⟩,
  ⟨(some 147), .mov (.t 146), none⟩,
  ⟨(some 148), .call (.c (.fn 12 [] [])) [], some (147, true)⟩,
  ⟨(some 149), .pick (.t 147) (.t 148) (.c (.bool false)), none⟩,
  ⟨(some 2), .mov (.t 149), none⟩] none)
 (.ret))
 (.skip)))
 (.seq (.region [⟨(some 150), .mov (.t 7), none⟩,
  ⟨(some 151), .bin .eql (.t 150) (.c (.int .i64 0)), none⟩,
  ⟨(some 152), .mov (.t 151), none⟩,
  ⟨(some 153), .mov (.t 17), some (152, true)⟩,
  ⟨(some 154), .bin .eql (.t 153) (.c (.int .i64 0)), some (152, true)⟩,
  ⟨(some 155), .mov (.t 154), some (152, true)⟩,
  ⟨(some 156), .mov (.t 17), some (155, false)⟩,
  ⟨(some 157), .bin .eql (.t 156) (.c (.int .i64 6)), some (155, false)⟩,
  ⟨(some 158), .pick (.t 155) (.c (.bool true)) (.t 157), some (152, true)⟩,
  ⟨(some 159), .pick (.t 152) (.t 158) (.c (.bool false)), none⟩,
  ⟨(some 160), .mov (.t 159), none⟩,
  ⟨(some 161), .mov (.t 14), some (160, true)⟩,
  ⟨(some 162), .mov (.t 16), some (160, true)⟩,
  ⟨(some 163), .mov (.t 4), some (160, true)⟩,
  ⟨(some 164), .mov (.t 16), some (160, true)⟩,
  ⟨(some 165), .bin .sub (.t 163) (.t 164), some (160, true)⟩,
  ⟨(some 166), .bin .mul (.c (.int .i64 2)) (.t 165), some (160, true)⟩,
  ⟨(some 167), .bin .add (.t 162) (.t 166), some (160, true)⟩,
  ⟨(some 168), .bin .eql (.t 161) (.t 167), some (160, true)⟩,
  ⟨(some 169), .pick (.t 160) (.t 168) (.c (.bool false)), none⟩,
  ⟨(some 170), .mov (.t 169), none⟩,
  ⟨(some 171), .call (.c (.fn 12 [] [])) [], some (170, true)⟩,
  ⟨(some 172), .pick (.t 170) (.t 171) (.c (.bool false)), none⟩,
  ⟨(some 2), .mov (.t 172), none⟩] none)
 (.ret)))))))))))))))
theorem fn5 : env0.fn 5 = some ⟨173, ic5, [.t 2]⟩ := by kernel_rfl
theorem zpy {n : Int} {s : List (BitVec 64)} (h1 : zn9 n s = 0) (h2 : ze7 n s = []) : exaV n s = .tup [.vs [], .int .i64 0, .int .i64 6] := by
 unfold exaV
 rw [if_pos h1, if_pos h2]
theorem zik {n : Int} {s : List (BitVec 64)} (h1 : zn9 n s = 0) (h2 : ze7 n s ≠ []) : exaV n s = .tup [vsI ((ze7 n s).foldl zbu ([], 0)).1, .int .i64 ((ze7 n s).length : Nat), .int .i64 0] := by
 unfold exaV
 rw [if_pos h1, if_neg h2]
theorem zup {n : Int} {s : List (BitVec 64)} (hc : ze8 n s = 0) (hs : s.length ≤ 16) : zn9 n s = 0 := by
 unfold zn9
 rw [if_pos hc, if_neg (by omega)]
theorem chk_two {n : Int} {x : BitVec 64} {xs : List (BitVec 64)} (hc : ze8 n (x :: xs) = 0) (hs : (x :: xs).length ≤ 50) : ze8 n (x :: xs ++ [x]) = 0 ∧ ze8 n xs = 0 := by
 obtain ⟨n0, n1, s1, hb⟩ := zf2 hc
 constructor
 ·unfold ze8 zqv
  rw [if_neg (by omega), if_neg (by omega), if_neg (by rw [List.length_append, List.length_singleton]; omega)]
  refine if_neg ?_
  rw [List.any_eq_true]
  rintro ⟨y, hy, h⟩
  rcases List.mem_append.1 hy with hy | hy
  ·rw [hb y hy] at h
   cases h
  ·obtain rfl := List.mem_singleton.1 hy
   rw [hb y (List.mem_cons_self ..)] at h
   cases h
 ·exact chk_sub hc (by rw [List.length_cons]; omega) fun y hy => List.mem_cons_of_mem _ hy
def vsL5 (c : List Int) : Nat := (c.map fun z => [AV.int .i64 z]).length
def t5 (m : Nat) (s : List (BitVec 64)) (a : List Int) (N : Nat) (z : Nat) (i : Nat) : List (Nat × AV) := [(1, .vptr [.int .i64 (m : Nat), .vs (cUs s)]), (3, vsI a), (4, .int .i64 (N : Nat)), (8, .int .i64 (z : Nat)), (71, vsI a), (72, .int .i64 (vsL5 a : Nat)), (73, .int .i64 (i : Nat))]
set_option maxRecDepth 100000 in
set_option maxHeartbeats 4000000 in
theorem law5 (n : Int) (s : List (BitVec 64)) : PF Try.prog 5 [cF n s] (.bool true) := by
 have pF := right23 n s
 have pS := zvq n s
 have hcl := zbh s
 refine zbd env0_ok fn5 [(0, cF n s)] (by show 1 ≤ 173; decide) rfl fun w0 N0 => ?_
 unfold ic5
 refine za6 (za0 rfl (zd7 (cs := [.int .i64 n, .vs (cUs s)]) rfl rfl (za1 rfl (za3 (za4 ?_)))))
 refine zd0 [] [(0, 0, [.int .i64 n, .vs (cUs s)])] [(1, .vptr [.int .i64 n, .vs (cUs s)])] rfl (.cons rfl rfl .nil) .nil (.cons rfl (.fptr rfl rfl) .nil) ?_
 repeat (first | refine za6 ?_ | refine za0 rfl ?_ | refine zb2 rfl rfl rfl rfl ?_)
 refine zay rfl rfl pF (fun h => Bool.noConfusion (show false = true from h)) ?_
 cases hf : rigB n s with
 | false =>
  repeat (first | refine za6 ?_ | refine za0 rfl ?_ | refine za3 ?_ | refine za4 ?_ | refine zc1 rfl ?_ | refine zh8 rfl rfl ?_ | refine za1 rfl ?_ | refine zan rfl rfl ?_ | refine zqh rfl rfl ?_)
  refine zay rfl rfl zg0 (fun h => Bool.noConfusion (show false = true from h)) ?_
  repeat (first | refine za3 ?_ | refine za4 ?_ | refine zas ?_ | refine za8 ?_ | refine za1 rfl ?_)
  exact zal ⟨.inr rfl, _, rfl, rfl⟩
 | true =>
 unfold rigB at hf
 rw [Bool.and_eq_true, Bool.and_eq_true, decide_eq_true_eq, decide_eq_true_eq, beq_iff_eq] at hf
 obtain ⟨hn, hs, hc⟩ := hf
 obtain ⟨n0, n1, s1, _⟩ := zf2 hc
 obtain ⟨m, rfl⟩ := Int.eq_ofNat_of_zero_le n0
 repeat (first | refine zcp rfl ?_ | refine za1 rfl ?_ | refine zah rfl rfl ?_ | refine za9 rfl rfl rfl ?_ | refine zqh rfl rfl ?_ | refine zbf rfl rfl ?_)
 refine zax rfl rfl rfl (fun h9 => ?_) fun h9 => ?_
 ·repeat (first | refine za6 ?_ | refine za0 rfl ?_ | refine za3 ?_ | refine za4 ?_ | refine zc1 rfl ?_ | refine zam rfl rfl ?_)
  refine zay rfl rfl zg0 (fun h => Bool.noConfusion (show false = true from h)) ?_
  repeat (first | refine za3 ?_ | refine za4 ?_ | refine zas ?_ | refine za8 ?_ | refine za1 rfl ?_)
  exact zal ⟨.inr rfl, _, rfl, rfl⟩
 have h9 : ¬ (((cUs s).length : Nat) : Int) > 7 := of_decide_eq_false h9
 have hm12 : m ≤ 12 := by omega
 have lim1 := zup hc (by omega)
 have p13 := zim (m : Nat) s
 by_cases hE : ze7 (m : Nat) s = []
 ·rw [zpy lim1 hE] at p13
  repeat (first | refine za6 ?_ | refine za0 rfl ?_ | refine za3 ?_ | refine za4 ?_ | refine zad ?_ | refine zbt rfl ?_ | refine zb2 rfl rfl rfl rfl ?_ | refine zam rfl rfl ?_)
  refine zay rfl rfl pS (fun h => Bool.noConfusion (show false = true from h)) ?_
  refine zay rfl rfl p13 (fun h => Bool.noConfusion (show false = true from h)) ?_
  repeat (first | refine za6 ?_ | refine za0 rfl ?_ | refine za3 ?_ | refine za4 ?_ | refine zc1 rfl ?_ | refine zcp rfl ?_ | refine za1 rfl ?_ | refine zan rfl rfl ?_ | refine zb8 rfl rfl ?_ | refine zbr rfl rfl rfl ?_)
  refine zay rfl rfl zg0 (fun h => Bool.noConfusion (show false = true from h)) ?_
  repeat (first | refine za3 ?_ | refine za4 ?_ | refine zas ?_ | refine za8 ?_ | refine za1 rfl ?_ | refine zan rfl rfl ?_)
  exact zal ⟨.inr rfl, _, rfl, rfl⟩
 rw [zik lim1 hE] at p13
 obtain ⟨a, ha⟩ : ∃ a, ((ze7 (m : Nat) s).foldl zbu ([], 0)).1 = a := ⟨_, rfl⟩
 obtain ⟨N, hN⟩ : ∃ N, (ze7 (m : Nat) s).length = N := ⟨_, rfl⟩
 obtain ⟨b1, b2, b3, b4⟩ := exa_best hm12 hc hE ha
 have hN1 : 1 ≤ N := by rw [← hN]; exact List.length_pos_iff.2 hE
 have hN2 : N ≤ 1000000 := by rw [← hN]; exact zqf (by omega) 0
 have hal : a.length ≤ s.length := by
  refine Nat.le_of_not_lt fun hx => ?_
  have := zpi (N := s.length) (f := 0) b1 fun z hz => by have := b2 z hz; omega
  rw [zky (by omega) (by omega)] at this
  cases this
 rw [ha, hN] at p13
 obtain ⟨b, hF⟩ := Option.isSome_iff_exists.1 (few_some b1 b2 b3 hal)
 have hba := few_min hF b1 b2 b3
 have p24 := zpz (m : Nat) s
 unfold fewV at p24
 rw [if_pos lim1, hF] at p24
 have p25 := has25 m hm12 s (by omega) a (by omega) b2 b1 b3
 repeat (first | refine za6 ?_ | refine za0 rfl ?_ | refine za3 ?_ | refine za4 ?_ | refine zad ?_ | refine zbt rfl ?_ | refine zb2 rfl rfl rfl rfl ?_ | refine zam rfl rfl ?_)
 refine zay rfl rfl pS (fun h => Bool.noConfusion (show false = true from h)) ?_
 refine zay rfl rfl p13 (fun h => Bool.noConfusion (show false = true from h)) ?_
 repeat (first | refine za6 ?_ | refine za0 rfl ?_ | refine za3 ?_ | refine za4 ?_ | refine zad ?_ | refine zbt rfl ?_ | refine za1 rfl ?_ | refine zb2 rfl rfl rfl rfl ?_ | refine zb8 rfl rfl ?_ | refine zb5 rfl rfl rfl ?_)
 refine zay rfl rfl pS (fun h => Bool.noConfusion (show false = true from h)) ?_
 refine zay rfl rfl p24 (fun h => Bool.noConfusion (show false = true from h)) ?_
 repeat (first | refine za6 ?_ | refine za0 rfl ?_ | refine za3 ?_ | refine za4 ?_ | refine zcp rfl ?_ | refine za1 rfl ?_ | refine zb8 rfl rfl ?_ | refine zb5 rfl rfl rfl ?_)
 refine zb5 rfl rfl (by show some (AV.bool (decide (((N : Nat) : Int) < 1))) = _; rw [decide_eq_false (by omega)]) ?_
 repeat (first | refine zcp rfl ?_ | refine za1 rfl ?_ | refine zb2 rfl rfl rfl rfl ?_ | refine zam rfl rfl ?_)
 refine zay rfl rfl p25 (fun h => Bool.noConfusion (show false = true from h)) ?_
 repeat (first | refine zcp rfl ?_ | refine za1 rfl ?_ | refine zam rfl rfl ?_ | refine zqh rfl rfl ?_ | refine zbf rfl rfl ?_)
 refine zb5 rfl rfl (by show some (AV.bool (decide ((((b.map fun z => [AV.int .i64 z]).length : Nat) : Int) > (((a.map fun z => [AV.int .i64 z]).length : Nat) : Int)))) = _; rw [List.length_map, List.length_map, decide_eq_false (by omega)]) ?_
 repeat (first | refine za6 ?_ | refine za0 rfl ?_ | refine za3 ?_ | refine za4 ?_ | refine zai ?_ | refine zad ?_ | refine zbt rfl ?_ | refine za1 rfl ?_ | refine zam rfl rfl ?_ | refine zbf rfl rfl ?_)
 have hva : vsL5 a = a.length := List.length_map ..
 have hsz12 := fun (x : BitVec 64) (hx : x ∈ s) => (show x.toNat < 4096 from by
  have h1 := zm8 (zo0 hc x hx)
  have h2 := (zsn (n := m) hm12).2
  rw [← h1, BitVec.toNat_and]
  exact Nat.lt_of_le_of_lt Nat.and_le_right h2)
 refine zcr (fun mm S => ∃ i, mm = a.length - i ∧ i ≤ a.length ∧ S = st 173 (t5 m s a N (szs s (a.take i)) i) [] 0 1) a.length
  (zaa (.cons rfl (.cons rfl (.cons rfl (.cons rfl (.cons rfl (.cons rfl (.cons rfl .nil)))))))) ⟨0, rfl, Nat.zero_le _, rfl⟩ ?_
 ·rintro mm S ⟨i, rfl, hi, rfl⟩
  unfold b5_0 t5
  repeat (first | refine za6 ?_ | refine za0 rfl ?_)
  refine zax rfl rfl rfl (fun h3 => ?_) fun h3 => ?_
  ·have hlt : i < a.length := by
    have h4 : ((i : Nat) : Int) < ((vsL5 a : Nat) : Int) := of_decide_eq_true h3
    rw [hva] at h4
    exact Int.ofNat_lt.1 h4
   have hz := b2 a[i] (List.getElem_mem hlt)
   obtain ⟨k, hk⟩ := Int.eq_ofNat_of_zero_le hz.1
   have hks : k < s.length := by omega
   have hx := hsz12 s[k] (List.getElem_mem hks)
   have p26 := ones26 hx
   have e1 : (a.map fun z => [AV.int .i64 z])[((i : Nat) : Int).toNat]? = some [.int .i64 (k : Nat)] := by
    rw [Int.toNat_natCast, List.getElem?_map, List.getElem?_eq_getElem hlt, hk]; rfl
   have e2 : (cUs s)[((k : Nat) : Int).toNat]? = some [cU s[k]] := by
    unfold cUs
    rw [Int.toNat_natCast, List.getElem?_map, List.getElem?_eq_getElem hks]; rfl
   have e3 : szs s (a.take (i + 1)) = szs s (a.take i) + szB s[k] := by
    rw [List.take_add_one, List.getElem?_eq_getElem hlt]
    show szs s (a.take i ++ [a[i]]) = _
    rw [zw1, hk, Int.toNat_natCast, List.getD_eq_getElem?_getD, List.getElem?_eq_getElem hks]
    rfl
   have e4 := szs_le s (a.take i)
   have e5 : (a.take i).length ≤ 20 := by rw [List.length_take]; omega
   have e6 := zvz s[k]
   have w1 : IntKind.wrap .i64 (((i : Nat) : Int) + 1) = ((i + 1 : Nat) : Int) := zb0 i (by omega)
   have w2 : IntKind.wrap .i64 (((szs s (a.take i) : Nat) : Int) + ((szB s[k] : Nat) : Int)) = ((szs s (a.take (i + 1)) : Nat) : Int) := by
    rw [e3, ← Int.natCast_add]
    exact wrap_nat _ (by omega)
   repeat (first | refine za6 ?_ | refine za0 rfl ?_ | refine za3 ?_ | refine za4 ?_ | refine zai ?_ | refine zad ?_ | refine zc1 rfl ?_ | refine za1 rfl ?_ | refine zah rfl rfl ?_ | refine za9 rfl rfl rfl ?_ | refine zba rfl rfl (by omega) (by assumption) rfl ?_)
   refine zay rfl rfl p26 (fun h => Bool.noConfusion (show false = true from h)) ?_
   repeat (first | refine za0 rfl ?_ | refine za3 ?_ | refine za4 ?_ | refine zbj ?_ | refine za1 rfl ?_ | refine zac (op := .add) rfl rfl rfl ?_)
   rw [w1, w2]
   exact zb4 (show a.length - (i + 1) < a.length - i by omega) (zaa (.cons rfl (.cons rfl (.cons rfl (.cons rfl (.cons rfl (.cons rfl (.cons rfl .nil)))))))) ⟨i + 1, rfl, hlt, rfl⟩
  ·have hie : i = a.length := by
    have : ¬ ((i : Nat) : Int) < ((vsL5 a : Nat) : Int) := of_decide_eq_false h3
    rw [hva] at this
    omega
   subst hie
   rw [List.take_length, b4]
   repeat (first | refine za6 ?_ | refine za3 ?_ | refine za4 ?_ | refine zbt rfl ?_ | refine zbc ?_ | refine zaf ?_)
   refine ze6 ?_
   repeat (first | refine za6 ?_ | refine za0 rfl ?_ | refine za4 ?_ | refine zbb ?_ | refine za1 rfl ?_ | refine zah rfl rfl ?_ | refine za9 rfl rfl rfl ?_)
   refine zb5 rfl rfl (by show some (AV.bool (!(((m : Nat) : Int) == ((m : Nat) : Int)))) = _; simp) ?_
   repeat (first | refine zcp rfl ?_ | refine za1 rfl ?_ | refine zah rfl rfl ?_ | refine za9 rfl rfl rfl ?_ | refine zbf rfl rfl ?_)
   refine zax rfl rfl rfl (fun h4 => ?_) fun h4 => ?_
   ·repeat (first | refine za6 ?_ | refine za0 rfl ?_ | refine za3 ?_ | refine za4 ?_ | refine zc1 rfl ?_ | refine za1 rfl ?_ | refine zah rfl rfl ?_ | refine za9 rfl rfl rfl ?_ | refine zam rfl rfl ?_)
    refine zbr rfl rfl (by show some (AV.bool (((m : Nat) : Int) == ((m : Nat) : Int))) = _; simp) ?_
    repeat (first | refine zcp rfl ?_ | refine za1 rfl ?_)
    refine zay rfl rfl zg0 (fun h => Bool.noConfusion (show false = true from h)) ?_
    repeat (first | refine za3 ?_ | refine za4 ?_ | refine zas ?_ | refine za8 ?_ | refine za1 rfl ?_ | refine zan rfl rfl ?_)
    exact zal ⟨.inr rfl, _, rfl, rfl⟩
   obtain ⟨x, xs, hsx⟩ : ∃ x xs, s = x :: xs := by
    cases s with
    | nil => exact absurd h4 (by decide)
    | cons x xs => exact ⟨x, xs, rfl⟩
   have hcx := chk_two (hsx ▸ hc) (by rw [← hsx]; omega)
   have hlx : (x :: xs ++ [x]).length ≤ 16 := by rw [← hsx, List.length_append, List.length_singleton]; omega
   have hlxs : xs.length ≤ 16 := by have := congrArg List.length hsx; rw [List.length_cons] at this; omega
   have limA := zup hcx.1 hlx
   have limB := zup hcx.2 hlxs
   have pSA := zvq (m : Nat) (x :: xs ++ [x])
   have pSB := zvq (m : Nat) xs
   have pA := zim (m : Nat) (x :: xs ++ [x])
   have pB := zim (m : Nat) xs
   repeat (first | refine za6 ?_ | refine za3 ?_ | refine za4 ?_ | refine zad ?_ | refine zbt rfl ?_ | refine zam rfl rfl ?_)
   refine zhr (zaa (l' := zhn m s (N : Nat)) (.cons rfl (.cons rfl .nil))) (grow5 m s xs x (N : Nat) hsx (by omega) ?_)
   have hdr : ((cUs s).drop ((1 : Int)).toNat).take ((((cUs s).length : Nat) : Int).toNat - ((1 : Int)).toNat) = cUs xs := by
    rw [hsx]
    show (cUs xs).take (((cUs (x :: xs)).length : Int).toNat - 1) = cUs xs
    rw [List.take_of_length_le]
    rw [Int.toNat_natCast, zbh, zbh, List.length_cons]
    omega
   have hl1 : 1 ≤ (cUs s).length := by rw [hcl, hsx, List.length_cons]; omega
   repeat (first | refine za6 ?_)
   refine z_drawnT env0_ok [] (fun x hx => by cases hx) (fun _ => false) [] (fun x hx => by cases hx) false (fun _ => false) (fun _ => true) (fun _ _ => rfl) (fun _ h _ => Bool.noConfusion h) rfl rfl rfl rfl ?_
   repeat (first | refine zah rfl rfl ?_ | refine za9 rfl rfl rfl ?_)
   refine o_slv (es := cUs s) (lv := some (.int .i64 1)) (hv := none) (lo := 1) (hh := ((cUs s).length : Nat)) rfl rfl rfl rfl rfl (by decide) (by omega) (Int.le_refl _) zpp hdr ?_
   refine zdc rfl rfl ?_
   refine zc2 ?_
   refine zb9 rfl rfl rfl rfl rfl rfl rfl ?_
   refine za3 (za4 ?_)
   refine zd0 [] [(0, 1, [.int .i64 (m : Nat), .vs (cUs xs)])] [(12, .vptr [.int .i64 (m : Nat), .vs (cUs xs)]), (11, .vptr [.int .i64 (m : Nat), .vs (cUs (s ++ [x]))]), (1, .vptr [.int .i64 (m : Nat), .vs (cUs s)]), (4, .int .i64 (N : Nat))] rfl (.cons rfl rfl .nil) .nil (.cons rfl (.fptr rfl rfl) (.cons rfl (.same rfl) (.cons rfl (.same rfl) (.cons rfl (.same rfl) .nil)))) ?_
   rw [← hsx] at pSA pA limA
   have hM : (ze7 (m : Nat) (s ++ [x])).length = N ∧ x = 0#64 ∨ x ≠ 0#64 ∧ (ze7 (m : Nat) xs).length ≤ N ∧ (ze7 (m : Nat) (s ++ [x])).length + (ze7 (m : Nat) xs).length = 2 * N := by
    by_cases h0 : x = 0#64
    ·refine .inl ⟨?_, h0⟩
     rw [h0, zero_cnt]
     exact hN
    ·have := zw5 (n := (m : Nat)) (hsx ▸ hc) h0
     rw [← hsx, hN] at this
     exact .inr ⟨h0, this⟩
   have hEA : ze7 (m : Nat) (s ++ [x]) ≠ [] := fun e => by
    rw [e, List.length_nil] at hM
    omega
   rw [zik limA hEA] at pA
   obtain ⟨M, hMv⟩ : ∃ M, (ze7 (m : Nat) (s ++ [x])).length = M := ⟨_, rfl⟩
   obtain ⟨K, hK⟩ : ∃ K, (ze7 (m : Nat) xs).length = K := ⟨_, rfl⟩
   rw [hMv, hK] at hM
   rw [hMv] at pA
   have pB2 : ∃ A h, (h = 0 ∨ h = 6) ∧ PF Try.prog 13 [cF (m : Nat) xs] (.tup [A, .int .i64 (K : Nat), .int .i64 h]) := by
    by_cases hEB : ze7 (m : Nat) xs = []
    ·rw [zpy limB hEB] at pB
     rw [hEB] at hK
     obtain rfl : 0 = K := hK
     exact ⟨_, 6, .inr rfl, pB⟩
    ·rw [zik limB hEB, hK] at pB
     exact ⟨_, 0, .inl rfl, pB⟩
   obtain ⟨A, h, hh, pB2⟩ := pB2
   have e0 : (cUs s)[((0 : Int)).toNat]? = some [cU x] := by rw [hsx]; rfl
   repeat (first | refine za6 ?_ | refine za0 rfl ?_ | refine zb2 rfl rfl rfl rfl ?_)
   refine zay rfl rfl pSA (fun h => Bool.noConfusion (show false = true from h)) ?_
   refine zay rfl rfl pA (fun h => Bool.noConfusion (show false = true from h)) ?_
   repeat (first | refine za6 ?_ | refine za0 rfl ?_ | refine za3 ?_ | refine za4 ?_ | refine za1 rfl ?_ | refine zb2 rfl rfl rfl rfl ?_ | refine zb8 rfl rfl ?_)
   refine zay rfl rfl pSB (fun h => Bool.noConfusion (show false = true from h)) ?_
   refine zay rfl rfl pB2 (fun h => Bool.noConfusion (show false = true from h)) ?_
   repeat (first | refine za6 ?_ | refine za0 rfl ?_ | refine za3 ?_ | refine za4 ?_ | refine za1 rfl ?_ | refine zah rfl rfl ?_ | refine za9 rfl rfl rfl ?_ | refine zb8 rfl rfl ?_ | refine zba rfl rfl (by omega) (by assumption) rfl ?_)
   refine zax rfl rfl (zdf x 0#64) (fun h5 => ?_) fun h5 => ?_
   ·have hx0 : x = 0#64 := eq_of_beq h5
    obtain ⟨rfl, _⟩ := hM.resolve_right fun e => e.1 hx0
    repeat (first | refine za6 ?_ | refine za0 rfl ?_ | refine za3 ?_ | refine za4 ?_ | refine zc1 rfl ?_ | refine zcp rfl ?_ | refine za1 rfl ?_ | refine zbr rfl rfl rfl ?_)
    refine zbr rfl rfl (by show some (AV.bool (((M : Nat) : Int) == ((M : Nat) : Int))) = _; simp) ?_
    repeat (first | refine zcp rfl ?_ | refine za1 rfl ?_ | refine zan rfl rfl ?_)
    refine zay rfl rfl zg0 (fun h => Bool.noConfusion (show false = true from h)) ?_
    repeat (first | refine za3 ?_ | refine za4 ?_ | refine zas ?_ | refine za8 ?_ | refine za1 rfl ?_ | refine zan rfl rfl ?_)
    exact zal ⟨.inr rfl, _, rfl, rfl⟩
   ·have hx0 : x ≠ 0#64 := fun e => by rw [e] at h5; simp at h5
    obtain ⟨_, hM1, hM2⟩ := hM.resolve_left fun e => hx0 e.2
    have wv : IntKind.wrap .i64 (((K : Nat) : Int) + IntKind.wrap .i64 (2 * IntKind.wrap .i64 (((N : Nat) : Int) - ((K : Nat) : Int)))) = ((M : Nat) : Int) := by
     rw [zdp (((N : Nat) : Int) - ((K : Nat) : Int)) (by omega) (by omega), zdp (2 * (((N : Nat) : Int) - ((K : Nat) : Int))) (by omega) (by omega), zdp _ (by omega) (by omega)]
     omega
    rcases hh with rfl | rfl
    ·repeat (first | refine za6 ?_ | refine za0 rfl ?_ | refine za3 ?_ | refine za4 ?_ | refine zad ?_ | refine zbt rfl ?_ | refine zcp rfl ?_ | refine zh8 rfl rfl ?_ | refine za1 rfl ?_ | refine zan rfl rfl ?_ | refine zac (op := .sub) rfl rfl rfl ?_ | refine zbr rfl rfl rfl ?_)
     refine zac (op := .mul) rfl rfl rfl ?_
     repeat (first | refine zcp rfl ?_ | refine zac (op := .add) rfl rfl rfl ?_)
     refine zbr rfl rfl (by rw [wv]; show some (AV.bool (((M : Nat) : Int) == ((M : Nat) : Int))) = _; simp) ?_
     repeat (first | refine zcp rfl ?_ | refine za1 rfl ?_ | refine zan rfl rfl ?_)
     refine zay rfl rfl zg0 (fun h => Bool.noConfusion (show false = true from h)) ?_
     repeat (first | refine za3 ?_ | refine za4 ?_ | refine zas ?_ | refine za1 rfl ?_ | refine zan rfl rfl ?_)
     exact zal ⟨.inr rfl, _, rfl, rfl⟩
    ·repeat (first | refine za6 ?_ | refine za0 rfl ?_ | refine za3 ?_ | refine za4 ?_ | refine zad ?_ | refine zbt rfl ?_ | refine zcp rfl ?_ | refine za1 rfl ?_ | refine zan rfl rfl ?_ | refine zam rfl rfl ?_ | refine zac (op := .sub) rfl rfl rfl ?_ | refine zbr rfl rfl rfl ?_ | refine zb5 rfl rfl rfl ?_)
     refine zac (op := .mul) rfl rfl rfl ?_
     repeat (first | refine zcp rfl ?_ | refine zac (op := .add) rfl rfl rfl ?_)
     refine zbr rfl rfl (by rw [wv]; show some (AV.bool (((M : Nat) : Int) == ((M : Nat) : Int))) = _; simp) ?_
     repeat (first | refine zcp rfl ?_ | refine za1 rfl ?_ | refine zan rfl rfl ?_)
     refine zay rfl rfl zg0 (fun h => Bool.noConfusion (show false = true from h)) ?_
     repeat (first | refine za3 ?_ | refine za4 ?_ | refine zas ?_ | refine za1 rfl ?_ | refine zan rfl rfl ?_)
     exact zal ⟨.inr rfl, _, rfl, rfl⟩
end Go.Proofs.Ytknomkcdpcnmaaa
