/-
  WHAT BOUNDS COMPARES: the plain law of Greedy.
-/
import Derived.Test.YtknomkcdpcnmaaaKRI
import Derived.Test.YtknomkcdpcnmaaaKP4
namespace Go.Proofs.Ytknomkcdpcnmaaa
open Go Go.Am
theorem zcs (l : List Int) (i k : Nat) (v : Int) (h : i < l.length) : (l.set i v).getD k 0 = if i = k then v else l.getD k 0 := by
 rw [List.getD_eq_getElem?_getD, List.getElem?_set, List.getD_eq_getElem?_getD]
 by_cases e : i = k
 ·rw [if_pos e, if_pos (by omega), if_pos e]
  rfl
 ·rw [if_neg e, if_neg e]
theorem znc (a : Int) : ∀ (j : Nat) (l : List Int), j < l.length → (bub j l).count a = l.count a
 | 0, _, _ => rfl
 | j + 1, l, h => by
  rw [bub]
  split
  ·have e1 : l.getD j 0 = l[j] := by rw [List.getD_eq_getElem?_getD, List.getElem?_eq_getElem (by omega)]; rfl
   have e2 : l.getD (j + 1) 0 = l[j + 1] := by rw [List.getD_eq_getElem?_getD, List.getElem?_eq_getElem h]; rfl
   have g1 : (l.set (j + 1) (l.getD j 0))[j]'(by rw [List.length_set]; omega) = l[j] := List.getElem_set_ne (by omega) _
   have hp : l[j + 1] = a → 0 < l.count a := fun e => List.count_pos_iff.2 (e ▸ List.getElem_mem h)
   rw [znc a j _ (by rw [List.length_set, List.length_set]; omega), List.count_set (by rw [List.length_set]; omega), g1, List.count_set h, e1, e2]
   generalize l[j + 1] = y at *
   generalize l[j] = x at *
   by_cases hy : y = a
   ·have := hp hy
    rw [show (y == a) = true from beq_iff_eq.2 hy]
    by_cases hx : x = a
    ·rw [show (x == a) = true from beq_iff_eq.2 hx, if_pos rfl]
     omega
    ·rw [show (x == a) = false from beq_eq_false_iff_ne.2 hx, if_pos rfl, if_neg Bool.false_ne_true]
     omega
   ·rw [show (y == a) = false from beq_eq_false_iff_ne.2 hy]
    by_cases hx : x = a
    ·rw [show (x == a) = true from beq_iff_eq.2 hx, if_pos rfl, if_neg Bool.false_ne_true]
     omega
    ·rw [show (x == a) = false from beq_eq_false_iff_ne.2 hx, if_neg Bool.false_ne_true]
     omega
  ·rfl
theorem zkx (a : Int) : ∀ (m i : Nat) (l : List Int), i + m ≤ l.length → (zr6 l i m).count a = l.count a
 | 0, _, _, _ => rfl
 | m + 1, i, l, h => by rw [zr6, zkx a m (i + 1) _ (by rw [ziy]; omega), znc a i l (by omega)]
theorem zwt (l : List Int) : (zga l).Perm l := by
 rw [List.perm_iff_count]
 intro a
 unfold zga
 cases l with
 | nil => rfl
 | cons z l => exact zkx a _ _ _ (by simp only [List.length_cons]; omega)
theorem zkn (m : Nat) : ∀ (j : Nat) (l : List Int), j ≤ m → m < l.length → (∀ a b, a < b → b ≤ m → a ≠ j → b ≠ j → l.getD a 0 ≤ l.getD b 0) → (∀ b, j < b → b ≤ m → l.getD j 0 ≤ l.getD b 0) →
  ∀ a b, a < b → b ≤ m → (bub j l).getD a 0 ≤ (bub j l).getD b 0
 | 0, l, _, _, h1, h2, a, b, hab, hb => by
  rw [bub]
  by_cases ha : a = 0
  ·subst ha
   exact h2 b hab hb
  ·exact h1 a b hab hb ha (by omega)
 | j + 1, l, hj, hm, h1, h2, a, b, hab, hb => by
  rw [bub]
  split
  ·rename_i hlt
   have hs : ∀ k, ((l.set (j + 1) (l.getD j 0)).set j (l.getD (j + 1) 0)).getD k 0 = if j = k then l.getD (j + 1) 0 else if j + 1 = k then l.getD j 0 else l.getD k 0 := fun k => by
    rw [zcs _ _ _ _ (by rw [List.length_set]; omega), zcs _ _ _ _ (by omega)]
   refine zkn m j _ (by omega) (by rw [List.length_set, List.length_set]; exact hm) (fun a b hab hb ha hbj => ?_) (fun b hjb hb => ?_) a b hab hb
   ·rw [hs a, hs b, if_neg (show ¬ j = a by omega), if_neg (show ¬ j = b by omega)]
    by_cases ha1 : j + 1 = a
    ·rw [if_pos ha1, if_neg (by omega)]
     exact h1 j b (by omega) hb (by omega) (by omega)
    ·rw [if_neg ha1]
     by_cases hb1 : j + 1 = b
     ·rw [if_pos hb1]
      exact h1 a j (by omega) (by omega) (by omega) (by omega)
     ·rw [if_neg hb1]
      exact h1 a b hab hb (by omega) (by omega)
   ·rw [hs j, hs b, if_pos rfl, if_neg (show ¬ j = b by omega)]
    by_cases hb1 : j + 1 = b
    ·rw [if_pos hb1]
     omega
    ·rw [if_neg hb1]
     exact h2 b (by omega) hb
  ·rename_i hge
   by_cases hb1 : b = j + 1
   ·subst hb1
    by_cases ha1 : a = j
    ·subst ha1; omega
    ·have := h1 a j (by omega) (by omega) (by omega) (by omega)
     omega
   ·by_cases ha1 : a = j + 1
    ·subst ha1
     exact h2 b hab hb
    ·exact h1 a b hab hb ha1 hb1
theorem zjj : ∀ (m i : Nat) (l : List Int), i + m = l.length → (∀ a b, a < b → b < i → l.getD a 0 ≤ l.getD b 0) → ∀ a b, a < b → b < l.length → (zr6 l i m).getD a 0 ≤ (zr6 l i m).getD b 0
 | 0, i, l, h, hs, a, b, hab, hb => hs a b hab (by omega)
 | m + 1, i, l, h, hs, a, b, hab, hb => by
  rw [zr6]
  refine zjj m (i + 1) _ (by rw [ziy]; omega) (fun a b hab hb => ?_) a b hab (by rw [ziy]; exact hb)
  exact zkn i i l (Nat.le_refl _) (by omega) (fun a b hab hb _ _ => hs a b hab (by omega)) (fun b h1 h2 => absurd h1 (by omega)) a b hab (by omega)
theorem zq0 (l : List Int) : (zga l).Pairwise (· ≤ ·) := by
 rw [List.pairwise_iff_getElem]
 intro i j hi hj hij
 have hlen : (zga l).length = l.length := zma _ _ _
 have key : (zga l).getD i 0 ≤ (zga l).getD j 0 := by
  unfold zga
  cases l with
  | nil => rw [hlen] at hi; cases hi
  | cons z l => exact zjj _ 1 (z :: l) (by simp only [List.length_cons]; omega) (fun a b h1 h2 => absurd h1 (by omega)) i j hij (by rw [hlen] at hj; exact hj)
 rw [List.getD_eq_getElem?_getD, List.getD_eq_getElem?_getD, List.getElem?_eq_getElem hi, List.getElem?_eq_getElem hj] at key
 exact key
theorem zin {out : List Int} {N : Nat} {z : Int} : z ∈ resL out N ↔ 0 ≤ z ∧ z < N ∧ z ∈ out := by
 unfold resL
 rw [List.mem_map]
 constructor
 ·rintro ⟨k, hk, rfl⟩
  obtain ⟨h1, h2⟩ := List.mem_filter.1 hk
  exact ⟨by omega, by have := List.mem_range.1 h1; omega, by simpa using h2⟩
 ·rintro ⟨h0, h1, h2⟩
  refine ⟨z.toNat, List.mem_filter.2 ⟨List.mem_range.2 (by omega), ?_⟩, by omega⟩
  rw [show ((z.toNat : Nat) : Int) = z by omega]
  simpa using h2
theorem zmp (out : List Int) (N : Nat) : (resL out N).Pairwise (· < ·) := by
 unfold resL
 rw [List.pairwise_map]
 exact (List.Pairwise.filter _ List.pairwise_lt_range).imp fun h => by omega
theorem sort_res {out : List Int} {N : Nat} (hd : out.Nodup) (hm : ∀ z ∈ out, 0 ≤ z ∧ z < N) : zga out = resL out N := by
 refine List.Perm.eq_of_pairwise (le := (· ≤ ·)) (fun a b _ _ h1 h2 => by omega) (zq0 out) ((zmp out N).imp fun h => by omega) ?_
 refine (zwt out).trans ?_
 rw [List.perm_ext_iff_of_nodup hd ((zmp out N).imp fun h => by omega)]
 intro z
 rw [zin]
 exact ⟨fun h => ⟨(hm z h).1, (hm z h).2, h⟩, fun h => h.2.2⟩
theorem and_sub {x l y : BitVec 64} (h : x &&& l = 0#64) : x &&& (l &&& ~~~ y) = 0#64 := by
 rw [← BitVec.and_assoc, h, BitVec.zero_and]
theorem zif (s : List (BitVec 64)) : ∀ (f : Nat) (left : BitVec 64) (out r : List Int), zie s f left out = some r → out.Nodup → (∀ z ∈ out, 0 ≤ z ∧ z < s.length ∧ s.getD z.toNat 0 &&& left = 0#64) → r.Nodup ∧ ∀ z ∈ r, 0 ≤ z ∧ z < s.length
 | 0, _, _, _, h, _, _ => by cases h
 | f + 1, left, out, r, h, hd, hm => by
  rw [zie] at h
  split at h
  ·obtain rfl := Option.some.inj h
   exact ⟨hd, fun z hz => ⟨(hm z hz).1, (hm z hz).2.1⟩⟩
  split at h
  ·cases h
  rename_i hb
  obtain ⟨h1, h2⟩ := zfy s left s.length hb
  generalize zdh s left s.length = bt at *
  have hnz : s.getD bt.1 0 &&& left ≠ 0#64 := fun e => hb (by rw [h2]; exact zgr.2 e)
  refine zif s f _ _ r h ?_ ?_
  ·rw [List.nodup_append]
   refine ⟨hd, by simp, fun a ha b hb2 e => ?_⟩
   obtain rfl := List.mem_singleton.1 hb2
   subst e
   exact hnz (by have := (hm _ ha).2.2; rwa [Int.toNat_natCast] at this)
  ·intro z hz
   rcases List.mem_append.1 hz with hz | hz
   ·exact ⟨(hm z hz).1, (hm z hz).2.1, and_sub (hm z hz).2.2⟩
   ·obtain rfl := List.mem_singleton.1 hz
    refine ⟨by omega, by omega, ?_⟩
    rw [Int.toNat_natCast, BitVec.and_comm left, ← BitVec.and_assoc, BitVec.and_not_self]
    exact BitVec.zero_and
theorem gre_eq (n : Int) (s : List (BitVec 64)) : greV n s = greW n s := by
 unfold greV greW
 split
 ·cases hR : zie s (szB (zc5 n) + 1) (zc5 n) [] with
  | none => rfl
  | some out =>
   obtain ⟨h1, h2⟩ := zif s _ _ _ _ hR List.nodup_nil (fun z hz => by cases hz)
   show AV.tup [vsI (zga out), .int .i64 0] = AV.tup [vsI (resL out s.length), .int .i64 0]
   rw [sort_res h1 h2]
 ·rfl
end Go.Proofs.Ytknomkcdpcnmaaa
