/-
  WHAT COUNTS COMPARES: the plain law.
-/
import Derived.Test.YtknomkcdpcnmaaaERE
import Derived.Test.YtknomkcdpcnmaaaEVB
import Derived.Test.YtknomkcdpcnmaaaEVG
import Derived.Test.YtknomkcdpcnmaaaEP4
namespace Go.Proofs.Ytknomkcdpcnmaaa
open Go Go.Am
def zs1 : List (BitVec 64) → Nat → List (List Int)
 | [], _ => []
 | _ :: xs, i => (([] :: zs1 xs (i + 1)).map fun c => ((i : Nat) : Int) :: c) ++ zs1 xs (i + 1)
def exq (A : BitVec 64) : List (BitVec 64) → Nat → BitVec 64 → List Int → Bool
 | _, _, h, [] => h == A
 | s, _, h, k :: c => s.getD k.toNat 0 != 0#64 && s.getD k.toNat 0 &&& h == 0#64 && exq A s 0 (h ||| s.getD k.toNat 0) c
theorem exq_all (A : BitVec 64) (s : List (BitVec 64)) (hs : ∀ x ∈ s, x &&& ~~~ A = 0#64) (c : List Int) (hc : c ≠ []) : exq A s 0 A c = false := by
 obtain ⟨k, c, rfl⟩ : ∃ k d, c = k :: d := by cases c with | nil => exact absurd rfl hc | cons k d => exact ⟨k, d, rfl⟩
 rw [exq]
 by_cases h : s.getD k.toNat 0 = 0#64
 ·rw [h]; rfl
 ·have hx : s.getD k.toNat 0 &&& ~~~ A = 0#64 := by
   rw [List.getD_eq_getElem?_getD] at h ⊢
   cases e : s[k.toNat]? with
   | none => simp
   | some x => exact hs x (List.mem_of_getElem? e)
  have h2 : s.getD k.toNat 0 &&& A ≠ 0#64 := fun h3 => h <| by
   apply BitVec.eq_of_getLsbD_eq
   intro i hi
   have a := congrArg (fun z => z.getLsbD i) hx
   have b := congrArg (fun z => z.getLsbD i) h3
   simp only [BitVec.getLsbD_and, BitVec.getLsbD_not, BitVec.getLsbD_zero, hi, decide_true, Bool.true_and] at a b
   rw [BitVec.getLsbD_zero]
   revert a b
   cases (s.getD k.toNat 0).getLsbD i <;> cases A.getLsbD i <;> simp
  have : (s.getD k.toNat 0 &&& A == 0#64) = false := by simpa using h2
  rw [this, Bool.and_false, Bool.false_and]
theorem zjm : ∀ (t : List (BitVec 64)) (i : Nat), [] ∉ zs1 t i
 | [], _, h => by cases h
 | y :: ys, i, h => by
  rw [zs1, List.mem_append] at h
  rcases h with h | h
  ·obtain ⟨c, _, e⟩ := List.mem_map.1 h
   exact List.cons_ne_nil _ _ e
  ·exact zjm ys (i + 1) h
theorem zuu (A : BitVec 64) (s : List (BitVec 64)) (hs : ∀ x ∈ s, x &&& ~~~ A = 0#64) : ∀ (t : List (BitVec 64)) (i : Nat) (h : BitVec 64), s.drop i = t → h ≠ A → lvs A t i h = (zs1 t i).filter (exq A s 0 h)
 | [], _, _, _, _ => rfl
 | x :: xs, i, h, ht, hn => by
  have hg : s.getD i 0 = x := by
   have : s[i]? = some x := by
    have := congrArg (fun l => l[0]?) ht
    simpa using this
   rw [List.getD_eq_getElem?_getD, this]
   rfl
  have hd : s.drop (i + 1) = xs := by
   have := congrArg (List.drop 1) ht
   rw [List.drop_drop] at this
   simpa [Nat.add_comm] using this
  rw [lvs, zs1, List.filter_append, zuu A s hs xs (i + 1) h hd hn, List.filter_map]
  congr 1
  have he : (exq A s 0 h ∘ fun c => ((i : Nat) : Int) :: c) = fun c => (x != 0#64 && x &&& h == 0#64) && exq A s 0 (h ||| x) c := by
   funext c
   show exq A s 0 h (((i : Nat) : Int) :: c) = _
   rw [exq, Int.toNat_natCast, hg]
  rw [he]
  cases hb : (x != 0#64 && x &&& h == 0#64) with
  | false =>
   simp only [Bool.false_and, Bool.false_eq_true, if_false]
   rw [List.filter_eq_nil_iff.2 (by simp)]
   rfl
  | true =>
   simp only [Bool.true_and, if_true]
   congr 1
   rw [List.filter_cons]
   by_cases hA : h ||| x = A
   ·have e1 : (h ||| x == A) = true := by simpa using hA
    have e2 : exq A s 0 (h ||| x) [] = true := e1
    rw [e1, e2, if_pos rfl, if_pos rfl, hA]
    rw [List.filter_eq_nil_iff.2]
    intro c hc
    have : c ≠ [] := fun e => zjm xs (i + 1) (e ▸ hc)
    rw [exq_all A s hs c this]
    exact Bool.false_ne_true
   ·have e1 : (h ||| x == A) = false := by simpa using hA
    have e2 : exq A s 0 (h ||| x) [] = false := e1
    rw [e1, e2, if_neg Bool.false_ne_true, if_neg Bool.false_ne_true]
    exact zuu A s hs xs (i + 1) (h ||| x) hd hA
theorem zma {n : Nat} : ∀ (k : Nat) (t : List (BitVec 64)) (i : Nat), i + t.length = n → (zs1 t i).filter (fun c => c.length == k + 1) = asc n (k + 1) i
 | k, [], i, h => by
  rw [zky (by simp at h; omega) (by simp at h; omega)]
  rfl
 | k, x :: xs, i, h => by
  have hn : i < n := by simp at h; omega
  have hs : i + 1 + xs.length = n := by simp at h; omega
  rw [zs1, List.filter_append, zma k xs (i + 1) hs, zkz, zkz, zmp hn, List.filter_map]
  congr 2
  have he : ((fun c : List Int => c.length == k + 1) ∘ fun c => ((i : Nat) : Int) :: c) = fun c => c.length == k := by
   funext c
   show ((c.length + 1 == k + 1) : Bool) = _
   by_cases hc : c.length = k <;> simp [hc]
  rw [he]
  cases k with
  | zero =>
   rw [List.filter_cons, if_pos (by rfl), asc, List.filter_eq_nil_iff.2]
   intro c hc e
   have : c = [] := List.length_eq_zero_iff.1 (by simpa using e)
   exact zjm xs (i + 1) (this ▸ hc)
  | succ k =>
   rw [List.filter_cons, if_neg (by simp)]
   exact zma k xs (i + 1) hs
def uniF (s : List (BitVec 64)) (h : BitVec 64) (c : List Int) : BitVec 64 := c.foldl (fun a i => a ||| s.getD i.toNat 0) h
theorem zw0 (s : List (BitVec 64)) : ∀ (c : List Int) (h : BitVec 64), szB (uniF s h c) ≤ szB h + szs s c
 | [], h => by
  have h3 : uniF s h [] = h := rfl
  rw [h3, szs]
  exact Nat.le_add_right ..
 | k :: c, h => by
  have h1 := zw0 s c (h ||| s.getD k.toNat 0)
  have h2 := sz_le h (s.getD k.toNat 0)
  have h3 : uniF s h (k :: c) = uniF s (h ||| s.getD k.toNat 0) c := rfl
  rw [h3, szs]
  generalize uniF s _ c = u at *
  omega
theorem zto (A : BitVec 64) (s : List (BitVec 64)) : ∀ (c : List Int) (h : BitVec 64), exq A s 0 h c = (nonz s c && (szB h + szs s c == szB A) && uniF s h c == A)
 | [], h => by
  have h3 : uniF s h [] = h := rfl
  rw [exq, h3, szs, show nonz s [] = true from rfl, Nat.add_zero]
  by_cases e : h = A
  ·subst e; simp
  ·simp [e]
 | k :: c, h => by
  have h1 := zw0 s c (h ||| s.getD k.toNat 0)
  have h2 := sz_or h (s.getD k.toNat 0)
  have h3 := @sz_disj h (s.getD k.toNat 0)
  rw [exq, zto A s c, BitVec.and_comm]
  show _ = (((s.getD k.toNat 0 != 0#64) && nonz s c) && (szB h + (szB (s.getD k.toNat 0) + szs s c) == szB A) && uniF s (h ||| s.getD k.toNat 0) c == A)
  generalize s.getD k.toNat 0 = x at *
  rw [Bool.eq_iff_iff]
  simp only [Bool.and_eq_true, beq_iff_eq, bne_iff_ne]
  constructor
  ·rintro ⟨⟨a, b⟩, ⟨c1, d⟩, e⟩
   rw [← h3] at b
   exact ⟨⟨⟨a, c1⟩, by omega⟩, e⟩
  ·rintro ⟨⟨⟨a, c1⟩, d⟩, e⟩
   rw [e] at h1
   have : szB (h ||| x) = szB h + szB x := by omega
   exact ⟨⟨a, h3.1 this⟩, ⟨c1, by omega⟩, e⟩
def Asc (E : List (List Int)) : Prop := E.Pairwise fun a b => a.length = b.length → ¬ zmh b a < 0
theorem asc_map (i : Int) {E : List (List Int)} (h : Asc E) : Asc (E.map fun c => i :: c) := by
 unfold Asc
 rw [List.pairwise_map]
 refine h.imp fun {a b} hab hl => ?_
 rw [zmh, if_neg (Int.lt_irrefl _), if_neg (Int.lt_irrefl _)]
 exact hab (by simpa using hl)
theorem zqw : ∀ (t : List (BitVec 64)) (i : Nat) (c : List Int), c ∈ zs1 t i → ∃ (j : Nat) (d : List Int), c = (j : Int) :: d ∧ i ≤ j
 | [], _, _, h => by cases h
 | y :: ys, i, c, h => by
  rw [zs1, List.mem_append] at h
  rcases h with h | h
  ·obtain ⟨d, _, rfl⟩ := List.mem_map.1 h
   exact ⟨i, d, rfl, Nat.le_refl _⟩
  ·obtain ⟨j, d, e, hj⟩ := zqw ys (i + 1) c h
   exact ⟨j, d, e, by omega⟩
theorem zm9 : ∀ (t : List (BitVec 64)) (i : Nat), Asc (zs1 t i)
 | [], _ => List.Pairwise.nil
 | y :: ys, i => by
  unfold Asc
  rw [zs1, List.pairwise_append]
  refine ⟨asc_map _ ?_, zm9 ys (i + 1), ?_⟩
  ·unfold Asc
   rw [List.pairwise_cons]
   refine ⟨fun c hc hl => ?_, zm9 ys (i + 1)⟩
   exact absurd (List.length_eq_zero_iff.1 hl.symm) fun e => zjm ys (i + 1) (e ▸ hc)
  ·intro a ha b hb _
   obtain ⟨c, _, rfl⟩ := List.mem_map.1 ha
   obtain ⟨j, d, rfl, hj⟩ := zqw ys (i + 1) b hb
   rw [zmh, if_neg (by omega), if_pos (by omega)]
   decide
theorem zk5 : ∀ (E F : List (List Int)) (b : List Int × Nat), Asc (F ++ E) → F ≠ [] → b.2 ≠ 0 → (∀ l ∈ F, b.1.length ≤ l.length) → (F.filter fun l => l.length == b.1.length).head? = some b.1 →
  (∀ l ∈ F ++ E, (E.foldl zbu b).1.length ≤ l.length) ∧ ((F ++ E).filter fun l => l.length == (E.foldl zbu b).1.length).head? = some (E.foldl zbu b).1
 | [], F, b, _, _, _, h1, h2 => by rw [List.append_nil]; exact ⟨h1, h2⟩
 | l :: E, F, b, ha, hF, hb, h1, h2 => by
  have e : F ++ l :: E = (F ++ [l]) ++ E := by simp
  rw [e] at ha ⊢
  rw [List.foldl_cons]
  have hm : b.1 ∈ F := (List.mem_filter.1 (List.mem_of_mem_head? h2)).1
  have hc : b.1.length = l.length → ¬ zmh l b.1 < 0 := by
   intro hl
   have := (List.pairwise_append.1 (List.pairwise_append.1 ha).1).2.2 b.1 hm l (List.mem_singleton.2 rfl)
   exact this hl
  refine zk5 E (F ++ [l]) (zbu b l) ha (by simp) (Nat.succ_ne_zero _) ?_ ?_
  ·intro x hx
   rw [List.mem_append, List.mem_singleton] at hx
   unfold zbu
   rw [if_neg hb]
   show (if l.length < b.1.length then l else if l.length = b.1.length then (if zmh l b.1 < 0 then l else b.1) else b.1).length ≤ _
   rcases hx with hx | rfl
   ·have := h1 x hx
    split
    ·omega
    split
    ·split <;> omega
    ·exact this
   ·split
    ·exact Nat.le_refl _
    split
    ·split <;> omega
    ·omega
  ·unfold zbu
   rw [if_neg hb]
   show ((F ++ [l]).filter fun x => x.length == (if l.length < b.1.length then l else if l.length = b.1.length then (if zmh l b.1 < 0 then l else b.1) else b.1).length).head? = some (if l.length < b.1.length then l else if l.length = b.1.length then (if zmh l b.1 < 0 then l else b.1) else b.1)
   rw [List.filter_append]
   by_cases hl : l.length < b.1.length
   ·rw [if_pos hl, show (F.filter fun x => x.length == l.length) = [] from List.filter_eq_nil_iff.2 (fun x hx e => by have := h1 x hx; have : x.length = l.length := (by simpa using e); omega)]
    simp
   ·rw [if_neg hl]
    have : (if l.length = b.1.length then (if zmh l b.1 < 0 then l else b.1) else b.1) = b.1 := by
     split
     ·rename_i hl2
      rw [if_neg (hc hl2.symm)]
     ·rfl
    rw [this, List.head?_append, h2]
    rfl
theorem best_all {E : List (List Int)} (ha : Asc E) (hE : E ≠ []) :
  (∀ l ∈ E, (E.foldl zbu ([], 0)).1.length ≤ l.length) ∧ (E.filter fun l => l.length == (E.foldl zbu ([], 0)).1.length).head? = some (E.foldl zbu ([], 0)).1 := by
 cases E with
 | nil => exact absurd rfl hE
 | cons l E =>
  rw [List.foldl_cons]
  have e : zbu ([], 0) l = (l, 1) := rfl
  rw [e]
  exact zk5 E [l] (l, 1) ha (by simp) (by simp) (by simp) (by simp)
end Go.Proofs.Ytknomkcdpcnmaaa
