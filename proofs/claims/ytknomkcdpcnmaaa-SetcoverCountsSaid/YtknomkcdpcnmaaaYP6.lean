/-
  WHAT COUNTS COMPARES: the plain law.
-/
import Derived.Test.YtknomkcdpcnmaaaYRF
import Derived.Test.YtknomkcdpcnmaaaYVG
import Derived.Test.YtknomkcdpcnmaaaYP4
namespace Go.Proofs.Ytknomkcdpcnmaaa
open Go Go.Am
def zm3 : List (BitVec 64) → Nat → List (List Int)
 | [], _ => []
 | _ :: xs, i => (([] :: zm3 xs (i + 1)).map fun c => ((i : Nat) : Int) :: c) ++ zm3 xs (i + 1)
def exq (A : BitVec 64) : List (BitVec 64) → Nat → BitVec 64 → List Int → Bool
 | _, _, h, [] => h == A
 | s, _, h, k :: c => s.getD k.toNat 0 != 0#64 && s.getD k.toNat 0 &&& h == 0#64 && exq A s 0 (h ||| s.getD k.toNat 0) c
theorem exq_all (A : BitVec 64) (s : List (BitVec 64)) (hs : ∀ x ∈ s, x &&& ~~~ A = 0#64) (c : List Int) (hc : c ≠ []) : exq A s 0 A c = false := by
 obtain ⟨k, c, rfl⟩ : ∃ k d, c = k :: d := by cases c with | nil => exact absurd rfl hc | cons k d => exact ⟨k, d, rfl⟩
 rw [exq]
 by_cases h : s.getD k.toNat 0 = 0#64
 ·rw [h]; rfl
 ·have hx : s.getD k.toNat 0 &&& ~~~ A = 0#64 := by
   rw [List.getD_eq_getElem?_getD] at h ⊢
   cases e : s[k.toNat]? with
   | none => simp
   | some x => exact hs x (List.mem_of_getElem? e)
  have h2 : s.getD k.toNat 0 &&& A ≠ 0#64 := fun h3 => h <| by
   apply BitVec.eq_of_getLsbD_eq
   intro i hi
   have a := congrArg (fun z => z.getLsbD i) hx
   have b := congrArg (fun z => z.getLsbD i) h3
   simp only [BitVec.getLsbD_and, BitVec.getLsbD_not, BitVec.getLsbD_zero, hi, decide_true, Bool.true_and] at a b
   rw [BitVec.getLsbD_zero]
   revert a b
   cases (s.getD k.toNat 0).getLsbD i <;> cases A.getLsbD i <;> simp
  have : (s.getD k.toNat 0 &&& A == 0#64) = false := by simpa using h2
  rw [this, Bool.and_false, Bool.false_and]
theorem zjf : ∀ (t : List (BitVec 64)) (i : Nat), [] ∉ zm3 t i
 | [], _, h => by cases h
 | y :: ys, i, h => by
  rw [zm3, List.mem_append] at h
  rcases h with h | h
  ·obtain ⟨c, _, e⟩ := List.mem_map.1 h
   exact List.cons_ne_nil _ _ e
  ·exact zjf ys (i + 1) h
theorem zpw (A : BitVec 64) (s : List (BitVec 64)) (hs : ∀ x ∈ s, x &&& ~~~ A = 0#64) : ∀ (t : List (BitVec 64)) (i : Nat) (h : BitVec 64), s.drop i = t → h ≠ A → lvs A t i h = (zm3 t i).filter (exq A s 0 h)
 | [], _, _, _, _ => rfl
 | x :: xs, i, h, ht, hn => by
  have hg : s.getD i 0 = x := by
   have : s[i]? = some x := by
    have := congrArg (fun l => l[0]?) ht
    simpa using this
   rw [List.getD_eq_getElem?_getD, this]
   rfl
  have hd : s.drop (i + 1) = xs := by
   have := congrArg (List.drop 1) ht
   rw [List.drop_drop] at this
   simpa [Nat.add_comm] using this
  rw [lvs, zm3, List.filter_append, zpw A s hs xs (i + 1) h hd hn, List.filter_map]
  congr 1
  have he : (exq A s 0 h ∘ fun c => ((i : Nat) : Int) :: c) = fun c => (x != 0#64 && x &&& h == 0#64) && exq A s 0 (h ||| x) c := by
   funext c
   show exq A s 0 h (((i : Nat) : Int) :: c) = _
   rw [exq, Int.toNat_natCast, hg]
  rw [he]
  cases hb : (x != 0#64 && x &&& h == 0#64) with
  | false =>
   simp only [Bool.false_and, Bool.false_eq_true, if_false]
   rw [List.filter_eq_nil_iff.2 (by simp)]
   rfl
  | true =>
   simp only [Bool.true_and, if_true]
   congr 1
   rw [List.filter_cons]
   by_cases hA : h ||| x = A
   ·have e1 : (h ||| x == A) = true := by simpa using hA
    have e2 : exq A s 0 (h ||| x) [] = true := e1
    rw [e1, e2, if_pos rfl, if_pos rfl, hA]
    rw [List.filter_eq_nil_iff.2]
    intro c hc
    have : c ≠ [] := fun e => zjf xs (i + 1) (e ▸ hc)
    rw [exq_all A s hs c this]
    exact Bool.false_ne_true
   ·have e1 : (h ||| x == A) = false := by simpa using hA
    have e2 : exq A s 0 (h ||| x) [] = false := e1
    rw [e1, e2, if_neg Bool.false_ne_true, if_neg Bool.false_ne_true]
    exact zpw A s hs xs (i + 1) (h ||| x) hd hA
theorem zi2 {n : Nat} : ∀ (k : Nat) (t : List (BitVec 64)) (i : Nat), i + t.length = n → (zm3 t i).filter (fun c => c.length == k + 1) = asc n (k + 1) i
 | k, [], i, h => by
  rw [zkp (by simp at h; omega) (by simp at h; omega)]
  rfl
 | k, x :: xs, i, h => by
  have hn : i < n := by simp at h; omega
  have hs : i + 1 + xs.length = n := by simp at h; omega
  rw [zm3, List.filter_append, zi2 k xs (i + 1) hs, zhp, zhp, zi7 hn, List.filter_map]
  congr 2
  have he : ((fun c : List Int => c.length == k + 1) ∘ fun c => ((i : Nat) : Int) :: c) = fun c => c.length == k := by
   funext c
   show ((c.length + 1 == k + 1) : Bool) = _
   by_cases hc : c.length = k <;> simp [hc]
  rw [he]
  cases k with
  | zero =>
   rw [List.filter_cons, if_pos (by rfl), asc, List.filter_eq_nil_iff.2]
   intro c hc e
   have : c = [] := List.length_eq_zero_iff.1 (by simpa using e)
   exact zjf xs (i + 1) (this ▸ hc)
  | succ k =>
   rw [List.filter_cons, if_neg (by simp)]
   exact zi2 k xs (i + 1) hs
def uniF (s : List (BitVec 64)) (h : BitVec 64) (c : List Int) : BitVec 64 := c.foldl (fun a i => a ||| s.getD i.toNat 0) h
theorem zvg (s : List (BitVec 64)) : ∀ (c : List Int) (h : BitVec 64), szB (uniF s h c) ≤ szB h + szs s c
 | [], h => by
  have h3 : uniF s h [] = h := rfl
  rw [h3, szs]
  exact Nat.le_add_right ..
 | k :: c, h => by
  have h1 := zvg s c (h ||| s.getD k.toNat 0)
  have h2 := sz_le h (s.getD k.toNat 0)
  have h3 : uniF s h (k :: c) = uniF s (h ||| s.getD k.toNat 0) c := rfl
  rw [h3, szs]
  generalize uniF s _ c = u at *
  omega
theorem zt9 (A : BitVec 64) (s : List (BitVec 64)) : ∀ (c : List Int) (h : BitVec 64), exq A s 0 h c = (zr8 s c && (szB h + szs s c == szB A) && uniF s h c == A)
 | [], h => by
  have h3 : uniF s h [] = h := rfl
  rw [exq, h3, szs, show zr8 s [] = true from rfl, Nat.add_zero]
  by_cases e : h = A
  ·subst e; simp
  ·simp [e]
 | k :: c, h => by
  have h1 := zvg s c (h ||| s.getD k.toNat 0)
  have h2 := sz_or h (s.getD k.toNat 0)
  have h3 := @sz_disj h (s.getD k.toNat 0)
  rw [exq, zt9 A s c, BitVec.and_comm]
  show _ = (((s.getD k.toNat 0 != 0#64) && zr8 s c) && (szB h + (szB (s.getD k.toNat 0) + szs s c) == szB A) && uniF s (h ||| s.getD k.toNat 0) c == A)
  generalize s.getD k.toNat 0 = x at *
  rw [Bool.eq_iff_iff]
  simp only [Bool.and_eq_true, beq_iff_eq, bne_iff_ne]
  constructor
  ·rintro ⟨⟨a, b⟩, ⟨c1, d⟩, e⟩
   rw [← h3] at b
   exact ⟨⟨⟨a, c1⟩, by omega⟩, e⟩
  ·rintro ⟨⟨⟨a, c1⟩, d⟩, e⟩
   rw [e] at h1
   have : szB (h ||| x) = szB h + szB x := by omega
   exact ⟨⟨a, h3.1 this⟩, ⟨c1, by omega⟩, e⟩
def Asc (E : List (List Int)) : Prop := E.Pairwise fun a b => a.length = b.length → ¬ zm2 b a < 0
theorem asc_map (i : Int) {E : List (List Int)} (h : Asc E) : Asc (E.map fun c => i :: c) := by
 unfold Asc
 rw [List.pairwise_map]
 refine h.imp fun {a b} hab hl => ?_
 rw [zm2, if_neg (Int.lt_irrefl _), if_neg (Int.lt_irrefl _)]
 exact hab (by simpa using hl)
theorem zqh : ∀ (t : List (BitVec 64)) (i : Nat) (c : List Int), c ∈ zm3 t i → ∃ (j : Nat) (d : List Int), c = (j : Int) :: d ∧ i ≤ j
 | [], _, _, h => by cases h
 | y :: ys, i, c, h => by
  rw [zm3, List.mem_append] at h
  rcases h with h | h
  ·obtain ⟨d, _, rfl⟩ := List.mem_map.1 h
   exact ⟨i, d, rfl, Nat.le_refl _⟩
  ·obtain ⟨j, d, e, hj⟩ := zqh ys (i + 1) c h
   exact ⟨j, d, e, by omega⟩
theorem zlu : ∀ (t : List (BitVec 64)) (i : Nat), Asc (zm3 t i)
 | [], _ => List.Pairwise.nil
 | y :: ys, i => by
  unfold Asc
  rw [zm3, List.pairwise_append]
  refine ⟨asc_map _ ?_, zlu ys (i + 1), ?_⟩
  ·unfold Asc
   rw [List.pairwise_cons]
   refine ⟨fun c hc hl => ?_, zlu ys (i + 1)⟩
   exact absurd (List.length_eq_zero_iff.1 hl.symm) fun e => zjf ys (i + 1) (e ▸ hc)
  ·intro a ha b hb _
   obtain ⟨c, _, rfl⟩ := List.mem_map.1 ha
   obtain ⟨j, d, rfl, hj⟩ := zqh ys (i + 1) b hb
   rw [zm2, if_neg (by omega), if_pos (by omega)]
   decide
theorem zjy : ∀ (E F : List (List Int)) (b : List Int × Nat), Asc (F ++ E) → F ≠ [] → b.2 ≠ 0 → (∀ l ∈ F, b.1.length ≤ l.length) → (F.filter fun l => l.length == b.1.length).head? = some b.1 →
  (∀ l ∈ F ++ E, (E.foldl zcn b).1.length ≤ l.length) ∧ ((F ++ E).filter fun l => l.length == (E.foldl zcn b).1.length).head? = some (E.foldl zcn b).1
 | [], F, b, _, _, _, h1, h2 => by rw [List.append_nil]; exact ⟨h1, h2⟩
 | l :: E, F, b, ha, hF, hb, h1, h2 => by
  have e : F ++ l :: E = (F ++ [l]) ++ E := by simp
  rw [e] at ha ⊢
  rw [List.foldl_cons]
  have hm : b.1 ∈ F := (List.mem_filter.1 (List.mem_of_mem_head? h2)).1
  have hc : b.1.length = l.length → ¬ zm2 l b.1 < 0 := by
   intro hl
   have := (List.pairwise_append.1 (List.pairwise_append.1 ha).1).2.2 b.1 hm l (List.mem_singleton.2 rfl)
   exact this hl
  refine zjy E (F ++ [l]) (zcn b l) ha (by simp) (Nat.succ_ne_zero _) ?_ ?_
  ·intro x hx
   rw [List.mem_append, List.mem_singleton] at hx
   unfold zcn
   rw [if_neg hb]
   show (if l.length < b.1.length then l else if l.length = b.1.length then (if zm2 l b.1 < 0 then l else b.1) else b.1).length ≤ _
   rcases hx with hx | rfl
   ·have := h1 x hx
    split
    ·omega
    split
    ·split <;> omega
    ·exact this
   ·split
    ·exact Nat.le_refl _
    split
    ·split <;> omega
    ·omega
  ·unfold zcn
   rw [if_neg hb]
   show ((F ++ [l]).filter fun x => x.length == (if l.length < b.1.length then l else if l.length = b.1.length then (if zm2 l b.1 < 0 then l else b.1) else b.1).length).head? = some (if l.length < b.1.length then l else if l.length = b.1.length then (if zm2 l b.1 < 0 then l else b.1) else b.1)
   rw [List.filter_append]
   by_cases hl : l.length < b.1.length
   ·rw [if_pos hl, show (F.filter fun x => x.length == l.length) = [] from List.filter_eq_nil_iff.2 (fun x hx e => by have := h1 x hx; have : x.length = l.length := (by simpa using e); omega)]
    simp
   ·rw [if_neg hl]
    have : (if l.length = b.1.length then (if zm2 l b.1 < 0 then l else b.1) else b.1) = b.1 := by
     split
     ·rename_i hl2
      rw [if_neg (hc hl2.symm)]
     ·rfl
    rw [this, List.head?_append, h2]
    rfl
theorem best_all {E : List (List Int)} (ha : Asc E) (hE : E ≠ []) :
  (∀ l ∈ E, (E.foldl zcn ([], 0)).1.length ≤ l.length) ∧ (E.filter fun l => l.length == (E.foldl zcn ([], 0)).1.length).head? = some (E.foldl zcn ([], 0)).1 := by
 cases E with
 | nil => exact absurd rfl hE
 | cons l E =>
  rw [List.foldl_cons]
  have e : zcn ([], 0) l = (l, 1) := rfl
  rw [e]
  exact zjy E [l] (l, 1) ha (by simp) (by simp) (by simp) (by simp)
def zma (E : List (List Int)) (m : Nat) : List (List Int) := (List.range m).flatMap fun k => E.filter fun l => l.length == k
theorem zqu {E : List (List Int)} {b : List Int} {m : Nat} (h1 : ∀ l ∈ E, b.length ≤ l.length) (h2 : (E.filter fun l => l.length == b.length).head? = some b) (hm : b.length < m) : (zma E m).head? = some b := by
 unfold zma
 obtain ⟨d, rfl⟩ : ∃ d, m = b.length + 1 + d := ⟨m - (b.length + 1), by omega⟩
 rw [List.range_add, List.flatMap_append, List.range_succ, List.flatMap_append, List.flatMap_eq_nil_iff.2, List.nil_append, List.head?_append]
 ·rw [List.flatMap_cons, List.flatMap_nil, List.append_nil, h2]
  rfl
 ·intro k hk
  rw [List.mem_range] at hk
  rw [List.filter_eq_nil_iff]
  intro l hl e
  have := h1 l hl
  have : l.length = k := by simpa using e
  omega
theorem zmj (m : Nat) : ∀ E : List (List Int), (E.filter fun l => decide (l.length < m + 1)).length = (E.filter fun l => decide (l.length < m)).length + (E.filter fun l => l.length == m).length
 | [] => rfl
 | l :: E => by
  have ih := zmj m E
  simp only [List.filter_cons]
  by_cases h1 : l.length < m
  ·rw [if_pos (by simp; omega), if_pos (by simp; omega), if_neg (by simp; omega)]
   simp only [List.length_cons]
   omega
  ·by_cases h2 : l.length = m
   ·rw [if_pos (by simp; omega), if_neg (by simp; omega), if_pos (by simp; omega)]
    simp only [List.length_cons]
    omega
   ·rw [if_neg (by simp; omega), if_neg (by simp; omega), if_neg (by simp; omega)]
    exact ih
theorem zib {E : List (List Int)} : ∀ {m : Nat}, (zma E m).length = (E.filter fun l => decide (l.length < m)).length
 | 0 => by rw [List.filter_eq_nil_iff.2 (by simp)]; rfl
 | m + 1 => by
  have ih := zib (E := E) (m := m)
  rw [zmj, ← ih]
  unfold zma
  rw [List.range_succ, List.flatMap_append, List.length_append, List.flatMap_cons, List.flatMap_nil, List.append_nil]
theorem zrj {n : Nat} {t : List (BitVec 64)} {i : Nat} (h : i + t.length = n) {c : List Int} (hc : c ∈ zm3 t i) : c.length < n + 1 := by
 refine Nat.lt_of_not_le fun hx => ?_
 obtain ⟨k, hk⟩ : ∃ k, c.length = k + 1 := ⟨c.length - 1, by omega⟩
 have h2 := zi2 (n := n) k t i h
 rw [zkp (by omega) (by omega), List.filter_eq_nil_iff] at h2
 exact h2 c hc (by rw [hk]; exact beq_self_eq_true _)
theorem zsq {n : Int} {s : List (BitVec 64)} (hc : zep n s = 0) (hn : n ≤ 12) (hA : (0#64 == zcw n) = false) : exL n s = zma (zjw n s) (s.length + 1) := by
 obtain ⟨n0, n1, s1, hb⟩ := zfs hc
 obtain ⟨m, rfl⟩ : ∃ m : Nat, n = (m : Int) := ⟨n.toNat, by omega⟩
 have hsz := (zs3 (n := m) (by omega)).1
 have hbad : ∀ x ∈ s, x &&& ~~~ zcw (m : Int) = 0#64 := fun x hx => by
  have := hb x hx
  unfold zqr at this
  simpa using this
 have hE : zjw (m : Int) s = (zm3 s 0).filter (exq (zcw (m : Int)) s 0 0) := by
  unfold zjw zdk
  rw [show ((0 : BitVec 64) == zcw (m : Int)) = false from hA, if_neg Bool.false_ne_true, List.drop_zero]
  exact zpw _ s hbad s 0 0 rfl (fun e => by rw [show (0#64 == zcw (m : Int)) = true from beq_iff_eq.2 e] at hA; cases hA)
 have hq : ∀ c : List Int, exq (zcw (m : Int)) s 0 0 c = exR (m : Int) s c := fun c => by
  rw [zt9, show szB (0 : BitVec 64) = 0 from zjg.2 rfl, hsz, Nat.zero_add]
  unfold exR zrp
  show _ = (zr8 s c && (decide (((szs s c : Nat) : Int) = (m : Int)) && (uniF s 0 c == zcw (m : Int))))
  rw [Bool.and_assoc]
  congr 2
  rw [Bool.eq_iff_iff, beq_iff_eq, decide_eq_true_eq]
  omega
 rw [hE]
 unfold exL znm zma
 rw [List.filter_flatMap, ← List.range_eq_range']
 refine congrArg List.flatten (List.map_congr_left fun k hk => ?_)
 rw [List.filter_filter]
 have hsw : (zm3 s 0).filter (fun a => (a.length == k) && exq (zcw (m : Int)) s 0 0 a) = ((zm3 s 0).filter fun a => a.length == k).filter (exR (m : Int) s) := by
  rw [List.filter_filter]
  refine List.filter_congr fun c _ => ?_
  rw [hq, Bool.and_comm]
 rw [hsw]
 cases k with
 | succ k => rw [zi2 k s 0 (Nat.zero_add _)]
 | zero =>
  rw [show (zm3 s 0).filter (fun a => a.length == 0) = [] from List.filter_eq_nil_iff.2 fun c hc e => zjf s 0 (by rw [show c = [] from List.length_eq_zero_iff.1 (by simpa using e)] at hc; exact hc)]
  rw [asc, List.filter_cons, List.filter_nil]
  have hz : exR (m : Int) s [] = false := by
   rw [← hq]
   exact hA
  rw [hz]
  rfl
theorem exL_zero {n : Int} {s : List (BitVec 64)} (hc : zep n s = 0) (hn : n ≤ 12) (hA : (0#64 == zcw n) = true) : exL n s = [[]] := by
 obtain ⟨n0, n1, s1, hb⟩ := zfs hc
 obtain ⟨m, rfl⟩ : ∃ m : Nat, n = (m : Int) := ⟨n.toNat, by omega⟩
 have hsz := (zs3 (n := m) (by omega)).1
 have hA : 0#64 = zcw (m : Int) := eq_of_beq hA
 rw [← hA, zjg.2 rfl] at hsz
 subst hsz
 have hs0 : ∀ x ∈ s, x = 0#64 := fun x hx => by
  have := hb x hx
  unfold zqr at this
  rw [← hA, show ~~~ 0#64 = BitVec.allOnes 64 from rfl, BitVec.and_allOnes] at this
  simpa using this
 have hg : ∀ i : Nat, s.getD i 0 = 0#64 := fun i => by
  rw [List.getD_eq_getElem?_getD]
  cases e : s[i]? with
  | none => rfl
  | some x => exact hs0 x (List.mem_of_getElem? e)
 have h0 : exR ((0 : Nat) : Int) s [] = true := by
  unfold exR zrp
  rw [← hA]
  rfl
 have h1 : ∀ c : List Int, c ≠ [] → exR ((0 : Nat) : Int) s c = false := fun c hc => by
  cases c with
  | nil => exact absurd rfl hc
  | cons k c =>
   unfold exR zr8
   rw [List.all_cons, hg]
   rfl
 unfold exL znm
 rw [List.range'_succ, List.flatMap_cons, List.filter_append, asc, List.filter_cons, h0, if_pos rfl, List.filter_nil, List.filter_eq_nil_iff.2]
 ·rfl
 ·intro c hc
  obtain ⟨k, hk, hm⟩ := List.mem_flatMap.1 hc
  rw [List.mem_range'_1] at hk
  have hm : c.length = k ∧ ∀ z ∈ c, ((0 : Nat) : Int) ≤ z ∧ z < s.length := zh1 hm
  rw [h1 c (fun e => by rw [e] at hm; have := hm.1; simp at this; omega)]
  exact Bool.false_ne_true
theorem exa_eq {n : Int} {s : List (BitVec 64)} (hs : zep n s = 0 → n ≤ 8 ∧ s.length ≤ 8) : exaV n s = exaW n s := by
 have hl : zo9 n s = zep n s := by
  unfold zo9
  split
  ·rename_i h
   rw [if_neg (by have := (hs h).2; omega), h]
  ·rfl
 unfold exaV exaW
 rw [hl]
 by_cases hc : zep n s = 0
 ·rw [if_pos hc, if_pos hc]
  have hs := hs hc
  cases hA : (0#64 == zcw n) with
  | true =>
   rw [exL_zero hc (by omega) hA, show zjw n s = [[]] from by
    unfold zjw zdk
    rw [show ((0 : BitVec 64) == zcw n) = true from hA, if_pos rfl]]
   rfl
  | false =>
   have hb := zsq hc (by omega) hA
   obtain ⟨n0, n1, s1, hbad⟩ := zfs hc
   have hbad : ∀ x ∈ s, x &&& ~~~ zcw n = 0#64 := fun x hx => by
    have := hbad x hx
    unfold zqr at this
    simpa using this
   have hE : zjw n s = (zm3 s 0).filter (exq (zcw n) s 0 0) := by
    unfold zjw zdk
    rw [show ((0 : BitVec 64) == zcw n) = false from hA, if_neg Bool.false_ne_true, List.drop_zero]
    exact zpw _ s hbad s 0 0 rfl (fun e => by rw [show (0#64 == zcw n) = true from beq_iff_eq.2 e] at hA; cases hA)
   have hasc : Asc (zjw n s) := by
    rw [hE]
    exact (zlu s 0).filter _
   have hsh : ∀ l ∈ zjw n s, l.length < s.length + 1 := fun l hl => by
    rw [hE] at hl
    exact zrj (Nat.zero_add _) (List.mem_filter.1 hl).1
   rw [hb]
   generalize zjw n s = E at *
   by_cases he : E = []
   ·subst he
    rw [if_pos rfl, show zma [] (s.length + 1) = [] from List.flatMap_eq_nil_iff.2 fun k _ => rfl]
   ·rw [if_neg he]
    obtain ⟨b1, b2⟩ := best_all hasc he
    have hm := (List.mem_filter.1 (List.mem_of_mem_head? b2)).1
    have hh := zqu b1 b2 (hsh _ hm)
    have hcn := zib (E := E) (m := s.length + 1)
    rw [List.filter_eq_self.2 fun l hl => decide_eq_true (hsh l hl)] at hcn
    generalize zma E (s.length + 1) = B at *
    cases B with
    | nil => cases hh
    | cons c B =>
     obtain rfl := Option.some.inj hh
     rw [← hcn]
 ·rw [if_neg hc, if_neg hc]
end Go.Proofs.Ytknomkcdpcnmaaa
