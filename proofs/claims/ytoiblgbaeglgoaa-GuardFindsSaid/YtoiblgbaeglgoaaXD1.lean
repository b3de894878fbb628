/-
  SEQUENCES IN PLAIN LEAN: the checks agree, the choices of a step are its stations.
-/
import Derived.Test.YtoiblgbaeglgoaaXS8
namespace Go.Proofs.Ytoiblgbaeglgoaa
open Go Go.Am
theorem zqe : ∀ (l : List Sk) (z : Int), zh0 z l = 0 → ∀ s ∈ l, z < s.a
 | [], _, _, s, hs => by cases hs
 | t :: r, z, h, s, hs => by
  rw [zh0] at h
  split at h
  ·exact absurd h (by decide)
  split at h
  ·exact absurd h (by decide)
  rename_i h1
  split at h
  ·exact absurd h (by decide)
  rename_i h2
  have h1 : ¬ t.a = z := by simpa using h1
  have h2 : ¬ t.a < z := by simpa using h2
  rcases List.mem_cons.1 hs with rfl | hs
  ·omega
  ·have := zqe r _ h s hs
   omega
theorem zks {s : Sk} {r : List Sk} {z : Int} (h : zh0 z (s :: r) = 0) : zh0 s.a r = 0 := by
 rw [zh0] at h
 split at h
 ·exact absurd h (by decide)
 split at h
 ·exact absurd h (by decide)
 split at h
 ·exact absurd h (by decide)
 exact h
def zgm (b : Bool) : Int := if b = true then 2 else 0
def enE (E : List Bool) : List Int := E.map zgm
def chA (E : List Bool) : List (List Int) := E.map fun b => [zgm b]
def zhd (o : Bool) : List Int := if o = true then [1, 2] else [3, 0]
def chS : List (List Int) → List Sk → List (List Int)
 | C, [] => C
 | C, s :: r => chS (C.set s.a.toNat (C.getD s.a.toNat [] ++ zhd s.o)) r
theorem ze2 : ∀ (l : List Sk) (C : List (List Int)), (chS C l).length = C.length
 | [], _ => rfl
 | s :: r, C => by rw [chS, ze2 r, List.length_set]
theorem zp2 {i : Int} : ∀ {l : List Sk}, (∀ s ∈ l, s.a ≠ i) → zg4 i l = 0
 | [], _ => rfl
 | s :: r, h => by
  rw [zg4, if_neg (by have := h s (List.mem_cons_self ..); simpa using this)]
  exact zp2 fun t ht => h t (List.mem_cons_of_mem _ ht)
def wayP (w : Int) : List Int := if w = 1 then [1, 2] else if w = -1 then [3, 0] else []
theorem zu9 : ∀ (l : List Sk) (z : Int) (C : List (List Int)) (i : Nat), zh0 z l = 0 → (∀ s ∈ l, 0 ≤ s.a ∧ s.a < C.length) → (chS C l).getD i [] = C.getD i [] ++ wayP (zg4 i l)
 | [], _, C, i, _, _ => (List.append_nil _).symm
 | s :: r, z, C, i, h, ha => by
  have ht := zks h
  have hr := zqe r _ ht
  obtain ⟨a0, a1⟩ := ha s (List.mem_cons_self ..)
  rw [chS, zu9 r s.a _ i ht fun t ht => by rw [List.length_set]; exact ha t (List.mem_cons_of_mem _ ht)]
  by_cases e : s.a = (i : Int)
  ·have e2 : s.a.toNat = i := by omega
   rw [zp2 (l := r) fun t ht => by have := hr t ht; omega, zg4, if_pos (by simpa using e), e2, show wayP 0 = [] from rfl, List.append_nil]
   rw [List.getD_eq_getElem?_getD, List.getElem?_set_self (by omega), Option.getD_some]
   cases s.o <;> rfl
  ·have e2 : s.a.toNat ≠ i := by omega
   rw [zg4, if_neg (by simpa using e)]
   rw [List.getD_eq_getElem?_getD, List.getElem?_set_ne e2, ← List.getD_eq_getElem?_getD]
theorem zjk {E : List Bool} {i : Nat} : ∀ {l : List Sk}, (∀ s ∈ l, 0 ≤ s.a) → zd2 E l = true → (zg4 i l = 1 ∧ E.getD i false = false) ∨ (zg4 i l = -1 ∧ E.getD i false = true) ∨ zg4 i l = 0
 | [], _, _ => .inr (.inr rfl)
 | s :: r, h0, h => by
  have h : (!(E.getD s.a.toNat false == s.o) && zd2 E r) = true := h
  rw [Bool.and_eq_true] at h
  obtain ⟨h1, h2⟩ := h
  have a0 := h0 s (List.mem_cons_self ..)
  by_cases e : s.a = (i : Int)
  ·have e2 : s.a.toNat = i := by omega
   rw [zg4, if_pos (by simpa using e)]
   rw [e2] at h1
   generalize E.getD i false = b at h1 ⊢
   cases ho : s.o
   ·rw [ho] at h1; cases b
    ·exact absurd h1 (by decide)
    ·exact .inr (.inl ⟨rfl, rfl⟩)
   ·rw [ho] at h1; cases b
    ·exact .inl ⟨rfl, rfl⟩
    ·exact absurd h1 (by decide)
  ·rw [zg4, if_neg (by simpa using e)]
   exact zjk (fun t ht => h0 t (List.mem_cons_of_mem _ ht)) h2
theorem zhf {i : Nat} : ∀ (l : List Sk) (E : List Bool), (∀ s ∈ l, 0 ≤ s.a) → zg4 i l = 0 → (aft E l).getD i false = E.getD i false
 | [], _, _, _ => rfl
 | s :: r, E, h0, h => by
  have a0 := h0 s (List.mem_cons_self ..)
  rw [zg4] at h
  by_cases e : s.a = (i : Int)
  ·rw [if_pos (by simpa using e)] at h
   split at h <;> exact absurd h (by decide)
  ·rw [if_neg (by simpa using e)] at h
   have e2 : s.a.toNat ≠ i := by omega
   show (aft (E.set s.a.toNat s.o) r).getD i false = _
   rw [zhf r _ (fun t ht => h0 t (List.mem_cons_of_mem _ ht)) h, List.getD_eq_getElem?_getD, List.getElem?_set_ne e2, ← List.getD_eq_getElem?_getD]
def zj3 (E F : List Bool) (l : List Sk) (i : Nat) : List Int := if zg4 i l = 1 then [0, 1, 2] else if zg4 i l = -1 then [2, 3, 0] else [zgm (E.getD i false && F.getD i false)]
def zey (E F : List Bool) (l : List Sk) (n : Nat) : List (List Int) := (List.range n).map (zj3 E F l)
theorem zoy {E F : List Bool} {l : List Sk} {n i : Nat} (h : i < (zey E F l n).length) : (zey E F l n)[i] = zj3 E F l i := by
 simp [zey]
theorem chS_stat {E : List Bool} {l : List Sk} {z : Int} (h : zh0 z l = 0) (h0 : ∀ s ∈ l, 0 ≤ s.a ∧ s.a < E.length) (hs : zd2 E l = true) : chS (chA E) l = zey E (aft E l) l E.length := by
 have hl : (chA E).length = E.length := List.length_map ..
 refine List.ext_getElem (by rw [ze2, hl]; unfold zey; rw [List.length_map, List.length_range]) fun i h1 h2 => ?_
 have hi : i < E.length := by rw [ze2, hl] at h1; exact h1
 have hg := zu9 l z (chA E) i h fun s hs => by rw [hl]; exact h0 s hs
 rw [List.getD_eq_getElem?_getD, List.getElem?_eq_getElem h1, Option.getD_some] at hg
 rw [hg]
 have hc : (chA E).getD i [] = [zgm (E.getD i false)] := by
  unfold chA
  rw [List.getD_eq_getElem?_getD, List.getElem?_map, List.getElem?_eq_getElem hi, List.getD_eq_getElem?_getD, List.getElem?_eq_getElem hi]
  rfl
 rw [hc, zoy h2]
 unfold zj3
 rcases zjk (i := i) (fun s hs => (h0 s hs).1) hs with ⟨e, e2⟩ | ⟨e, e2⟩ | e
 ·rw [e, e2]; rfl
 ·rw [e, e2]; rfl
 ·rw [zhf l E (fun s hs => (h0 s hs).1) e, e]
  cases E.getD i false <;> rfl
def zg7 (E : List Bool) (l : List Sp) : List Bool := l.foldl (fun E p => aft E p.l) E
theorem zh2 (l : List Sp) : ∀ E : List Bool, (zg7 E l).length = E.length := by
 induction l with
 | nil => exact fun _ => rfl
 | cons p l ih =>
  intro E
  show (zg7 (aft E p.l) l).length = _
  rw [ih, zc6]
theorem zjs {E : List Bool} {l : List Sp} {i : Nat} (h : i < l.length) : zg7 E (l.take (i + 1)) = aft (zg7 E (l.take i)) l[i].l := by
 unfold zg7
 rw [List.take_add_one, List.getElem?_eq_getElem h, List.foldl_append]
 rfl
def zno (n : Int) : List Sp → List Bool → Int
 | [], E => if E.any id = true then 9 else 0
 | p :: r, E => if spC p ≠ 0 then spC p else if zg1 n p.l = true then 6 else if zd2 E p.l = true then zno n r (aft E p.l) else 14
def zp4 (n : Int) (l : List Sp) : Int :=
 if n < 1 ∨ n > 6 then 2 else if l.length = 0 then 13 else if l.length > 64 then 5 else if zno n l (List.replicate n.toNat false) ≠ 0 then zno n l (List.replicate n.toNat false) else if (List.range n.toNat).all (fun i => zna (i : Nat) l) = true then 0 else 13
def mvd (m : List Bool) (l : List Sk) : List Bool := l.foldl (fun m s => m.set s.a.toNat true) m
theorem zim (l : List Sk) : ∀ x : List Bool, (mvd x l).length = x.length := by
 induction l with
 | nil => exact fun _ => rfl
 | cons s l ih =>
  intro x
  show (mvd (x.set s.a.toNat true) l).length = _
  rw [ih, List.length_set]
theorem mvd_take {x : List Bool} {l : List Sk} {i : Nat} (h : i < l.length) : mvd x (l.take (i + 1)) = (mvd x (l.take i)).set l[i].a.toNat true := by
 unfold mvd
 rw [List.take_add_one, List.getElem?_eq_getElem h, List.foldl_append]
 rfl
theorem zvr {i : Nat} : ∀ (l : List Sk) (m : List Bool), i < m.length → (∀ s ∈ l, 0 ≤ s.a) → (mvd m l).getD i false = (m.getD i false || zg4 i l != 0)
 | [], m, _, _ => (Bool.or_false _).symm
 | s :: r, m, hi, h0 => by
  have a0 := h0 s (List.mem_cons_self ..)
  show (mvd (m.set s.a.toNat true) r).getD i false = _
  rw [zvr r _ (by rw [List.length_set]; exact hi) fun t ht => h0 t (List.mem_cons_of_mem _ ht), zg4]
  by_cases e : s.a = (i : Int)
  ·have e2 : s.a.toNat = i := by omega
   rw [if_pos (by simpa using e), e2, List.getD_eq_getElem?_getD, List.getElem?_set_self hi, Option.getD_some, Bool.true_or]
   cases s.o
   ·exact (Bool.or_true _).symm
   ·exact (Bool.or_true _).symm
  ·have e2 : s.a.toNat ≠ i := by omega
   rw [if_neg (by simpa using e), List.getD_eq_getElem?_getD, List.getElem?_set_ne e2, ← List.getD_eq_getElem?_getD]
def seqC (n : Int) : List Sp → List Bool → List Bool → Int
 | [], x, m => if x = List.replicate 6 false then (if (m.take n.toNat).any (· == false) = true then 13 else 0) else 9
 | p :: r, x, m => if fitC n p x ≠ 0 then fitC n p x else seqC n r (aft x p.l) (mvd m p.l)
def chkP (n : Int) (l : List Sp) : Int :=
 if n < 1 ∨ n > 6 then 2 else if l.length = 0 then 13 else if l.length > 64 then 5 else seqC n l (List.replicate 6 false) (List.replicate 6 false)
theorem zmt {n : Int} : ∀ {l : List Sk}, zg1 n l = false → ∀ s ∈ l, s.a < n
 | [], _, s, hs => by cases hs
 | t :: r, h, s, hs => by
  have h : (decide (t.a ≥ n) || zg1 n r) = false := h
  rw [Bool.or_eq_false_iff, decide_eq_false_iff_not] at h
  rcases List.mem_cons.1 hs with rfl | hs
  ·omega
  ·exact zmt h.2 s hs
theorem ztk {T : List Bool} : ∀ (l : List Sk) (E : List Bool), (∀ s ∈ l, 0 ≤ s.a ∧ s.a < E.length) → aft (E ++ T) l = aft E l ++ T
 | [], _, _ => rfl
 | s :: r, E, h => by
  obtain ⟨a0, a1⟩ := h s (List.mem_cons_self ..)
  show aft ((E ++ T).set s.a.toNat s.o) r = _
  rw [List.set_append_left _ _ (by omega)]
  exact ztk r _ fun t ht => by rw [List.length_set]; exact h t (List.mem_cons_of_mem _ ht)
theorem zrz {E T : List Bool} : ∀ (l : List Sk), (∀ s ∈ l, 0 ≤ s.a ∧ s.a < E.length) → zd2 (E ++ T) l = zd2 E l
 | [], _ => rfl
 | s :: r, h => by
  obtain ⟨a0, a1⟩ := h s (List.mem_cons_self ..)
  show (!((E ++ T).getD s.a.toNat false == s.o) && zd2 (E ++ T) r) = (!(E.getD s.a.toNat false == s.o) && zd2 E r)
  rw [zrz r fun t ht => h t (List.mem_cons_of_mem _ ht), List.getD_eq_getElem?_getD, List.getElem?_append_left (by omega), ← List.getD_eq_getElem?_getD]
theorem zic : ∀ (E : List Bool), E.any id = false ↔ E = List.replicate E.length false
 | [] => ⟨fun _ => rfl, fun _ => rfl⟩
 | b :: E => by
  rw [List.any_cons, List.length_cons, List.replicate_succ, Bool.or_eq_false_iff, zic E]
  constructor
  ·rintro ⟨h1, h2⟩
   have h1 : b = false := h1
   rw [h1, ← h2]
  ·intro h
   injection h with h1 h2
   exact ⟨h1, h2⟩
theorem take_any {n : Nat} : ∀ {m : List Bool}, n ≤ m.length → ((m.take n).any (· == false) = true ↔ ¬ (List.range n).all (fun i => m.getD i false) = true) := by
 intro m hn
 rw [List.any_eq_true, List.all_eq_true]
 constructor
 ·rintro ⟨x, hx, hf⟩ h
  obtain ⟨i, hi, rfl⟩ := List.mem_iff_getElem.1 hx
  rw [List.length_take] at hi
  have := h i (List.mem_range.2 (by omega))
  rw [List.getD_eq_getElem?_getD, List.getElem?_eq_getElem (by omega), Option.getD_some] at this
  rw [List.getElem_take, this] at hf
  exact absurd hf (by decide)
 ·intro h
  refine Classical.byContradiction fun hc => h fun i hi => ?_
  have hi := List.mem_range.1 hi
  rw [List.getD_eq_getElem?_getD, List.getElem?_eq_getElem (by omega), Option.getD_some]
  cases e : m[i]'(by omega) with
  | true => rfl
  | false => exact absurd ⟨m[i]'(by omega), List.mem_iff_getElem.2 ⟨i, by rw [List.length_take]; omega, List.getElem_take⟩, by rw [e]; rfl⟩ hc
theorem zwf {n : Nat} (h6 : n ≤ 6) : ∀ (l : List Sp) (E m : List Bool), E.length = n → m.length = 6 → seqC n l (E ++ List.replicate (6 - n) false) m = if zno n l E ≠ 0 then zno n l E else if (List.range n).all (fun i => m.getD i false || zna (i : Nat) l) = true then 0 else 13
 | [], E, m, hE, hm => by
  rw [seqC, zno, Int.toNat_natCast]
  have e6 : E ++ List.replicate (6 - n) false = List.replicate 6 false ↔ E.any id = false := by
   rw [zic, hE, show 6 = n + (6 - n) from by omega, ← List.replicate_append_replicate, show n + (6 - n) - n = 6 - n from by omega]
   exact ⟨fun h => (List.append_inj h (by rw [hE, List.length_replicate])).1, fun h => by rw [h]⟩
  have hmv : ((List.range n).all fun i => m.getD i false || zna (i : Nat) []) = (List.range n).all fun i => m.getD i false := by
   congr 1
   funext i
   exact Bool.or_false _
  rw [hmv]
  have ht := take_any (m := m) (n := n) (by omega)
  cases ha : E.any id with
  | true =>
   rw [if_neg (fun h => by have := e6.1 h; rw [ha] at this; exact absurd this (by decide)), if_pos rfl, if_pos (by decide)]
  | false =>
   rw [if_pos (e6.2 ha), if_neg (show ¬ ((if false = true then (9 : Int) else 0) ≠ 0) from by decide)]
   by_cases h : (m.take n).any (· == false) = true
   ·rw [if_pos h, if_neg (ht.1 h)]
   ·rw [if_neg h, if_pos (Classical.byContradiction fun hc => h (ht.2 hc))]
 | p :: r, E, m, hE, hm => by
  have hfit : ∀ x, fitC n p x = if spC p ≠ 0 then spC p else if zg1 n p.l = true then 6 else if zd2 x p.l = true then 0 else 14 := fun _ => rfl
  rw [seqC, hfit, zno]
  by_cases h1 : spC p = 0
  ·simp only [h1, ne_eq, not_true_eq_false, ↓reduceIte]
   cases h2 : zg1 n p.l with
   | true => simp
   | false =>
    have hlt := zmt h2
    have ha : ∀ s ∈ p.l, 0 ≤ s.a ∧ s.a < E.length := fun s hs => ⟨((zm2 h1).2 s hs).1, by have := hlt s hs; omega⟩
    rw [zrz p.l ha]
    cases h3 : zd2 E p.l with
    | false => simp
    | true =>
     simp only [Bool.false_eq_true, ↓reduceIte, not_true_eq_false]
     rw [ztk p.l E ha, zwf h6 r (aft E p.l) (mvd m p.l) (by rw [zc6]; exact hE) (by rw [zim]; exact hm)]
     have e : ((List.range n).all fun i => (mvd m p.l).getD i false || zna (i : Nat) r) = (List.range n).all fun i => m.getD i false || zna (i : Nat) (p :: r) := by
      rw [Bool.eq_iff_iff, List.all_eq_true, List.all_eq_true]
      refine forall_congr' fun i => imp_congr_right fun hi => ?_
      have hi := List.mem_range.1 hi
      rw [zvr p.l m (by omega) fun s hs => (ha s hs).1, zna]
      cases (zg4 (i : Nat) p.l != 0) <;> cases m.getD i false <;> simp
     rw [e]
  ·simp [h1]
theorem chk_eq (n : Int) (l : List Sp) : chkP n l = zp4 n l := by
 unfold chkP zp4
 by_cases h : n < 1 ∨ n > 6
 ·rw [if_pos h, if_pos h]
 rw [if_neg h, if_neg h]
 by_cases h2 : l.length = 0
 ·rw [if_pos h2, if_pos h2]
 rw [if_neg h2, if_neg h2]
 by_cases h3 : l.length > 64
 ·rw [if_pos h3, if_pos h3]
 rw [if_neg h3, if_neg h3]
 obtain ⟨m, rfl⟩ : ∃ m : Nat, n = (m : Int) := ⟨n.toNat, by omega⟩
 have := zwf (n := m) (by omega) l (List.replicate m false) (List.replicate 6 false) (List.length_replicate ..) rfl
 rw [List.replicate_append_replicate, show m + (6 - m) = 6 from by omega] at this
 rw [this, Int.toNat_natCast]
 have e : ((List.range m).all fun i => (List.replicate 6 false).getD i false || zna (i : Nat) l) = (List.range m).all fun i => zna (i : Nat) l := by
  congr 1
  funext i
  rw [show (List.replicate 6 false).getD i false = false from by
   rw [List.getD_eq_getElem?_getD, List.getElem?_replicate]
   split <;> rfl, Bool.false_or]
 rw [e]
end Go.Proofs.Ytoiblgbaeglgoaa
