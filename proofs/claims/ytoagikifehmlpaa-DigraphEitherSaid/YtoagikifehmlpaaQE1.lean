/-
  DISTANCES IN A GRAPH: labels that are right are the only ones; the search and the rounds both find them. Neighbours.
-/
import Derived.Test.YtoagikifehmlpaaQU1
namespace Go.Proofs.Ytoagikifehmlpaa
open Go Go.Am
def gI (o : List Int) (v : Nat) : Int := o.getD v (-1)
theorem zek {o : List Int} {v : Nat} {d : Int} (hv : v < o.length) (w : Nat) : gI (o.set v d) w = if v = w then d else gI o w := by
 unfold gI
 rw [List.getD_eq_getElem?_getD, List.getD_eq_getElem?_getD, List.getElem?_set]
 by_cases h : v = w
 ·subst h
  rw [if_pos rfl, if_pos hv, if_pos rfl]
  rfl
 ·rw [if_neg h, if_neg h]
theorem gI_out {o : List Int} {v : Nat} (h : o.length ≤ v) : gI o v = -1 := by
 unfold gI
 rw [List.getD_eq_getElem?_getD, List.getElem?_eq_none h]
 rfl
theorem gI_lt {o : List Int} {v : Nat} (h : 0 ≤ gI o v) : v < o.length := by
 refine Nat.lt_of_not_le fun hv => ?_
 rw [gI_out hv] at h
 omega
theorem gI_ext {o o' : List Int} (hl : o.length = o'.length) (h : ∀ v, gI o v = gI o' v) : o = o' := by
 refine List.ext_getElem hl fun i h1 h2 => ?_
 have := h i
 unfold gI at this
 rw [List.getD_eq_getElem?_getD, List.getD_eq_getElem?_getD, List.getElem?_eq_getElem h1, List.getElem?_eq_getElem h2] at this
 exact this
theorem zfw {α : Type} {P : List α → Prop} (h0 : P []) (h1 : ∀ l a, P l → P (l ++ [a])) (l : List α) : P l := by
 have key : ∀ l : List α, P l.reverse := by
  intro l
  induction l with
  | nil => exact h0
  | cons a l ih => rw [List.reverse_cons]; exact h1 _ a ih
 have := key l.reverse
 rwa [List.reverse_reverse] at this
structure Lab (es : List (Nat × Nat)) (N f : Nat) (o : List Int) : Prop where
 len : o.length = N
 zero : gI o f = 0
 up : ∀ u v, (u, v) ∈ es → 0 ≤ gI o u → 0 ≤ gI o v ∧ gI o v ≤ gI o u + 1
 down : ∀ v, 0 < gI o v → ∃ u, (u, v) ∈ es ∧ gI o u = gI o v - 1
 root : ∀ v, gI o v = 0 → v = f
 low : ∀ v, -1 ≤ gI o v
theorem Lab.le {es : List (Nat × Nat)} {N f : Nat} {o o' : List Int} (h : Lab es N f o) (h' : Lab es N f o') : ∀ (k : Nat) (v : Nat), gI o v = (k : Int) → 0 ≤ gI o' v ∧ gI o' v ≤ (k : Int)
 | 0, v, e => by
  rw [h.root v e, h'.zero]
  omega
 | k + 1, v, e => by
  obtain ⟨u, hu, e2⟩ := h.down v (by omega)
  obtain ⟨h1, h2⟩ := Lab.le h h' k u (by omega)
  obtain ⟨h3, h4⟩ := h'.up u v hu h1
  omega
theorem Lab.unique {es : List (Nat × Nat)} {N f : Nat} {o o' : List Int} (h : Lab es N f o) (h' : Lab es N f o') : o = o' := by
 refine gI_ext (h.len.trans h'.len.symm) fun v => ?_
 have l1 := h.low v
 have l2 := h'.low v
 by_cases c1 : 0 ≤ gI o v
 ·have a := Lab.le h h' (gI o v).toNat v (by omega)
  have b := Lab.le h' h (gI o' v).toNat v (by omega)
  omega
 ·by_cases c2 : 0 ≤ gI o' v
  ·have b := Lab.le h' h (gI o' v).toNat v (by omega)
   omega
  ·omega
def vis (d : Int) (b : List Int × List Nat) (v : Nat) : List Int × List Nat := if gI b.1 v < 0 then (b.1.set v d, b.2 ++ [v]) else b
def unl (o : List Int) : Nat := (o.filter fun x => decide (x < 0)).length
theorem ztp : ∀ {o : List Int} {v : Nat} {d : Int}, v < o.length → gI o v < 0 → 0 ≤ d → unl (o.set v d) + 1 = unl o
 | [], _, _, h, _, _ => absurd h (Nat.not_lt_zero _)
 | x :: o, 0, d, _, h, hd => by
  have hx : x < 0 := h
  unfold unl
  rw [List.set_cons_zero, List.filter_cons, List.filter_cons, if_neg (by rw [decide_eq_true_eq]; omega), if_pos (by rw [decide_eq_true_eq]; exact hx), List.length_cons]
 | x :: o, v + 1, d, hv, h, hd => by
  have ih := ztp (o := o) (v := v) (d := d) (by simpa using hv) h hd
  unfold unl at ih ⊢
  rw [List.set_cons_succ, List.filter_cons, List.filter_cons]
  split
  ·rw [List.length_cons, List.length_cons]; omega
  ·exact ih
structure Ext (o : List Int) (l : List Nat) (d : Int) (o' : List Int) (new : List Nat) : Prop where
 len : o'.length = o.length
 old : ∀ v, 0 ≤ gI o v → gI o' v = gI o v
 fresh : ∀ v, gI o v < 0 → 0 ≤ gI o' v → gI o' v = d ∧ v ∈ new
 mem : ∀ v ∈ new, gI o' v = d ∧ v ∈ l ∧ gI o v < 0
 done : ∀ v ∈ l, 0 ≤ gI o' v
 low : (∀ v, -1 ≤ gI o v) → ∀ v, -1 ≤ gI o' v
 cnt : unl o' + new.length = unl o
theorem zp1 {d : Int} (hd : 0 ≤ d) (o : List Int) (qs : List Nat) : ∀ (l : List Nat), (∀ v ∈ l, v < o.length) → ∃ o' new, l.foldl (vis d) (o, qs) = (o', qs ++ new) ∧ Ext o l d o' new := by
 intro l
 -- by the last element
 induction l using zfw with
 | h0 => exact fun _ => ⟨o, [], by simp, ⟨rfl, fun _ _ => rfl, fun v h1 h2 => absurd h2 (by omega), fun v h => absurd h List.not_mem_nil, fun v h => absurd h List.not_mem_nil, fun h => h, by simp⟩⟩
 | h1 l w ih =>
  intro hl
  obtain ⟨o', new, e, h⟩ := ih fun v hv => hl v (List.mem_append_left _ hv)
  have hw : w < o'.length := by rw [h.len]; exact hl w (by simp)
  rw [List.foldl_append, e, List.foldl_cons, List.foldl_nil]
  unfold vis
  by_cases c : gI o' w < 0
  ·rw [if_pos c]
   refine ⟨o'.set w d, new ++ [w], by simp, ?_⟩
   have c0 : gI o w < 0 := by
    refine Int.not_le.1 fun h0 => ?_
    rw [h.old w h0] at c
    omega
   refine ⟨by rw [List.length_set, h.len], fun v hv => ?_, fun v h1 h2 => ?_, fun v hv => ?_, fun v hv => ?_, fun hlo v => ?_, ?_⟩
   ·rw [zek hw, if_neg (fun e => by subst e; omega)]
    exact h.old v hv
   ·rw [zek hw] at h2 ⊢
    by_cases e : w = v
    ·subst e
     rw [if_pos rfl]
     exact ⟨rfl, by simp⟩
    ·rw [if_neg e] at h2 ⊢
     obtain ⟨a, b⟩ := h.fresh v h1 h2
     exact ⟨a, List.mem_append_left _ b⟩
   ·rw [zek hw]
    rcases List.mem_append.1 hv with hv | hv
    ·obtain ⟨a, b, c1⟩ := h.mem v hv
     refine ⟨?_, List.mem_append_left _ b, c1⟩
     split
     ·rfl
     ·exact a
    ·obtain rfl := List.mem_singleton.1 hv
     rw [if_pos rfl]
     exact ⟨rfl, by simp, c0⟩
   ·rw [zek hw]
    split
    ·exact hd
    ·rename_i e
     rcases List.mem_append.1 hv with hv | hv
     ·exact h.done v hv
     ·exact absurd (List.mem_singleton.1 hv).symm e
   ·rw [zek hw]
    split
    ·omega
    ·exact h.low hlo v
   ·have := ztp hw c hd
    have := h.cnt
    rw [List.length_append, List.length_singleton]
    omega
  ·rw [if_neg c]
   refine ⟨o', new, rfl, h.len, h.old, h.fresh, fun v hv => ?_, fun v hv => ?_, h.low, h.cnt⟩
   ·obtain ⟨a, b, c1⟩ := h.mem v hv
    exact ⟨a, List.mem_append_left _ b, c1⟩
   ·rcases List.mem_append.1 hv with hv | hv
    ·exact h.done v hv
    ·obtain rfl := List.mem_singleton.1 hv
     omega
structure Bfs (es : List (Nat × Nat)) (N f : Nat) (o : List Int) (qu : List Nat) : Prop where
 len : o.length = N
 zero : gI o f = 0
 low : ∀ v, -1 ≤ gI o v
 root : ∀ v, gI o v = 0 → v = f
 down : ∀ v, 0 < gI o v → ∃ u, (u, v) ∈ es ∧ gI o u = gI o v - 1
 inq : ∀ v ∈ qu, 0 ≤ gI o v
 asc : qu.Pairwise fun a b => gI o a ≤ gI o b
 bound : ∀ h, qu.head? = some h → ∀ v, gI o v ≤ gI o h + 1
 done : ∀ u, 0 ≤ gI o u → u ∉ qu → ∀ v, (u, v) ∈ es → 0 ≤ gI o v ∧ gI o v ≤ gI o u + 1
theorem Bfs.end {es : List (Nat × Nat)} {N f : Nat} {o : List Int} (h : Bfs es N f o []) : Lab es N f o :=
 ⟨h.len, h.zero, fun u v hm hu => h.done u hu List.not_mem_nil v hm, h.down, h.root, h.low⟩
theorem Bfs.start (es : List (Nat × Nat)) {N f : Nat} (hf : f < N) : Bfs es N f ((List.replicate N (-1 : Int)).set f 0) [f] := by
 have hl : f < (List.replicate N (-1 : Int)).length := by rw [List.length_replicate]; exact hf
 have hr : ∀ v, gI (List.replicate N (-1 : Int)) v = -1 := fun v => by
  unfold gI
  rw [List.getD_eq_getElem?_getD, List.getElem?_replicate]
  split <;> rfl
 have hg : ∀ v, gI ((List.replicate N (-1 : Int)).set f 0) v = if f = v then 0 else -1 := fun v => by rw [zek hl, hr]
 refine ⟨by rw [List.length_set, List.length_replicate], by rw [hg, if_pos rfl], fun v => ?_, fun v hv => ?_, fun v hv => ?_, fun v hv => ?_, List.pairwise_singleton .., fun h hh v => ?_, fun u hu hn => ?_⟩
 ·rw [hg]; split <;> omega
 ·rw [hg] at hv
  split at hv
  ·rename_i e; exact e.symm
  ·omega
 ·rw [hg] at hv
  split at hv <;> omega
 ·obtain rfl := List.mem_singleton.1 hv
  rw [hg, if_pos rfl]
  omega
 ·obtain rfl := Option.some.inj hh
  rw [hg, hg, if_pos rfl]
  split <;> omega
 ·rw [hg] at hu
  split at hu
  ·rename_i e
   exact absurd (by rw [e]; simp) hn
  ·omega
theorem Bfs.step {es : List (Nat × Nat)} {N f q : Nat} {o : List Int} {qs : List Nat} {l : List Nat} (h : Bfs es N f o (q :: qs)) (hl : ∀ v, v ∈ l ↔ (q, v) ∈ es) (hN : ∀ v ∈ l, v < N) :
  ∃ o' new, l.foldl (vis (gI o q + 1)) (o, qs) = (o', qs ++ new) ∧ Bfs es N f o' (qs ++ new) ∧ 2 * unl o' + (qs ++ new).length < 2 * unl o + (q :: qs).length ∧ gI o' q = gI o q := by
 have hq := h.inq q (List.mem_cons_self ..)
 obtain ⟨o', new, e, x⟩ := zp1 (d := gI o q + 1) (by omega) o qs l fun v hv => by rw [h.len]; exact hN v hv
 obtain ⟨a1, a2⟩ := List.pairwise_cons.1 h.asc
 have hb := h.bound q rfl
 have val : ∀ v, 0 ≤ gI o' v → (0 ≤ gI o v ∧ gI o' v = gI o v) ∨ (gI o v < 0 ∧ gI o' v = gI o q + 1 ∧ v ∈ new) := fun v hv => by
  by_cases c : 0 ≤ gI o v
  ·exact .inl ⟨c, x.old v c⟩
  ·exact .inr ⟨by omega, x.fresh v (by omega) hv⟩
 have up1 : ∀ v, gI o' v ≤ gI o q + 1 := fun v => by
  by_cases c : 0 ≤ gI o' v
  ·rcases val v c with ⟨_, e⟩ | ⟨_, e, _⟩
   ·rw [e]; exact hb v
   ·omega
  ·omega
 refine ⟨o', new, e, ⟨x.len.trans h.len, (x.old f (by rw [h.zero]; omega)).trans h.zero, x.low h.low, fun v hv => ?_, fun v hv => ?_, fun v hv => ?_, ?_, fun z hz v => ?_, fun u hu hn v hv => ?_⟩, ?_, x.old q hq⟩
 ·rcases val v (by omega) with ⟨_, e⟩ | ⟨_, e, _⟩
  ·exact h.root v (by omega)
  ·omega
 ·rcases val v (by omega) with ⟨c, e⟩ | ⟨_, e, hm⟩
  ·obtain ⟨u, hu, e2⟩ := h.down v (by omega)
   exact ⟨u, hu, by rw [x.old u (by omega), e2, e]⟩
  ·refine ⟨q, (hl v).1 (x.mem v hm).2.1, ?_⟩
   rw [x.old q hq]
   omega
 ·rcases List.mem_append.1 hv with hv | hv
  ·have := h.inq v (List.mem_cons_of_mem _ hv)
   rw [x.old v this]
   exact this
  ·rw [(x.mem v hv).1]
   omega
 ·rw [List.pairwise_append]
  refine ⟨a2.imp_of_mem fun {a b} ha hb2 hab => ?_, ?_, fun a ha b hb2 => ?_⟩
  ·rw [x.old a (h.inq a (List.mem_cons_of_mem _ ha)), x.old b (h.inq b (List.mem_cons_of_mem _ hb2))]
   exact hab
  ·refine List.Pairwise.imp_of_mem (R := fun _ _ => True) (fun {a b} ha hb2 _ => ?_) (List.pairwise_of_forall fun _ _ => trivial)
   rw [(x.mem a ha).1, (x.mem b hb2).1]
   exact Int.le_refl _
  ·rw [(x.mem b hb2).1]
   exact up1 a
 ·have hz2 : z ∈ qs ++ new := List.mem_of_mem_head? hz
  have : gI o q ≤ gI o' z := by
   rcases List.mem_append.1 hz2 with hz2 | hz2
   ·rw [x.old z (h.inq z (List.mem_cons_of_mem _ hz2))]
    exact a1 z hz2
   ·rw [(x.mem z hz2).1]
    omega
  have := up1 v
  omega
 ·rw [List.mem_append] at hn
  rcases val u hu with ⟨c, e3⟩ | ⟨_, _, hm⟩
  ·by_cases hqu : u = q
   ·have := x.done v ((hl v).2 (hqu ▸ hv))
    have := up1 v
    rw [e3, hqu]
    omega
   ·have := h.done u c (fun hm => by
     rcases List.mem_cons.1 hm with hm | hm
     ·exact hqu hm
     ·exact hn (.inl hm)) v hv
    rw [x.old v this.1, e3]
    exact this
  ·exact absurd (.inr hm) hn
 ·have := x.cnt
  rw [List.length_append, List.length_cons]
  omega
def rndE (r : Int) (o : List Int) (e : Nat × Nat) : List Int := if gI o e.1 = r ∧ gI o e.2 < 0 then o.set e.2 (r + 1) else o
def zcx (es : List (Nat × Nat)) (N f : Nat) (m : Nat) : List Int := (List.range m).foldl (fun (o : List Int) (r : Nat) => es.foldl (rndE (r : Int)) o) ((List.replicate N (-1 : Int)).set f 0)
structure Rnd (es : List (Nat × Nat)) (N f : Nat) (r : Int) (o : List Int) : Prop where
 len : o.length = N
 zero : gI o f = 0
 low : ∀ v, -1 ≤ gI o v
 most : ∀ v, gI o v ≤ r
 root : ∀ v, gI o v = 0 → v = f
 down : ∀ v, 0 < gI o v → ∃ u, (u, v) ∈ es ∧ gI o u = gI o v - 1
 up : ∀ u v, (u, v) ∈ es → 0 ≤ gI o u → gI o u < r → 0 ≤ gI o v ∧ gI o v ≤ gI o u + 1
structure Mid (es p : List (Nat × Nat)) (N : Nat) (r : Int) (o o' : List Int) : Prop where
 len : o'.length = N
 old : ∀ v, 0 ≤ gI o v → gI o' v = gI o v
 fresh : ∀ v, gI o v < 0 → 0 ≤ gI o' v → gI o' v = r + 1 ∧ ∃ u, (u, v) ∈ es ∧ gI o u = r
 done : ∀ u v, (u, v) ∈ p → gI o u = r → 0 ≤ gI o' v
 low : ∀ v, -1 ≤ gI o' v
theorem rnd_mid {es : List (Nat × Nat)} {N : Nat} {r : Int} {o : List Int} (hr : 0 ≤ r) (hlen : o.length = N) (hlow : ∀ v, -1 ≤ gI o v) (hN : ∀ u v, (u, v) ∈ es → v < N) : ∀ p : List (Nat × Nat), (∀ e ∈ p, e ∈ es) → Mid es p N r o (p.foldl (rndE r) o) := by
 intro p
 induction p using zfw with
 | h0 => exact fun _ => ⟨hlen, fun _ _ => rfl, fun v h1 h2 => absurd h2 (by show ¬ 0 ≤ gI o v; omega), fun u v h => absurd h List.not_mem_nil, hlow⟩
 | h1 p e ih =>
  intro hp
  have h := ih fun x hx => hp x (List.mem_append_left _ hx)
  have he : (e.1, e.2) ∈ es := hp e (by simp)
  rw [List.foldl_append, List.foldl_cons, List.foldl_nil]
  generalize p.foldl (rndE r) o = o' at h
  have hw : e.2 < o'.length := by rw [h.len]; exact hN _ _ he
  have hsame : gI o' e.1 = r ↔ gI o e.1 = r := by
   by_cases c : 0 ≤ gI o e.1
   ·rw [h.old _ c]
   ·constructor
    ·intro x
     have := (h.fresh e.1 (by omega) (by omega)).1
     omega
    ·intro x; omega
  unfold rndE
  by_cases c : gI o' e.1 = r ∧ gI o' e.2 < 0
  ·rw [if_pos c]
   have c0 : gI o e.2 < 0 := by
    refine Int.not_le.1 fun h0 => ?_
    have := h.old _ h0
    omega
   refine ⟨by rw [List.length_set]; exact h.len, fun v hv => ?_, fun v h1 h2 => ?_, fun u v hm hu => ?_, fun v => ?_⟩
   ·rw [zek hw, if_neg (fun e => by subst e; omega)]
    exact h.old v hv
   ·rw [zek hw] at h2 ⊢
    by_cases ev : e.2 = v
    ·subst ev
     rw [if_pos rfl]
     exact ⟨rfl, e.1, he, hsame.1 c.1⟩
    ·rw [if_neg ev] at h2 ⊢
     exact h.fresh v h1 h2
   ·rw [zek hw]
    split
    ·omega
    ·rename_i ev
     rcases List.mem_append.1 hm with hm | hm
     ·exact h.done u v hm hu
     ·have := List.mem_singleton.1 hm
      exact absurd (by rw [← this]) ev
   ·rw [zek hw]
    split
    ·omega
    ·exact h.low v
  ·rw [if_neg c]
   refine ⟨h.len, h.old, h.fresh, fun u v hm hu => ?_, h.low⟩
   rcases List.mem_append.1 hm with hm | hm
   ·exact h.done u v hm hu
   ·have := List.mem_singleton.1 hm
    subst this
    refine Int.not_lt.1 fun hlt => c ⟨hsame.2 hu, hlt⟩
theorem Rnd.next {es : List (Nat × Nat)} {N f : Nat} {r : Int} {o : List Int} (hr : 0 ≤ r) (hN : ∀ u v, (u, v) ∈ es → v < N) (h : Rnd es N f r o) : Rnd es N f (r + 1) (es.foldl (rndE r) o) := by
 have m := rnd_mid (es := es) hr h.len h.low hN es fun _ h => h
 generalize es.foldl (rndE r) o = o' at m
 have val : ∀ v, 0 ≤ gI o' v → (0 ≤ gI o v ∧ gI o' v = gI o v) ∨ (gI o v < 0 ∧ gI o' v = r + 1 ∧ ∃ u, (u, v) ∈ es ∧ gI o u = r) := fun v hv => by
  by_cases c : 0 ≤ gI o v
  ·exact .inl ⟨c, m.old v c⟩
  ·exact .inr ⟨by omega, m.fresh v (by omega) hv⟩
 have mo : ∀ v, gI o' v ≤ r + 1 := fun v => by
  by_cases c : 0 ≤ gI o' v
  ·rcases val v c with ⟨_, e⟩ | ⟨_, e, _⟩
   ·have := h.most v; omega
   ·omega
  ·omega
 refine ⟨m.len, (m.old f (by rw [h.zero]; omega)).trans h.zero, m.low, mo, fun v hv => ?_, fun v hv => ?_, fun u v hm hu hlt => ?_⟩
 ·rcases val v (by omega) with ⟨_, e⟩ | ⟨_, e, _⟩
  ·exact h.root v (by omega)
  ·omega
 ·rcases val v (by omega) with ⟨c, e⟩ | ⟨_, e, u, hu, e2⟩
  ·obtain ⟨u, hu, e2⟩ := h.down v (by omega)
   exact ⟨u, hu, by rw [m.old u (by omega), e2, e]⟩
  ·exact ⟨u, hu, by rw [m.old u (by omega), e2, e]; omega⟩
 ·rcases val u hu with ⟨c, e⟩ | ⟨_, e, _⟩
  ·by_cases hlt2 : gI o u < r
   ·have := h.up u v hm c hlt2
    rw [m.old v this.1, e]
    exact this
   ·have : gI o u = r := by have := h.most u; omega
    have := m.done u v hm this
    have := mo v
    omega
  ·omega
theorem zcj : ∀ {a b : List Int}, a.Nodup → (∀ x ∈ a, x ∈ b) → a.length ≤ b.length
 | [], _, _, _ => Nat.zero_le _
 | x :: a, b, hn, hs => by
  obtain ⟨h1, h2⟩ := List.nodup_cons.1 hn
  have hx := hs x (List.mem_cons_self ..)
  have := zcj (a := a) (b := b.erase x) h2 fun y hy => (List.mem_erase_of_ne (fun e => h1 (by rw [← e]; exact hy))).2 (hs y (List.mem_cons_of_mem _ hy))
  rw [List.length_erase_of_mem hx] at this
  have := List.length_pos_of_mem hx
  rw [List.length_cons]
  omega
theorem zkz {es : List (Nat × Nat)} {o : List Int} (down : ∀ v, 0 < gI o v → ∃ u, (u, v) ∈ es ∧ gI o u = gI o v - 1) : ∀ (k : Nat) (v : Nat), gI o v = (k : Int) → ∀ j : Nat, j ≤ k → ∃ u, gI o u = (j : Int)
 | 0, v, e, j, hj => ⟨v, by rw [e]; omega⟩
 | k + 1, v, e, j, hj => by
  by_cases hjk : j = k + 1
  ·exact ⟨v, by rw [e, hjk]⟩
  ·obtain ⟨u, _, e2⟩ := down v (by omega)
   exact zkz down k u (by omega) j (by omega)
theorem ziu {es : List (Nat × Nat)} {N : Nat} {o : List Int} (hl : o.length = N) (down : ∀ v, 0 < gI o v → ∃ u, (u, v) ∈ es ∧ gI o u = gI o v - 1) (v : Nat) : gI o v < N := by
 refine Int.not_le.1 fun hle => ?_
 have h := zkz down (gI o v).toNat v (by omega)
 have := zcj (a := (List.range (N + 1)).map fun j => ((j : Nat) : Int)) (b := o) ?_ ?_
 ·rw [List.length_map, List.length_range] at this
  omega
 ·exact List.pairwise_map.2 (List.nodup_range.imp fun {a b} h e => h (by omega))
 ·intro x hx
  obtain ⟨j, hj, rfl⟩ := List.mem_map.1 hx
  rw [List.mem_range] at hj
  obtain ⟨u, hu⟩ := h j (by omega)
  have hlt : u < o.length := gI_lt (by omega)
  unfold gI at hu
  rw [List.getD_eq_getElem?_getD, List.getElem?_eq_getElem hlt] at hu
  rw [← hu]
  exact List.getElem_mem hlt
theorem zd4 {es : List (Nat × Nat)} {N f : Nat} (hf : f < N) (hN : ∀ u v, (u, v) ∈ es → v < N) : Lab es N f (zcx es N f N) := by
 have key : ∀ m : Nat, Rnd es N f (m : Int) (zcx es N f m) := by
  intro m
  induction m with
  | zero =>
   have b := Bfs.start es hf
   show Rnd es N f 0 ((List.replicate N (-1 : Int)).set f 0)
   refine ⟨b.len, b.zero, b.low, fun v => ?_, b.root, b.down, fun u v _ h1 h2 => ?_⟩
   ·show gI ((List.replicate N (-1 : Int)).set f 0) v ≤ 0
    refine Int.not_lt.1 fun h => ?_
    have := b.bound f rfl v
    rw [b.zero] at this
    have hv : gI ((List.replicate N (-1 : Int)).set f 0) v = 1 := by omega
    obtain ⟨u, _, e⟩ := b.down v h
    rw [zek (by rw [List.length_replicate]; exact hf)] at hv
    split at hv
    ·omega
    ·unfold gI at hv
     rw [List.getD_eq_getElem?_getD, List.getElem?_replicate] at hv
     split at hv <;> (simp at hv)
   ·exact absurd h2 (by show ¬ gI ((List.replicate N (-1 : Int)).set f 0) u < ((0 : Nat) : Int); have : 0 ≤ gI ((List.replicate N (-1 : Int)).set f 0) u := h1; omega)
  | succ m ih =>
   unfold zcx
   rw [List.range_succ, List.foldl_append, List.foldl_cons, List.foldl_nil]
   have := Rnd.next (by omega) hN ih
   exact this
 have h := key N
 refine ⟨h.len, h.zero, fun u v hm hu => h.up u v hm hu (ziu h.len h.down u), h.down, h.root, h.low⟩
theorem asc_eq : ∀ {a b : List Int}, a.Pairwise (· < ·) → b.Pairwise (· < ·) → (∀ x, x ∈ a ↔ x ∈ b) → a = b
 | [], [], _, _, _ => rfl
 | [], y :: b, _, _, h => absurd ((h y).2 (List.mem_cons_self ..)) List.not_mem_nil
 | x :: a, [], _, _, h => absurd ((h x).1 (List.mem_cons_self ..)) List.not_mem_nil
 | x :: a, y :: b, ha, hb, h => by
  obtain ⟨a1, a2⟩ := List.pairwise_cons.1 ha
  obtain ⟨b1, b2⟩ := List.pairwise_cons.1 hb
  have hxy : x = y := by
   have h1 := (h x).1 (List.mem_cons_self ..)
   have h2 := (h y).2 (List.mem_cons_self ..)
   rcases List.mem_cons.1 h1 with e | h1
   ·exact e
   ·rcases List.mem_cons.1 h2 with e | h2
    ·exact e.symm
    ·have := a1 y h2
     have := b1 x h1
     omega
  subst hxy
  rw [asc_eq a2 b2 fun z => ?_]
  constructor
  ·intro hz
   rcases List.mem_cons.1 ((h z).1 (List.mem_cons_of_mem _ hz)) with e | hz2
   ·have := a1 z hz; omega
   ·exact hz2
  ·intro hz
   rcases List.mem_cons.1 ((h z).2 (List.mem_cons_of_mem _ hz)) with e | hz2
   ·have := b1 z hz; omega
   ·exact hz2
theorem zjm : ∀ {l : List Int} {p z : Int}, z ∈ p :: zo0 p l ↔ z ∈ p :: l
 | [], _, _ => Iff.rfl
 | y :: l, p, z => by
  rw [zo0]
  split
  ·rename_i e
   rw [zjm (l := l), List.mem_cons, List.mem_cons, List.mem_cons, e]
   constructor
   ·rintro (h | h)
    ·exact .inl h
    ·exact .inr (.inr h)
   ·rintro (h | h | h)
    ·exact .inl h
    ·exact .inl h
    ·exact .inr h
  ·have := zjm (l := l) (p := y) (z := z)
   rw [List.mem_cons, this, List.mem_cons, List.mem_cons, List.mem_cons]
theorem zjl : ∀ {l : List Int} {p : Int}, (p :: l).Pairwise (· ≤ ·) → (p :: zo0 p l).Pairwise (· < ·)
 | [], _, _ => List.pairwise_singleton ..
 | y :: l, p, h => by
  obtain ⟨h1, h2⟩ := List.pairwise_cons.1 h
  rw [zo0]
  split
  ·rename_i e
   subst e
   exact zjl h2
  ·rename_i e
   have ih := zjl h2
   rw [List.pairwise_cons]
   refine ⟨fun z hz => ?_, ih⟩
   have hy := h1 y (List.mem_cons_self ..)
   rcases List.mem_cons.1 hz with rfl | hz2
   ·omega
   ·have := (List.pairwise_cons.1 ih).1 z hz2
    omega
theorem cpt_asc {l : List Int} (h : l.Pairwise (· ≤ ·)) : (cpt l).Pairwise (· < ·) := by
 cases l with
 | nil => exact List.Pairwise.nil
 | cons x l => exact zjl h
theorem cpt_mem {l : List Int} {z : Int} : z ∈ cpt l ↔ z ∈ l := by
 cases l with
 | nil => exact Iff.rfl
 | cons x l => exact zjm
def raw (es : List (Nat × Nat)) (v : Nat) : List Int := (es.filter fun e => e.1 == v).map fun e => ((e.2 : Nat) : Int)
def nbr (es : List (Nat × Nat)) (N v : Nat) : List Nat := (List.range N).filter fun w => es.contains (v, w)
theorem zc9 {es : List (Nat × Nat)} {N v w : Nat} (hN : ∀ u v, (u, v) ∈ es → v < N) : w ∈ nbr es N v ↔ (v, w) ∈ es := by
 unfold nbr
 rw [List.mem_filter, List.mem_range, List.contains_iff_mem]
 exact ⟨fun h => h.2, fun h => ⟨hN _ _ h, h⟩⟩
theorem nbr_cpt {es : List (Nat × Nat)} {N v : Nat} (hN : ∀ u v, (u, v) ∈ es → v < N) : cpt ((raw es v).mergeSort fun x y => decide (x ≤ y)) = (nbr es N v).map fun w => ((w : Nat) : Int) := by
 refine asc_eq (cpt_asc ?_) ?_ fun x => ?_
 ·have := List.pairwise_mergeSort (le := fun x y : Int => decide (x ≤ y)) (fun a b c h1 h2 => by rw [decide_eq_true_eq] at *; omega) (fun a b => by rw [Bool.or_eq_true, decide_eq_true_eq, decide_eq_true_eq]; omega) (raw es v)
  exact this.imp fun h => of_decide_eq_true h
 ·unfold nbr
  rw [List.pairwise_map]
  refine List.Pairwise.imp (R := fun a b : Nat => a < b) (fun h => by omega) (List.Pairwise.filter _ List.pairwise_lt_range)
 ·rw [cpt_mem, List.mem_mergeSort]
  unfold raw
  rw [List.mem_map, List.mem_map]
  constructor
  ·rintro ⟨e, he, rfl⟩
   obtain ⟨h1, h2⟩ := List.mem_filter.1 he
   refine ⟨e.2, (zc9 hN).2 ?_, rfl⟩
   rw [← eq_of_beq h2]
   exact h1
  ·rintro ⟨w, hw, rfl⟩
   exact ⟨(v, w), List.mem_filter.2 ⟨(zc9 hN).1 hw, by simp⟩, rfl⟩
theorem zr9 {es : List (Nat × Nat)} {N v : Nat} (hN : ∀ u v, (u, v) ∈ es → v < N) : cps (srt (raw es v)) = (nbr es N v).map fun w => ((w : Nat) : Int) := by
 rw [cps_eq]
 exact nbr_cpt hN
end Go.Proofs.Ytoagikifehmlpaa
