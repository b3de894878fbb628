/-
  PATHS IN PLAIN LEAN: walks; the distance to a vertex is the distance from it in the reversed graph; the next vertex.
-/
import Derived.Test.YtoagikifehmlpaaQE1
namespace Go.Proofs.Ytoagikifehmlpaa
open Go Go.Am
inductive Wk (E : List (Nat × Nat)) : Nat → Nat → Nat → Prop
 | refl (u : Nat) : Wk E 0 u u
 | step {k u v w : Nat} (h : Wk E k u v) (e : (v, w) ∈ E) : Wk E (k + 1) u w
theorem Wk.cons {E : List (Nat × Nat)} {u v w k : Nat} (e : (u, v) ∈ E) (h : Wk E k v w) : Wk E (k + 1) u w := by
 induction h with
 | refl => exact .step (.refl u) e
 | step h e2 ih => exact .step (ih e) e2
theorem Wk.rev {E E' : List (Nat × Nat)} (hE : ∀ a b, (a, b) ∈ E → (b, a) ∈ E') {u v k : Nat} (h : Wk E k u v) : Wk E' k v u := by
 induction h with
 | refl => exact .refl _
 | step h e ih => exact .cons (hE _ _ e) ih
def rvE (E : List (Nat × Nat)) : List (Nat × Nat) := E.map fun e => (e.2, e.1)
theorem zk6 {E : List (Nat × Nat)} {a b : Nat} : (a, b) ∈ rvE E ↔ (b, a) ∈ E := by
 unfold rvE
 rw [List.mem_map]
 constructor
 ·rintro ⟨⟨x, y⟩, h, e⟩
  injection e with e1 e2
  subst e1 e2
  exact h
 ·intro h
  exact ⟨(b, a), h, rfl⟩
theorem ztc (E : List (Nat × Nat)) : (rvE E).length = E.length := List.length_map ..
theorem zfu {E : List (Nat × Nat)} {m : Nat} (hb : ∀ u v, (u, v) ∈ E → u < m ∧ v < m) : ∀ u v, (u, v) ∈ rvE E → u < m ∧ v < m := fun u v h => (hb v u (zk6.1 h)).symm
theorem Lab.walk {E : List (Nat × Nat)} {N f : Nat} {o : List Int} (h : Lab E N f o) : ∀ (k v : Nat), gI o v = (k : Int) → Wk E k f v
 | 0, v, e => by
  rw [h.root v e]
  exact .refl _
 | k + 1, v, e => by
  obtain ⟨u, hu, e2⟩ := h.down v (by omega)
  exact .step (Lab.walk h k u (by omega)) hu
theorem Lab.walk_le {E : List (Nat × Nat)} {N f : Nat} {o : List Int} (h : Lab E N f o) {k u v : Nat} (w : Wk E k u v) : u = f → 0 ≤ gI o v ∧ gI o v ≤ (k : Int) := by
 induction w with
 | refl =>
  intro e
  rw [e, h.zero]
  omega
 | step w e ih =>
  intro e2
  have a := ih e2
  have b := h.up _ _ e a.1
  omega
theorem zmi {E : List (Nat × Nat)} {m t v : Nat} (hb : ∀ u v, (u, v) ∈ E → u < m ∧ v < m) (ht : t < m) (hv : v < m) : gI (zcx (rvE E) m t m) v = gI (zcx E m v m) t := by
 have a := zd4 (es := rvE E) ht fun u v h => (zfu hb u v h).2
 have b := zd4 (es := E) hv fun u v h => (hb u v h).2
 generalize zcx (rvE E) m t m = x at *
 generalize zcx E m v m = y at *
 have la := a.low v
 have lb := b.low t
 have k1 : 0 ≤ gI x v → 0 ≤ gI y t ∧ gI y t ≤ gI x v := fun h => by
  have w := (a.walk (gI x v).toNat v (by omega)).rev fun p q h => zk6.1 h
  have := b.walk_le w rfl
  omega
 have k2 : 0 ≤ gI y t → 0 ≤ gI x v ∧ gI x v ≤ gI y t := fun h => by
  have w := (b.walk (gI y t).toNat t (by omega)).rev (E' := rvE E) fun p q h => zk6.2 h
  have := a.walk_le w rfl
  omega
 by_cases h : 0 ≤ gI x v
 ·have := k1 h
  have := k2 this.1
  omega
 ·by_cases h2 : 0 ≤ gI y t
  ·have := k2 h2
   omega
  ·omega
def prB (back : List Int) (v w : Nat) : Bool := decide (gI back w ≥ 0) && (gI back w == gI back v - 1)
def nxt (E : List (Nat × Nat)) (m : Nat) (back : List Int) (v : Nat) : Nat := ((nbr E m v).find? (prB back v)).getD 0
def zcm (E : List (Nat × Nat)) (m : Nat) (back : List Int) : Nat → Nat → List Nat
 | 0, _ => []
 | k + 1, v => nxt E m back v :: zcm E m back k (nxt E m back v)
theorem nxt_ok {E : List (Nat × Nat)} {m t v : Nat} {back : List Int} (hL : Lab (rvE E) m t back) (hb : ∀ u v, (u, v) ∈ E → u < m ∧ v < m) (h : 0 < gI back v) :
  (nbr E m v).find? (prB back v) = some (nxt E m back v) ∧ (v, nxt E m back v) ∈ E ∧ nxt E m back v < m ∧ gI back (nxt E m back v) = gI back v - 1 := by
 obtain ⟨u, hu, e⟩ := hL.down v h
 have hu := zk6.1 hu
 have hm : u ∈ nbr E m v := (zc9 fun u v h => (hb u v h).2).2 hu
 have hp : prB back v u = true := by
  unfold prB
  rw [Bool.and_eq_true, decide_eq_true_eq, beq_iff_eq]
  omega
 unfold nxt
 cases hf : (nbr E m v).find? (prB back v) with
 | none =>
  have := List.find?_eq_none.1 hf u hm
  exact absurd hp this
 | some w =>
  have h1 := List.find?_some hf
  have h2 := (zc9 fun u v h => (hb u v h).2).1 (List.mem_of_find?_eq_some hf)
  unfold prB at h1
  rw [Bool.and_eq_true, decide_eq_true_eq, beq_iff_eq] at h1
  exact ⟨rfl, h2, (hb _ _ h2).2, h1.2⟩
theorem zen (E : List (Nat × Nat)) (m : Nat) (back : List Int) : ∀ k v, (zcm E m back k v).length = k
 | 0, _ => rfl
 | k + 1, v => by
  rw [zcm, List.length_cons, zen E m back k]
theorem zo8 {α : Type} {p : α → Bool} : ∀ {l : List α} {w : α}, l.find? p = some w → ∃ k, ∃ h : k < l.length, l[k] = w ∧ p w = true ∧ ∀ i (h2 : i < k), p (l[i]'(Nat.lt_trans h2 h)) = false
 | [], _, h => by cases h
 | x :: l, w, h => by
  rw [List.find?_cons] at h
  cases hx : p x with
  | true =>
   rw [hx] at h
   obtain rfl := Option.some.inj h
   exact ⟨0, Nat.succ_pos _, rfl, hx, fun i h2 => absurd h2 (Nat.not_lt_zero _)⟩
  | false =>
   rw [hx] at h
   obtain ⟨k, hk, e, hp, hn⟩ := zo8 h
   refine ⟨k + 1, Nat.succ_lt_succ hk, e, hp, fun i h2 => ?_⟩
   cases i with
   | zero => exact hx
   | succ i => exact hn i (Nat.lt_of_succ_lt_succ h2)
end Go.Proofs.Ytoagikifehmlpaa
