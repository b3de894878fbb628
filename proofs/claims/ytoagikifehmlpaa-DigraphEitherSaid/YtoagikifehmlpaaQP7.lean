/-
  WHAT A CYCLE IS, in plain Lean: joined by edges all around, different vertices. Places in an order.
-/
import Derived.Test.YtoagikifehmlpaaQK6
import Derived.Test.YtoagikifehmlpaaQP5
import Derived.Test.YtoagikifehmlpaaQM1
namespace Go.Proofs.Ytoagikifehmlpaa
open Go Go.Am
theorem gN_cons (x : Nat) (l : List Nat) (i : Nat) : gN (x :: l) (i + 1) = gN l i := by
 unfold gN
 rw [List.getD_cons_succ]
theorem gN_take {l : List Nat} {i k : Nat} (h : i < k) : gN (l.take k) i = gN l i := by
 unfold gN
 rw [List.getD_eq_getElem?_getD, List.getD_eq_getElem?_getD, List.getElem?_take, if_pos h]
structure CycP (E : List (Nat × Nat)) (m : Nat) (c : List Nat) : Prop where
 pos : 0 < c.length
 len : c.length ≤ m
 lt : ∀ i, i < c.length → gN c i < m
 edge : ∀ i, i < c.length → (gN c i, gN c ((i + 1) % c.length)) ∈ E
 diff : ∀ i j, i < j → j < c.length → gN c i ≠ gN c j
theorem cyc_ok {E : List (Nat × Nat)} {m v : Nat} (hb : ∀ u v, (u, v) ∈ E → u < m ∧ v < m) (hv : v < m) (hld : ldB E m v v = true) : CycP E m (cycL E m v) := by
 have hL := zd4 (es := rvE E) hv fun u v h => (zfu hb u v h).2
 have hll := ls_ld hb hv
 have hW := lsW (zcx (rvE E) m v m) (nbr E m v)
 have hcy : cycL E m v = v :: ((zgt (zcx (rvE E) m v m) (nbr E m v)).toNat :: zcm E m (zcx (rvE E) m v m) (gI (zcx (rvE E) m v m) (zgt (zcx (rvE E) m v m) (nbr E m v)).toNat).toNat (zgt (zcx (rvE E) m v m) (nbr E m v)).toNat).take (gI (zcx (rvE E) m v m) (zgt (zcx (rvE E) m v m) (nbr E m v)).toNat).toNat := rfl
 generalize zcx (rvE E) m v m = back at *
 have h5 : ¬ zgt back (nbr E m v) < 0 := fun h => by rw [hll.1 h] at hld; cases hld
 obtain ⟨hx1, hx0⟩ := hW.some_ (by omega)
 generalize (zgt back (nbr E m v)).toNat = x at *
 have hvx := (zc9 fun u v h => (hb u v h).2).1 hx1
 have hbl := ziu hL.len hL.down x
 obtain ⟨k, hk⟩ := Int.eq_ofNat_of_zero_le hx0
 rw [hk, Int.toNat_natCast] at hcy
 obtain ⟨a, b, c⟩ := zn9 hL hb k x hk
 have hpl : (x :: zcm E m back k x).length = k + 1 := by rw [List.length_cons, zen]
 have hp0 : gN (x :: zcm E m back k x) 0 = x := rfl
 generalize x :: zcm E m back k x = p at *
 have hlen : (cycL E m v).length = k + 1 := by rw [hcy, List.length_cons, List.length_take]; omega
 have c0 : gN (cycL E m v) 0 = v := by rw [hcy]; rfl
 have cs : ∀ j, j < k → gN (cycL E m v) (j + 1) = gN p j := fun j hj => by rw [hcy, gN_cons, gN_take hj]
 have hbm : ∀ y, 0 ≤ gI back y → y < m := fun y h => hL.len ▸ gI_lt h
 refine ⟨by omega, by omega, fun i hi => ?_, fun i hi => ?_, fun i j hij hj => ?_⟩
 ·cases i with
  | zero => rw [c0]; exact hv
  | succ j =>
   rw [cs j (by omega)]
   refine hbm _ ?_
   rw [c j (by omega)]
   omega
 ·rw [hlen]
  cases i with
  | zero =>
   rw [c0]
   cases k with
   | zero =>
    rw [show (0 + 1) % (0 + 1) = 0 from rfl, c0]
    have := hL.root x hk
    rw [← this] at hvx ⊢
    exact hvx
   | succ k =>
    rw [Nat.mod_eq_of_lt (by omega), cs 0 (by omega), hp0]
    exact hvx
  | succ j =>
   have hj : j < k := by omega
   rw [cs j hj]
   by_cases e : j + 2 = k + 1
   ·rw [show j + 1 + 1 = k + 1 by omega, Nat.mod_self, c0]
    have := a j hj
    rw [show j + 1 = k by omega, b] at this
    exact this
   ·rw [Nat.mod_eq_of_lt (by omega), cs (j + 1) (by omega)]
    exact a j hj
 ·obtain ⟨j, rfl⟩ : ∃ q, j = q + 1 := ⟨j - 1, by omega⟩
  rw [cs j (by omega)]
  intro e
  have h1 := c j (by omega)
  rw [← e] at h1
  cases i with
  | zero => rw [c0, hL.zero] at h1; omega
  | succ i =>
   rw [cs i (by omega), c i (by omega)] at h1
   omega
theorem zn1 {l : List Nat} (h : ∀ i j, i < j → j < l.length → gN l i ≠ gN l j) {i : Nat} (hi : i < l.length) : gN l i ∉ l.take i := fun hm => by
 obtain ⟨j, h1, h2⟩ := List.mem_iff_getElem.1 hm
 rw [List.length_take] at h1
 rw [List.getElem_take, gN_at (by omega)] at h2
 exact h j i (by omega) hi h2
theorem zrf {l : List Nat} {v : Nat} (h : v ∈ l) : dnx (fun i => gZ (iL l) i == ((v : Nat) : Int)) (iL l).length 0 = ((l.idxOf v : Nat) : Int) := by
 obtain ⟨p, s, e, hn, hi⟩ := zle h
 have hg : ∀ i, i < l.length → gZ (iL l) i = ((gN l i : Nat) : Int) := fun i hlt => by
  rw [← gZ_at (by rw [zf0]; exact hlt), ← gN_at hlt]
  unfold iL
  rw [List.getElem_map]
 have hf : (List.range (iL l).length).find? (fun i => gZ (iL l) i == ((v : Nat) : Int)) = some p.length := by
  rw [List.find?_range_eq_some]
  refine ⟨?_, ?_, fun j hj => ?_⟩
  ·rw [hg _ (by rw [e, List.length_append, List.length_cons]; omega), beq_iff_eq]
   congr 1
   unfold gN
   rw [e, List.getD_eq_getElem?_getD, List.getElem?_append_right (Nat.le_refl _), Nat.sub_self]
   rfl
  ·rw [List.mem_range, zf0, e, List.length_append, List.length_cons]
   omega
  ·rw [hg _ (by rw [e, List.length_append, List.length_cons]; omega)]
   simp only [Bool.not_eq_true', beq_eq_false_iff_ne]
   intro h2
   have h2 := Int.ofNat_inj.1 h2
   refine hn ?_
   rw [← h2]
   unfold gN
   rw [e, List.getD_eq_getElem?_getD, List.getElem?_append_left hj, List.getElem?_eq_getElem hj]
   exact List.getElem_mem hj
 unfold dnx
 rw [List.drop_zero, hf, hi]
end Go.Proofs.Ytoagikifehmlpaa
