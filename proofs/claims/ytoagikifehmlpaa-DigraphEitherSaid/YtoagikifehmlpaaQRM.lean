/-
  REGIONS IN ALL THEIR ORDERS BY AN INVARIANT.
-/
import Derived.Test.YtoagikifehmlpaaQU1
namespace Go.Proofs.Ytoagikifehmlpaa
open Go Go.Am
theorem zic {i : Nat} {D : List Nat} (hi : i ∉ D) : ∀ l : List Nat, l.Nodup → i ∈ l → (l.filter fun j => !D.contains j).length = (l.filter fun j => !(i :: D).contains j).length + 1
 | [], _, h => by cases h
 | j :: l, hn, h => by
  obtain ⟨h1, h2⟩ := List.nodup_cons.1 hn
  rw [List.filter_cons, List.filter_cons]
  by_cases e : j = i
  ·subst e
   have e1 : (!D.contains j) = true := by simpa using hi
   have e2 : (!(j :: D).contains j) = false := by simp
   rw [if_pos e1, if_neg (by rw [e2]; exact Bool.false_ne_true), List.length_cons]
   congr 2
   refine List.filter_congr fun x hx => ?_
   have hx2 : x ≠ j := fun e => h1 (e ▸ hx)
   simp [hx2]
  ·have hm : i ∈ l := (List.mem_cons.1 h).resolve_left fun e2 => e e2.symm
   have ih := zic hi l h2 hm
   have e3 : (!(i :: D).contains j) = (!D.contains j) := by simp [e]
   rw [e3]
   split
   ·rw [List.length_cons, List.length_cons, ih]
   ·exact ih
theorem zq9 {p : Nat → Prop} : ∀ {l : List Nat}, (∀ i ∈ l, p i) → AllL p l
 | [], _ => trivial
 | i :: _, h => ⟨h i (List.mem_cons_self ..), zq9 fun j hj => h j (List.mem_cons_of_mem _ hj)⟩
theorem zpw {pres : List (List Nat)} {N : Nat} {D : List Nat} (hp : ∀ i < N, ∀ p ∈ pres.getD i [], p < i) (h : zd3 pres N D = []) : ∀ i < N, i ∈ D := by
 intro i
 induction i using Nat.strongRecOn with
 | ind i ih =>
  intro hi
  refine Classical.byContradiction fun hni => ?_
  have : i ∈ zd3 pres N D := by
   unfold zd3
   rw [List.mem_filter]
   refine ⟨List.mem_range.2 hi, ?_⟩
   rw [Bool.and_eq_true, List.all_eq_true]
   refine ⟨by simpa using hni, fun p hpp => ?_⟩
   have := hp i hi p hpp
   exact List.contains_iff_mem.2 (ih p this (by omega))
  rw [h] at this
  cases this
theorem zqm {P : Program} {w0 : World} {N0 : Nat} {rd : Option (Nat × Nat)} {ios : List Opr} {pres : List (List Nat)} {K : AS → Prop} (hp : ∀ i < ios.length, ∀ p ∈ pres.getD i [], p < i) (I : List Nat → AS → Prop)
  (step : ∀ n D S i, I D S → i < ios.length → i ∉ D → (∀ p ∈ pres.getD i [], p ∈ D) → (∀ S', I (i :: D) S' → AnyF P w0 N0 rd ios pres n (i :: D) S' K) → StF P w0 N0 rd ios pres n D S K i)
  (fin : ∀ D S, I D S → (∀ i < ios.length, i ∈ D) → K S) : ∀ (n : Nat) (D : List Nat) (S : AS), I D S → ((List.range ios.length).filter fun i => !D.contains i).length = n → AnyF P w0 N0 rd ios pres n D S K
 | 0, D, S, hI, hn => by
  have h0 := List.length_eq_zero_iff.1 hn
  rw [List.filter_eq_nil_iff] at h0
  have hall : ∀ i < ios.length, i ∈ D := fun i hi => by
   have := h0 i (List.mem_range.2 hi)
   simpa using this
  refine ⟨?_, fin D S hI hall⟩
  unfold zd3
  rw [List.filter_eq_nil_iff]
  intro i hi
  have := List.contains_iff_mem.2 (hall i (List.mem_range.1 hi))
  rw [this]
  simp
 | n + 1, D, S, hI, hn => by
  refine AnyF.succ (fun h => ?_) (zq9 fun i hi => ?_)
  ·have hall := zpw hp h
   rw [List.filter_eq_nil_iff.2 fun i hi => by
    have := List.contains_iff_mem.2 (hall i (List.mem_range.1 hi))
    rw [this]
    simp] at hn
   cases hn
  ·unfold zd3 at hi
   rw [List.mem_filter, Bool.and_eq_true, List.all_eq_true] at hi
   obtain ⟨h1, h2, h3⟩ := hi
   have h2 : i ∉ D := by simpa using h2
   refine step n D S i hI (List.mem_range.1 h1) h2 (fun p hp => List.contains_iff_mem.1 (h3 p hp)) fun S' hI' => zqm hp I step fin n (i :: D) S' hI' ?_
   have := zic h2 (List.range ios.length) List.nodup_range h1
   omega
theorem zse (d : Nat) (v : AV) (l : List (Nat × AV)) : zc4 d ((d, v) :: l) = some v := by
 rw [zc4, Nat.beq_refl]
theorem ziv {d t : Nat} (h : d ≠ t) (v : AV) (l : List (Nat × AV)) : zc4 t ((d, v) :: l) = zc4 t l := by
 rw [zc4]
 cases hb : Nat.beq d t with
 | true => exact absurd (Nat.eq_of_beq_eq_true hb) h
 | false => rfl
def Lk (base : List (Nat × AV)) (dv : Nat → Option (Nat × AV)) (D : List Nat) (l : List (Nat × AV)) : Prop :=
 (∀ t v, (t, v) ∈ base → zc4 t l = some v) ∧ ∀ j d v, dv j = some (d, v) → j ∈ D → zc4 d l = some v
theorem Lk.add {base : List (Nat × AV)} {dv dv' : Nat → Option (Nat × AV)} {D : List Nat} {l : List (Nat × AV)} {i d : Nat} {v : AV} (h : Lk base dv D l) (hi : dv' i = some (d, v)) (hb : ∀ t v, (t, v) ∈ base → d ≠ t) (hs : ∀ j, j ∈ D → j ≠ i → dv' j = dv j) (hd : ∀ j e w, j ≠ i → dv' j = some (e, w) → d ≠ e) (hni : i ∉ D) :
  Lk base dv' (i :: D) ((d, v) :: l) := by
 refine ⟨fun t w ht => by rw [ziv (hb t w ht)]; exact h.1 t w ht, fun j e w hj hm => ?_⟩
 by_cases hji : j = i
 ·subst hji
  rw [hi] at hj
  injection hj with hj
  injection hj with h1 h2
  subst h1 h2
  exact zse ..
 ·rw [ziv (hd j e w hji hj)]
  have hm2 : j ∈ D := (List.mem_cons.1 hm).resolve_left hji
  exact h.2 j e w (by rw [← hs j hm2 hji]; exact hj) hm2
end Go.Proofs.Ytoagikifehmlpaa
