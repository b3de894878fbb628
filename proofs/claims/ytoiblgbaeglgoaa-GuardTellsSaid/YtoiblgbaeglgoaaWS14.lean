/-
  THE CHOICES OF A STEP: the second loop of guard.Danger.
-/
import Derived.Test.YtoiblgbaeglgoaaWS13
namespace Go.Proofs.Ytoiblgbaeglgoaa
open Go Go.Am
section
variable {P : Program} {w0 : World} {N0 : Nat} {k : List Fr} {Q : Exit → AS → Prop} {n nx ck : Nat} {mk : List (Nat × Nat)} {md : Md} {l : List (Nat × AV)} {hp : List (Nat × Nat × AObj)}
theorem zeh {a : Arg} {id sp off : Nat} {cs ws : List AV} {v : AV} (h : zbb a l = some (.mptr id sp off)) (hl : Am.look id hp = some (sp, .cells cs)) (hid : id < nx) (hv : cs.drop off = v :: ws) : iop (st n l hp nx ck mk) (.load none a) = some (v, st n l hp nx ck mk) := by
 have hd : (st n l hp nx ck mk).deref (.mptr id sp off) = some (v :: ws) := by
  simp only [AS.deref, show (st n l hp nx ck mk).heap = hp from rfl, hl]
  rw [if_pos ⟨trivial, hid⟩, hv]
 simp only [iop, zay, h, hd]
end
structure Fit18 (m : Nat) (C : List (List Int)) (ks : List (Option Nat)) (E : List Bool) (r : List Sk) : Prop where
 hC : C.length = m
 hk : ks.length = m
 hE : E.length = m
 at' : ∀ s ∈ r, 0 ≤ s.a ∧ s.a < m ∧ (∃ e, C.getD s.a.toNat [] = [e]) ∧ ks.getD s.a.toNat none = some 1
 asc : ∃ z, zvi z r = 0
theorem Fit18.tail {m : Nat} {C : List (List Int)} {ks : List (Option Nat)} {E : List Bool} {s : Sk} {r : List Sk} (h : Fit18 m C ks E (s :: r)) (c : List Int) (o : Bool) : Fit18 m (C.set s.a.toNat c) (ks.set s.a.toNat none) (E.set s.a.toNat o) r := by
 obtain ⟨z, hz⟩ := h.asc
 have hr := zvj r _ (znu hz)
 obtain ⟨a0, a1, _⟩ := h.at' s (List.mem_cons_self ..)
 refine ⟨by rw [List.length_set]; exact h.hC, by rw [List.length_set]; exact h.hk, by rw [List.length_set]; exact h.hE, fun t ht => ?_, ⟨s.a, znu hz⟩⟩
 obtain ⟨b0, b1, b2, b3⟩ := h.at' t (List.mem_cons_of_mem _ ht)
 have hgt := hr t ht
 have hne : s.a.toNat ≠ t.a.toNat := by omega
 refine ⟨b0, b1, ?_, ?_⟩
 ·rw [List.getD_eq_getElem?_getD, List.getElem?_set_ne hne, ← List.getD_eq_getElem?_getD]; exact b2
 ·rw [List.getD_eq_getElem?_getD, List.getElem?_set_ne hne, ← List.getD_eq_getElem?_getD]; exact b3
section
variable {w0 : World} {N0 : Nat} {k : List Fr} {Q : Exit → AS → Prop}
theorem len1 {α : Type} {x : List α} (h : x.length = 1) : ∃ a0, x = [a0] := by
 match x, h with
 | [a0], _ => exact ⟨a0, rfl⟩
theorem len2 {α : Type} {x : List α} (h : x.length = 2) : ∃ a0 a1, x = [a0, a1] := by
 match x, h with
 | [a0, a1], _ => exact ⟨a0, a1, rfl⟩
end
end Go.Proofs.Ytoiblgbaeglgoaa
