/-
  READING GUARDS: the argument of the law of checks.
-/
import Derived.Test.YtofkihmckookjaaT2
namespace Go.Proofs.Ytofkihmckookjaa
open Go Go.Am Go.ChangeShapes Go.WideShapes Go.ChangeAt Go.RowKit Go.Deep

section
variable {H : Type} {enc : TypeId × Value → H} {w : World} {base : Nat} {spare : Nat → Bool} {held : Bool}

theorem rdT : Rd enc Try.prog w base spare held 85 fun d => cX (exD d) :=
  rd_tree Try.underlying85 rfl Try.underlying3 (by kernel_rfl) Try.underlying22 (by kernel_rfl) (by rw [show Try.prog.cellsOf 85 = 3 from by kernel_rfl]; decide) (by kernel_rfl)

theorem rdG : Rd enc Try.prog w base spare held 24 (cStruct [cSlice fun d => cX (exD d)]) := by
  refine rd_struct Try.underlying24 rfl (by kernel_rfl) fun i f g e1 e2 => ?_
  match i, e1, e2 with
  | 0, e1, e2 => injection e1 with e1; injection e2 with e2; subst e1 e2; exact rd_slice Try.underlying22 (by kernel_rfl) (by rw [show Try.prog.cellsOf 85 = 3 from by kernel_rfl]; decide) rdT
  | i + 1, e1, e2 => simp at e1

theorem slimG {n : Nat} {cs : List Value} {d : DataW H} {p : List MemPlace} (h : DataW.trod enc Try.prog w base spare held n 24 cs = some (d, p)) :
    (elemsD ((fieldsD d).headD .nil)).length < 9223372036854775808 ∧ ∀ x ∈ elemsD ((fieldsD d).headD .nil), Slim (exD x) := by
  obtain ⟨xs, n', _, hx, hlen, hxl, hall⟩ := DataW.trod_struct Try.underlying24 h
  simp only [Prod.mk.injEq] at hx
  obtain ⟨rfl, rfl⟩ := hx
  obtain ⟨x0, rfl⟩ : ∃ a, xs = [a] := by
    match xs, hxl with
    | [a], _ => exact ⟨a, rfl⟩
  have h2 := hall 0 _ rfl
  have h2' : _ = some x0 := h2
  show (elemsD x0.1).length < _ ∧ ∀ x ∈ elemsD x0.1, Slim (exD x)
  rcases Deep.open_slice Try.underlying22 h2' with ⟨_, hx⟩ | ⟨a, len, cap, m, n2, D, Pl, _, hb, hle, hm, hmm, hx, hel⟩
  · subst hx
    exact ⟨by show 0 < _; decide, fun y hy => absurd hy List.not_mem_nil⟩
  · subst hx
    have hlm : len ≤ m := by rw [hmm]; split <;> omega
    refine ⟨?_, fun x hx => ?_⟩
    · show ((List.range len).map D).length < _
      rw [List.length_map, List.length_range]
      have : maxLen = 9223372036854775807 := rfl
      omega
    · have hx' : x ∈ (List.range len).map D := hx
      obtain ⟨i, hi, rfl⟩ := List.mem_map.1 hx'
      obtain ⟨cs', h1, h3⟩ := hel i (by have := List.mem_range.1 hi; omega)
      exact slim_tree Try.underlying85 rfl Try.underlying22 _ (D i) (Nat.le_refl _) _ _ _ h3

end

end Go.Proofs.Ytofkihmckookjaa
