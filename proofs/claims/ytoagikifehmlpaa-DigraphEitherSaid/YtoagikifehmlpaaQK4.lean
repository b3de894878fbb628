/-
  THE REFERENCE's ORDER: Holds, ready, Sorted, Leads, Looped walked.
-/
import Derived.Test.YtoagikifehmlpaaQK3
namespace Go.Proofs.Ytoagikifehmlpaa
open Go Go.Am
theorem iL_mem {l : List Nat} {v : Nat} : ((v : Nat) : Int) ∈ iL l ↔ v ∈ l := by
 unfold iL
 rw [List.mem_map]
 constructor
 ·rintro ⟨w, hw, e⟩
  rw [← Int.ofNat_inj.1 e]
  exact hw
 ·intro h
  exact ⟨v, h, rfl⟩
theorem zmm (l : List Nat) (v : Nat) : (iL l).contains ((v : Nat) : Int) = l.contains v := by
 rw [Bool.eq_iff_iff, List.contains_iff_mem, List.contains_iff_mem, iL_mem]
end Go.Proofs.Ytoagikifehmlpaa
