/-
  THE FIRST HOMING: homing.Find, and the reference's; the law of homings.
-/
import Derived.Test.YtoiblgbaeglgoaaYH14
import Derived.Test.YtoiblgbaeglgoaaYT3d
namespace Go.Proofs.Ytoiblgbaeglgoaa
open Go Go.Am

theorem lev_bound {l : List Ex} {n : Nat} {D : List Int} (h4 : n ≤ 4) (hD : LevW l n D) : ∀ z, z < 2 ^ n → -1 ≤ D.getD z 0 ∧ D.getD z 0 ≤ 100 := fun z hz => by
  have := pow4 h4
  have := hD.hi z hz
  exact ⟨hD.lo z hz, by omega⟩

theorem down_some {l : List Ex} {n : Nat} {D : List Int} (h1 : 1 ≤ n) (h4 : n ≤ 4) (hD : LevW l n D) {k : Nat} (hk : k < 2 ^ n) (h0 : 0 < D.getD k 0) : ∃ i, (mv l n k).find? (down n D k) = some i ∧ i ∈ mv l n k ∧ D.getD (nxt n k i) 0 = D.getD k 0 - 1 := by
  obtain ⟨y, hy, i, hi, e1, e2⟩ := hD.pred k hk h0
  have hb := mv_back h1 h4 hi
  have hn := nxt_nxt h1 h4 hy (mv_lt hi)
  rw [e1] at hb hn
  cases hf : (mv l n k).find? (down n D k) with
  | none =>
    have := List.find?_eq_none.1 hf i hb
    exact absurd (show down n D k i = true by unfold down; rw [hn]; exact beq_iff_eq.2 (by omega)) this
  | some j =>
    have hj := List.find?_some hf
    unfold down at hj
    exact ⟨j, rfl, List.mem_of_find?_eq_some hf, by simpa using hj⟩

end Go.Proofs.Ytoiblgbaeglgoaa
