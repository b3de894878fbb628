/-
  LEVELS ARE A LEVELLING, AND HOMINGS ARE AS LONG AS THEY SAY: the plain law.
-/
import Derived.Test.YtoiblgbaeglgoaaYH22
import Derived.Test.YtoiblgbaeglgoaaYH20
import Derived.Test.YtoiblgbaeglgoaaYH6b
namespace Go.Proofs.Ytoiblgbaeglgoaa
open Go Go.Am

theorem mv_free {l : List Ex} {n k i : Nat} (h1 : 1 ≤ n) (h4 : n ≤ 4) (h : i ∈ mv l n k) : freeB l (posE (bitsE n (nxt n k i))) = true ∧ freeB l (wayE (bitsE n k) i) = true := by
  have := (List.mem_filter.1 h).2
  unfold mayB at this
  simp only [Bool.and_eq_true] at this
  rw [bits_nxt h1 h4]
  exact ⟨this.1.2, this.2⟩

theorem lev_prv (l : List Ex) {n : Nat} (h1 : 1 ≤ n) (h4 : n ≤ 4) {k : Nat} (hk : k < 2 ^ n) : Prv l n (levL l n) k := by
  have hD := lev_any (l := l) h1 h4
  have hlo := hD.lo k hk
  refine ⟨fun hf => ?_, fun hf => ⟨fun h => hD.zer k hk h, fun h => ?_⟩, fun _ i hi => ?_, fun _ => ?_⟩
  · by_cases h0 : (levL l n).getD k 0 < 0
    · omega
    exfalso
    by_cases hz : (levL l n).getD k 0 = 0
    · have hfh := lev_some (l := l) h1 h4 hk (by omega)
      rw [hD.zer k hk hz, hfh] at hf
      cases hf
    · obtain ⟨y, hy, i, hi, e1, _⟩ := hD.pred k hk (by omega)
      have := (mv_free h1 h4 hi).1
      rw [e1, hf] at this
      cases this
  · subst h
    exact (lev_free h1 h4 hf).2
  · have hy := nxt_lt (k := k) (i := i) h1 h4
    have hback := mv_back h1 h4 hi
    have hnn := nxt_nxt h1 h4 hk (mv_lt hi)
    have hlo2 := hD.lo _ hy
    by_cases h0 : 0 ≤ (levL l n).getD k 0
    · obtain ⟨a, b⟩ := hD.step k hk h0 i hi
      obtain ⟨_, d⟩ := hD.step _ hy a i hback
      rw [hnn] at d
      omega
    · have : (levL l n).getD (nxt n k i) 0 < 0 := by
        by_cases h2 : 0 ≤ (levL l n).getD (nxt n k i) 0
        · obtain ⟨c, _⟩ := hD.step _ hy h2 i hback
          rw [hnn] at c
          omega
        · omega
      omega
  · by_cases h0 : (levL l n).getD k 0 ≤ 0
    · exact .inl h0
    · obtain ⟨i, _, hi, e⟩ := down_some h1 h4 hD hk (by omega)
      exact .inr ⟨i, hi, e⟩

end Go.Proofs.Ytoiblgbaeglgoaa
