/-
  THE REFERENCE's LEVELS: round by round.
-/
import Derived.Test.YtoiblgbaeglgoaaVH11
namespace Go.Proofs.Ytoiblgbaeglgoaa
open Go Go.Am

def tv (D : List Int) (r : Int) (z : Nat) : Int := if D.getD z 0 ≤ r then D.getD z 0 else -1

structure Mix (n : Nat) (D : List Int) (far k : Nat) (out : List Int) : Prop where
  len : out.length = 2 ^ n
  get : ∀ z, z < 2 ^ n → out.getD z 0 = if z < k then tv D (far + 1 : Nat) z else tv D far z

section
variable {l : List Ex} {n : Nat} (h1 : 1 ≤ n) (h4 : n ≤ 4) {D : List Int} (hD : LevW l n D) {far k : Nat} {out : List Int}
include h1 h4 hD

theorem mix_old (hk : k < 2 ^ n) (h : Mix n D far k out) (h0 : 0 ≤ out.getD k 0) : Mix n D far (k + 1) out := by
  have _ := h1
  have _ := h4
  have _ := hD
  refine ⟨h.len, fun z hz => ?_⟩
  rw [h.get z hz]
  by_cases e : z = k
  · subst e
    have e := h.get z hk
    rw [if_neg (Nat.lt_irrefl z)] at e ⊢
    rw [if_pos (Nat.lt_succ_self z)]
    rw [e] at h0
    unfold tv at h0 ⊢
    split at h0
    · rename_i hr
      rw [if_pos hr, if_pos (by omega)]
    · omega
  · by_cases e2 : z < k
    · rw [if_pos e2, if_pos (by omega)]
    · rw [if_neg e2, if_neg (by omega)]

theorem mix_none (hk : k < 2 ^ n) (h : Mix n D far k out) (hno : ∀ i ∈ mv l n k, D.getD (nxt n k i) 0 ≠ far) (hn : out.getD k 0 < 0) : Mix n D far (k + 1) out := by
  refine ⟨h.len, fun z hz => ?_⟩
  rw [h.get z hz]
  by_cases e : z = k
  · subst e
    have e := h.get z hk
    rw [if_neg (Nat.lt_irrefl z)] at e ⊢
    rw [if_pos (Nat.lt_succ_self z)]
    rw [e] at hn
    have hlo := hD.lo z hk
    unfold tv at hn ⊢
    split at hn
    · rename_i hr
      rw [if_pos hr, if_pos (by omega)]
    · rename_i hr
      rw [if_neg hr]
      split
      · rename_i hr2
        have hz1 : D.getD z 0 = (far : Int) + 1 := by omega
        obtain ⟨y, hy, i, hi, e1, e2⟩ := hD.pred z hk (by omega)
        have hb := mv_back h1 h4 hi
        have hyy := nxt_nxt h1 h4 hy (mv_lt hi)
        rw [e1] at hb hyy
        exact absurd (show D.getD (nxt n z i) 0 = (far : Int) by rw [hyy]; omega) (hno i hb)
      · rfl
  · by_cases e2 : z < k
    · rw [if_pos e2, if_pos (by omega)]
    · rw [if_neg e2, if_neg (by omega)]

theorem mix_nb {y : Nat} (hy : y < 2 ^ n) (h : Mix n D far k out) : out.getD y 0 = (far : Int) ↔ D.getD y 0 = (far : Int) := by
  have _ := h1
  have _ := h4
  have _ := hD
  rw [h.get y hy]
  have e : ∀ r : Int, (far : Int) ≤ r → (tv D r y = (far : Int) ↔ D.getD y 0 = (far : Int)) := fun r hr => by
    unfold tv
    split
    · rfl
    · constructor
      · intro h; omega
      · intro h; omega
  split
  · exact e _ (by omega)
  · exact e _ (Int.le_refl _)

theorem mix_new {i : Nat} (hk : k < 2 ^ n) (hi : i ∈ mv l n k) (h : Mix n D far k out) (hn : out.getD k 0 < 0) (hf : out.getD (nxt n k i) 0 = (far : Int)) : Mix n D far (k + 1) (out.set k ((far : Int) + 1)) := by
  have hkl : k < out.length := by rw [h.len]; exact hk
  have hy := nxt_lt (k := k) (i := i) h1 h4
  have hDf := (mix_nb h1 h4 hD hy h).1 hf
  have hst := hD.step _ hy (by omega) i (mv_back h1 h4 hi)
  rw [nxt_nxt h1 h4 hk (mv_lt hi)] at hst
  refine ⟨by rw [List.length_set]; exact h.len, fun z hz => ?_⟩
  rw [getD_set_int hkl]
  by_cases e : k = z
  · subst e
    have e := h.get k hk
    rw [if_neg (Nat.lt_irrefl k)] at e
    rw [if_pos rfl, if_pos (Nat.lt_succ_self k)]
    rw [e] at hn
    unfold tv at hn ⊢
    split at hn
    · omega
    · rw [if_pos (by omega)]
      omega
  · rw [if_neg e, h.get z hz]
    by_cases e2 : z < k
    · rw [if_pos e2, if_pos (by omega)]
    · rw [if_neg e2, if_neg (by omega)]

theorem mix_next (h : Mix n D far (2 ^ n) out) : Mix n D (far + 1) 0 out := by
  have _ := h1
  have _ := h4
  have _ := hD
  exact ⟨h.len, fun z hz => by rw [h.get z hz, if_pos hz, if_neg (Nat.not_lt_zero z)]⟩

theorem ext_getD {a b : List Int} (hl : a.length = b.length) (h : ∀ z, z < a.length → a.getD z 0 = b.getD z 0) : a = b := by
  have _ := h1
  have _ := h4
  have _ := hD
  refine List.ext_getElem hl fun z ha hb => ?_
  have := h z ha
  rw [List.getD_eq_getElem?_getD, List.getD_eq_getElem?_getD, List.getElem?_eq_getElem ha, List.getElem?_eq_getElem hb] at this
  exact this

theorem mix_end (h : Mix n D (2 ^ n) 0 out) : out = D :=
  ext_getD h1 h4 hD (by rw [h.len, hD.len]) fun z hz => by
    rw [h.len] at hz
    rw [h.get z hz, if_neg (Nat.not_lt_zero z)]
    unfold tv
    rw [if_pos (by have := hD.hi z hz; omega)]

end

section
variable {l : List Ex} {n : Nat} (h1 : 1 ≤ n) (h4 : n ≤ 4)
include h1 h4

theorem mix_free (hf : freeB l (posE (bitsE n 0)) = true) : Mix n (levL l n) 0 0 (out0 n) := by
  obtain ⟨hL, h0⟩ := lev_free h1 h4 hf
  have hN := Nat.two_pow_pos n
  refine ⟨by unfold out0; rw [List.length_set, List.length_replicate], fun z hz => ?_⟩
  rw [if_neg (Nat.not_lt_zero z)]
  unfold out0 tv
  rw [getD_set_int (by rw [List.length_replicate]; exact hN)]
  by_cases e : 0 = z
  · subst e
    rw [if_pos rfl, h0]
    rfl
  · rw [if_neg e, rep_get h1 h4 z hz]
    have hlo := hL.lo z hz
    split
    · have : (levL l n).getD z 0 ≠ 0 := fun h => e (hL.zer z hz h).symm
      omega
    · rfl

theorem mix_shut (hf : freeB l (posE (bitsE n 0)) = false) : Mix n (levL l n) 0 0 (List.replicate (2 ^ n) (-1)) := by
  have e : levL l n = List.replicate (2 ^ n) (-1) := by unfold levL; rw [hf]; rfl
  refine ⟨List.length_replicate .., fun z hz => ?_⟩
  rw [if_neg (Nat.not_lt_zero z), e]
  unfold tv
  rw [rep_get h1 h4 z hz]
  rfl

end

end Go.Proofs.Ytoiblgbaeglgoaa
