/-
  WHAT NEEDS COMPARES: the plain law.
-/
import Derived.Test.YtknomkcdpcnmaaaEP5
namespace Go.Proofs.Ytknomkcdpcnmaaa
open Go Go.Am
theorem chk_sub {n : Int} {s t : List (BitVec 64)} (hc : ze8 n s = 0) (hl : t.length ≤ s.length) (hm : ∀ x ∈ t, x ∈ s) : ze8 n t = 0 := by
 obtain ⟨n0, n1, s1, hb⟩ := zf2 hc
 unfold ze8 zqv
 rw [if_neg (by omega), if_neg (by omega), if_neg (by omega), if_neg]
 rw [List.any_eq_true]
 rintro ⟨x, hx, h⟩
 rw [hb x (hm x hx)] at h
 cases h
end Go.Proofs.Ytknomkcdpcnmaaa
