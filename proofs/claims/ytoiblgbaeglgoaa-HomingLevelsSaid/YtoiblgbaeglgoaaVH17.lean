/-
  THE LAW OF HOMINGS: its walk.
-/
import Derived.Test.YtoiblgbaeglgoaaVH16
import Derived.Test.YtoiblgbaeglgoaaVT3d
namespace Go.Proofs.Ytoiblgbaeglgoaa
open Go Go.Am

theorem awake36' : PF Try.prog 36 [] (.bool true) := tab36_ok _ (List.mem_cons_self ..) _ (List.mem_cons_self ..)

theorem few_of' {l : List Ex} {n : Int} (h : fewH l n = true) (hg : guardC l n = 0) : n ≤ 4 := by
  obtain ⟨g1, g2, _⟩ := guardC_ok hg
  unfold fewH at h
  simp only [Bool.and_eq_true, Bool.or_eq_true, decide_eq_true_eq] at h
  omega

-- slices.Equal[[]pneumatic/api.Stroke,pneumatic/api.Stroke]
end Go.Proofs.Ytoiblgbaeglgoaa
