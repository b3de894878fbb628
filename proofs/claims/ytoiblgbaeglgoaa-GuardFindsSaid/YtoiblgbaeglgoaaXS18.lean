/-
  THE LAW OF DANGERS: its walk; reading a sequence.
-/
import Derived.Test.YtoiblgbaeglgoaaXS17
import Derived.Test.YtoiblgbaeglgoaaXT2
import Derived.Test.YtoiblgbaeglgoaaXBase
namespace Go.Proofs.Ytoiblgbaeglgoaa
open Go Go.Am
theorem awake17 : PF Try.prog 17 [] (.bool true) := tabA_ok _ (List.mem_cons_self ..) _ (List.mem_cons_self ..)
theorem fewS_ok {l : List Sp} (h : fewS l = true) : l.length ≤ 128 ∧ ∀ p ∈ l, p.l.length ≤ 40 := by
 unfold fewS at h
 rw [Bool.and_eq_true, decide_eq_true_eq, List.all_eq_true] at h
 exact ⟨h.1, fun p hp => of_decide_eq_true (h.2 p hp)⟩
end Go.Proofs.Ytoiblgbaeglgoaa
