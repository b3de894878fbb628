/-
  P1, P2, P4, P5, P6 in one text.
-/
import Derived.Test.YtoiblgbaeglgoaaYCA
import Derived.Test.YtoiblgbaeglgoaaYCB
import Derived.Test.YtoiblgbaeglgoaaYQD
namespace Go.Proofs.Ytoiblgbaeglgoaa
open Go Go.Am

end Go.Proofs.Ytoiblgbaeglgoaa
namespace Go.Proofs.Ytoiblgbaeglgoaa
open Go Go.Am

end Go.Proofs.Ytoiblgbaeglgoaa
namespace Go.Proofs.Ytoiblgbaeglgoaa
open Go Go.Am

end Go.Proofs.Ytoiblgbaeglgoaa
namespace Go.Proofs.Ytoiblgbaeglgoaa
open Go Go.Am

theorem lookL_or {f : FuncId} {args bs : List AV} {v u : AV} {l : List (FuncId × List AV × AV)} (he : bs = args → u = v) (h : lookL l f args = some v) : lookL ((f, bs, u) :: l) f args = some v := by
  unfold lookL
  by_cases hc : bs = args
  · rw [if_pos ⟨rfl, hc⟩, he hc]
  · rw [if_neg fun hh => hc hh.2]
    exact h

end Go.Proofs.Ytoiblgbaeglgoaa
namespace Go.Proofs.Ytoiblgbaeglgoaa
open Go Go.Am

theorem flat_bools : ∀ l : List Bool, (l.map AV.bool) = (l.map fun b => ([.bool b] : List AV)).flatten
  | [] => rfl
  | b :: l => by simpa using flat_bools l

end Go.Proofs.Ytoiblgbaeglgoaa
