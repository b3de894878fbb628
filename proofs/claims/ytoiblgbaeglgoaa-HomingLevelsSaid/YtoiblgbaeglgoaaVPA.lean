/-
  P1, P2, P4, P5, P6 in one text.
-/
import Derived.Test.YtoiblgbaeglgoaaVCA
import Derived.Test.YtoiblgbaeglgoaaVCB
import Derived.Test.YtoiblgbaeglgoaaVQD
namespace Go.Proofs.Ytoiblgbaeglgoaa
open Go Go.Am

end Go.Proofs.Ytoiblgbaeglgoaa
namespace Go.Proofs.Ytoiblgbaeglgoaa
open Go Go.Am

theorem trueG {l : List Ex} {n : Nat} (hg : guardC l n = 0) {p : List Int} (hp : p.length = n) : PF Try.prog 85 [.agg [.vs (cXs l)], vsI p] (vsI (trues l p)) := by
  obtain ⟨g1, g2, g3, g4⟩ := guardC_ok hg
  exact true55 l (by omega) p (by omega) (by omega) (fun y hy => by
    rw [sw_len2, hp]
    exact nds_of (g4 y hy))

end Go.Proofs.Ytoiblgbaeglgoaa
namespace Go.Proofs.Ytoiblgbaeglgoaa
open Go Go.Am

end Go.Proofs.Ytoiblgbaeglgoaa
namespace Go.Proofs.Ytoiblgbaeglgoaa
open Go Go.Am

theorem lookL_or {f : FuncId} {args bs : List AV} {v u : AV} {l : List (FuncId × List AV × AV)} (he : bs = args → u = v) (h : lookL l f args = some v) : lookL ((f, bs, u) :: l) f args = some v := by
  unfold lookL
  by_cases hc : bs = args
  · rw [if_pos ⟨rfl, hc⟩, he hc]
  · rw [if_neg fun hh => hc hh.2]
    exact h

end Go.Proofs.Ytoiblgbaeglgoaa
namespace Go.Proofs.Ytoiblgbaeglgoaa
open Go Go.Am

theorem flat_bools : ∀ l : List Bool, (l.map AV.bool) = (l.map fun b => ([.bool b] : List AV)).flatten
  | [] => rfl
  | b :: l => by simpa using flat_bools l

end Go.Proofs.Ytoiblgbaeglgoaa
