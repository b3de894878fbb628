/-
  P1, P2, P4, P5, P6 in one text.
-/
import Derived.Test.YtoiblgbaeglgoaaXCA
import Derived.Test.YtoiblgbaeglgoaaXCB
import Derived.Test.YtoiblgbaeglgoaaXQD
namespace Go.Proofs.Ytoiblgbaeglgoaa
open Go Go.Am
end Go.Proofs.Ytoiblgbaeglgoaa
namespace Go.Proofs.Ytoiblgbaeglgoaa
open Go Go.Am
theorem zjz (cs : List (List Int)) : ∀ p ∈ zdr cs, p.length = cs.length := by
 rw [← zuc]
 intro p hp
 have := zud cs [[]] 0 (fun p hp => by obtain rfl := List.mem_singleton.1 hp; rfl) p hp
 omega
theorem whichG {l : List Ex} (hsl : ∀ y ∈ l, Slim y) {n : Nat} (hg : zdd l n = 0) {p : List Int} (hp : p.length = n) : PF Try.prog 83 [.vs (cXs l), vsI p] (vsI (zgi l p)) := by
 obtain ⟨g1, g2, g3, g4⟩ := zob hg
 exact zwz l (by omega) p (by omega) (by omega) (fun y hy => by
  rw [zwq, hp]
  exact g4 y hy) hsl
end Go.Proofs.Ytoiblgbaeglgoaa
namespace Go.Proofs.Ytoiblgbaeglgoaa
open Go Go.Am
end Go.Proofs.Ytoiblgbaeglgoaa
namespace Go.Proofs.Ytoiblgbaeglgoaa
open Go Go.Am
end Go.Proofs.Ytoiblgbaeglgoaa
namespace Go.Proofs.Ytoiblgbaeglgoaa
open Go Go.Am
theorem zgn : ∀ l : List Bool, (l.map AV.bool) = (l.map fun b => ([.bool b] : List AV)).flatten
 | [] => rfl
 | b :: l => by simpa using zgn l
end Go.Proofs.Ytoiblgbaeglgoaa
