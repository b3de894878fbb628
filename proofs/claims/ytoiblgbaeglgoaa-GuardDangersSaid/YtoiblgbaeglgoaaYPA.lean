/-
  P1, P2, P4, P5, P6 in one text.
-/
import Derived.Test.YtoiblgbaeglgoaaYCA
import Derived.Test.YtoiblgbaeglgoaaYCB
import Derived.Test.YtoiblgbaeglgoaaYQD
namespace Go.Proofs.Ytoiblgbaeglgoaa
open Go Go.Am
end Go.Proofs.Ytoiblgbaeglgoaa
namespace Go.Proofs.Ytoiblgbaeglgoaa
open Go Go.Am
theorem zk4 (cs : List (List Int)) : ∀ p ∈ zet cs, p.length = cs.length := by
 rw [← zk3]
 intro p hp
 have := zpp cs [[]] 0 (fun p hp => by obtain rfl := List.mem_singleton.1 hp; rfl) p hp
 omega
theorem zuy (cs : List (List Int)) (h : ∀ c ∈ cs, c.length ≤ 9) (hn : cs.length ≤ 6) : (zet cs).length ≤ 531441 := by
 rw [← zk3]
 have := zmn cs [[]] 1 h (Nat.le_refl _)
 have := pow9 hn
 omega
theorem trueG {l : List Ex} {n : Nat} (hg : ze9 l n = 0) {p : List Int} (hp : p.length = n) : PF Try.prog 85 [.agg [.vs (cXs l)], vsI p] (vsI (zgs l p)) := by
 obtain ⟨g1, g2, g3, g4⟩ := zok hg
 exact true55 l (by omega) p (by omega) (by omega) (fun y hy => by
  rw [zx7, hp]
  exact nds_of (g4 y hy))
theorem whichG {l : List Ex} (hsl : ∀ y ∈ l, Slim y) {n : Nat} (hg : ze9 l n = 0) {p : List Int} (hp : p.length = n) : PF Try.prog 83 [.vs (cXs l), vsI p] (vsI (zgs l p)) := by
 obtain ⟨g1, g2, g3, g4⟩ := zok hg
 exact which53 l (by omega) p (by omega) (by omega) (fun y hy => by
  rw [zx7, hp]
  exact g4 y hy) hsl
theorem zkx (out : List (List Int)) (p : List Int) : zgd (out ++ [p]) = zgd out ++ [vsI p] := by
 unfold zgd
 rw [List.map_append]
 rfl
end Go.Proofs.Ytoiblgbaeglgoaa
namespace Go.Proofs.Ytoiblgbaeglgoaa
open Go Go.Am
end Go.Proofs.Ytoiblgbaeglgoaa
namespace Go.Proofs.Ytoiblgbaeglgoaa
open Go Go.Am
end Go.Proofs.Ytoiblgbaeglgoaa
namespace Go.Proofs.Ytoiblgbaeglgoaa
open Go Go.Am
theorem zgy : ∀ l : List Bool, (l.map AV.bool) = (l.map fun b => ([.bool b] : List AV)).flatten
 | [] => rfl
 | b :: l => by simpa using zgy l
end Go.Proofs.Ytoiblgbaeglgoaa
