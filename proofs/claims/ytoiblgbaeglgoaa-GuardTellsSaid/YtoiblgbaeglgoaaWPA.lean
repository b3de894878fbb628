/-
  P1, P2, P4, P5, P6 in one text.
-/
import Derived.Test.YtoiblgbaeglgoaaWCA
import Derived.Test.YtoiblgbaeglgoaaWCB
import Derived.Test.YtoiblgbaeglgoaaWQD
namespace Go.Proofs.Ytoiblgbaeglgoaa
open Go Go.Am
end Go.Proofs.Ytoiblgbaeglgoaa
namespace Go.Proofs.Ytoiblgbaeglgoaa
open Go Go.Am
theorem zmv (cs : List (List Int)) : ∀ p ∈ ze0 cs, p.length = cs.length := by
 rw [← zmu]
 intro p hp
 have := ztb cs [[]] 0 (fun p hp => by obtain rfl := List.mem_singleton.1 hp; rfl) p hp
 omega
theorem ztg (cs : List (List Int)) (h : ∀ c ∈ cs, c.length ≤ 9) (hn : cs.length ≤ 6) : (ze0 cs).length ≤ 531441 := by
 rw [← zmu]
 have := zta cs [[]] 1 h (Nat.le_refl _)
 have := pow9 hn
 omega
theorem whichG {l : List Ex} (hsl : ∀ y ∈ l, Slim y) {n : Nat} (hg : zc5 l n = 0) {p : List Int} (hp : p.length = n) : PF Try.prog 83 [.vs (cXs l), vsI p] (vsI (zek l p)) := by
 obtain ⟨g1, g2, g3, g4⟩ := zjc hg
 exact zvx l (by omega) p (by omega) (by omega) (fun y hy => by
  rw [zvm, hp]
  exact g4 y hy) hsl
def zb3 (l : List Ex) (n : Nat) : List (List Int) := (ze0 (List.replicate n [0, 2])).filter fun p => (zek l p).isEmpty
def zm6 (l : List Ex) (n : Int) : AV := if zc5 l n = 0 then .tup [css (zb3 l n.toNat), .int .i64 0] else .tup [css [], .int .i64 (zc5 l n)]
theorem zmx (l : List Int) : ((((l.map fun z => ([.int .i64 z] : List AV)).length : Nat) : Int) == 0) = l.isEmpty := zn8 l
theorem zv4 (out : List (List Int)) (p : List Int) : zqu (out ++ [p]) = zqu out ++ [vsI p] := by
 unfold zqu
 rw [List.map_append]
 rfl
theorem view_row {S : AS} {d id sp : Nat} {cap : Option Nat} (out : List (List Int)) (hl : Am.look id S.heap = some (sp, .cells (zqu out))) : S.view (d + 1) (.ms id sp 1 0 out.length cap) = css out := by
 have hf : zqu out = ((zqu out).map fun v => ([v] : List AV)).flatten := by
  clear hl
  generalize zqu out = l
  induction l with
  | nil => rfl
  | cons b l ih => simpa using ih
 have hs : ∀ x ∈ (zqu out).map (fun v => ([v] : List AV)), x.length = 1 := fun x hx => by obtain ⟨v, _, rfl⟩ := List.mem_map.1 hx; rfl
 have e : S.elems 1 (.ms id sp 1 0 out.length cap) = some ((zqu out).map fun v => [v]) := by
  simp only [AS.elems, hl]
  have hlen : (zqu out).length = out.length := List.length_map ..
  rw [if_pos ⟨trivial, trivial, by omega⟩, List.drop_zero]
  conv => lhs; rw [hf]
  have := zhb hs
  rw [List.length_map, hlen] at this
  rw [this]
 simp only [AS.view, e]
 rw [css_row]
 congr 1
 rw [List.map_map]
 apply List.map_congr_left
 intro v hv
 obtain ⟨p, _, rfl⟩ := List.mem_map.1 hv
 cases d <;> rfl
end Go.Proofs.Ytoiblgbaeglgoaa
namespace Go.Proofs.Ytoiblgbaeglgoaa
open Go Go.Am
end Go.Proofs.Ytoiblgbaeglgoaa
namespace Go.Proofs.Ytoiblgbaeglgoaa
open Go Go.Am
end Go.Proofs.Ytoiblgbaeglgoaa
namespace Go.Proofs.Ytoiblgbaeglgoaa
open Go Go.Am
end Go.Proofs.Ytoiblgbaeglgoaa
