/-
  C5, C6, TB, D1 in one text.
-/
import Derived.Test.YtoiblgbaeglgoaaXCA
import Derived.KernelRfl
import Derived.Test.YtoiblgbaeglgoaaXQD
import Derived.Test.YtoiblgbaeglgoaaXA9
namespace Go.Proofs.Ytoiblgbaeglgoaa
open Go Go.Am
def ext (out : List (List Int)) (c : List Int) : List (List Int) := out.flatMap fun p => c.map fun x => p ++ [x]
def cmb : List (List Int) → List (List Int) → List (List Int)
 | out, [] => out
 | out, c :: cs => cmb (ext out c) cs
theorem cmb_eq : ∀ (cs out : List (List Int)), cmb out cs = out.flatMap fun p => (zdr cs).map (p ++ ·)
 | [], out => by
  rw [cmb, zdr]
  induction out with
  | nil => rfl
  | cons p out ih =>
   rw [List.flatMap_cons, ← ih]
   simp
 | c :: cs, out => by
  rw [cmb, cmb_eq cs, ext, List.flatMap_assoc]
  congr 1
  funext p
  rw [zdr, List.flatMap_map, List.map_flatMap]
  congr 1
  funext x
  rw [List.map_map]
  apply List.map_congr_left
  intro l _
  simp
theorem zuc (cs : List (List Int)) : cmb [[]] cs = zdr cs := by
 rw [cmb_eq]
 simp
def zsu (out : List (List Int)) : List AV := out.map vsI
theorem zmk (out : List (List Int)) : css out = .vs ((zsu out).map fun v => [v]) := by
 unfold css zsu
 rw [List.map_map]
 rfl
theorem zge : ∀ out : List (List Int), hasM.hasML (zsu out) = false
 | [] => rfl
 | p :: out => by
  have := zge out
  show (hasM (vsI p) || hasM.hasML (zsu out)) = false
  rw [this]
  rfl
theorem zd7 (l : List Int) : (l.map (AV.int .i64)) = (l.map fun z => ([.int .i64 z] : List AV)).flatten := by
 induction l with
 | nil => rfl
 | cons z l ih => simpa using ih
section
variable {w0 : World} {N0 : Nat} {k : List Fr} {Q : Exit → AS → Prop}
end
end Go.Proofs.Ytoiblgbaeglgoaa
namespace Go.Proofs.Ytoiblgbaeglgoaa
open Go Go.Am
section
variable {w0 : World} {N0 : Nat} {k : List Fr} {Q : Exit → AS → Prop}
theorem ext_row {out : List (List Int)} {c : List Int} {m : Nat} (h : ∀ p ∈ out, p.length = m) : ∀ p ∈ ext out c, p.length = m + 1 := by
 intro p hp
 unfold ext at hp
 obtain ⟨q, hq, hp⟩ := List.mem_flatMap.1 hp
 obtain ⟨x, _, rfl⟩ := List.mem_map.1 hp
 rw [List.length_append, h q hq]
 rfl
theorem zud : ∀ (cs out : List (List Int)) (m : Nat), (∀ p ∈ out, p.length = m) → ∀ p ∈ cmb out cs, p.length = m + cs.length
 | [], out, m, h => by rw [cmb]; simpa using h
 | c :: cs, out, m, h => by
  intro p hp
  rw [cmb] at hp
  rw [zud cs _ (m + 1) (ext_row h) p hp, List.length_cons]
  omega
end
end Go.Proofs.Ytoiblgbaeglgoaa
namespace Go.Proofs.Ytoiblgbaeglgoaa
open Go Go.Am
end Go.Proofs.Ytoiblgbaeglgoaa
namespace Go.Proofs.Ytoiblgbaeglgoaa
open Go Go.Am
-- slices.Clone[[]pneumatic/api.Expr,pneumatic/api.Expr]
-- slices.Delete[[]pneumatic/api.Expr,pneumatic/api.Expr]
end Go.Proofs.Ytoiblgbaeglgoaa
