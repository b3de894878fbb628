/-
  C5, C6, TB, D1 in one text.
-/
import Derived.Test.YtoiblgbaeglgoaaWCA
import Derived.KernelRfl
import Derived.Test.YtoiblgbaeglgoaaWQD
import Derived.Test.YtoiblgbaeglgoaaWA9
namespace Go.Proofs.Ytoiblgbaeglgoaa
open Go Go.Am
def ext (out : List (List Int)) (c : List Int) : List (List Int) := out.flatMap fun p => c.map fun x => p ++ [x]
def cmb : List (List Int) → List (List Int) → List (List Int)
 | out, [] => out
 | out, c :: cs => cmb (ext out c) cs
theorem cmb_eq : ∀ (cs out : List (List Int)), cmb out cs = out.flatMap fun p => (ze0 cs).map (p ++ ·)
 | [], out => by
  rw [cmb, ze0]
  induction out with
  | nil => rfl
  | cons p out ih =>
   rw [List.flatMap_cons, ← ih]
   simp
 | c :: cs, out => by
  rw [cmb, cmb_eq cs, ext, List.flatMap_assoc]
  congr 1
  funext p
  rw [ze0, List.flatMap_map, List.map_flatMap]
  congr 1
  funext x
  rw [List.map_map]
  apply List.map_congr_left
  intro l _
  simp
theorem zmu (cs : List (List Int)) : cmb [[]] cs = ze0 cs := by
 rw [cmb_eq]
 simp
def zqu (out : List (List Int)) : List AV := out.map vsI
theorem css_row (out : List (List Int)) : css out = .vs ((zqu out).map fun v => [v]) := by
 unfold css zqu
 rw [List.map_map]
 rfl
theorem ext_len (out : List (List Int)) (c : List Int) : (ext out c).length = out.length * c.length := by
 unfold ext
 induction out with
 | nil => simp
 | cons p out ih => rw [List.flatMap_cons, List.length_append, List.length_map, ih, List.length_cons, Nat.succ_mul]; omega
theorem zgk (l : List Int) : (l.map (AV.int .i64)) = (l.map fun z => ([.int .i64 z] : List AV)).flatten := by
 induction l with
 | nil => rfl
 | cons z l ih => simpa using ih
section
variable {w0 : World} {N0 : Nat} {k : List Fr} {Q : Exit → AS → Prop}
end
end Go.Proofs.Ytoiblgbaeglgoaa
namespace Go.Proofs.Ytoiblgbaeglgoaa
open Go Go.Am
section
variable {w0 : World} {N0 : Nat} {k : List Fr} {Q : Exit → AS → Prop}
theorem zta : ∀ (cs out : List (List Int)) (m : Nat), (∀ c ∈ cs, c.length ≤ 9) → out.length ≤ m → (cmb out cs).length ≤ m * 9 ^ cs.length
 | [], out, m, _, h => by rw [cmb]; simpa using h
 | c :: cs, out, m, hc, h => by
  rw [cmb]
  have := zta cs (ext out c) (m * 9) (fun c h => hc c (List.mem_cons_of_mem _ h)) (by
   rw [ext_len]
   exact Nat.mul_le_mul h (hc c (List.mem_cons_self ..)))
  rw [List.length_cons, Nat.pow_succ, Nat.mul_comm (9 ^ cs.length) 9, ← Nat.mul_assoc]
  exact this
theorem ext_row {out : List (List Int)} {c : List Int} {m : Nat} (h : ∀ p ∈ out, p.length = m) : ∀ p ∈ ext out c, p.length = m + 1 := by
 intro p hp
 unfold ext at hp
 obtain ⟨q, hq, hp⟩ := List.mem_flatMap.1 hp
 obtain ⟨x, _, rfl⟩ := List.mem_map.1 hp
 rw [List.length_append, h q hq]
 rfl
theorem ztb : ∀ (cs out : List (List Int)) (m : Nat), (∀ p ∈ out, p.length = m) → ∀ p ∈ cmb out cs, p.length = m + cs.length
 | [], out, m, h => by rw [cmb]; simpa using h
 | c :: cs, out, m, h => by
  intro p hp
  rw [cmb] at hp
  rw [ztb cs _ (m + 1) (ext_row h) p hp, List.length_cons]
  omega
theorem pow9 {i : Nat} (h : i ≤ 6) : 9 ^ i ≤ 531441 := by
 have := Nat.pow_le_pow_right (show 0 < 9 by decide) h
 simpa using this
end
end Go.Proofs.Ytoiblgbaeglgoaa
namespace Go.Proofs.Ytoiblgbaeglgoaa
open Go Go.Am
def rowsR : List (List AV × AV) := [1, 2, 3, 4].map fun n => ([.vs [[vsI [0, 2]]], .int .i64 (n : Nat)], css (List.replicate n [0, 2]))
def rowsS : List (List AV × AV) := [1, 2, 3, 4].map fun n => ([.vs [[vsI [0, 1, 2]]], .int .i64 (n : Nat)], css (List.replicate n [0, 1, 2]))
def rowsQ : List (List AV × AV) := [1, 2, 3, 4].map fun n => ([vsI [0], .int .i64 (n : Nat)], vsI (List.replicate n 0))
def tabP : Tab := [(89, rowsR), (89, rowsS), (81, rowsQ)]
theorem tabP_ok : TabOk Try.prog tabP := TabOk.of_run (env0_ok.tab TabOk.nil (pure := [])) (n := 80) (by kernel_rfl)
theorem row_of {rows : Nat → List AV × AV} {n : Nat} (h1 : 1 ≤ n) (h4 : n ≤ 4) : rows n ∈ [1, 2, 3, 4].map rows := by
 rcases (show n = 1 ∨ n = 2 ∨ n = 3 ∨ n = 4 by omega) with rfl | rfl | rfl | rfl <;> simp
theorem rep64a {n : Nat} (h1 : 1 ≤ n) (h4 : n ≤ 4) : PF Try.prog 89 [.vs [[vsI [0, 2]]], .int .i64 (n : Nat)] (css (List.replicate n [0, 2])) :=
 tabP_ok (89, rowsR) (.head _) _ (row_of (rows := fun n => ([.vs [[vsI [0, 2]]], .int .i64 (n : Nat)], css (List.replicate n [0, 2]))) h1 h4)
end Go.Proofs.Ytoiblgbaeglgoaa
namespace Go.Proofs.Ytoiblgbaeglgoaa
open Go Go.Am
-- slices.Clone[[]pneumatic/api.Expr,pneumatic/api.Expr]
def ic26 : IC := .seq (.region [⟨(some 2), .mov (.c (.nils)), none⟩] none)
 (.seq (.seq (.region [⟨(some 3), .mov (.t 0), none⟩,
  ⟨(some 4), .nilq false (.t 3), none⟩] none)
 (.cond (.t 4) (.seq (.region [⟨(some 2), .mov (.c (.nils)), none⟩] none)
 (.ret))
 (.skip)))
 (.seq (.region [⟨(some 5), .bslice 3 0 [] [], none⟩,
  ⟨(some 6), .mov (.t 0), none⟩,
  ⟨(some 7), .append 3 40 [.int .i64 0, .int .i64 0, .nils] (.t 5) (.t 6), none⟩,
  ⟨(some 2), .mov (.t 7), none⟩] none)
 (.ret)))
theorem fn26 : env0.fn 26 = some ⟨8, ic26, [.t 2]⟩ := by kernel_rfl
theorem cX_all (x : Ex) : (cX x).all AV.isCell = true := by cases x; rfl
theorem cX_hasM (x : Ex) : hasM.hasML (cX x) = false := by cases x; rfl
theorem cXs_cell (l : List Ex) : (cXs l).flatten.all AV.isCell = true := zox fun x hx => by
 rw [zhz] at hx
 obtain ⟨y, _, rfl⟩ := List.mem_map.1 hx
 exact cX_all y
theorem cXs_hasM (l : List Ex) : hasM.hasML (cXs l).flatten = false := zkc fun x hx => by
 rw [zhz] at hx
 obtain ⟨y, _, rfl⟩ := List.mem_map.1 hx
 exact cX_hasM y
theorem zl5 (l : List Ex) : ∀ x ∈ cXs l, x.length = 3 := fun x hx => by
 rw [zhz] at hx
 obtain ⟨y, _, rfl⟩ := List.mem_map.1 hx
 exact zt7 y
-- slices.Delete[[]pneumatic/api.Expr,pneumatic/api.Expr]
end Go.Proofs.Ytoiblgbaeglgoaa
