/-
  READING THE ARGUMENTS: graphs, numbers.
-/
import Derived.Test.YtoagikifehmlpaaQF1
import Derived.Test.YtoagikifehmlpaaQBase
namespace Go.Proofs.Ytoagikifehmlpaa
open Go Go.Am Go.ChangeShapes Go.WideShapes Go.ChangeAt Go.RowKit Go.Deep
section
variable {H : Type} {enc : TypeId × Value → H} {w : World} {base : Nat} {spare : Nat → Bool} {held : Bool}
theorem rdN : Rd enc Try.prog w base spare held 3 (zih .i64) := zt1 Try.underlying3 (by kernel_rfl)
theorem rdE : Rd enc Try.prog w base spare held 48 (zc1 [zih .i64, zih .i64]) := by
 refine zlr Try.underlying48 rfl (by kernel_rfl) fun i f g e1 e2 => ?_
 match i, e1, e2 with
 | 0, e1, e2 => injection e1 with e1; injection e2 with e2; subst e1 e2; exact rdN
 | 1, e1, e2 => injection e1 with e1; injection e2 with e2; subst e1 e2; exact rdN
 | i + 2, e1, e2 => simp at e1
theorem rdL : Rd enc Try.prog w base spare held 22 (zil (zc1 [zih .i64, zih .i64])) :=
 rd_slice Try.underlying22 (by kernel_rfl) (by rw [show Try.prog.cellsOf 48 = 2 from by kernel_rfl]; decide) rdE
theorem rdG : Rd enc Try.prog w base spare held 24 (zc1 [zih .i64, zil (zc1 [zih .i64, zih .i64])]) := by
 refine zlr Try.underlying24 rfl (by kernel_rfl) fun i f g e1 e2 => ?_
 match i, e1, e2 with
 | 0, e1, e2 => injection e1 with e1; injection e2 with e2; subst e1 e2; exact rdN
 | 1, e1, e2 => injection e1 with e1; injection e2 with e2; subst e1 e2; exact rdL
 | i + 2, e1, e2 => simp at e1
def zo4 (d : DataW H) : List (Int × Int) := (zio ((zbo d).tail.headD .nil)).map fun x => (zlf ((zbo x).headD .nil), zlf ((zbo x).tail.headD .nil))
theorem zpe {n : Nat} {cs : List Value} {d : DataW H} {p : List MemPlace} (h : DataW.trod enc Try.prog w base spare held n 48 cs = some (d, p)) : ∃ a b : DataW H, zbo d = [a, b] := by
 obtain ⟨xs, n', _, hx, hlen, hxl, hall⟩ := DataW.trod_struct Try.underlying48 h
 simp only [Prod.mk.injEq] at hx
 obtain ⟨rfl, rfl⟩ := hx
 obtain ⟨x0, x1, rfl⟩ : ∃ a b, xs = [a, b] := by
  match xs, hxl with
  | [a, b], _ => exact ⟨a, b, rfl⟩
 exact ⟨x0.1, x1.1, rfl⟩
theorem shapeG {n : Nat} {cs : List Value} {d : DataW H} {p : List MemPlace} (h : DataW.trod enc Try.prog w base spare held n 24 cs = some (d, p)) :
  ∃ d0 d1 : DataW H, zbo d = [d0, d1] ∧ ∀ x ∈ zio d1, ∃ a b : DataW H, zbo x = [a, b] := by
 obtain ⟨xs, n', _, hx, hlen, hxl, hall⟩ := DataW.trod_struct Try.underlying24 h
 simp only [Prod.mk.injEq] at hx
 obtain ⟨rfl, rfl⟩ := hx
 obtain ⟨x0, x1, rfl⟩ : ∃ a b, xs = [a, b] := by
  match xs, hxl with
  | [a, b], _ => exact ⟨a, b, rfl⟩
 have h2 := hall 1 _ rfl
 have h2' : _ = some x1 := h2
 refine ⟨x0.1, x1.1, rfl, ?_⟩
 rcases Deep.open_slice Try.underlying22 h2' with ⟨_, hx⟩ | ⟨a, len, cap, m, n2, D, Pl, _, hb, hle, hm, hmm, hx, hel⟩
 ·subst hx
  exact fun y hy => absurd hy List.not_mem_nil
 ·subst hx
  have hlm : len ≤ m := by rw [hmm]; split <;> omega
  intro x hx
  have hx' : x ∈ (List.range len).map D := hx
  obtain ⟨i, hi, rfl⟩ := List.mem_map.1 hx'
  obtain ⟨cs', h1, h3⟩ := hel i (by have := List.mem_range.1 hi; omega)
  exact zpe h3
theorem zqz {d d0 d1 : DataW H} (h : zbo d = [d0, d1]) (hr : ∀ x ∈ zio d1, ∃ a b : DataW H, zbo x = [a, b]) : cG (zlf ((zbo d).headD .nil)) (zo4 d) = aggA (zc1 [zih .i64, zil (zc1 [zih .i64, zih .i64])]) d := by
 unfold cG zo4 aggA zc1
 rw [h]
 show AV.agg [.int .i64 (zlf d0), .vs (cE ((zio d1).map fun x => (zlf ((zbo x).headD .nil), zlf ((zbo x).tail.headD .nil))))] = AV.agg [.int .i64 (zlf d0), .vs ((zio d1).map (zc1 [zih .i64, zih .i64]))]
 congr 3
 unfold cE
 rw [List.map_map]
 refine congrArg AV.vs (List.map_congr_left fun x hx => ?_)
 obtain ⟨a, b, e⟩ := hr x hx
 unfold zc1
 show [AV.int .i64 (zlf ((zbo x).headD .nil)), AV.int .i64 (zlf ((zbo x).tail.headD .nil))] = _
 rw [e]
 rfl
end
end Go.Proofs.Ytoagikifehmlpaa
