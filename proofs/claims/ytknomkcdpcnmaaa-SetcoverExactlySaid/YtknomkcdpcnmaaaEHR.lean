/-
  READING THE ARGUMENTS: families, lists of numbers.
-/
import Derived.Test.YtknomkcdpcnmaaaEU2
import Derived.Test.YtknomkcdpcnmaaaEBase
namespace Go.Proofs.Ytknomkcdpcnmaaa
open Go Go.Am Go.ChangeShapes Go.WideShapes Go.ChangeAt Go.RowKit Go.Deep
section
variable {H : Type} {enc : TypeId × Value → H} {w : World} {base : Nat} {spare : Nat → Bool} {held : Bool}
theorem rdN : Rd enc Try.prog w base spare held 3 (zta .i64) := rd_int Try.underlying3 (by kernel_rfl)
theorem rdU : Rd enc Try.prog w base spare held 46 (zta .u64) := rd_int Try.underlying46 (by kernel_rfl)
theorem rdS : Rd enc Try.prog w base spare held 22 (zmq (zta .u64)) :=
 rd_slice Try.underlying22 (by kernel_rfl) (by rw [show Try.prog.cellsOf 46 = 1 from by kernel_rfl]; decide) rdU
theorem rdF : Rd enc Try.prog w base spare held 24 (zg2 [zta .i64, zmq (zta .u64)]) := by
 refine zvf Try.underlying24 rfl (by kernel_rfl) fun i f g e1 e2 => ?_
 match i, e1, e2 with
 | 0, e1, e2 => injection e1 with e1; injection e2 with e2; subst e1 e2; exact rdN
 | 1, e1, e2 => injection e1 with e1; injection e2 with e2; subst e1 e2; exact rdS
 | i + 2, e1, e2 => simp at e1
def setsD (d : DataW H) : List (BitVec 64) := (zk3 ((zf4 d).tail.headD .nil)).map fun x => BitVec.ofInt 64 (zq5 x)
theorem rangeF {n : Nat} {cs : List Value} {d : DataW H} {p : List MemPlace} (h : DataW.trod enc Try.prog w base spare held n 24 cs = some (d, p)) :
  ∃ d0 d1 : DataW H, zf4 d = [d0, d1] ∧ ∀ x ∈ zk3 d1, 0 ≤ zq5 x ∧ zq5 x < 18446744073709551616 := by
 obtain ⟨xs, n', _, hx, hlen, hxl, hall⟩ := DataW.trod_struct Try.underlying24 h
 simp only [Prod.mk.injEq] at hx
 obtain ⟨rfl, rfl⟩ := hx
 obtain ⟨x0, x1, rfl⟩ : ∃ a b, xs = [a, b] := by
  match xs, hxl with
  | [a, b], _ => exact ⟨a, b, rfl⟩
 have h2 := hall 1 _ rfl
 have h2' : _ = some x1 := h2
 refine ⟨x0.1, x1.1, rfl, ?_⟩
 rcases Deep.open_slice Try.underlying22 h2' with ⟨_, hx⟩ | ⟨a, len, cap, m, n2, D, Pl, _, hb, hle, hm, hmm, hx, hel⟩
 ·subst hx
  exact fun y hy => absurd hy List.not_mem_nil
 ·subst hx
  have hlm : len ≤ m := by rw [hmm]; split <;> omega
  intro x hx
  have hx' : x ∈ (List.range len).map D := hx
  obtain ⟨i, hi, rfl⟩ := List.mem_map.1 hx'
  obtain ⟨cs', h1, h3⟩ := hel i (by have := List.mem_range.1 hi; omega)
  obtain ⟨z, _, hx, hw⟩ := DataW.trod_int Try.underlying46 h3
  simp only [Prod.mk.injEq] at hx
  rw [hx.1]
  simp [Lit.wf, IntKind.min, IntKind.max, IntKind.signed, IntKind.bits, zq5] at hw ⊢
  omega
theorem cF_read {d d0 d1 : DataW H} (h : zf4 d = [d0, d1]) (hr : ∀ x ∈ zk3 d1, 0 ≤ zq5 x ∧ zq5 x < 18446744073709551616) : cF (zq5 ((zf4 d).headD .nil)) (setsD d) = aggA (zg2 [zta .i64, zmq (zta .u64)]) d := by
 unfold cF setsD aggA zg2
 rw [h]
 show AV.agg [.int .i64 (zq5 d0), .vs (cUs ((zk3 d1).map fun x => BitVec.ofInt 64 (zq5 x)))] = AV.agg [.int .i64 (zq5 d0), .vs ((zk3 d1).map (zta .u64))]
 congr 3
 unfold cUs
 rw [List.map_map]
 refine congrArg AV.vs (List.map_congr_left fun x hx => ?_)
 obtain ⟨h0, h1⟩ := hr x hx
 show [AV.int .u64 ((BitVec.ofInt 64 (zq5 x)).toNat : Int)] = [AV.int .u64 (zq5 x)]
 rw [BitVec.toNat_ofInt]
 congr 2
 omega
end
end Go.Proofs.Ytknomkcdpcnmaaa
