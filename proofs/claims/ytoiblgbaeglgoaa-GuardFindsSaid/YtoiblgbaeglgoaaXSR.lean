/-
  READING A SEQUENCE.
-/
import Derived.Test.YtoiblgbaeglgoaaXS8
import Derived.Test.YtoiblgbaeglgoaaXBase
namespace Go.Proofs.Ytoiblgbaeglgoaa
open Go Go.Am Go.ChangeShapes Go.WideShapes Go.ChangeAt Go.RowKit Go.Deep
section
variable {H : Type} {enc : TypeId × Value → H} {w : World} {base : Nat} {spare : Nat → Bool} {held : Bool}
def skQ (d : DataW H) : Sk := ⟨intD ((zcm d).headD .nil), boolD ((zcm d).tail.headD .nil)⟩
def spQ (d : DataW H) : Sp := ⟨(zdq ((zcm d).headD .nil)).map skQ, intD ((zcm d).tail.headD .nil)⟩
theorem rqN : Rd enc Try.prog w base spare held 3 (zky .i64) := zw4 Try.underlying3 (by kernel_rfl)
theorem rqO : Rd enc Try.prog w base spare held 4 zl1 := rd_bool Try.underlying4 (by kernel_rfl)
theorem rqK : Rd enc Try.prog w base spare held 71 (zc1 [zky .i64, zl1]) := by
 refine zhz Try.underlying71 rfl (by kernel_rfl) fun i f g e1 e2 => ?_
 match i, e1, e2 with
 | 0, e1, e2 => injection e1 with e1; injection e2 with e2; subst e1 e2; exact rqN
 | 1, e1, e2 => injection e1 with e1; injection e2 with e2; subst e1 e2; exact rqO
 | i + 2, e1, e2 => simp at e1
theorem rqS : Rd enc Try.prog w base spare held 45 (ze9 (zc1 [zky .i64, zl1])) :=
 znj Try.underlying45 (by kernel_rfl) (by rw [show Try.prog.cellsOf 71 = 2 from by kernel_rfl]; decide) rqK
theorem rqP : Rd enc Try.prog w base spare held 47 (zc1 [ze9 (zc1 [zky .i64, zl1]), zky .i64]) := by
 refine zhz Try.underlying47 rfl (by kernel_rfl) fun i f g e1 e2 => ?_
 match i, e1, e2 with
 | 0, e1, e2 => injection e1 with e1; injection e2 with e2; subst e1 e2; exact rqS
 | 1, e1, e2 => injection e1 with e1; injection e2 with e2; subst e1 e2; exact rqN
 | i + 2, e1, e2 => simp at e1
theorem rqL : Rd enc Try.prog w base spare held 25 (ze9 (zc1 [ze9 (zc1 [zky .i64, zl1]), zky .i64])) :=
 znj Try.underlying25 (by kernel_rfl) (by rw [show Try.prog.cellsOf 47 = 2 from by kernel_rfl]; decide) rqP
theorem rqQ : Rd enc Try.prog w base spare held 27 (zc1 [zky .i64, ze9 (zc1 [ze9 (zc1 [zky .i64, zl1]), zky .i64])]) := by
 refine zhz Try.underlying27 rfl (by kernel_rfl) fun i f g e1 e2 => ?_
 match i, e1, e2 with
 | 0, e1, e2 => injection e1 with e1; injection e2 with e2; subst e1 e2; exact rqN
 | 1, e1, e2 => injection e1 with e1; injection e2 with e2; subst e1 e2; exact rqL
 | i + 2, e1, e2 => simp at e1
theorem cP_spQ (d : DataW H) : cP (spQ d) = zc1 [ze9 (zc1 [zky .i64, zl1]), zky .i64] d := by
 show [AV.vs (((zdq _).map skQ).map cS), _] = _
 rw [List.map_map]
 rfl
theorem cPs_spQ (l : List (DataW H)) : cPs (l.map spQ) = l.map fun d => zc1 [ze9 (zc1 [zky .i64, zl1]), zky .i64] d := by
 unfold cPs
 rw [List.map_map]
 exact List.map_congr_left fun d _ => cP_spQ d
theorem lenQ {n : Nat} {cs : List Value} {d : DataW H} {p : List MemPlace} (h : DataW.trod enc Try.prog w base spare held n 27 cs = some (d, p)) :
  (zdq ((zcm d).tail.headD .nil)).length < 9223372036854775808 := by
 obtain ⟨xs, n', _, hx, hlen, hxl, hall⟩ := DataW.trod_struct Try.underlying27 h
 simp only [Prod.mk.injEq] at hx
 obtain ⟨rfl, rfl⟩ := hx
 obtain ⟨x0, x1, rfl⟩ : ∃ a b, xs = [a, b] := by
  match xs, hxl with
  | [a, b], _ => exact ⟨a, b, rfl⟩
 have h2 := hall 1 _ rfl
 have h2' : _ = some x1 := h2
 show (zdq x1.1).length < _
 rcases Deep.open_slice Try.underlying25 h2' with ⟨_, hx⟩ | ⟨a, len, cap, m, n2, D, Pl, _, hb, hle, hm, hmm, hx, hel⟩
 ·subst hx
  show 0 < _; decide
 ·subst hx
  have hlm : len ≤ m := by rw [hmm]; split <;> omega
  show ((List.range len).map D).length < _
  rw [List.length_map, List.length_range]
  have : maxLen = 9223372036854775807 := rfl
  omega
end
end Go.Proofs.Ytoiblgbaeglgoaa
