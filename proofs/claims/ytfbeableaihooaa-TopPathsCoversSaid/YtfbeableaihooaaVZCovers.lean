/-
  TopPathsCovers: the claim.
-/
import Derived.Test.YtfbeableaihooaaVX6
import Derived.JoinedCond
import Derived.JoinedOf
import Derived.Handed
namespace Go.Proofs.Ytfbeableaihooaa.topPathsCovers
open Go Go.Am Go.ChangeShapes Go.WideShapes Go.ChangeAt Go.RowKit Go.Deep
set_option maxRecDepth 100000 in
theorem contract (H : Type) (enc : TypeId × Value → H) (W : World) (base : Nat) (args : Array Value) (ds gs : List (DataW H)) (before : List MemPlace)
  (hval : ∀ (j : Nat) t v, Try.f4.params[j]? = some t → args[j]? = some v → Value.okWide Try.prog W .any base t v)
  (hW : DataW.Whole enc Try.prog Try.f4.params.toList Rows.topPathsCoversSpec.vars false W args.toList ds gs before) :
  Calls Try.prog 4 args W fun e W' => ∃ v, e = .returned v ∧ Rows.topPathsCoversSpec.post enc Try.prog Try.f4 false true false false W args v W' := by
 refine znd (P := Try.prog) (fn := Try.f4) (s := Rows.topPathsCoversSpec) (tb := 4) (hs := [aggA (zcp [zmn .i64, zmo (zcp [zmn .i64, zmn .i64])])]) rfl (by kernel_rfl) Try.underlying4 solid (by rw [Try.params4]; decide +kernel) gok (fun j t ht => ?_) (show 1 = _ from (congrArg Array.size Try.params4).symm) (fun ds hd => ?_) hval hW fun ps hA => ?_
 ·rw [Try.params4] at ht
  match j, ht with
  | 0, ht => obtain rfl : 24 = t := y17 ht; exact ⟨_, rfl, argR_agg Try.underlying24 rdG⟩
  | j + 1, ht => simp at ht
 ·rw [Try.params4] at hd
  match ds, hd with
  | [d0], _ => rfl
 ·rw [Try.params4] at hA
  obtain ⟨v0, vs0, d0, ds0, p0, q0, -, rfl, rfl, t0, r0⟩ := trodAll_cons hA
  obtain ⟨-, rfl, rfl⟩ := trodAll_nil r0
  obtain ⟨n0, t0⟩ := t0
  obtain ⟨da0, db0, ha0, hb0⟩ := shapeG t0
  have := law4 (zve ((zcc d0).headD .nil)) (zub d0)
  rw [cG_read ha0 hb0] at this
  exact this
set_option maxRecDepth 100000 in
theorem lifted (os : Os) (started : os.Started) (H : Type) (enc : TypeId × Value → H) :
  ReturnsInHanded {} Try.checked os 4 .any (Rows.topPathsCoversSpec.pre6 enc Try.prog Try.f4 Rows.topPathsCoversRow.domain false) (Rows.topPathsCoversSpec.post enc Try.prog Try.f4 false true false false) :=
 returnsInHanded_of_change (C := Try.checked) own started (by kernel_rfl) Try.func4
  (ChangeSpec.witness6 (enc := enc) (C := Try.checked) (s := Rows.topPathsCoversSpec) false ⟨#[], #[.agg #[.int .i64 0, .slice none 0 0]], []⟩ 8 (by kernel_rfl) (by kernel_rfl) (by kernel_rfl) (by kernel_rfl) (by kernel_rfl))
  fun W base args ds gs before hval hW _ _ => contract H enc W base args ds gs before hval hW
theorem proved : Rows.TopPathsCoversSaid :=
 OpenClaim.holds_of_wide 4 Try.f4 rfl rfl rfl rfl rfl rfl rfl ⟨rfl, rfl, rfl, rfl, rfl⟩ rfl rfl rfl rfl rfl (by kernel_rfl) Try.func4 (by kernel_rfl)
  (of_decide_eq_true (by kernel_rfl)) (by unfold Func.isWrapper; first | (rw [if_pos (by decide +kernel)]; kernel_rfl) | (rw [if_neg (by decide +kernel)]; exact ⟨rfl, rfl⟩))
  fun os started H enc _ => lifted os started H enc
end Go.Proofs.Ytfbeableaihooaa.topPathsCovers
