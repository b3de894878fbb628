/-
  TopPathsLayers: the claim.
-/
import Derived.Test.YtfbeableaihooaaNX6
import Derived.JoinedCond
import Derived.JoinedOf
import Derived.Handed
namespace Go.Proofs.Ytfbeableaihooaa.topPathsLayers
open Go Go.Am Go.ChangeShapes Go.WideShapes Go.ChangeAt Go.RowKit Go.Deep
set_option maxRecDepth 100000 in
theorem contract (H : Type) (enc : TypeId × Value → H) (W : World) (base : Nat) (args : Array Value) (ds gs : List (DataW H)) (before : List MemPlace)
  (hval : ∀ (j : Nat) t v, Try.f5.params[j]? = some t → args[j]? = some v → Value.okWide Try.prog W .any base t v)
  (hW : DataW.Whole enc Try.prog Try.f5.params.toList Rows.topPathsLayersSpec.vars false W args.toList ds gs before) :
  Calls Try.prog 5 args W fun e W' => ∃ v, e = .returned v ∧ Rows.topPathsLayersSpec.post enc Try.prog Try.f5 false true false false W args v W' := by
 refine zmo (P := Try.prog) (fn := Try.f5) (s := Rows.topPathsLayersSpec) (tb := 4) (hs := [aggA (zct [zm3 .i64, zm4 (zct [zm3 .i64, zm3 .i64])])]) rfl (by kernel_rfl) Try.underlying4 solid (by rw [Try.params5]; decide +kernel) gok (fun j t ht => ?_) (show 1 = _ from (congrArg Array.size Try.params5).symm) (fun ds hd => ?_) hval hW fun ps hA => ?_
 ·rw [Try.params5] at ht
  match j, ht with
  | 0, ht => obtain rfl : 24 = t := Option.some.inj ht; exact ⟨_, rfl, argR_agg Try.underlying24 rdG⟩
  | j + 1, ht => simp at ht
 ·rw [Try.params5] at hd
  match ds, hd with
  | [d0], _ => rfl
 ·rw [Try.params5] at hA
  obtain ⟨v0, vs0, d0, ds0, p0, q0, -, rfl, rfl, t0, r0⟩ := trodAll_cons hA
  obtain ⟨-, rfl, rfl⟩ := trodAll_nil r0
  obtain ⟨n0, t0⟩ := t0
  obtain ⟨da0, db0, ha0, hb0⟩ := shapeG t0
  have := law5 (zuj ((zcd d0).headD .nil)) (ztl d0)
  rw [cG_read ha0 hb0] at this
  exact this
set_option maxRecDepth 100000 in
theorem lifted (os : Os) (started : os.Started) (H : Type) (enc : TypeId × Value → H) :
  ReturnsInHanded {} Try.checked os 5 .any (Rows.topPathsLayersSpec.pre6 enc Try.prog Try.f5 Rows.topPathsLayersRow.domain false) (Rows.topPathsLayersSpec.post enc Try.prog Try.f5 false true false false) :=
 returnsInHanded_of_change (C := Try.checked) own started (by kernel_rfl) Try.func5
  (ChangeSpec.witness6 (enc := enc) (C := Try.checked) (s := Rows.topPathsLayersSpec) false ⟨#[], #[.agg #[.int .i64 0, .slice none 0 0]], []⟩ 8 (by kernel_rfl) (by kernel_rfl) (by kernel_rfl) (by kernel_rfl) (by kernel_rfl))
  fun W base args ds gs before hval hW _ _ => contract H enc W base args ds gs before hval hW
theorem proved : Rows.TopPathsLayersSaid :=
 OpenClaim.holds_of_wide 5 Try.f5 rfl rfl rfl rfl rfl rfl rfl ⟨rfl, rfl, rfl, rfl, rfl⟩ rfl rfl rfl rfl rfl (by kernel_rfl) Try.func5 (by kernel_rfl)
  (of_decide_eq_true (by kernel_rfl)) (by unfold Func.isWrapper; first | (rw [if_pos (by decide +kernel)]; kernel_rfl) | (rw [if_neg (by decide +kernel)]; exact ⟨rfl, rfl⟩))
  fun os started H enc _ => lifted os started H enc
end Go.Proofs.Ytfbeableaihooaa.topPathsLayers
