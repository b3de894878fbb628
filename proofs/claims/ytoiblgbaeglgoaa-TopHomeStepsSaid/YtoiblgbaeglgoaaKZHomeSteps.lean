/-
  TopHomeSteps: the claim.
-/
import Derived.Test.YtoiblgbaeglgoaaKX10
import Derived.JoinedCond
import Derived.JoinedOf
import Derived.Handed
namespace Go.Proofs.Ytoiblgbaeglgoaa.topHomeSteps
open Go Go.Am Go.ChangeShapes Go.WideShapes Go.ChangeAt Go.RowKit Go.Deep
set_option maxRecDepth 100000 in
theorem contract (H : Type) (enc : TypeId × Value → H) (W : World) (base : Nat) (args : Array Value) (ds gs : List (DataW H)) (before : List MemPlace)
  (hval : ∀ (j : Nat) t v, Try.f13.params[j]? = some t → args[j]? = some v → Value.okWide Try.prog W .any base t v)
  (hW : DataW.Whole enc Try.prog Try.f13.params.toList Rows.topHomeStepsSpec.vars false W args.toList ds gs before) :
  Calls Try.prog 13 args W fun e W' => ∃ v, e = .returned v ∧ Rows.topHomeStepsSpec.post enc Try.prog Try.f13 false true false false W args v W' := by
 refine zqh (P := Try.prog) (fn := Try.f13) (s := Rows.topHomeStepsSpec) (tb := 4) (hs := [aggA (zc5 [ze9 fun d => cX (exD d)]), aggA (zc5 [zm5 .i64, ze9 (zc5 [ze9 (zc5 [zm5 .i64, zm8]), zm5 .i64])])]) rfl (by kernel_rfl) Try.underlying4 solid (by rw [Try.params13]; decide +kernel) gok (fun j t ht => ?_) (show 2 = _ from (congrArg Array.size Try.params13).symm) (fun ds hd => ?_) hval hW fun ps hA => ?_
 ·rw [Try.params13] at ht
  match j, ht with
  | 0, ht => obtain rfl : 24 = t := Option.some.inj ht; exact ⟨_, rfl, zte Try.underlying24 rdG⟩
  | 1, ht => obtain rfl : 27 = t := Option.some.inj ht; exact ⟨_, rfl, zte Try.underlying27 rqQ⟩
  | j + 2, ht => simp at ht
 ·rw [Try.params13] at hd
  match ds, hd with
  | [d0, d1], _ => rfl
 ·rw [Try.params13] at hA
  obtain ⟨v0, vs0, d0, ds0, p0, q0, -, rfl, rfl, t0, r0⟩ := trodAll_cons hA
  obtain ⟨v1, vs1, d1, ds1, p1, q1, -, rfl, rfl, t1, r1⟩ := trodAll_cons r0
  obtain ⟨-, rfl, rfl⟩ := trodAll_nil r1
  obtain ⟨n0, t0⟩ := t0
  obtain ⟨g0, h0⟩ := slimG t0
  obtain ⟨n1, t1⟩ := t1
  have h1 := lenQ t1
  have := law13 ((zdr ((zcm d0).headD .nil)).map exD) (by rw [y07]; exact g0) (fun y hy => by obtain ⟨x, hx, rfl⟩ := y0o.1 hy; exact h0 x hx) (intD ((zcm d1).headD .nil)) ((zdr ((zcm d1).tail.headD .nil)).map spQ) (by rw [y07]; exact h1)
  simp only [zmh, cQ, cPs_spQ, y1v] at this
  exact this
set_option maxRecDepth 100000 in
theorem lifted (os : Os) (started : os.Started) (H : Type) (enc : TypeId × Value → H) :
  ReturnsInHanded {} Try.checked os 13 .any (Rows.topHomeStepsSpec.pre6 enc Try.prog Try.f13 Rows.topHomeStepsRow.domain false) (Rows.topHomeStepsSpec.post enc Try.prog Try.f13 false true false false) :=
 returnsInHanded_of_change (C := Try.checked) own started (by kernel_rfl) Try.func13
  (ChangeSpec.witness6 (enc := enc) (C := Try.checked) (s := Rows.topHomeStepsSpec) false ⟨#[], #[.agg #[.slice none 0 0], .agg #[.int .i64 0, .slice none 0 0]], []⟩ 8 (by kernel_rfl) (by kernel_rfl) (by kernel_rfl) (by kernel_rfl) (by kernel_rfl))
  fun W base args ds gs before hval hW _ _ => contract H enc W base args ds gs before hval hW
theorem proved : Rows.TopHomeStepsSaid :=
 OpenClaim.holds_of_wide 13 Try.f13 rfl rfl rfl rfl rfl rfl rfl ⟨rfl, rfl, rfl, rfl, rfl⟩ rfl rfl rfl rfl rfl (by kernel_rfl) Try.func13 (by kernel_rfl)
  (of_decide_eq_true (by kernel_rfl)) (by unfold Func.isWrapper; first | (rw [if_pos (by decide +kernel)]; kernel_rfl) | (rw [if_neg (by decide +kernel)]; exact ⟨rfl, rfl⟩))
  fun os started H enc _ => lifted os started H enc
end Go.Proofs.Ytoiblgbaeglgoaa.topHomeSteps
