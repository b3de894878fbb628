/-
  TopHomeCycle: the claim.
-/
import Derived.Test.YtoiblgbaeglgoaaJX10
import Derived.JoinedCond
import Derived.JoinedOf
import Derived.Handed
namespace Go.Proofs.Ytoiblgbaeglgoaa.topHomeCycle
open Go Go.Am Go.ChangeShapes Go.WideShapes Go.ChangeAt Go.RowKit Go.Deep
set_option maxRecDepth 100000 in
theorem contract (H : Type) (enc : TypeId × Value → H) (W : World) (base : Nat) (args : Array Value) (ds gs : List (DataW H)) (before : List MemPlace)
  (hval : ∀ (j : Nat) t v, Try.f14.params[j]? = some t → args[j]? = some v → Value.okWide Try.prog W .any base t v)
  (hW : DataW.Whole enc Try.prog Try.f14.params.toList Rows.topHomeCycleSpec.vars false W args.toList ds gs before) :
  Calls Try.prog 14 args W fun e W' => ∃ v, e = .returned v ∧ Rows.topHomeCycleSpec.post enc Try.prog Try.f14 false true false false W args v W' := by
 refine zq7 (P := Try.prog) (fn := Try.f14) (s := Rows.topHomeCycleSpec) (tb := 4) (hs := [aggA (zf8 [zhy fun d => cX (exD d)]), oneA (zhy cBool)]) rfl (by kernel_rfl) Try.underlying4 solid (by rw [Try.params14]; decide +kernel) gok (fun j t ht => ?_) (show 2 = _ from (congrArg Array.size Try.params14).symm) (fun ds hd => ?_) hval hW fun ps hA => ?_
 ·rw [Try.params14] at ht
  match j, ht with
  | 0, ht => obtain rfl : 24 = t := Option.some.inj ht; exact ⟨_, rfl, argR_agg Try.underlying24 rdG⟩
  | 1, ht => obtain rfl : 42 = t := Option.some.inj ht; exact ⟨_, rfl, argR_one (by rw [Try.underlying42]; trivial) (by kernel_rfl) rdB⟩
  | j + 2, ht => simp at ht
 ·rw [Try.params14] at hd
  match ds, hd with
  | [d0, d1], _ => rfl
 ·rw [Try.params14] at hA
  obtain ⟨v0, vs0, d0, ds0, p0, q0, -, rfl, rfl, t0, r0⟩ := trodAll_cons hA
  obtain ⟨v1, vs1, d1, ds1, p1, q1, -, rfl, rfl, t1, r1⟩ := trodAll_cons r0
  obtain ⟨-, rfl, rfl⟩ := trodAll_nil r1
  obtain ⟨n0, t0⟩ := t0
  obtain ⟨g0, h0⟩ := slimG t0
  have := law14 ((zee ((zdl d0).headD .nil)).map exD) (by rw [y09]; exact g0) (fun y hy => by obtain ⟨x, hx, rfl⟩ := y0o.1 hy; exact h0 x hx) ((zee d1).map boolD)
  simp only [zma, vsB, y1y] at this
  exact this
set_option maxRecDepth 100000 in
theorem lifted (os : Os) (started : os.Started) (H : Type) (enc : TypeId × Value → H) :
  ReturnsInHanded {} Try.checked os 14 .any (Rows.topHomeCycleSpec.pre6 enc Try.prog Try.f14 Rows.topHomeCycleRow.domain false) (Rows.topHomeCycleSpec.post enc Try.prog Try.f14 false true false false) :=
 returnsInHanded_of_change (C := Try.checked) own started (by kernel_rfl) Try.func14
  (ChangeSpec.witness6 (enc := enc) (C := Try.checked) (s := Rows.topHomeCycleSpec) false ⟨#[], #[.agg #[.slice none 0 0], .slice none 0 0], []⟩ 8 (by kernel_rfl) (by kernel_rfl) (by kernel_rfl) (by kernel_rfl) (by kernel_rfl))
  fun W base args ds gs before hval hW _ _ => contract H enc W base args ds gs before hval hW
theorem proved : Rows.TopHomeCycleSaid :=
 OpenClaim.holds_of_wide 14 Try.f14 rfl rfl rfl rfl rfl rfl rfl ⟨rfl, rfl, rfl, rfl, rfl⟩ rfl rfl rfl rfl rfl (by kernel_rfl) Try.func14 (by kernel_rfl)
  (of_decide_eq_true (by kernel_rfl)) (by unfold Func.isWrapper; first | (rw [if_pos (by decide +kernel)]; kernel_rfl) | (rw [if_neg (by decide +kernel)]; exact ⟨rfl, rfl⟩))
  fun os started H enc _ => lifted os started H enc
end Go.Proofs.Ytoiblgbaeglgoaa.topHomeCycle
