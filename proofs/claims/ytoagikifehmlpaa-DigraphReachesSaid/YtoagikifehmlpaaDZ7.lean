/-
  DigraphReaches: the claim.
-/
import Derived.Test.YtoagikifehmlpaaDG3
import Derived.Test.YtoagikifehmlpaaDHD
import Derived.JoinedCond
import Derived.JoinedOf
import Derived.Handed
namespace Go.Proofs.Ytoagikifehmlpaa.digraphReaches
open Go Go.Am Go.ChangeShapes Go.WideShapes Go.ChangeAt Go.RowKit Go.Deep
set_option maxRecDepth 100000 in
theorem contract (H : Type) (enc : TypeId × Value → H) (W : World) (base : Nat) (args : Array Value) (ds gs : List (DataW H)) (before : List MemPlace)
  (hval : ∀ (j : Nat) t v, Try.f7.params[j]? = some t → args[j]? = some v → Value.okWide Try.prog W .any base t v)
  (hW : DataW.Whole enc Try.prog Try.f7.params.toList Rows.digraphReachesSpec.vars false W args.toList ds gs before) :
  Calls Try.prog 7 args W fun e W' => ∃ v, e = .returned v ∧ Rows.digraphReachesSpec.post enc Try.prog Try.f7 false true false false W args v W' := by
 refine zkl (P := Try.prog) (fn := Try.f7) (s := Rows.digraphReachesSpec) (tb := 4) (hs := [aggA (zc1 [zjx .i64, zk4 (zc1 [zjx .i64, zjx .i64])]), oneA (zjx .i64)]) rfl (by kernel_rfl) Try.underlying4 solid (by rw [Try.params7]; decide +kernel) gok (fun j t ht => ?_) (show 2 = _ from (congrArg Array.size Try.params7).symm) (fun ds hd => ?_) hval hW fun ps hA => ?_
 ·rw [Try.params7] at ht
  match j, ht with
  | 0, ht => obtain rfl : 24 = t := Option.some.inj ht; exact ⟨_, rfl, argR_agg Try.underlying24 rdG⟩
  | 1, ht => obtain rfl : 3 = t := Option.some.inj ht; exact ⟨_, rfl, argR_one (by rw [Try.underlying3]; trivial) (by kernel_rfl) rdN⟩
  | j + 2, ht => simp at ht
 ·rw [Try.params7] at hd
  match ds, hd with
  | [d0, d1], _ => rfl
 ·rw [Try.params7] at hA
  obtain ⟨v0, vs0, d0, ds0, p0, q0, -, rfl, rfl, t0, r0⟩ := trodAll_cons hA
  obtain ⟨v1, vs1, d1, ds1, p1, q1, -, rfl, rfl, t1, r1⟩ := trodAll_cons r0
  obtain ⟨-, rfl, rfl⟩ := trodAll_nil r1
  obtain ⟨n0, t0⟩ := t0
  obtain ⟨da0, db0, ha0, hb0⟩ := shapeG t0
  have := law7 (zoq ((zbl d0).headD .nil)) (zq1 d0) (zoq d1)
  rw [cG_read ha0 hb0] at this
  exact this
set_option maxRecDepth 100000 in
theorem lifted (os : Os) (started : os.Started) (H : Type) (enc : TypeId × Value → H) :
  ReturnsInHanded {} Try.checked os 7 .any (Rows.digraphReachesSpec.pre6 enc Try.prog Try.f7 Rows.digraphReachesRow.domain false) (Rows.digraphReachesSpec.post enc Try.prog Try.f7 false true false false) :=
 returnsInHanded_of_change (C := Try.checked) own started (by kernel_rfl) Try.func7
  (ChangeSpec.witness6 (enc := enc) (C := Try.checked) (s := Rows.digraphReachesSpec) false ⟨#[], #[.agg #[.int .i64 0, .slice none 0 0], .int .i64 0], []⟩ 8 (by kernel_rfl) (by kernel_rfl) (by kernel_rfl) (by kernel_rfl) (by kernel_rfl))
  fun W base args ds gs before hval hW _ _ => contract H enc W base args ds gs before hval hW
theorem proved : Rows.DigraphReachesSaid :=
 OpenClaim.holds_of_wide 7 Try.f7 rfl rfl rfl rfl rfl rfl rfl ⟨rfl, rfl, rfl, rfl, rfl⟩ rfl rfl rfl rfl rfl (by kernel_rfl) Try.func7 (by kernel_rfl)
  (of_decide_eq_true (by kernel_rfl)) (by unfold Func.isWrapper; first | (rw [if_pos (by decide +kernel)]; kernel_rfl) | (rw [if_neg (by decide +kernel)]; exact ⟨rfl, rfl⟩))
  fun os started H enc _ => lifted os started H enc
end Go.Proofs.Ytoagikifehmlpaa.digraphReaches
