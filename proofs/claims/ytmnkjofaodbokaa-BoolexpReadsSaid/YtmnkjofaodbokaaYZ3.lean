/-
  BoolexpReads: the claim.
-/
import Derived.Test.YtmnkjofaodbokaaYX6
import Derived.JoinedCond
import Derived.JoinedOf
import Derived.Handed
namespace Go.Proofs.Ytmnkjofaodbokaa.boolexpReads
open Go Go.Am Go.ChangeShapes Go.WideShapes Go.ChangeAt Go.RowKit Go.Deep
set_option maxRecDepth 100000 in
theorem contract (H : Type) (enc : TypeId × Value → H) (W : World) (base : Nat) (args : Array Value) (ds gs : List (DataW H)) (before : List MemPlace)
  (hval : ∀ (j : Nat) t v, Try.f3.params[j]? = some t → args[j]? = some v → Value.okWide Try.prog W .any base t v)
  (hW : DataW.Whole enc Try.prog Try.f3.params.toList Rows.boolexpReadsSpec.vars false W args.toList ds gs before) :
  Calls Try.prog 3 args W fun e W' => ∃ v, e = .returned v ∧ Rows.boolexpReadsSpec.post enc Try.prog Try.f3 false true false false W args v W' := by
 refine zm8 (P := Try.prog) (fn := Try.f3) (s := Rows.boolexpReadsSpec) (tb := 4) (hs := [aggA (fun d => cX (exD d)), oneA (zi8 cStr)]) rfl (by kernel_rfl) Try.underlying4 solid (by rw [Try.params3]; decide +kernel) gok (fun j t ht => ?_) (show 2 = _ from (congrArg Array.size Try.params3).symm) (fun ds hd => ?_) hval hW fun ps hA => ?_
 ·rw [Try.params3] at ht
  match j, ht with
  | 0, ht => obtain rfl : 24 = t := Option.some.inj ht; exact ⟨_, rfl, argR_agg Try.underlying24 rdT⟩
  | 1, ht => obtain rfl : 25 = t := Option.some.inj ht; exact ⟨_, rfl, argR_one (by rw [Try.underlying25]; trivial) (by kernel_rfl) rdW⟩
  | j + 2, ht => simp at ht
 ·rw [Try.params3] at hd
  match ds, hd with
  | [d0, d1], _ => rfl
 ·rw [Try.params3] at hA
  obtain ⟨v0, vs0, d0, ds0, p0, q0, -, rfl, rfl, t0, r0⟩ := trodAll_cons hA
  obtain ⟨v1, vs1, d1, ds1, p1, q1, -, rfl, rfl, t1, r1⟩ := trodAll_cons r0
  obtain ⟨-, rfl, rfl⟩ := trodAll_nil r1
  obtain ⟨n0, t0⟩ := t0
  have h0 := slimX t0
  obtain ⟨n1, t1⟩ := t1
  have := law3 (exD d0) h0 ((zf0 d1).map strD) (by rw [List.length_map]; exact lenW t1)
  simp only [vsS, List.map_map] at this
  exact this
set_option maxRecDepth 100000 in
theorem lifted (os : Os) (started : os.Started) (H : Type) (enc : TypeId × Value → H) :
  ReturnsInHanded {} Try.checked os 3 .any (Rows.boolexpReadsSpec.pre6 enc Try.prog Try.f3 Rows.boolexpReadsRow.domain false) (Rows.boolexpReadsSpec.post enc Try.prog Try.f3 false true false false) :=
 returnsInHanded_of_change (C := Try.checked) own started (by kernel_rfl) Try.func3
  (ChangeSpec.witness6 (enc := enc) (C := Try.checked) (s := Rows.boolexpReadsSpec) false ⟨#[], #[.agg #[.int .i64 0, .int .i64 0, .slice none 0 0], .slice none 0 0], []⟩ 8 (by kernel_rfl) (by kernel_rfl) (by kernel_rfl) (by kernel_rfl) (by kernel_rfl))
  fun W base args ds gs before hval hW _ _ => contract H enc W base args ds gs before hval hW
theorem proved : Rows.BoolexpReadsSaid :=
 OpenClaim.holds_of_wide 3 Try.f3 rfl rfl rfl rfl rfl rfl rfl ⟨rfl, rfl, rfl, rfl, rfl⟩ rfl rfl rfl rfl rfl (by kernel_rfl) Try.func3 (by kernel_rfl)
  (of_decide_eq_true (by kernel_rfl)) (by unfold Func.isWrapper; first | (rw [if_pos (by decide +kernel)]; kernel_rfl) | (rw [if_neg (by decide +kernel)]; exact ⟨rfl, rfl⟩))
  fun os started H enc _ => lifted os started H enc
end Go.Proofs.Ytmnkjofaodbokaa.boolexpReads
