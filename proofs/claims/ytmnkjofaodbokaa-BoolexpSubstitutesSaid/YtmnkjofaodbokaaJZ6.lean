/-
  BoolexpSubstitutes: the claim.
-/
import Derived.Test.YtmnkjofaodbokaaJX7
import Derived.JoinedCond
import Derived.JoinedOf
import Derived.Handed
namespace Go.Proofs.Ytmnkjofaodbokaa.boolexpSubstitutes
open Go Go.Am Go.ChangeShapes Go.WideShapes Go.ChangeAt Go.RowKit Go.Deep
set_option maxRecDepth 100000 in
theorem contract (H : Type) (enc : TypeId × Value → H) (W : World) (base : Nat) (args : Array Value) (ds gs : List (DataW H)) (before : List MemPlace)
  (hval : ∀ (j : Nat) t v, Try.f6.params[j]? = some t → args[j]? = some v → Value.okWide Try.prog W .any base t v)
  (hW : DataW.Whole enc Try.prog Try.f6.params.toList Rows.boolexpSubstitutesSpec.vars false W args.toList ds gs before) :
  Calls Try.prog 6 args W fun e W' => ∃ v, e = .returned v ∧ Rows.boolexpSubstitutesSpec.post enc Try.prog Try.f6 false true false false W args v W' := by
 refine zhu (P := Try.prog) (fn := Try.f6) (s := Rows.boolexpSubstitutesSpec) (tb := 4) (hs := [aggA (fun d => cX (exD d)), oneA (zg3 fun d => cX (exD d)), oneA (zg3 cBool)]) rfl (by kernel_rfl) Try.underlying4 solid (by rw [Try.params6]; decide +kernel) gok (fun j t ht => ?_) (show 3 = _ from (congrArg Array.size Try.params6).symm) (fun ds hd => ?_) hval hW fun ps hA => ?_
 ·rw [Try.params6] at ht
  match j, ht with
  | 0, ht => obtain rfl : 24 = t := Option.some.inj ht; exact ⟨_, rfl, zpn Try.underlying24 rdT⟩
  | 1, ht => obtain rfl : 22 = t := Option.some.inj ht; exact ⟨_, rfl, zhz (by rw [Try.underlying22]; trivial) (by kernel_rfl) rdE⟩
  | 2, ht => obtain rfl : 37 = t := Option.some.inj ht; exact ⟨_, rfl, zhz (by rw [Try.underlying37]; trivial) (by kernel_rfl) rdB⟩
  | j + 3, ht => simp at ht
 ·rw [Try.params6] at hd
  match ds, hd with
  | [d0, d1, d2], _ => rfl
 ·rw [Try.params6] at hA
  obtain ⟨v0, vs0, d0, ds0, p0, q0, -, rfl, rfl, t0, r0⟩ := trodAll_cons hA
  obtain ⟨v1, vs1, d1, ds1, p1, q1, -, rfl, rfl, t1, r1⟩ := trodAll_cons r0
  obtain ⟨v2, vs2, d2, ds2, p2, q2, -, rfl, rfl, t2, r2⟩ := trodAll_cons r1
  obtain ⟨-, rfl, rfl⟩ := trodAll_nil r2
  obtain ⟨n0, t0⟩ := t0
  have h0 := slimX t0
  obtain ⟨n1, t1⟩ := t1
  obtain ⟨g1, h1⟩ := slimE t1
  have := law6 (exD d0) h0 ((ze7 d1).map exD) (by rw [List.length_map]; exact g1) (fun y hy => by obtain ⟨x, hx, rfl⟩ := List.mem_map.1 hy; exact h1 x hx) ((ze7 d2).map boolD)
  simp only [vsB, List.map_map, zfd] at this
  exact this
set_option maxRecDepth 100000 in
theorem lifted (os : Os) (started : os.Started) (H : Type) (enc : TypeId × Value → H) :
  ReturnsInHanded {} Try.checked os 6 .any (Rows.boolexpSubstitutesSpec.pre6 enc Try.prog Try.f6 Rows.boolexpSubstitutesRow.domain false) (Rows.boolexpSubstitutesSpec.post enc Try.prog Try.f6 false true false false) :=
 returnsInHanded_of_change (C := Try.checked) own started (by kernel_rfl) Try.func6
  (ChangeSpec.witness6 (enc := enc) (C := Try.checked) (s := Rows.boolexpSubstitutesSpec) false ⟨#[], #[.agg #[.int .i64 0, .int .i64 0, .slice none 0 0], .slice none 0 0, .slice none 0 0], []⟩ 8 (by kernel_rfl) (by kernel_rfl) (by kernel_rfl) (by kernel_rfl) (by kernel_rfl))
  fun W base args ds gs before hval hW _ _ => contract H enc W base args ds gs before hval hW
theorem proved : Rows.BoolexpSubstitutesSaid :=
 OpenClaim.holds_of_wide 6 Try.f6 rfl rfl rfl rfl rfl rfl rfl ⟨rfl, rfl, rfl, rfl, rfl⟩ rfl rfl rfl rfl rfl (by kernel_rfl) Try.func6 (by kernel_rfl)
  (of_decide_eq_true (by kernel_rfl)) (by unfold Func.isWrapper; first | (rw [if_pos (by decide +kernel)]; kernel_rfl) | (rw [if_neg (by decide +kernel)]; exact ⟨rfl, rfl⟩))
  fun os started H enc _ => lifted os started H enc
end Go.Proofs.Ytmnkjofaodbokaa.boolexpSubstitutes
