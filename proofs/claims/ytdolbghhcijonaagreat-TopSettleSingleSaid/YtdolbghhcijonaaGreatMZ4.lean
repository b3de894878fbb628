/-
  TopSettleSingle: the claim.
-/
import Derived.Test.YtdolbghhcijonaaGreatMX11
import Derived.JoinedCond
import Derived.JoinedOf
import Derived.Handed
namespace Go.Proofs.YtdolbghhcijonaaGreat.topSettleSingle
open Go Go.Am Go.ChangeShapes Go.WideShapes Go.ChangeAt Go.RowKit Go.Deep
set_option maxRecDepth 100000 in
theorem contract (H : Type) (enc : TypeId × Value -> H) (W : World) (base : Nat) (args : Array Value) (ds gs : List (DataW H)) (before : List MemPlace)
  (hval : ∀ (j : Nat) t v, Tryz.f4.params[j]? = some t -> args[j]? = some v -> Value.okWide Tryz.prog W .any base t v)
  (hW : DataW.Whole enc Tryz.prog Tryz.f4.params.toList Rows.topSettleSingleSpec.vars false W args.toList ds gs before) :
  Calls Tryz.prog 4 args W fun e W' => ∃ v, e = .returned v /\ Rows.topSettleSingleSpec.post enc Tryz.prog Tryz.f4 false true false false W args v W' := by
 refine zp8 (P := Tryz.prog) (fn := Tryz.f4) (s := Rows.topSettleSingleSpec) (tb := 4) (hs := [aggA (zbk rCt), aggA (zbk rSt)]) rfl (by kernel_rfl) Tryz.underlying4 solid (by rw [Tryz.params4]; decide +kernel) gok (fun j t ht => ?_) (show 2 = _ from (congrArg Array.size Tryz.params4).symm) (fun ds hd => ?_) hval hW fun ps hA => ?_
 ·rw [Tryz.params4] at ht
  match j, ht with
  | 0, ht => obtain rfl : 26 = t := Option.some.inj ht; exact ⟨_, rfl, zr9 Tryz.underlying26 rz26⟩
  | 1, ht => obtain rfl : 29 = t := Option.some.inj ht; exact ⟨_, rfl, zr9 Tryz.underlying29 rz29⟩
  | j + 2, ht => simp at ht
 ·rw [Tryz.params4] at hd
  match ds, hd with
  | [d0, d1], _ => rfl
 ·rw [Tryz.params4] at hA;obtain ⟨v0, vs0, d0, ds0, p0, q0, -, rfl, rfl, t0, r0⟩ := trodAll_cons hA;obtain ⟨v1, vs1, d1, ds1, p1, q1, -, rfl, rfl, t1, r1⟩ := trodAll_cons r0;obtain ⟨-, rfl, rfl⟩ := trodAll_nil r1;obtain ⟨n0, t0⟩ := t0;have := law4 (c := ctD d0) (rd_D t0) (s := stD d1);rw [cC_D, cS_D] at this;exact this
set_option maxRecDepth 100000 in
theorem lifted (os : Os) (started : os.Started) (H : Type) (enc : TypeId × Value -> H) :
  ReturnsInHanded {} Tryz.checked os 4 .any (Rows.topSettleSingleSpec.pre6 enc Tryz.prog Tryz.f4 Rows.topSettleSingleRow.domain false) (Rows.topSettleSingleSpec.post enc Tryz.prog Tryz.f4 false true false false) :=
 returnsInHanded_of_change (C := Tryz.checked) own started (by kernel_rfl) Tryz.func4
  (ChangeSpec.witness6 (enc := enc) (C := Tryz.checked) (s := Rows.topSettleSingleSpec) false ⟨#[], #[.agg #[.int .i64 0, .slice none 0 0, .slice none 0 0, .slice none 0 0, .slice none 0 0], .agg #[.slice none 0 0, .slice none 0 0, .slice none 0 0, .slice none 0 0, .slice none 0 0]], []⟩ 8 (by kernel_rfl) (by kernel_rfl) (by kernel_rfl) (by kernel_rfl) (by kernel_rfl))
  fun W base args ds gs before hval hW _ _ => contract H enc W base args ds gs before hval hW
theorem proved : Rows.TopSettleSingleSaid :=
 OpenClaim.holds_of_wide 4 Tryz.f4 rfl rfl rfl rfl rfl rfl rfl ⟨rfl, rfl, rfl, rfl, rfl⟩ rfl rfl rfl rfl rfl (by kernel_rfl) Tryz.func4 (by kernel_rfl)
  (of_decide_eq_true (by kernel_rfl)) (by unfold Func.isWrapper; first | (rw [if_pos (by decide +kernel)]; kernel_rfl) | (rw [if_neg (by decide +kernel)]; exact ⟨rfl, rfl⟩))
  fun os started H enc _ => lifted os started H enc
end Go.Proofs.YtdolbghhcijonaaGreat.topSettleSingle
