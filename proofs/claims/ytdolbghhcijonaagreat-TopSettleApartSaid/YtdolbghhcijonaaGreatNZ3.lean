/-
  TopSettleApart: the claim.
-/
import Derived.Test.YtdolbghhcijonaaGreatNX10
import Derived.JoinedCond
import Derived.JoinedOf
import Derived.Handed
namespace Go.Proofs.YtdolbghhcijonaaGreat.topSettleApart
open Go Go.Am Go.ChangeShapes Go.WideShapes Go.ChangeAt Go.RowKit Go.Deep
set_option maxRecDepth 100000 in
theorem contract (H : Type) (enc : TypeId × Value -> H) (W : World) (base : Nat) (args : Array Value) (ds gs : List (DataW H)) (before : List MemPlace)
  (hval : ∀ (j : Nat) t v, Tryz.f3.params[j]? = some t -> args[j]? = some v -> Value.okWide Tryz.prog W .any base t v)
  (hW : DataW.Whole enc Tryz.prog Tryz.f3.params.toList Rows.topSettleApartSpec.vars false W args.toList ds gs before) :
  Calls Tryz.prog 3 args W fun e W' => ∃ v, e = .returned v /\ Rows.topSettleApartSpec.post enc Tryz.prog Tryz.f3 false true false false W args v W' := by
 refine zoj (P := Tryz.prog) (fn := Tryz.f3) (s := Rows.topSettleApartSpec) (tb := 4) (hs := [aggA (zbj rCt), aggA (zbj rSt), oneA (zl3 .u8)]) rfl (by kernel_rfl) Tryz.underlying4 solid (by rw [Tryz.params3]; decide +kernel) gok (fun j t ht => ?_) (show 3 = _ from (congrArg Array.size Tryz.params3).symm) (fun ds hd => ?_) hval hW fun ps hA => ?_
 ·rw [Tryz.params3] at ht
  match j, ht with
  | 0, ht => obtain rfl : 26 = t := y2p ht; exact ⟨_, rfl, zqq Tryz.underlying26 rz26⟩
  | 1, ht => obtain rfl : 29 = t := y2p ht; exact ⟨_, rfl, zqq Tryz.underlying29 rz29⟩
  | 2, ht => obtain rfl : 5 = t := y2p ht; exact ⟨_, rfl, argR_one (by rw [Tryz.underlying5]; trivial) (by kernel_rfl) (zs2 Tryz.underlying5 (by kernel_rfl))⟩
  | j + 3, ht => simp at ht
 ·rw [Tryz.params3] at hd
  match ds, hd with
  | [d0, d1, d2], _ => rfl
 ·rw [Tryz.params3] at hA;obtain ⟨v0, vs0, d0, ds0, p0, q0, -, rfl, rfl, t0, r0⟩ := trodAll_cons hA;obtain ⟨v1, vs1, d1, ds1, p1, q1, -, rfl, rfl, t1, r1⟩ := trodAll_cons r0;obtain ⟨v2, vs2, d2, ds2, p2, q2, -, rfl, rfl, t2, r2⟩ := trodAll_cons r1;obtain ⟨-, rfl, rfl⟩ := trodAll_nil r2;have rng : ∀ {v : Value} {d : DataW H} {p : List MemPlace}, DataW.Trod enc Tryz.prog W 0 (fun _ => true) true 5 v d p -> 0 <= znt d /\ znt d <= 255 := by
   intro v d p ⟨n, hn⟩;obtain ⟨z, _, hx, hw⟩ := DataW.trod_int Tryz.underlying5 hn;simp only [y0b] at hx;obtain ⟨rfl, _⟩ := hx;simpa [Lit.wf, IntKind.min, IntKind.max, IntKind.signed, IntKind.bits, znt] using hw
  obtain ⟨n0, t0⟩ := t0;have := law3 (c := ctD d0) (rd_D t0) (s := stD d1) (u := znt d2) (rng t2);rw [cC_D, cS_D] at this;exact this
set_option maxRecDepth 100000 in
theorem lifted (os : Os) (started : os.Started) (H : Type) (enc : TypeId × Value -> H) :
  ReturnsInHanded {} Tryz.checked os 3 .any (Rows.topSettleApartSpec.pre6 enc Tryz.prog Tryz.f3 Rows.topSettleApartRow.domain false) (Rows.topSettleApartSpec.post enc Tryz.prog Tryz.f3 false true false false) :=
 returnsInHanded_of_change (C := Tryz.checked) own started (by kernel_rfl) Tryz.func3
  (ChangeSpec.witness6 (enc := enc) (C := Tryz.checked) (s := Rows.topSettleApartSpec) false ⟨#[], #[.agg #[.int .i64 0, .slice none 0 0, .slice none 0 0, .slice none 0 0, .slice none 0 0], .agg #[.slice none 0 0, .slice none 0 0, .slice none 0 0, .slice none 0 0, .slice none 0 0], .int .u8 0], []⟩ 8 (by kernel_rfl) (by kernel_rfl) (by kernel_rfl) (by kernel_rfl) (by kernel_rfl))
  fun W base args ds gs before hval hW _ _ => contract H enc W base args ds gs before hval hW
theorem proved : Rows.TopSettleApartSaid :=
 OpenClaim.holds_of_wide 3 Tryz.f3 rfl rfl rfl rfl rfl rfl rfl ⟨rfl, rfl, rfl, rfl, rfl⟩ rfl rfl rfl rfl rfl (by kernel_rfl) Tryz.func3 (by kernel_rfl)
  (of_decide_eq_true (by kernel_rfl)) (by unfold Func.isWrapper; first | (rw [if_pos (by decide +kernel)]; kernel_rfl) | (rw [if_neg (by decide +kernel)]; exact ⟨rfl, rfl⟩))
  fun os started H enc _ => lifted os started H enc
end Go.Proofs.YtdolbghhcijonaaGreat.topSettleApart
