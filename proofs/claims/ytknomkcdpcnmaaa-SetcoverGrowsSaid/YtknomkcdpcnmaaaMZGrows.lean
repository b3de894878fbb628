/-
  SetcoverGrows: the claim.
-/
import Derived.Test.YtknomkcdpcnmaaaML6
import Derived.Test.YtknomkcdpcnmaaaMHR
import Derived.JoinedCond
import Derived.JoinedOf
import Derived.Handed
namespace Go.Proofs.Ytknomkcdpcnmaaa.setcoverGrows
open Go Go.Am Go.ChangeShapes Go.WideShapes Go.ChangeAt Go.RowKit Go.Deep
set_option maxRecDepth 100000 in
theorem contract (H : Type) (enc : TypeId × Value → H) (W : World) (base : Nat) (args : Array Value) (ds gs : List (DataW H)) (before : List MemPlace)
  (hval : ∀ (j : Nat) t v, Try.f6.params[j]? = some t → args[j]? = some v → Value.okWide Try.prog W .any base t v)
  (hW : DataW.Whole enc Try.prog Try.f6.params.toList Rows.setcoverGrowsSpec.vars false W args.toList ds gs before) :
  Calls Try.prog 6 args W fun e W' => ∃ v, e = .returned v ∧ Rows.setcoverGrowsSpec.post enc Try.prog Try.f6 false true false false W args v W' := by
 refine zmx (P := Try.prog) (fn := Try.f6) (s := Rows.setcoverGrowsSpec) (tb := 4) (hs := [aggA (zft [zrm .i64, zmc (zrm .u64)]), oneA (zrm .u16)]) rfl (by kernel_rfl) Try.underlying4 solid (by rw [Try.params6]; decide +kernel) gok (fun j t ht => ?_) (show 2 = _ from (congrArg Array.size Try.params6).symm) (fun ds hd => ?_) hval hW fun ps hA => ?_
 ·rw [Try.params6] at ht
  match j, ht with
  | 0, ht => obtain rfl : 24 = t := Option.some.inj ht; exact ⟨_, rfl, argR_agg Try.underlying24 rdF⟩
  | 1, ht => obtain rfl : 48 = t := Option.some.inj ht; exact ⟨_, rfl, argR_one (by rw [Try.underlying48]; trivial) (by kernel_rfl) (zur Try.underlying48 (by kernel_rfl))⟩
  | j + 2, ht => simp at ht
 ·rw [Try.params6] at hd
  match ds, hd with
  | [d0, d1], _ => rfl
 ·rw [Try.params6] at hA
  obtain ⟨v0, vs0, d0, ds0, p0, q0, -, rfl, rfl, t0, r0⟩ := trodAll_cons hA
  obtain ⟨v1, vs1, d1, ds1, p1, q1, -, rfl, rfl, t1, r1⟩ := trodAll_cons r0
  obtain ⟨-, rfl, rfl⟩ := trodAll_nil r1
  have rng : ∀ {v : Value} {d : DataW H} {p : List MemPlace}, DataW.Trod enc Try.prog W 0 (fun _ => true) true 48 v d p → 0 ≤ zm3 d ∧ zm3 d ≤ 65535 := by
   intro v d p ⟨n, hn⟩
   obtain ⟨z, _, hx, hw⟩ := DataW.trod_int Try.underlying48 hn
   simp only [Prod.mk.injEq] at hx
   obtain ⟨rfl, _⟩ := hx
   simpa [Lit.wf, IntKind.min, IntKind.max, IntKind.signed, IntKind.bits, zm3] using hw
  obtain ⟨n0, t0⟩ := t0
  obtain ⟨da0, db0, ha0, hb0⟩ := rangeF t0
  have := law6 (zm3 ((zf1 d0).headD .nil)) (setsD d0) (zm3 d1) (rng t1)
  rw [cF_read ha0 hb0] at this
  exact this
set_option maxRecDepth 100000 in
theorem lifted (os : Os) (started : os.Started) (H : Type) (enc : TypeId × Value → H) :
  ReturnsInHanded {} Try.checked os 6 .any (Rows.setcoverGrowsSpec.pre6 enc Try.prog Try.f6 Rows.setcoverGrowsRow.domain false) (Rows.setcoverGrowsSpec.post enc Try.prog Try.f6 false true false false) :=
 returnsInHanded_of_change (C := Try.checked) own started (by kernel_rfl) Try.func6
  (ChangeSpec.witness6 (enc := enc) (C := Try.checked) (s := Rows.setcoverGrowsSpec) false ⟨#[], #[.agg #[.int .i64 0, .slice none 0 0], .int .u16 0], []⟩ 8 (by kernel_rfl) (by kernel_rfl) (by kernel_rfl) (by kernel_rfl) (by kernel_rfl))
  fun W base args ds gs before hval hW _ _ => contract H enc W base args ds gs before hval hW
theorem proved : Rows.SetcoverGrowsSaid :=
 OpenClaim.holds_of_wide 6 Try.f6 rfl rfl rfl rfl rfl rfl rfl ⟨rfl, rfl, rfl, rfl, rfl⟩ rfl rfl rfl rfl rfl (by kernel_rfl) Try.func6 (by kernel_rfl)
  (of_decide_eq_true (by kernel_rfl)) (by unfold Func.isWrapper; first | (rw [if_pos (by decide +kernel)]; kernel_rfl) | (rw [if_neg (by decide +kernel)]; exact ⟨rfl, rfl⟩))
  fun os started H enc _ => lifted os started H enc
end Go.Proofs.Ytknomkcdpcnmaaa.setcoverGrows
