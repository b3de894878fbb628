/-
  TopPathsBounds: the claim.
-/
import Derived.Test.YtfbeableaihooaaLX5
import Derived.JoinedCond
import Derived.JoinedOf
import Derived.Handed
namespace Go.Proofs.Ytfbeableaihooaa.topPathsBounds
open Go Go.Am Go.ChangeShapes Go.WideShapes Go.ChangeAt Go.RowKit Go.Deep
set_option maxRecDepth 100000 in
theorem contract (H : Type) (enc : TypeId × Value → H) (W : World) (base : Nat) (args : Array Value) (ds gs : List (DataW H)) (before : List MemPlace)
  (hval : ∀ (j : Nat) t v, Try.f3.params[j]? = some t → args[j]? = some v → Value.okWide Try.prog W .any base t v)
  (hW : DataW.Whole enc Try.prog Try.f3.params.toList Rows.topPathsBoundsSpec.vars false W args.toList ds gs before) :
  Calls Try.prog 3 args W fun e W' => ∃ v, e = .returned v ∧ Rows.topPathsBoundsSpec.post enc Try.prog Try.f3 false true false false W args v W' := by
 refine zm6 (P := Try.prog) (fn := Try.f3) (s := Rows.topPathsBoundsSpec) (tb := 4) (hs := [aggA (zcm [zle .i64, zlo (zcm [zle .i64, zle .i64])]), oneA (zle .u8)]) rfl (by kernel_rfl) Try.underlying4 solid (by rw [Try.params3]; decide +kernel) gok (fun j t ht => ?_) (show 2 = _ from (congrArg Array.size Try.params3).symm) (fun ds hd => ?_) hval hW fun ps hA => ?_
 ·rw [Try.params3] at ht
  match j, ht with
  | 0, ht => obtain rfl : 24 = t := Option.some.inj ht; exact ⟨_, rfl, argR_agg Try.underlying24 rdG⟩
  | 1, ht => obtain rfl : 5 = t := Option.some.inj ht; exact ⟨_, rfl, argR_one (by rw [Try.underlying5]; trivial) (by kernel_rfl) (rd_int Try.underlying5 (by kernel_rfl))⟩
  | j + 2, ht => simp at ht
 ·rw [Try.params3] at hd
  match ds, hd with
  | [d0, d1], _ => rfl
 ·rw [Try.params3] at hA
  obtain ⟨v0, vs0, d0, ds0, p0, q0, -, rfl, rfl, t0, r0⟩ := trodAll_cons hA
  obtain ⟨v1, vs1, d1, ds1, p1, q1, -, rfl, rfl, t1, r1⟩ := trodAll_cons r0
  obtain ⟨-, rfl, rfl⟩ := trodAll_nil r1
  have rng : ∀ {v : Value} {d : DataW H} {p : List MemPlace}, DataW.Trod enc Try.prog W 0 (fun _ => true) true 5 v d p → 0 ≤ znr d ∧ znr d ≤ 255 := by
   intro v d p ⟨n, hn⟩
   obtain ⟨z, _, hx, hw⟩ := DataW.trod_int Try.underlying5 hn
   simp only [y05] at hx
   obtain ⟨rfl, _⟩ := hx
   simpa [Lit.wf, IntKind.min, IntKind.max, IntKind.signed, IntKind.bits, znr] using hw
  obtain ⟨n0, t0⟩ := t0
  obtain ⟨da0, db0, ha0, hb0⟩ := shapeG t0
  have := law3 (znr ((zc4 d0).headD .nil)) (zsn d0) (znr d1) (rng t1)
  rw [cG_read ha0 hb0] at this
  exact this
set_option maxRecDepth 100000 in
theorem lifted (os : Os) (started : os.Started) (H : Type) (enc : TypeId × Value → H) :
  ReturnsInHanded {} Try.checked os 3 .any (Rows.topPathsBoundsSpec.pre6 enc Try.prog Try.f3 Rows.topPathsBoundsRow.domain false) (Rows.topPathsBoundsSpec.post enc Try.prog Try.f3 false true false false) :=
 returnsInHanded_of_change (C := Try.checked) own started (by kernel_rfl) Try.func3
  (ChangeSpec.witness6 (enc := enc) (C := Try.checked) (s := Rows.topPathsBoundsSpec) false ⟨#[], #[.agg #[.int .i64 0, .slice none 0 0], .int .u8 0], []⟩ 8 (by kernel_rfl) (by kernel_rfl) (by kernel_rfl) (by kernel_rfl) (by kernel_rfl))
  fun W base args ds gs before hval hW _ _ => contract H enc W base args ds gs before hval hW
theorem proved : Rows.TopPathsBoundsSaid :=
 OpenClaim.holds_of_wide 3 Try.f3 rfl rfl rfl rfl rfl rfl rfl ⟨rfl, rfl, rfl, rfl, rfl⟩ rfl rfl rfl rfl rfl (by kernel_rfl) Try.func3 (by kernel_rfl)
  (of_decide_eq_true (by kernel_rfl)) (by unfold Func.isWrapper; first | (rw [if_pos (by decide +kernel)]; kernel_rfl) | (rw [if_neg (by decide +kernel)]; exact ⟨rfl, rfl⟩))
  fun os started H enc _ => lifted os started H enc
end Go.Proofs.Ytfbeableaihooaa.topPathsBounds
