/-
  BoolexpIgnores: the claim.
-/
import Derived.Test.YtmnkjofaodbokaaDX4
import Derived.JoinedCond
import Derived.JoinedOf
import Derived.Handed
namespace Go.Proofs.Ytmnkjofaodbokaa.boolexpIgnores
open Go Go.Am Go.ChangeShapes Go.WideShapes Go.ChangeAt Go.RowKit Go.Deep
set_option maxRecDepth 100000 in
theorem contract (H : Type) (enc : TypeId × Value → H) (W : World) (base : Nat) (args : Array Value) (ds gs : List (DataW H)) (before : List MemPlace)
  (hval : ∀ (j : Nat) t v, Try.f9.params[j]? = some t → args[j]? = some v → Value.okWide Try.prog W .any base t v)
  (hW : DataW.Whole enc Try.prog Try.f9.params.toList Rows.boolexpIgnoresSpec.vars false W args.toList ds gs before) :
  Calls Try.prog 9 args W fun e W' => ∃ v, e = .returned v ∧ Rows.boolexpIgnoresSpec.post enc Try.prog Try.f9 false true false false W args v W' := by
 refine zgm (P := Try.prog) (fn := Try.f9) (s := Rows.boolexpIgnoresSpec) (tb := 4) (hs := [aggA (fun d => cX (exD d)), oneA (zhb cBool), oneA (cInt .u8)]) rfl (by kernel_rfl) Try.underlying4 solid (by rw [Try.params9]; decide +kernel) gok (fun j t ht => ?_) (show 3 = _ from (congrArg Array.size Try.params9).symm) (fun ds hd => ?_) hval hW fun ps hA => ?_
 ·rw [Try.params9] at ht
  match j, ht with
  | 0, ht => obtain rfl : 24 = t := Option.some.inj ht; exact ⟨_, rfl, znu Try.underlying24 rdT⟩
  | 1, ht => obtain rfl : 37 = t := Option.some.inj ht; exact ⟨_, rfl, zjk (by rw [Try.underlying37]; trivial) (by kernel_rfl) rdB⟩
  | 2, ht => obtain rfl : 5 = t := Option.some.inj ht; exact ⟨_, rfl, zjk (by rw [Try.underlying5]; trivial) (by kernel_rfl) (zox Try.underlying5 (by kernel_rfl))⟩
  | j + 3, ht => simp at ht
 ·rw [Try.params9] at hd
  match ds, hd with
  | [d0, d1, d2], _ => rfl
 ·rw [Try.params9] at hA
  obtain ⟨v0, vs0, d0, ds0, p0, q0, -, rfl, rfl, t0, r0⟩ := trodAll_cons hA
  obtain ⟨v1, vs1, d1, ds1, p1, q1, -, rfl, rfl, t1, r1⟩ := trodAll_cons r0
  obtain ⟨v2, vs2, d2, ds2, p2, q2, -, rfl, rfl, t2, r2⟩ := trodAll_cons r1
  obtain ⟨-, rfl, rfl⟩ := trodAll_nil r2
  obtain ⟨n0, t0⟩ := t0
  have h0 := slimX t0
  have rng : ∀ {v : Value} {d : DataW H} {p : List MemPlace}, DataW.Trod enc Try.prog W 0 (fun _ => true) true 5 v d p → 0 ≤ intD d ∧ intD d ≤ 255 := by
   intro v d p ⟨n, hn⟩
   obtain ⟨z, _, hx, hw⟩ := DataW.trod_int Try.underlying5 hn
   simp only [Prod.mk.injEq] at hx
   obtain ⟨rfl, _⟩ := hx
   simpa [Lit.wf, IntKind.min, IntKind.max, IntKind.signed, IntKind.bits, intD] using hw
  have := law9 (exD d0) h0 ((zef d1).map boolD) (intD d2) (rng t2)
  simp only [vsB, List.map_map] at this
  exact this
set_option maxRecDepth 100000 in
theorem lifted (os : Os) (started : os.Started) (H : Type) (enc : TypeId × Value → H) :
  ReturnsInHanded {} Try.checked os 9 .any (Rows.boolexpIgnoresSpec.pre6 enc Try.prog Try.f9 Rows.boolexpIgnoresRow.domain false) (Rows.boolexpIgnoresSpec.post enc Try.prog Try.f9 false true false false) :=
 returnsInHanded_of_change (C := Try.checked) own started (by kernel_rfl) Try.func9
  (ChangeSpec.witness6 (enc := enc) (C := Try.checked) (s := Rows.boolexpIgnoresSpec) false ⟨#[], #[.agg #[.int .i64 0, .int .i64 0, .slice none 0 0], .slice none 0 0, .int .u8 0], []⟩ 8 (by kernel_rfl) (by kernel_rfl) (by kernel_rfl) (by kernel_rfl) (by kernel_rfl))
  fun W base args ds gs before hval hW _ _ => contract H enc W base args ds gs before hval hW
theorem proved : Rows.BoolexpIgnoresSaid :=
 OpenClaim.holds_of_wide 9 Try.f9 rfl rfl rfl rfl rfl rfl rfl ⟨rfl, rfl, rfl, rfl, rfl⟩ rfl rfl rfl rfl rfl (by kernel_rfl) Try.func9 (by kernel_rfl)
  (of_decide_eq_true (by kernel_rfl)) (by unfold Func.isWrapper; first | (rw [if_pos (by decide +kernel)]; kernel_rfl) | (rw [if_neg (by decide +kernel)]; exact ⟨rfl, rfl⟩))
  fun os started H enc _ => lifted os started H enc
end Go.Proofs.Ytmnkjofaodbokaa.boolexpIgnores
