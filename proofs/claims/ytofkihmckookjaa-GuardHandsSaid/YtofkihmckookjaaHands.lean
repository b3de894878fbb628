/-
  GuardHands: for every list of events and every window TwoHand returns the spans, or the error, of the reference; the input reads as it did.
-/
import Derived.Test.YtofkihmckookjaaH7
import Derived.JoinedOf
import Derived.Handed
namespace Go.Proofs.Ytofkihmckookjaa.guardHands
open Go Go.Am Go.ChangeShapes Go.WideShapes Go.ChangeAt Go.RowKit Go.Deep

def cE {H : Type} : DataW H → List AV := cStruct [cInt .i64, cBool, cBool]

def evOf {H : Type} (d : DataW H) : Ev := (intD ((fieldsD d).headD .nil), boolD ((fieldsD d).tail.headD .nil), boolD ((fieldsD d).tail.tail.headD .nil))

theorem rdE {H : Type} {enc : TypeId × Value → H} {w : World} {base : Nat} {spare : Nat → Bool} {held : Bool} : Rd enc Try.prog w base spare held 54 cE := by
  refine rd_struct Try.underlying54 rfl (by kernel_rfl) fun i f g e1 e2 => ?_
  match i, e1, e2 with
  | 0, e1, e2 => injection e1 with e1; injection e2 with e2; subst e1 e2; exact rd_int Try.underlying3 (by kernel_rfl)
  | 1, e1, e2 => injection e1 with e1; injection e2 with e2; subst e1 e2; exact rd_bool Try.underlying4 (by kernel_rfl)
  | 2, e1, e2 => injection e1 with e1; injection e2 with e2; subst e1 e2; exact rd_bool Try.underlying4 (by kernel_rfl)
  | i + 3, e1, e2 => simp at e1

theorem rdL {H : Type} {enc : TypeId × Value → H} {w : World} {base : Nat} {spare : Nat → Bool} {held : Bool} : Rd enc Try.prog w base spare held 40 (cSlice cE) :=
  rd_slice Try.underlying40 (by kernel_rfl) (by rw [show Try.prog.cellsOf 54 = 3 from by kernel_rfl]; decide) rdE

set_option maxRecDepth 100000 in
theorem contract (H : Type) (enc : TypeId × Value → H) (W : World) (base : Nat) (args : Array Value) (ds gs : List (DataW H)) (before : List MemPlace)
    (hval : ∀ (j : Nat) t v, Try.f4.params[j]? = some t → args[j]? = some v → Value.okWide Try.prog W .any base t v)
    (hW : DataW.Whole enc Try.prog Try.f4.params.toList Rows.guardHandsSpec.vars false W args.toList ds gs before) :
    Calls Try.prog 4 args W fun e W' => ∃ v, e = .returned v ∧ Rows.guardHandsSpec.post enc Try.prog Try.f4 false true false false W args v W' := by
  refine law_contract (P := Try.prog) (fn := Try.f4) (s := Rows.guardHandsSpec) (tb := 4) (hs := [oneA (cSlice cE), oneA (cInt .i64)]) rfl (by kernel_rfl) Try.underlying4 solid (by rw [Try.params4]; decide +kernel) gok (fun j t ht => ?_) (show 2 = _ from (congrArg Array.size Try.params4).symm) (fun ds hd => ?_) hval hW fun ps hA => ?_
  · rw [Try.params4] at ht
    match j, ht with
    | 0, ht => obtain rfl : 40 = t := Option.some.inj ht; exact ⟨_, rfl, argR_one (by rw [Try.underlying40]; trivial) (by kernel_rfl) rdL⟩
    | 1, ht => obtain rfl : 3 = t := Option.some.inj ht; exact ⟨_, rfl, argR_one (by rw [Try.underlying3]; trivial) (by kernel_rfl) (rd_int Try.underlying3 (by kernel_rfl))⟩
    | j + 2, ht => simp at ht
  · rw [Try.params4] at hd
    match ds, hd with
    | [d0, d1], _ => rfl
  · rw [Try.params4] at hA
    obtain ⟨v0, vs0, d0, ds0, p0, q0, -, rfl, rfl, t0, r0⟩ := trodAll_cons hA
    obtain ⟨v1, vs1, d1, ds1, p1, q1, -, rfl, rfl, t1, r1⟩ := trodAll_cons r0
    obtain ⟨-, rfl, rfl⟩ := trodAll_nil r1
    have := law4 ((elemsD d0).map evOf) (intD d1)
    rw [List.map_map] at this
    exact this

set_option maxRecDepth 100000 in
theorem lifted (os : Os) (started : os.Started) (H : Type) (enc : TypeId × Value → H) :
    ReturnsInHanded {} Try.checked os 4 .any (Rows.guardHandsSpec.pre6 enc Try.prog Try.f4 Rows.guardHandsRow.domain false) (Rows.guardHandsSpec.post enc Try.prog Try.f4 false true false false) :=
  returnsInHanded_of_change (C := Try.checked) own started (by kernel_rfl) Try.func4
    (ChangeSpec.witness6 (enc := enc) (C := Try.checked) (s := Rows.guardHandsSpec) false ⟨#[], #[.slice none 0 0, .int .i64 0], []⟩ 8 (by kernel_rfl) (by kernel_rfl) (by kernel_rfl) (by kernel_rfl) (by kernel_rfl))
    fun W base args ds gs before hval hW _ _ => contract H enc W base args ds gs before hval hW

theorem proved : Rows.GuardHandsSaid :=
  OpenClaim.holds_of_wide 4 Try.f4 rfl rfl rfl rfl rfl rfl rfl ⟨rfl, rfl, rfl, rfl, rfl⟩ rfl rfl rfl rfl rfl (by kernel_rfl) Try.func4 (by kernel_rfl)
    (of_decide_eq_true (by kernel_rfl)) (by unfold Func.isWrapper; first | (rw [if_pos (by decide +kernel)]; kernel_rfl) | (rw [if_neg (by decide +kernel)]; exact ⟨rfl, rfl⟩))
    fun os started H enc _ => lifted os started H enc

end Go.Proofs.Ytofkihmckookjaa.guardHands
