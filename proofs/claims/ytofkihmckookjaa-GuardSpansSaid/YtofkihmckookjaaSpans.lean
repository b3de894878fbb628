/-
  GuardSpans: the spans of the two-hand signal begin with a press and end with a release, do not overlap, and with a wider window the first one does not begin later; for every list of events and all windows; the input reads as it did.
-/
import Derived.Test.YtofkihmckookjaaH11
import Derived.JoinedOf
import Derived.Handed
namespace Go.Proofs.Ytofkihmckookjaa.guardSpans
open Go Go.Am Go.ChangeShapes Go.WideShapes Go.ChangeAt Go.RowKit Go.Deep

def cE {H : Type} : DataW H → List AV := cStruct [cInt .i64, cBool, cBool]

def evOf {H : Type} (d : DataW H) : Ev := (intD ((fieldsD d).headD .nil), boolD ((fieldsD d).tail.headD .nil), boolD ((fieldsD d).tail.tail.headD .nil))

theorem rdE {H : Type} {enc : TypeId × Value → H} {w : World} {base : Nat} {spare : Nat → Bool} {held : Bool} : Rd enc Try.prog w base spare held 54 cE := by
  refine rd_struct Try.underlying54 rfl (by kernel_rfl) fun i f g e1 e2 => ?_
  match i, e1, e2 with
  | 0, e1, e2 => injection e1 with e1; injection e2 with e2; subst e1 e2; exact rd_int Try.underlying3 (by kernel_rfl)
  | 1, e1, e2 => injection e1 with e1; injection e2 with e2; subst e1 e2; exact rd_bool Try.underlying4 (by kernel_rfl)
  | 2, e1, e2 => injection e1 with e1; injection e2 with e2; subst e1 e2; exact rd_bool Try.underlying4 (by kernel_rfl)
  | i + 3, e1, e2 => simp at e1

theorem rdL {H : Type} {enc : TypeId × Value → H} {w : World} {base : Nat} {spare : Nat → Bool} {held : Bool} : Rd enc Try.prog w base spare held 40 (cSlice cE) :=
  rd_slice Try.underlying40 (by kernel_rfl) (by rw [show Try.prog.cellsOf 54 = 3 from by kernel_rfl]; decide) rdE

set_option maxRecDepth 100000 in
theorem contract (H : Type) (enc : TypeId × Value → H) (W : World) (base : Nat) (args : Array Value) (ds gs : List (DataW H)) (before : List MemPlace)
    (hval : ∀ (j : Nat) t v, Try.f5.params[j]? = some t → args[j]? = some v → Value.okWide Try.prog W .any base t v)
    (hW : DataW.Whole enc Try.prog Try.f5.params.toList Rows.guardSpansSpec.vars false W args.toList ds gs before) :
    Calls Try.prog 5 args W fun e W' => ∃ v, e = .returned v ∧ Rows.guardSpansSpec.post enc Try.prog Try.f5 false true false false W args v W' := by
  refine law_contract (P := Try.prog) (fn := Try.f5) (s := Rows.guardSpansSpec) (tb := 4) (hs := [oneA (cSlice cE), oneA (cInt .u16), oneA (cInt .u16)]) rfl (by kernel_rfl) Try.underlying4 solid (by rw [Try.params5]; decide +kernel) gok (fun j t ht => ?_) (show 3 = _ from (congrArg Array.size Try.params5).symm) (fun ds hd => ?_) hval hW fun ps hA => ?_
  · rw [Try.params5] at ht
    match j, ht with
    | 0, ht => obtain rfl : 40 = t := Option.some.inj ht; exact ⟨_, rfl, argR_one (by rw [Try.underlying40]; trivial) (by kernel_rfl) rdL⟩
    | 1, ht => obtain rfl : 51 = t := Option.some.inj ht; exact ⟨_, rfl, argR_one (by rw [Try.underlying51]; trivial) (by kernel_rfl) (rd_int Try.underlying51 (by kernel_rfl))⟩
    | 2, ht => obtain rfl : 51 = t := Option.some.inj ht; exact ⟨_, rfl, argR_one (by rw [Try.underlying51]; trivial) (by kernel_rfl) (rd_int Try.underlying51 (by kernel_rfl))⟩
    | j + 3, ht => simp at ht
  · rw [Try.params5] at hd
    match ds, hd with
    | [d0, d1, d2], _ => rfl
  · rw [Try.params5] at hA
    obtain ⟨v0, vs0, d0, ds0, p0, q0, -, rfl, rfl, t0, r0⟩ := trodAll_cons hA
    obtain ⟨v1, vs1, d1, ds1, p1, q1, -, rfl, rfl, t1, r1⟩ := trodAll_cons r0
    obtain ⟨v2, vs2, d2, ds2, p2, q2, -, rfl, rfl, t2, r2⟩ := trodAll_cons r1
    obtain ⟨-, rfl, rfl⟩ := trodAll_nil r2
    have rng : ∀ {v : Value} {d : DataW H} {p : List MemPlace}, DataW.Trod enc Try.prog W 0 (fun _ => true) true 51 v d p → 0 ≤ intD d ∧ intD d ≤ 65535 := by
      intro v d p ⟨n, hn⟩
      obtain ⟨z, _, hx, hw⟩ := DataW.trod_int Try.underlying51 hn
      simp only [Prod.mk.injEq] at hx
      obtain ⟨rfl, _⟩ := hx
      simpa [Lit.wf, IntKind.min, IntKind.max, IntKind.signed, IntKind.bits, intD] using hw
    have := law5 ((elemsD d0).map evOf) (intD d1) (intD d2) (rng t1) (rng t2)
    rw [List.map_map] at this
    exact this

set_option maxRecDepth 100000 in
theorem lifted (os : Os) (started : os.Started) (H : Type) (enc : TypeId × Value → H) :
    ReturnsInHanded {} Try.checked os 5 .any (Rows.guardSpansSpec.pre6 enc Try.prog Try.f5 Rows.guardSpansRow.domain false) (Rows.guardSpansSpec.post enc Try.prog Try.f5 false true false false) :=
  returnsInHanded_of_change (C := Try.checked) own started (by kernel_rfl) Try.func5
    (ChangeSpec.witness6 (enc := enc) (C := Try.checked) (s := Rows.guardSpansSpec) false ⟨#[], #[.slice none 0 0, .int .u16 0, .int .u16 0], []⟩ 8 (by kernel_rfl) (by kernel_rfl) (by kernel_rfl) (by kernel_rfl) (by kernel_rfl))
    fun W base args ds gs before hval hW _ _ => contract H enc W base args ds gs before hval hW

theorem proved : Rows.GuardSpansSaid :=
  OpenClaim.holds_of_wide 5 Try.f5 rfl rfl rfl rfl rfl rfl rfl ⟨rfl, rfl, rfl, rfl, rfl⟩ rfl rfl rfl rfl rfl (by kernel_rfl) Try.func5 (by kernel_rfl)
    (of_decide_eq_true (by kernel_rfl)) (by unfold Func.isWrapper; first | (rw [if_pos (by decide +kernel)]; kernel_rfl) | (rw [if_neg (by decide +kernel)]; exact ⟨rfl, rfl⟩))
    fun os started H enc _ => lifted os started H enc

end Go.Proofs.Ytofkihmckookjaa.guardSpans
