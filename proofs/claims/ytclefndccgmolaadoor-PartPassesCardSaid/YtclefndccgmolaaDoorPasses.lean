/-
  PASSES AND VENTS RETURN THE RESULTS OR ERRORS OF THE REFERENCE FOR ALL KINDS AND POSITIONS: 'PartPasses' returns true for every kind and position, and leaves its arguments as they were, where lexer.ranges holds what its initialiser lays.
-/
import Derived.Test.YtclefndccgmolaaDoorT3
import Derived.Test.YtclefndccgmolaaDoorBase
namespace Go.Proofs.YtclefndccgmolaaDoor.passes
open Go Go.Am Go.ChangeShapes Go.WideShapes Go.ChangeAt Go.RowKit

/-- One known case. -/
theorem known {a b : Int} {x y : AV} {W : World} (hG : GOk (fun _ => True) W) (h : findT tabPasses 3 [x, y] = some (.bool true)) (hx : VRel W (fun _ => True) none x (.int .i64 a)) (hy : VRel W (fun _ => True) none y (.int .i64 b)) :
    Calls Tryd.prog 3 #[.int .i64 a, .int .i64 b] W fun e w' => e = .returned (.bool true) ∧ Below W.heap.size W w' :=
  calls_true (findT_ok tabPasses_ok h) hG (crel2 hx hy)

theorem walk (a b : Int) (ha : -9223372036854775808 ≤ a ∧ a ≤ 9223372036854775807) (hb : -9223372036854775808 ≤ b ∧ b ≤ 9223372036854775807) (W : World) (hG : GOk (fun _ => True) W) :
    Calls Tryd.prog 3 #[.int .i64 a, .int .i64 b] W fun e w' => e = .returned (.bool true) ∧ Below W.heap.size W w' := by
  have hk : a < 0 ∨ 14 ≤ a ∨ a = 0 ∨ a = 1 ∨ a = 2 ∨ a = 3 ∨ a = 4 ∨ a = 5 ∨ a = 6 ∨ a = 7 ∨ a = 8 ∨ a = 9 ∨ a = 10 ∨ a = 11 ∨ a = 12 ∨ a = 13 := by omega
  rcases hk with hk | hk | rfl | rfl | rfl | rfl | rfl | rfl | rfl | rfl | rfl | rfl | rfl | rfl | rfl | rfl
  · exact known hG (x := .rng .i64 (-9223372036854775808) (-1)) (y := .top) (by kernel_rfl) (.rng (by omega) (by omega)) .top
  · exact known hG (x := .rng .i64 14 9223372036854775807) (y := .top) (by kernel_rfl) (.rng (by omega) (by omega)) .top
  · rcases (by omega : b < 0 ∨ b = 0 ∨ 1 ≤ b) with hp | rfl | hp
    · exact known hG (x := .int .i64 0) (y := .rng .i64 (-9223372036854775808) (-1)) (by kernel_rfl) .int (.rng (by omega) (by omega))
    · exact known hG (x := .int .i64 0) (y := .int .i64 0) (by kernel_rfl) .int .int
    · exact known hG (x := .int .i64 0) (y := .rng .i64 1 9223372036854775807) (by kernel_rfl) .int (.rng (by omega) (by omega))
  · rcases (by omega : b < 0 ∨ b = 0 ∨ 1 ≤ b) with hp | rfl | hp
    · exact known hG (x := .int .i64 1) (y := .rng .i64 (-9223372036854775808) (-1)) (by kernel_rfl) .int (.rng (by omega) (by omega))
    · exact known hG (x := .int .i64 1) (y := .int .i64 0) (by kernel_rfl) .int .int
    · exact known hG (x := .int .i64 1) (y := .rng .i64 1 9223372036854775807) (by kernel_rfl) .int (.rng (by omega) (by omega))
  · rcases (by omega : b < 0 ∨ b = 0 ∨ b = 1 ∨ 2 ≤ b) with hp | rfl | rfl | hp
    · exact known hG (x := .int .i64 2) (y := .rng .i64 (-9223372036854775808) (-1)) (by kernel_rfl) .int (.rng (by omega) (by omega))
    · exact known hG (x := .int .i64 2) (y := .int .i64 0) (by kernel_rfl) .int .int
    · exact known hG (x := .int .i64 2) (y := .int .i64 1) (by kernel_rfl) .int .int
    · exact known hG (x := .int .i64 2) (y := .rng .i64 2 9223372036854775807) (by kernel_rfl) .int (.rng (by omega) (by omega))
  · rcases (by omega : b < 0 ∨ b = 0 ∨ b = 1 ∨ 2 ≤ b) with hp | rfl | rfl | hp
    · exact known hG (x := .int .i64 3) (y := .rng .i64 (-9223372036854775808) (-1)) (by kernel_rfl) .int (.rng (by omega) (by omega))
    · exact known hG (x := .int .i64 3) (y := .int .i64 0) (by kernel_rfl) .int .int
    · exact known hG (x := .int .i64 3) (y := .int .i64 1) (by kernel_rfl) .int .int
    · exact known hG (x := .int .i64 3) (y := .rng .i64 2 9223372036854775807) (by kernel_rfl) .int (.rng (by omega) (by omega))
  · rcases (by omega : b < 0 ∨ b = 0 ∨ b = 1 ∨ 2 ≤ b) with hp | rfl | rfl | hp
    · exact known hG (x := .int .i64 4) (y := .rng .i64 (-9223372036854775808) (-1)) (by kernel_rfl) .int (.rng (by omega) (by omega))
    · exact known hG (x := .int .i64 4) (y := .int .i64 0) (by kernel_rfl) .int .int
    · exact known hG (x := .int .i64 4) (y := .int .i64 1) (by kernel_rfl) .int .int
    · exact known hG (x := .int .i64 4) (y := .rng .i64 2 9223372036854775807) (by kernel_rfl) .int (.rng (by omega) (by omega))
  · rcases (by omega : b < 0 ∨ b = 0 ∨ b = 1 ∨ 2 ≤ b) with hp | rfl | rfl | hp
    · exact known hG (x := .int .i64 5) (y := .rng .i64 (-9223372036854775808) (-1)) (by kernel_rfl) .int (.rng (by omega) (by omega))
    · exact known hG (x := .int .i64 5) (y := .int .i64 0) (by kernel_rfl) .int .int
    · exact known hG (x := .int .i64 5) (y := .int .i64 1) (by kernel_rfl) .int .int
    · exact known hG (x := .int .i64 5) (y := .rng .i64 2 9223372036854775807) (by kernel_rfl) .int (.rng (by omega) (by omega))
  · rcases (by omega : b < 0 ∨ b = 0 ∨ b = 1 ∨ 2 ≤ b) with hp | rfl | rfl | hp
    · exact known hG (x := .int .i64 6) (y := .rng .i64 (-9223372036854775808) (-1)) (by kernel_rfl) .int (.rng (by omega) (by omega))
    · exact known hG (x := .int .i64 6) (y := .int .i64 0) (by kernel_rfl) .int .int
    · exact known hG (x := .int .i64 6) (y := .int .i64 1) (by kernel_rfl) .int .int
    · exact known hG (x := .int .i64 6) (y := .rng .i64 2 9223372036854775807) (by kernel_rfl) .int (.rng (by omega) (by omega))
  · rcases (by omega : b < 0 ∨ b = 0 ∨ b = 1 ∨ 2 ≤ b) with hp | rfl | rfl | hp
    · exact known hG (x := .int .i64 7) (y := .rng .i64 (-9223372036854775808) (-1)) (by kernel_rfl) .int (.rng (by omega) (by omega))
    · exact known hG (x := .int .i64 7) (y := .int .i64 0) (by kernel_rfl) .int .int
    · exact known hG (x := .int .i64 7) (y := .int .i64 1) (by kernel_rfl) .int .int
    · exact known hG (x := .int .i64 7) (y := .rng .i64 2 9223372036854775807) (by kernel_rfl) .int (.rng (by omega) (by omega))
  · rcases (by omega : b < 0 ∨ b = 0 ∨ 1 ≤ b) with hp | rfl | hp
    · exact known hG (x := .int .i64 8) (y := .rng .i64 (-9223372036854775808) (-1)) (by kernel_rfl) .int (.rng (by omega) (by omega))
    · exact known hG (x := .int .i64 8) (y := .int .i64 0) (by kernel_rfl) .int .int
    · exact known hG (x := .int .i64 8) (y := .rng .i64 1 9223372036854775807) (by kernel_rfl) .int (.rng (by omega) (by omega))
  · rcases (by omega : b < 0 ∨ b = 0 ∨ 1 ≤ b) with hp | rfl | hp
    · exact known hG (x := .int .i64 9) (y := .rng .i64 (-9223372036854775808) (-1)) (by kernel_rfl) .int (.rng (by omega) (by omega))
    · exact known hG (x := .int .i64 9) (y := .int .i64 0) (by kernel_rfl) .int .int
    · exact known hG (x := .int .i64 9) (y := .rng .i64 1 9223372036854775807) (by kernel_rfl) .int (.rng (by omega) (by omega))
  · rcases (by omega : b < 0 ∨ b = 0 ∨ 1 ≤ b) with hp | rfl | hp
    · exact known hG (x := .int .i64 10) (y := .rng .i64 (-9223372036854775808) (-1)) (by kernel_rfl) .int (.rng (by omega) (by omega))
    · exact known hG (x := .int .i64 10) (y := .int .i64 0) (by kernel_rfl) .int .int
    · exact known hG (x := .int .i64 10) (y := .rng .i64 1 9223372036854775807) (by kernel_rfl) .int (.rng (by omega) (by omega))
  · rcases (by omega : b < 0 ∨ b = 0 ∨ 1 ≤ b) with hp | rfl | hp
    · exact known hG (x := .int .i64 11) (y := .rng .i64 (-9223372036854775808) (-1)) (by kernel_rfl) .int (.rng (by omega) (by omega))
    · exact known hG (x := .int .i64 11) (y := .int .i64 0) (by kernel_rfl) .int .int
    · exact known hG (x := .int .i64 11) (y := .rng .i64 1 9223372036854775807) (by kernel_rfl) .int (.rng (by omega) (by omega))
  · rcases (by omega : b < 0 ∨ b = 0 ∨ b = 1 ∨ 2 ≤ b) with hp | rfl | rfl | hp
    · exact known hG (x := .int .i64 12) (y := .rng .i64 (-9223372036854775808) (-1)) (by kernel_rfl) .int (.rng (by omega) (by omega))
    · exact known hG (x := .int .i64 12) (y := .int .i64 0) (by kernel_rfl) .int .int
    · exact known hG (x := .int .i64 12) (y := .int .i64 1) (by kernel_rfl) .int .int
    · exact known hG (x := .int .i64 12) (y := .rng .i64 2 9223372036854775807) (by kernel_rfl) .int (.rng (by omega) (by omega))
  · rcases (by omega : b < 0 ∨ b = 0 ∨ b = 1 ∨ 2 ≤ b) with hp | rfl | rfl | hp
    · exact known hG (x := .int .i64 13) (y := .rng .i64 (-9223372036854775808) (-1)) (by kernel_rfl) .int (.rng (by omega) (by omega))
    · exact known hG (x := .int .i64 13) (y := .int .i64 0) (by kernel_rfl) .int .int
    · exact known hG (x := .int .i64 13) (y := .int .i64 1) (by kernel_rfl) .int .int
    · exact known hG (x := .int .i64 13) (y := .rng .i64 2 9223372036854775807) (by kernel_rfl) .int (.rng (by omega) (by omega))

set_option maxRecDepth 100000 in
theorem contract (H : Type) (enc : TypeId × Value → H) (W : World) (base : Nat) (args : Array Value) (ds gs : List (DataW H)) (before : List MemPlace)
    (hval : ∀ (j : Nat) t v, Tryd.f3.params[j]? = some t → args[j]? = some v → Value.okWide Tryd.prog W .any base t v)
    (hW : DataW.Whole enc Tryd.prog Tryd.f3.params.toList Rows.partPassesSpec.vars false W args.toList ds gs before) (hL : laidMetH Tryd.prog Rows.partPassesRow.laid W) :
    Calls Tryd.prog 3 args W fun e W' => ∃ v, e = .returned v ∧ Rows.partPassesSpec.post enc Tryd.prog Tryd.f3 false true false false W args v W' := by
  have hW' := hW
  obtain ⟨p, q, hA0, hV, rfl, hfz, hnd⟩ := hW
  have hA : DataW.TrodAll enc Tryd.prog W 0 (fun _ => true) true Tryd.f3.params.toList args.toList ds p := hA0
  rw [Tryd.params3] at hA hval
  obtain ⟨v0, vs0, d0, ds0, p0, q0, hargs, rfl, rfl, h0, r0⟩ := trodAll_cons hA
  obtain ⟨v1, vs1, d1, ds1, p1, q1, rfl, rfl, rfl, h1, r1⟩ := trodAll_cons r0
  obtain ⟨rfl, rfl, rfl⟩ := trodAll_nil r1
  obtain rfl : args = #[v0, v1] := by cases args; simp_all
  obtain ⟨rfl, rfl⟩ := trodVars_none hV
  obtain ⟨a0, rfl, rfl, rfl, w0⟩ := open_int Tryd.underlying3 (hval 0 3 v0 rfl rfl) h0
  obtain ⟨a1, rfl, rfl, rfl, w1⟩ := open_int Tryd.underlying3 (hval 1 3 v1 rfl rfl) h1
  clear hA0
  simp only [List.append_nil] at hW'
  have hx : -9223372036854775808 ≤ a0 ∧ a0 ≤ 9223372036854775807 := by simpa [Lit.wf, IntKind.min, IntKind.max, IntKind.signed, IntKind.bits] using w0
  have hy : -9223372036854775808 ≤ a1 ∧ a1 ≤ 9223372036854775807 := by simpa [Lit.wf, IntKind.min, IntKind.max, IntKind.signed, IntKind.bits] using w1
  refine (walk a0 a1 hx hy W (table rfl hL)).mono fun e W' ⟨he, hg⟩ => ?_
  subst he
  exact ⟨_, rfl, post_below (pa := []) (pv := []) hW' (fun _ _ _ => trodAll_cons_mk (shut_bool Tryd.underlying4 _) trodAll_mk0)
    (fun _ _ => trodAll_cons_mk (shut_int Tryd.underlying3 w0) (trodAll_cons_mk (shut_int Tryd.underlying3 w1) trodAll_mk0)) (fun _ _ => rfl) rfl
    hg (ok_one (by kernel_rfl) rfl (okWide_bool_mk Tryd.underlying4 _))⟩

set_option maxRecDepth 100000 in
theorem laid_met (os : Os) : laidMet Tryd.prog Rows.partPassesRow.laid ((laidWorld os #[.int .i64 0, .int .i64 0]).forCall (fun _ _ => 0) ⟨#[], #[.int .i64 0, .int .i64 0], []⟩).memory :=
  laidMet_of_run' 8 (by kernel_rfl) (by kernel_rfl)
set_option maxRecDepth 100000 in
theorem readsW (os : Os) {H : Type} (enc : TypeId × Value → H) : ∃ places, DataW.whole enc Tryd.prog ((laidWorld os #[.int .i64 0, .int .i64 0]).forCall (fun _ _ => 0) ⟨#[], #[.int .i64 0, .int .i64 0], []⟩).memory Tryd.f3.params.toList Rows.partPassesSpec.vars false (#[.int .i64 0, .int .i64 0] : Array Value).toList 8 = some ([.lit (.int .i64 0), .lit (.int .i64 0)], [], places) :=
  ⟨[], by kernel_rfl⟩

set_option maxRecDepth 100000 in
theorem lifted (os : Os) (started : os.Started) (H : Type) (enc : TypeId × Value → H) (F : Stop.Interp) :
    ReturnsInHanded {} Tryd.checked os 3 .any ((OpenSpec.ofChange Rows.partPassesSpec).preRow enc Tryd.prog Tryd.f3 Rows.partPassesRow.domain false Rows.partPassesRow.laid) (((OpenSpec.ofChange Rows.partPassesSpec).at F).post enc Tryd.prog Tryd.f3 false true false false) := by
  obtain ⟨places, hx⟩ := readsW os enc
  refine returnsInHanded_of_row (C := Tryd.checked) (s := OpenSpec.ofChange Rows.partPassesSpec) own started (by kernel_rfl) Tryd.func3
    (witness_row_at (enc := enc) (C := Tryd.checked) false (laidWorld os #[.int .i64 0, .int .i64 0]) #[.int .i64 0, .int .i64 0] rfl (by kernel_rfl) (by kernel_rfl) (by kernel_rfl)
      (OpenSpec.preRow_of_cond 8 hx (by kernel_rfl) (fun k hk => by cases hk) (by kernel_rfl) (laid_met os))) ?_
  intro W base args ds gs before hval hW _ _ _ hL _ _
  exact contract H enc W base args ds gs before hval hW hL

theorem said : Rows.PartPassesSaid :=
  OpenClaim.holds_of_cond 3 Tryd.f3 rfl rfl rfl rfl rfl rfl rfl ⟨rfl, rfl, rfl, rfl, rfl⟩ rfl rfl rfl rfl rfl (by kernel_rfl) Tryd.func3 (by kernel_rfl)
    (of_decide_eq_true (by kernel_rfl)) (by unfold Func.isWrapper; first | (rw [if_pos (by decide +kernel)]; kernel_rfl) | (rw [if_neg (by decide +kernel)]; exact ⟨rfl, rfl⟩))
    (fun os started H enc _ F => by rw [OpenClaim.pre_eq_preRow]; exact lifted os started H enc F)

theorem plain (f : FuncId) (fn : Func) (hf : Tryd.pinned.checked.prog.funcNamed "pneumatic/pneumaticlaw20.PartPasses" = some f) (hfn : Tryd.pinned.checked.prog.funcs[f]? = some fn) :
    false = Tryd.pinned.checked.prog.looks [] ∧ ∀ (j : Nat) t, fn.params[j]? = some t → Tryd.pinned.checked.prog.wantsStandIn t = false := by
  obtain rfl : f = 3 := Option.some.inj ((show Tryd.prog.funcNamed "pneumatic/pneumaticlaw20.PartPasses" = some 3 by kernel_rfl).symm.trans hf) |>.symm
  obtain rfl : fn = Tryd.f3 := (Option.some.inj (Tryd.func3.symm.trans hfn)).symm
  refine ⟨by kernel_rfl, fun j t ht => ?_⟩
  rw [Tryd.params3] at ht
  have ht : t = 3 := by
    match j with
    | 0 => simpa using ht.symm
    | 1 => simpa using ht.symm
    | j + 2 => simp at ht
  subst ht
  exact (show Tryd.prog.wantsStandIn 3 = false by kernel_rfl)

/-- THE CARD. -/
theorem card : Rows.PartPassesCardSaid :=
  Claim7.holds_tied_plain_at .later [] _ _ _ _ said (fun _ h => by cases h) (by kernel_rfl) (fun _ h => by cases h) partPasses_row_tie rfl ⟨rfl, rfl⟩ (by kernel_rfl) rfl plain (by kernel_rfl)
end Go.Proofs.YtclefndccgmolaaDoor.passes
