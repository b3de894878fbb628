/-
  PILOTS AND NEXT RETURN THE RESULTS OR ERRORS OF THE REFERENCE FOR ALL KINDS, POSITIONS AND PILOTS: 'PartMoves' returns true for every kind, position and pair of pilots, and leaves its arguments as they were, where lexer.ranges holds what its initialiser lays.
-/
import Derived.Test.YtclefndccgmolaaDoorM3
import Derived.Test.YtclefndccgmolaaDoorBase
namespace Go.Proofs.YtclefndccgmolaaDoor.moves
open Go Go.Am Go.ChangeShapes Go.WideShapes Go.ChangeAt Go.RowKit Go.ChangeMaps

/-- How many positions a kind has. -/
def many (k : Nat) : Nat := if k = 2 ∨ k = 3 ∨ k = 4 ∨ k = 5 ∨ k = 6 ∨ k = 7 ∨ k = 12 ∨ k = 13 then 2 else 1

noncomputable def case (x y z : AV) : Bool := isT (findT tabMoves 4 [x, y, z])

theorem inside : ((List.range 14).all fun k => case (.int .i64 k) (.rng .i64 (-9223372036854775808) (-1)) (.agg [.top, .top]) && case (.int .i64 k) (.rng .i64 (many k) 9223372036854775807) (.agg [.top, .top]) &&
    (List.range (many k)).all fun p => [true, false].all fun a => [true, false].all fun b => case (.int .i64 k) (.int .i64 p) (.agg [.bool a, .bool b])) = true := by kernel_rfl
theorem under : case (.rng .i64 (-9223372036854775808) (-1)) .top (.agg [.top, .top]) = true := by kernel_rfl
theorem over : case (.rng .i64 14 9223372036854775807) .top (.agg [.top, .top]) = true := by kernel_rfl

theorem mem_bools (b : Bool) : b ∈ [true, false] := by cases b <;> simp

theorem walk (a0 : Int) (a1 : Int) (a2 b2 : Bool) (h0 : (-9223372036854775808) ≤ a0 ∧ a0 ≤ 9223372036854775807) (h1 : (-9223372036854775808) ≤ a1 ∧ a1 ≤ 9223372036854775807) (W : World) (hG : GOk (fun _ => True) W) :
    Calls Tryd.prog 4 #[.int .i64 a0, .int .i64 a1, .agg #[.bool a2, .bool b2]] W fun e w' => e = .returned (.bool true) ∧ Below W.heap.size W w' := by
  have known : ∀ {x y z : AV}, case x y z = true → VRel W (fun _ => True) none x (.int .i64 a0) → VRel W (fun _ => True) none y (.int .i64 a1) → VRel W (fun _ => True) none z (.agg #[.bool a2, .bool b2]) →
      Calls Tryd.prog 4 #[.int .i64 a0, .int .i64 a1, .agg #[.bool a2, .bool b2]] W fun e w' => e = .returned (.bool true) ∧ Below W.heap.size W w' :=
    fun h hx hy hz => calls_true (findT_ok tabMoves_ok (isT_eq h)) hG (crel3 hx hy hz)
  have tops : VRel W (fun _ => True) none (.agg [.top, .top]) (.agg #[.bool a2, .bool b2]) := vpair .top .top
  by_cases k1 : a0 < 0
  · exact known under (.rng (by omega) (by omega)) .top tops
  by_cases k2 : 14 ≤ a0
  · exact known over (.rng (by omega) (by omega)) .top tops
  obtain ⟨k, rfl⟩ : ∃ k : Nat, a0 = k := ⟨a0.toNat, by omega⟩
  have hk := List.all_eq_true.1 inside k (List.mem_range.2 (by omega))
  simp only [Bool.and_eq_true] at hk
  obtain ⟨⟨c1, c2⟩, c3⟩ := hk
  by_cases p1 : a1 < 0
  · exact known c1 .int (.rng (by omega) (by omega)) tops
  by_cases p2 : (many k : Int) ≤ a1
  · exact known c2 .int (.rng (by omega) (by omega)) tops
  obtain ⟨p, rfl⟩ : ∃ p : Nat, a1 = p := ⟨a1.toNat, by omega⟩
  exact known (List.all_eq_true.1 (List.all_eq_true.1 (List.all_eq_true.1 c3 p (List.mem_range.2 (by omega))) a2 (mem_bools a2)) b2 (mem_bools b2)) .int .int (vpair .bool .bool)

set_option maxRecDepth 100000 in
theorem contract (H : Type) (enc : TypeId × Value → H) (W : World) (base : Nat) (args : Array Value) (ds gs : List (DataW H)) (before : List MemPlace)
    (hval : ∀ (j : Nat) t v, Tryd.f4.params[j]? = some t → args[j]? = some v → Value.okWide Tryd.prog W .any base t v)
    (hW : DataW.Whole enc Tryd.prog Tryd.f4.params.toList Rows.partMovesSpec.vars false W args.toList ds gs before) (hL : laidMetH Tryd.prog Rows.partMovesRow.laid W) :
    Calls Tryd.prog 4 args W fun e W' => ∃ v, e = .returned v ∧ Rows.partMovesSpec.post enc Tryd.prog Tryd.f4 false true false false W args v W' := by
  have hW' := hW
  obtain ⟨p, q, hA0, hV, rfl, hfz, hnd⟩ := hW
  have hA : DataW.TrodAll enc Tryd.prog W 0 (fun _ => true) true Tryd.f4.params.toList args.toList ds p := hA0
  rw [Tryd.params4] at hA hval
  obtain ⟨v0, vs0, d0, ds0, p0, q0, hargs, rfl, rfl, t0, r0⟩ := trodAll_cons hA
  obtain ⟨v1, vs1, d1, ds1, p1, q1, rfl, rfl, rfl, t1, r1⟩ := trodAll_cons r0
  obtain ⟨v2, vs2, d2, ds2, p2, q2, rfl, rfl, rfl, t2, r2⟩ := trodAll_cons r1
  obtain ⟨rfl, rfl, rfl⟩ := trodAll_nil r2
  obtain rfl : args = #[v0, v1, v2] := by cases args; simp_all
  obtain ⟨rfl, rfl⟩ := trodVars_none hV
  obtain ⟨a0, rfl, rfl, rfl, w0⟩ := open_int Tryd.underlying3 (hval 0 3 v0 rfl rfl) t0
  obtain ⟨a1, rfl, rfl, rfl, w1⟩ := open_int Tryd.underlying3 (hval 1 3 v1 rfl rfl) t1
  obtain ⟨a2, b2, rfl, rfl, rfl⟩ := open_bools2 Tryd.underlying40 pairOne pairCells Tryd.underlying4 Tryd.underlying4 (hval 2 40 v2 rfl rfl) t2
  clear hA0
  simp only [List.append_nil] at hW'
  have h0 : (-9223372036854775808) ≤ a0 ∧ a0 ≤ 9223372036854775807 := by simpa [Lit.wf, IntKind.min, IntKind.max, IntKind.signed, IntKind.bits] using w0
  have h1 : (-9223372036854775808) ≤ a1 ∧ a1 ≤ 9223372036854775807 := by simpa [Lit.wf, IntKind.min, IntKind.max, IntKind.signed, IntKind.bits] using w1
  refine (walk a0 a1 a2 b2 h0 h1 W (table rfl hL)).mono fun e W' ⟨he, hg⟩ => ?_
  subst he
  exact ⟨_, rfl, post_below (pa := []) (pv := []) hW' (fun _ _ _ => trodAll_cons_mk (shut_bool Tryd.underlying4 _) trodAll_mk0)
    (fun _ _ => trodAll_cons_mk (shut_int Tryd.underlying3 w0) (trodAll_cons_mk (shut_int Tryd.underlying3 w1) (trodAll_cons_mk (shut_bools2 Tryd.underlying40 pairOne pairCells Tryd.underlying4 Tryd.underlying4 a2 b2) trodAll_mk0))) (fun _ _ => rfl) rfl
    hg (ok_one (by kernel_rfl) rfl (okWide_bool_mk Tryd.underlying4 _))⟩

set_option maxRecDepth 100000 in
theorem laid_met (os : Os) : laidMet Tryd.prog Rows.partMovesRow.laid ((laidWorld os #[.int .i64 0, .int .i64 0, .agg #[.bool false, .bool false]]).forCall (fun _ _ => 0) ⟨#[], #[.int .i64 0, .int .i64 0, .agg #[.bool false, .bool false]], []⟩).memory :=
  laidMet_of_run' 8 (by kernel_rfl) (by kernel_rfl)
set_option maxRecDepth 100000 in
theorem readsW (os : Os) {H : Type} (enc : TypeId × Value → H) : ∃ places, DataW.whole enc Tryd.prog ((laidWorld os #[.int .i64 0, .int .i64 0, .agg #[.bool false, .bool false]]).forCall (fun _ _ => 0) ⟨#[], #[.int .i64 0, .int .i64 0, .agg #[.bool false, .bool false]], []⟩).memory Tryd.f4.params.toList Rows.partMovesSpec.vars false (#[.int .i64 0, .int .i64 0, .agg #[.bool false, .bool false]] : Array Value).toList 8 = some ([.lit (.int .i64 0), .lit (.int .i64 0), .agg [.lit (.bool false), .lit (.bool false)]], [], places) :=
  ⟨[], by kernel_rfl⟩

set_option maxRecDepth 100000 in
theorem lifted (os : Os) (started : os.Started) (H : Type) (enc : TypeId × Value → H) (F : Stop.Interp) :
    ReturnsInHanded {} Tryd.checked os 4 .any ((OpenSpec.ofChange Rows.partMovesSpec).preRow enc Tryd.prog Tryd.f4 Rows.partMovesRow.domain false Rows.partMovesRow.laid) (((OpenSpec.ofChange Rows.partMovesSpec).at F).post enc Tryd.prog Tryd.f4 false true false false) := by
  obtain ⟨places, hx⟩ := readsW os enc
  refine returnsInHanded_of_row (C := Tryd.checked) (s := OpenSpec.ofChange Rows.partMovesSpec) own started (by kernel_rfl) Tryd.func4
    (witness_row_at (enc := enc) (C := Tryd.checked) false (laidWorld os #[.int .i64 0, .int .i64 0, .agg #[.bool false, .bool false]]) #[.int .i64 0, .int .i64 0, .agg #[.bool false, .bool false]] rfl (by kernel_rfl) (by kernel_rfl) (by kernel_rfl)
      (OpenSpec.preRow_of_cond 8 hx (by kernel_rfl) (fun k hk => by cases hk) (by kernel_rfl) (laid_met os))) ?_
  intro W base args ds gs before hval hW _ _ _ hL _ _
  exact contract H enc W base args ds gs before hval hW hL

theorem said : Rows.PartMovesSaid :=
  OpenClaim.holds_of_cond 4 Tryd.f4 rfl rfl rfl rfl rfl rfl rfl ⟨rfl, rfl, rfl, rfl, rfl⟩ rfl rfl rfl rfl rfl (by kernel_rfl) Tryd.func4 (by kernel_rfl)
    (of_decide_eq_true (by kernel_rfl)) (by unfold Func.isWrapper; first | (rw [if_pos (by decide +kernel)]; kernel_rfl) | (rw [if_neg (by decide +kernel)]; exact ⟨rfl, rfl⟩))
    (fun os started H enc _ F => by rw [OpenClaim.pre_eq_preRow]; exact lifted os started H enc F)

theorem plain (f : FuncId) (fn : Func) (hf : Tryd.pinned.checked.prog.funcNamed "pneumatic/pneumaticlaw20.PartMoves" = some f) (hfn : Tryd.pinned.checked.prog.funcs[f]? = some fn) :
    false = Tryd.pinned.checked.prog.looks [] ∧ ∀ (j : Nat) t, fn.params[j]? = some t → Tryd.pinned.checked.prog.wantsStandIn t = false := by
  obtain rfl : f = 4 := Option.some.inj ((show Tryd.prog.funcNamed "pneumatic/pneumaticlaw20.PartMoves" = some 4 by kernel_rfl).symm.trans hf) |>.symm
  obtain rfl : fn = Tryd.f4 := (Option.some.inj (Tryd.func4.symm.trans hfn)).symm
  refine ⟨by kernel_rfl, fun j t ht => ?_⟩
  rw [Tryd.params4] at ht
  have n3 : Tryd.prog.wantsStandIn 3 = false := by kernel_rfl
  have n40 : Tryd.prog.wantsStandIn 40 = false := by kernel_rfl
  match j with
  | 0 => obtain rfl : t = 3 := by simpa using ht.symm
         exact n3
  | 1 => obtain rfl : t = 3 := by simpa using ht.symm
         exact n3
  | 2 => obtain rfl : t = 40 := by simpa using ht.symm
         exact n40
  | j + 3 => simp at ht

/-- THE CARD. -/
theorem card : Rows.PartMovesCardSaid :=
  Claim7.holds_tied_plain_at .later [] _ _ _ _ said (fun _ h => by cases h) (by kernel_rfl) (fun _ h => by cases h) partMoves_row_tie rfl ⟨rfl, rfl⟩ (by kernel_rfl) rfl plain (by kernel_rfl)
end Go.Proofs.YtclefndccgmolaaDoor.moves
