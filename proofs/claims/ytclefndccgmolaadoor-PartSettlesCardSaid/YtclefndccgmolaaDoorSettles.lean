/-
  PILOTS THAT ARE ALONE LEAD TO THEIR POSITION, AND WHAT SETTLES STAYS: 'PartSettles' returns true for every two bytes and pair of pilots, and leaves its arguments as they were, where lexer.ranges holds what its initialiser lays.
-/
import Derived.Test.YtclefndccgmolaaDoorS3
import Derived.Test.YtclefndccgmolaaDoorBase
namespace Go.Proofs.YtclefndccgmolaaDoor.settles
open Go Go.Am Go.ChangeShapes Go.WideShapes Go.ChangeAt Go.RowKit Go.ChangeMaps

/-- The bytes that leave a rest. -/
def residue (m c : Nat) : List Int := ((List.range 256).filter fun n => Nat.beq (n % m) c).map fun (n : Nat) => (n : Int)

theorem mem_residue {m c : Nat} {n : Int} (h0 : 0 ≤ n ∧ n ≤ 255) (h : n.toNat % m = c) : n ∈ residue m c := by
  refine List.mem_map.2 ⟨n.toNat, List.mem_filter.2 ⟨List.mem_range.2 (by omega), by rw [h]; exact Nat.beq_refl c⟩, by omega⟩

noncomputable def case (x y z : AV) : Bool := isT (findT (tabSettles0 ++ tabSettles1) 5 [x, y, z]) || isT (findT tabSettles1 5 [x, y, z])

theorem all : ((List.range 14).all fun k => (List.range 2).all fun p => [true, false].all fun a => [true, false].all fun b => case (.ints .u8 (residue 14 k)) (.ints .u8 (residue 2 p)) (.agg [.bool a, .bool b])) = true := by kernel_rfl

theorem mem_bools (b : Bool) : b ∈ [true, false] := by cases b <;> simp

theorem case_ok {x y z : AV} (h : case x y z = true) : PF Tryd.prog 5 [x, y, z] (.bool true) := by
  simp only [case, Bool.or_eq_true] at h
  rcases h with h | h
  · exact findT_ok (tabSettles0_ok.append tabSettles1_ok) (isT_eq h)
  · exact findT_ok tabSettles1_ok (isT_eq h)

theorem walk (a0 : Int) (a1 : Int) (a2 b2 : Bool) (h0 : 0 ≤ a0 ∧ a0 ≤ 255) (h1 : 0 ≤ a1 ∧ a1 ≤ 255) (W : World) (hG : GOk (fun _ => True) W) :
    Calls Tryd.prog 5 #[.int .u8 a0, .int .u8 a1, .agg #[.bool a2, .bool b2]] W fun e w' => e = .returned (.bool true) ∧ Below W.heap.size W w' := by
  have hc := List.all_eq_true.1 (List.all_eq_true.1 (List.all_eq_true.1 (List.all_eq_true.1 all (a0.toNat % 14) (List.mem_range.2 (by omega))) (a1.toNat % 2) (List.mem_range.2 (by omega))) a2 (mem_bools a2)) b2 (mem_bools b2)
  exact calls_true (case_ok hc) hG (crel3 (.ints (mem_residue h0 rfl)) (.ints (mem_residue h1 rfl)) (vpair .bool .bool))

set_option maxRecDepth 100000 in
theorem contract (H : Type) (enc : TypeId × Value → H) (W : World) (base : Nat) (args : Array Value) (ds gs : List (DataW H)) (before : List MemPlace)
    (hval : ∀ (j : Nat) t v, Tryd.f5.params[j]? = some t → args[j]? = some v → Value.okWide Tryd.prog W .any base t v)
    (hW : DataW.Whole enc Tryd.prog Tryd.f5.params.toList Rows.partSettlesSpec.vars false W args.toList ds gs before) (hL : laidMetH Tryd.prog Rows.partSettlesRow.laid W) :
    Calls Tryd.prog 5 args W fun e W' => ∃ v, e = .returned v ∧ Rows.partSettlesSpec.post enc Tryd.prog Tryd.f5 false true false false W args v W' := by
  have hW' := hW
  obtain ⟨p, q, hA0, hV, rfl, hfz, hnd⟩ := hW
  have hA : DataW.TrodAll enc Tryd.prog W 0 (fun _ => true) true Tryd.f5.params.toList args.toList ds p := hA0
  rw [Tryd.params5] at hA hval
  obtain ⟨v0, vs0, d0, ds0, p0, q0, hargs, rfl, rfl, t0, r0⟩ := trodAll_cons hA
  obtain ⟨v1, vs1, d1, ds1, p1, q1, rfl, rfl, rfl, t1, r1⟩ := trodAll_cons r0
  obtain ⟨v2, vs2, d2, ds2, p2, q2, rfl, rfl, rfl, t2, r2⟩ := trodAll_cons r1
  obtain ⟨rfl, rfl, rfl⟩ := trodAll_nil r2
  obtain rfl : args = #[v0, v1, v2] := by cases args; simp_all
  obtain ⟨rfl, rfl⟩ := trodVars_none hV
  obtain ⟨a0, rfl, rfl, rfl, w0⟩ := open_int Tryd.underlying5 (hval 0 5 v0 rfl rfl) t0
  obtain ⟨a1, rfl, rfl, rfl, w1⟩ := open_int Tryd.underlying5 (hval 1 5 v1 rfl rfl) t1
  obtain ⟨a2, b2, rfl, rfl, rfl⟩ := open_bools2 Tryd.underlying40 pairOne pairCells Tryd.underlying4 Tryd.underlying4 (hval 2 40 v2 rfl rfl) t2
  clear hA0
  simp only [List.append_nil] at hW'
  have h0 : 0 ≤ a0 ∧ a0 ≤ 255 := by simpa [Lit.wf, IntKind.min, IntKind.max, IntKind.signed, IntKind.bits] using w0
  have h1 : 0 ≤ a1 ∧ a1 ≤ 255 := by simpa [Lit.wf, IntKind.min, IntKind.max, IntKind.signed, IntKind.bits] using w1
  refine (walk a0 a1 a2 b2 h0 h1 W (table rfl hL)).mono fun e W' ⟨he, hg⟩ => ?_
  subst he
  exact ⟨_, rfl, post_below (pa := []) (pv := []) hW' (fun _ _ _ => trodAll_cons_mk (shut_bool Tryd.underlying4 _) trodAll_mk0)
    (fun _ _ => trodAll_cons_mk (shut_int Tryd.underlying5 w0) (trodAll_cons_mk (shut_int Tryd.underlying5 w1) (trodAll_cons_mk (shut_bools2 Tryd.underlying40 pairOne pairCells Tryd.underlying4 Tryd.underlying4 a2 b2) trodAll_mk0))) (fun _ _ => rfl) rfl
    hg (ok_one (by kernel_rfl) rfl (okWide_bool_mk Tryd.underlying4 _))⟩

set_option maxRecDepth 100000 in
theorem laid_met (os : Os) : laidMet Tryd.prog Rows.partSettlesRow.laid ((laidWorld os #[.int .u8 0, .int .u8 0, .agg #[.bool false, .bool false]]).forCall (fun _ _ => 0) ⟨#[], #[.int .u8 0, .int .u8 0, .agg #[.bool false, .bool false]], []⟩).memory :=
  laidMet_of_run' 8 (by kernel_rfl) (by kernel_rfl)
set_option maxRecDepth 100000 in
theorem readsW (os : Os) {H : Type} (enc : TypeId × Value → H) : ∃ places, DataW.whole enc Tryd.prog ((laidWorld os #[.int .u8 0, .int .u8 0, .agg #[.bool false, .bool false]]).forCall (fun _ _ => 0) ⟨#[], #[.int .u8 0, .int .u8 0, .agg #[.bool false, .bool false]], []⟩).memory Tryd.f5.params.toList Rows.partSettlesSpec.vars false (#[.int .u8 0, .int .u8 0, .agg #[.bool false, .bool false]] : Array Value).toList 8 = some ([.lit (.int .u8 0), .lit (.int .u8 0), .agg [.lit (.bool false), .lit (.bool false)]], [], places) :=
  ⟨[], by kernel_rfl⟩

set_option maxRecDepth 100000 in
theorem lifted (os : Os) (started : os.Started) (H : Type) (enc : TypeId × Value → H) (F : Stop.Interp) :
    ReturnsInHanded {} Tryd.checked os 5 .any ((OpenSpec.ofChange Rows.partSettlesSpec).preRow enc Tryd.prog Tryd.f5 Rows.partSettlesRow.domain false Rows.partSettlesRow.laid) (((OpenSpec.ofChange Rows.partSettlesSpec).at F).post enc Tryd.prog Tryd.f5 false true false false) := by
  obtain ⟨places, hx⟩ := readsW os enc
  refine returnsInHanded_of_row (C := Tryd.checked) (s := OpenSpec.ofChange Rows.partSettlesSpec) own started (by kernel_rfl) Tryd.func5
    (witness_row_at (enc := enc) (C := Tryd.checked) false (laidWorld os #[.int .u8 0, .int .u8 0, .agg #[.bool false, .bool false]]) #[.int .u8 0, .int .u8 0, .agg #[.bool false, .bool false]] rfl (by kernel_rfl) (by kernel_rfl) (by kernel_rfl)
      (OpenSpec.preRow_of_cond 8 hx (by kernel_rfl) (fun k hk => by cases hk) (by kernel_rfl) (laid_met os))) ?_
  intro W base args ds gs before hval hW _ _ _ hL _ _
  exact contract H enc W base args ds gs before hval hW hL

theorem said : Rows.PartSettlesSaid :=
  OpenClaim.holds_of_cond 5 Tryd.f5 rfl rfl rfl rfl rfl rfl rfl ⟨rfl, rfl, rfl, rfl, rfl⟩ rfl rfl rfl rfl rfl (by kernel_rfl) Tryd.func5 (by kernel_rfl)
    (of_decide_eq_true (by kernel_rfl)) (by unfold Func.isWrapper; first | (rw [if_pos (by decide +kernel)]; kernel_rfl) | (rw [if_neg (by decide +kernel)]; exact ⟨rfl, rfl⟩))
    (fun os started H enc _ F => by rw [OpenClaim.pre_eq_preRow]; exact lifted os started H enc F)

theorem plain (f : FuncId) (fn : Func) (hf : Tryd.pinned.checked.prog.funcNamed "pneumatic/pneumaticlaw20.PartSettles" = some f) (hfn : Tryd.pinned.checked.prog.funcs[f]? = some fn) :
    false = Tryd.pinned.checked.prog.looks [] ∧ ∀ (j : Nat) t, fn.params[j]? = some t → Tryd.pinned.checked.prog.wantsStandIn t = false := by
  obtain rfl : f = 5 := Option.some.inj ((show Tryd.prog.funcNamed "pneumatic/pneumaticlaw20.PartSettles" = some 5 by kernel_rfl).symm.trans hf) |>.symm
  obtain rfl : fn = Tryd.f5 := (Option.some.inj (Tryd.func5.symm.trans hfn)).symm
  refine ⟨by kernel_rfl, fun j t ht => ?_⟩
  rw [Tryd.params5] at ht
  have n5 : Tryd.prog.wantsStandIn 5 = false := by kernel_rfl
  have n40 : Tryd.prog.wantsStandIn 40 = false := by kernel_rfl
  match j with
  | 0 => obtain rfl : t = 5 := by simpa using ht.symm
         exact n5
  | 1 => obtain rfl : t = 5 := by simpa using ht.symm
         exact n5
  | 2 => obtain rfl : t = 40 := by simpa using ht.symm
         exact n40
  | j + 3 => simp at ht

/-- THE CARD. -/
theorem card : Rows.PartSettlesCardSaid :=
  Claim7.holds_tied_plain_at .later [] _ _ _ _ said (fun _ h => by cases h) (by kernel_rfl) (fun _ h => by cases h) partSettles_row_tie rfl ⟨rfl, rfl⟩ (by kernel_rfl) rfl plain (by kernel_rfl)
end Go.Proofs.YtclefndccgmolaaDoor.settles
