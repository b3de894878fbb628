/-
  PASSES LEAD FROM PORTS THAT TAKE PRESSURE IN TO ONE THAT GIVES IT ON, VENTED PORTS GIVE IT ON: 'PartFlows' returns true for every two bytes, and leaves its arguments as they were, where lexer.ranges holds what its initialiser lays.
-/
import Derived.Test.YtclefndccgmolaaDoorF3
import Derived.Test.YtclefndccgmolaaDoorBase
namespace Go.Proofs.YtclefndccgmolaaDoor.flows
open Go Go.Am Go.ChangeShapes Go.WideShapes Go.ChangeAt Go.RowKit Go.ChangeMaps

theorem mem_residue {m c : Nat} {n : Int} (h0 : 0 ≤ n ∧ n ≤ 255) (h : n.toNat % m = c) : n ∈ residue m c := by
  refine List.mem_map.2 ⟨n.toNat, List.mem_filter.2 ⟨List.mem_range.2 (by omega), by rw [h]; exact Nat.beq_refl c⟩, by omega⟩

theorem at_list {l : List Nat} (h : TabOk Tryd.prog (tabFlows l)) {k p : Nat} (hk : k ∈ l) (hp : p < 2) : PF Tryd.prog 8 [.ints .u8 (residue 14 k), .ints .u8 (residue 2 p)] (.bool true) :=
  h _ (List.mem_singleton.2 rfl) (_, _) (List.mem_flatMap.2 ⟨k, hk, List.mem_map.2 ⟨p, List.mem_range.2 hp, rfl⟩⟩)

theorem known {k p : Nat} (hk : k < 14) (hp : p < 2) : PF Tryd.prog 8 [.ints .u8 (residue 14 k), .ints .u8 (residue 2 p)] (.bool true) := by
  by_cases h : k < 7
  · exact at_list flows1_ok (by simp only [List.mem_cons, List.not_mem_nil, or_false]; omega) hp
  · exact at_list flows2_ok (by simp only [List.mem_cons, List.not_mem_nil, or_false]; omega) hp

theorem walk (a0 : Int) (a1 : Int) (h0 : 0 ≤ a0 ∧ a0 ≤ 255) (h1 : 0 ≤ a1 ∧ a1 ≤ 255) (W : World) (hG : GOk (fun _ => True) W) :
    Calls Tryd.prog 8 #[.int .u8 a0, .int .u8 a1] W fun e w' => e = .returned (.bool true) ∧ Below W.heap.size W w' :=
  calls_true (known (k := a0.toNat % 14) (p := a1.toNat % 2) (by omega) (by omega)) hG (crel2 (.ints (mem_residue h0 rfl)) (.ints (mem_residue h1 rfl)))

set_option maxRecDepth 100000 in
theorem contract (H : Type) (enc : TypeId × Value → H) (W : World) (base : Nat) (args : Array Value) (ds gs : List (DataW H)) (before : List MemPlace)
    (hval : ∀ (j : Nat) t v, Tryd.f8.params[j]? = some t → args[j]? = some v → Value.okWide Tryd.prog W .any base t v)
    (hW : DataW.Whole enc Tryd.prog Tryd.f8.params.toList Rows.partFlowsSpec.vars false W args.toList ds gs before) (hL : laidMetH Tryd.prog Rows.partFlowsRow.laid W) :
    Calls Tryd.prog 8 args W fun e W' => ∃ v, e = .returned v ∧ Rows.partFlowsSpec.post enc Tryd.prog Tryd.f8 false true false false W args v W' := by
  have hW' := hW
  obtain ⟨p, q, hA0, hV, rfl, hfz, hnd⟩ := hW
  have hA : DataW.TrodAll enc Tryd.prog W 0 (fun _ => true) true Tryd.f8.params.toList args.toList ds p := hA0
  rw [Tryd.params8] at hA hval
  obtain ⟨v0, vs0, d0, ds0, p0, q0, hargs, rfl, rfl, t0, r0⟩ := trodAll_cons hA
  obtain ⟨v1, vs1, d1, ds1, p1, q1, rfl, rfl, rfl, t1, r1⟩ := trodAll_cons r0
  obtain ⟨rfl, rfl, rfl⟩ := trodAll_nil r1
  obtain rfl : args = #[v0, v1] := by cases args; simp_all
  obtain ⟨rfl, rfl⟩ := trodVars_none hV
  obtain ⟨a0, rfl, rfl, rfl, w0⟩ := open_int Tryd.underlying5 (hval 0 5 v0 rfl rfl) t0
  obtain ⟨a1, rfl, rfl, rfl, w1⟩ := open_int Tryd.underlying5 (hval 1 5 v1 rfl rfl) t1
  clear hA0
  simp only [List.append_nil] at hW'
  have h0 : 0 ≤ a0 ∧ a0 ≤ 255 := by simpa [Lit.wf, IntKind.min, IntKind.max, IntKind.signed, IntKind.bits] using w0
  have h1 : 0 ≤ a1 ∧ a1 ≤ 255 := by simpa [Lit.wf, IntKind.min, IntKind.max, IntKind.signed, IntKind.bits] using w1
  refine (walk a0 a1 h0 h1 W (table rfl hL)).mono fun e W' ⟨he, hg⟩ => ?_
  subst he
  exact ⟨_, rfl, post_below (pa := []) (pv := []) hW' (fun _ _ _ => trodAll_cons_mk (shut_bool Tryd.underlying4 _) trodAll_mk0)
    (fun _ _ => trodAll_cons_mk (shut_int Tryd.underlying5 w0) (trodAll_cons_mk (shut_int Tryd.underlying5 w1) trodAll_mk0)) (fun _ _ => rfl) rfl
    hg (ok_one (by kernel_rfl) rfl (okWide_bool_mk Tryd.underlying4 _))⟩

set_option maxRecDepth 100000 in
theorem laid_met (os : Os) : laidMet Tryd.prog Rows.partFlowsRow.laid ((laidWorld os #[.int .u8 0, .int .u8 0]).forCall (fun _ _ => 0) ⟨#[], #[.int .u8 0, .int .u8 0], []⟩).memory :=
  laidMet_of_run' 8 (by kernel_rfl) (by kernel_rfl)
set_option maxRecDepth 100000 in
theorem readsW (os : Os) {H : Type} (enc : TypeId × Value → H) : ∃ places, DataW.whole enc Tryd.prog ((laidWorld os #[.int .u8 0, .int .u8 0]).forCall (fun _ _ => 0) ⟨#[], #[.int .u8 0, .int .u8 0], []⟩).memory Tryd.f8.params.toList Rows.partFlowsSpec.vars false (#[.int .u8 0, .int .u8 0] : Array Value).toList 8 = some ([.lit (.int .u8 0), .lit (.int .u8 0)], [], places) :=
  ⟨[], by kernel_rfl⟩

set_option maxRecDepth 100000 in
theorem lifted (os : Os) (started : os.Started) (H : Type) (enc : TypeId × Value → H) (F : Stop.Interp) :
    ReturnsInHanded {} Tryd.checked os 8 .any ((OpenSpec.ofChange Rows.partFlowsSpec).preRow enc Tryd.prog Tryd.f8 Rows.partFlowsRow.domain false Rows.partFlowsRow.laid) (((OpenSpec.ofChange Rows.partFlowsSpec).at F).post enc Tryd.prog Tryd.f8 false true false false) := by
  obtain ⟨places, hx⟩ := readsW os enc
  refine returnsInHanded_of_row (C := Tryd.checked) (s := OpenSpec.ofChange Rows.partFlowsSpec) own started (by kernel_rfl) Tryd.func8
    (witness_row_at (enc := enc) (C := Tryd.checked) false (laidWorld os #[.int .u8 0, .int .u8 0]) #[.int .u8 0, .int .u8 0] rfl (by kernel_rfl) (by kernel_rfl) (by kernel_rfl)
      (OpenSpec.preRow_of_cond 8 hx (by kernel_rfl) (fun k hk => by cases hk) (by kernel_rfl) (laid_met os))) ?_
  intro W base args ds gs before hval hW _ _ _ hL _ _
  exact contract H enc W base args ds gs before hval hW hL

theorem said : Rows.PartFlowsSaid :=
  OpenClaim.holds_of_cond 8 Tryd.f8 rfl rfl rfl rfl rfl rfl rfl ⟨rfl, rfl, rfl, rfl, rfl⟩ rfl rfl rfl rfl rfl (by kernel_rfl) Tryd.func8 (by kernel_rfl)
    (of_decide_eq_true (by kernel_rfl)) (by unfold Func.isWrapper; first | (rw [if_pos (by decide +kernel)]; kernel_rfl) | (rw [if_neg (by decide +kernel)]; exact ⟨rfl, rfl⟩))
    (fun os started H enc _ F => by rw [OpenClaim.pre_eq_preRow]; exact lifted os started H enc F)

theorem plain (f : FuncId) (fn : Func) (hf : Tryd.pinned.checked.prog.funcNamed "pneumatic/pneumaticlaw20.PartFlows" = some f) (hfn : Tryd.pinned.checked.prog.funcs[f]? = some fn) :
    false = Tryd.pinned.checked.prog.looks [] ∧ ∀ (j : Nat) t, fn.params[j]? = some t → Tryd.pinned.checked.prog.wantsStandIn t = false := by
  obtain rfl : f = 8 := Option.some.inj ((show Tryd.prog.funcNamed "pneumatic/pneumaticlaw20.PartFlows" = some 8 by kernel_rfl).symm.trans hf) |>.symm
  obtain rfl : fn = Tryd.f8 := (Option.some.inj (Tryd.func8.symm.trans hfn)).symm
  refine ⟨by kernel_rfl, fun j t ht => ?_⟩
  rw [Tryd.params8] at ht
  have n5 : Tryd.prog.wantsStandIn 5 = false := by kernel_rfl
  match j with
  | 0 => obtain rfl : t = 5 := by simpa using ht.symm
         exact n5
  | 1 => obtain rfl : t = 5 := by simpa using ht.symm
         exact n5
  | j + 2 => simp at ht

/-- THE CARD. -/
theorem card : Rows.PartFlowsCardSaid :=
  Claim7.holds_tied_plain_at .later [] _ _ _ _ said (fun _ h => by cases h) (by kernel_rfl) (fun _ h => by cases h) partFlows_row_tie rfl ⟨rfl, rfl⟩ (by kernel_rfl) rfl plain (by kernel_rfl)
end Go.Proofs.YtclefndccgmolaaDoor.flows
