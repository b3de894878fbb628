/-
  WORDS ARE READ BACK, AND DIFFERENT KINDS HAVE DIFFERENT ONES; EACH PORT HAS A ROLE, AND NOTHING ELSE HAS ONE: 'PartReads' returns true for every two bytes and text, and leaves its arguments as they were, where lexer.ranges holds what its initialiser lays.
-/
import Derived.Test.YtclefndccgmolaaDoorR4a
import Derived.Test.YtclefndccgmolaaDoorR4b
import Derived.Test.YtclefndccgmolaaDoorR4c
import Derived.Test.YtclefndccgmolaaDoorBase
namespace Go.Proofs.YtclefndccgmolaaDoor.reads
open Go Go.Am Go.ChangeShapes Go.WideShapes Go.ChangeAt Go.RowKit Go.ChangeMaps

theorem mem_residue {m c : Nat} {n : Int} (h0 : 0 ≤ n ∧ n ≤ 255) (h : n.toNat % m = c) : n ∈ residue m c := by
  refine List.mem_map.2 ⟨n.toNat, List.mem_filter.2 ⟨List.mem_range.2 (by omega), by rw [h]; exact Nat.beq_refl c⟩, by omega⟩

theorem reads_ok : ∀ k, k < 14 → TabOk Tryd.prog (tabReads k) := fun k hk => match k, hk with
  | 0, _ => reads0_ok
  | 1, _ => reads1_ok
  | 2, _ => reads2_ok
  | 3, _ => reads3_ok
  | 4, _ => reads4_ok
  | 5, _ => reads5_ok
  | 6, _ => reads6_ok
  | 7, _ => reads7_ok
  | 8, _ => reads8_ok
  | 9, _ => reads9_ok
  | 10, _ => reads10_ok
  | 11, _ => reads11_ok
  | 12, _ => reads12_ok
  | 13, _ => reads13_ok
  | k + 14, h => absurd h (by omega)

theorem known {k m : Nat} {p : AV} (hk : k < 14) (hm : m < 14) (hp : p ∈ portArgs k) : PF Tryd.prog 9 [.ints .u8 (residue 14 k), .ints .u8 (residue 14 m), p] (.bool true) :=
  reads_ok k hk _ (List.mem_singleton.2 rfl) (_, _) (List.mem_flatMap.2 ⟨m, List.mem_range.2 hm, List.mem_map.2 ⟨p, hp, rfl⟩⟩)

theorem walk (a0 : Int) (a1 : Int) (a2 : ByteArray) (h0 : 0 ≤ a0 ∧ a0 ≤ 255) (h1 : 0 ≤ a1 ∧ a1 ≤ 255) (h2 : a2.size ≤ maxLen) (W : World) (hG : GOk (fun _ => True) W) :
    Calls Tryd.prog 9 #[.int .u8 a0, .int .u8 a1, .string a2] W fun e w' => e = .returned (.bool true) ∧ Below W.heap.size W w' := by
  have hk : a0.toNat % 14 < 14 := by omega
  have hm : a1.toNat % 14 < 14 := by omega
  have hlen : a2.data.toList.length = a2.size := rfl
  have hmax : a2.size ≤ 9223372036854775807 := Nat.le_trans h2 (by decide)
  by_cases hp : a2.data.toList ∈ portsOf (a0.toNat % 14)
  · exact calls_true (known hk hm (List.mem_append_left _ (List.mem_map_of_mem hp))) hG (crel3 (.ints (mem_residue h0 rfl)) (.ints (mem_residue h1 rfl)) (vstr rfl))
  · exact calls_true (known hk hm (List.mem_append_right _ (List.mem_singleton.2 rfl))) hG (crel3 (.ints (mem_residue h0 rfl)) (.ints (mem_residue h1 rfl)) (.strA (fun s hs e => hp (by rw [e]; exact hs)) (by omega) (by omega)))

set_option maxRecDepth 100000 in
theorem contract (H : Type) (enc : TypeId × Value → H) (W : World) (base : Nat) (args : Array Value) (ds gs : List (DataW H)) (before : List MemPlace)
    (hval : ∀ (j : Nat) t v, Tryd.f9.params[j]? = some t → args[j]? = some v → Value.okWide Tryd.prog W .any base t v)
    (hW : DataW.Whole enc Tryd.prog Tryd.f9.params.toList Rows.partReadsSpec.vars false W args.toList ds gs before) (hL : laidMetH Tryd.prog Rows.partReadsRow.laid W) :
    Calls Tryd.prog 9 args W fun e W' => ∃ v, e = .returned v ∧ Rows.partReadsSpec.post enc Tryd.prog Tryd.f9 false true false false W args v W' := by
  have hW' := hW
  obtain ⟨p, q, hA0, hV, rfl, hfz, hnd⟩ := hW
  have hA : DataW.TrodAll enc Tryd.prog W 0 (fun _ => true) true Tryd.f9.params.toList args.toList ds p := hA0
  rw [Tryd.params9] at hA hval
  obtain ⟨v0, vs0, d0, ds0, p0, q0, hargs, rfl, rfl, t0, r0⟩ := trodAll_cons hA
  obtain ⟨v1, vs1, d1, ds1, p1, q1, rfl, rfl, rfl, t1, r1⟩ := trodAll_cons r0
  obtain ⟨v2, vs2, d2, ds2, p2, q2, rfl, rfl, rfl, t2, r2⟩ := trodAll_cons r1
  obtain ⟨rfl, rfl, rfl⟩ := trodAll_nil r2
  obtain rfl : args = #[v0, v1, v2] := by cases args; simp_all
  obtain ⟨rfl, rfl⟩ := trodVars_none hV
  obtain ⟨a0, rfl, rfl, rfl, w0⟩ := open_int Tryd.underlying5 (hval 0 5 v0 rfl rfl) t0
  obtain ⟨a1, rfl, rfl, rfl, w1⟩ := open_int Tryd.underlying5 (hval 1 5 v1 rfl rfl) t1
  obtain ⟨a2, rfl, rfl, rfl, h2⟩ := open_string Tryd.underlying9 (hval 2 9 v2 rfl rfl) t2
  clear hA0
  simp only [List.append_nil] at hW'
  have h0 : 0 ≤ a0 ∧ a0 ≤ 255 := by simpa [Lit.wf, IntKind.min, IntKind.max, IntKind.signed, IntKind.bits] using w0
  have h1 : 0 ≤ a1 ∧ a1 ≤ 255 := by simpa [Lit.wf, IntKind.min, IntKind.max, IntKind.signed, IntKind.bits] using w1
  refine (walk a0 a1 a2 h0 h1 h2 W (table rfl hL)).mono fun e W' ⟨he, hg⟩ => ?_
  subst he
  exact ⟨_, rfl, post_below (pa := []) (pv := []) hW' (fun _ _ _ => trodAll_cons_mk (shut_bool Tryd.underlying4 _) trodAll_mk0)
    (fun _ _ => trodAll_cons_mk (shut_int Tryd.underlying5 w0) (trodAll_cons_mk (shut_int Tryd.underlying5 w1) (trodAll_cons_mk (shut_string Tryd.underlying9 h2) trodAll_mk0))) (fun _ _ => rfl) rfl
    hg (ok_one (by kernel_rfl) rfl (okWide_bool_mk Tryd.underlying4 _))⟩

set_option maxRecDepth 100000 in
theorem laid_met (os : Os) : laidMet Tryd.prog Rows.partReadsRow.laid ((laidWorld os #[.int .u8 0, .int .u8 0, .string ⟨#[]⟩]).forCall (fun _ _ => 0) ⟨#[], #[.int .u8 0, .int .u8 0, .string ⟨#[]⟩], []⟩).memory :=
  laidMet_of_run' 8 (by kernel_rfl) (by kernel_rfl)
set_option maxRecDepth 100000 in
theorem readsW (os : Os) {H : Type} (enc : TypeId × Value → H) : ∃ places, DataW.whole enc Tryd.prog ((laidWorld os #[.int .u8 0, .int .u8 0, .string ⟨#[]⟩]).forCall (fun _ _ => 0) ⟨#[], #[.int .u8 0, .int .u8 0, .string ⟨#[]⟩], []⟩).memory Tryd.f9.params.toList Rows.partReadsSpec.vars false (#[.int .u8 0, .int .u8 0, .string ⟨#[]⟩] : Array Value).toList 8 = some ([.lit (.int .u8 0), .lit (.int .u8 0), .lit (.string [])], [], places) :=
  ⟨[], by kernel_rfl⟩

set_option maxRecDepth 100000 in
theorem lifted (os : Os) (started : os.Started) (H : Type) (enc : TypeId × Value → H) (F : Stop.Interp) :
    ReturnsInHanded {} Tryd.checked os 9 .any ((OpenSpec.ofChange Rows.partReadsSpec).preRow enc Tryd.prog Tryd.f9 Rows.partReadsRow.domain false Rows.partReadsRow.laid) (((OpenSpec.ofChange Rows.partReadsSpec).at F).post enc Tryd.prog Tryd.f9 false true false false) := by
  obtain ⟨places, hx⟩ := readsW os enc
  refine returnsInHanded_of_row (C := Tryd.checked) (s := OpenSpec.ofChange Rows.partReadsSpec) own started (by kernel_rfl) Tryd.func9
    (witness_row_at (enc := enc) (C := Tryd.checked) false (laidWorld os #[.int .u8 0, .int .u8 0, .string ⟨#[]⟩]) #[.int .u8 0, .int .u8 0, .string ⟨#[]⟩] rfl (by kernel_rfl) (by kernel_rfl) (by kernel_rfl)
      (OpenSpec.preRow_of_cond 8 hx (by kernel_rfl) (fun k hk => by cases hk) (by kernel_rfl) (laid_met os))) ?_
  intro W base args ds gs before hval hW _ _ _ hL _ _
  exact contract H enc W base args ds gs before hval hW hL

theorem said : Rows.PartReadsSaid :=
  OpenClaim.holds_of_cond 9 Tryd.f9 rfl rfl rfl rfl rfl rfl rfl ⟨rfl, rfl, rfl, rfl, rfl⟩ rfl rfl rfl rfl rfl (by kernel_rfl) Tryd.func9 (by kernel_rfl)
    (of_decide_eq_true (by kernel_rfl)) (by unfold Func.isWrapper; first | (rw [if_pos (by decide +kernel)]; kernel_rfl) | (rw [if_neg (by decide +kernel)]; exact ⟨rfl, rfl⟩))
    (fun os started H enc _ F => by rw [OpenClaim.pre_eq_preRow]; exact lifted os started H enc F)

theorem plain (f : FuncId) (fn : Func) (hf : Tryd.pinned.checked.prog.funcNamed "pneumatic/pneumaticlaw20.PartReads" = some f) (hfn : Tryd.pinned.checked.prog.funcs[f]? = some fn) :
    false = Tryd.pinned.checked.prog.looks [] ∧ ∀ (j : Nat) t, fn.params[j]? = some t → Tryd.pinned.checked.prog.wantsStandIn t = false := by
  obtain rfl : f = 9 := Option.some.inj ((show Tryd.prog.funcNamed "pneumatic/pneumaticlaw20.PartReads" = some 9 by kernel_rfl).symm.trans hf) |>.symm
  obtain rfl : fn = Tryd.f9 := (Option.some.inj (Tryd.func9.symm.trans hfn)).symm
  refine ⟨by kernel_rfl, fun j t ht => ?_⟩
  rw [Tryd.params9] at ht
  have n5 : Tryd.prog.wantsStandIn 5 = false := by kernel_rfl
  have n9 : Tryd.prog.wantsStandIn 9 = false := by kernel_rfl
  match j with
  | 0 => obtain rfl : t = 5 := by simpa using ht.symm
         exact n5
  | 1 => obtain rfl : t = 5 := by simpa using ht.symm
         exact n5
  | 2 => obtain rfl : t = 9 := by simpa using ht.symm
         exact n9
  | j + 3 => simp at ht

/-- THE CARD. -/
theorem card : Rows.PartReadsCardSaid :=
  Claim7.holds_tied_plain_at .later [] _ _ _ _ said (fun _ h => by cases h) (by kernel_rfl) (fun _ h => by cases h) partReads_row_tie rfl ⟨rfl, rfl⟩ (by kernel_rfl) rfl plain (by kernel_rfl)
end Go.Proofs.YtclefndccgmolaaDoor.reads
