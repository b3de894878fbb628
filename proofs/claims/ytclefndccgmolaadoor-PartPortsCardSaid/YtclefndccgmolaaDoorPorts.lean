/-
  PORTS, ROLE AND POSITIONS RETURN THE RESULTS OR ERRORS OF THE REFERENCE FOR ALL KINDS AND PORTS: 'PartPorts' returns true for every kind and text, and leaves its arguments as they were, where lexer.ranges holds what its initialiser lays.
-/
import Derived.Test.YtclefndccgmolaaDoorO3
import Derived.Test.YtclefndccgmolaaDoorBase
namespace Go.Proofs.YtclefndccgmolaaDoor.ports
open Go Go.Am Go.ChangeShapes Go.WideShapes Go.ChangeAt Go.RowKit Go.ChangeMaps

/-- The names of all ports. -/
def names : List (List UInt8) := [[49], [50], [51], [52], [53], [49, 48], [49, 49], [49, 50], [49, 52]]

noncomputable def case (x y : AV) : Bool := isT (findT tabPorts0 7 [x, y]) || isT (findT tabPorts1 7 [x, y])

theorem case_ok {x y : AV} (h : case x y = true) : PF Tryd.prog 7 [x, y] (.bool true) := by
  simp only [case, Bool.or_eq_true] at h
  rcases h with h | h
  · exact findT_ok tabPorts0_ok (isT_eq h)
  · exact findT_ok tabPorts1_ok (isT_eq h)

theorem inside : ((List.range 14).all fun k => names.all (fun s => case (.int .i64 k) (.str s)) && case (.int .i64 k) (.strA names 0 60)) = true := by kernel_rfl
theorem under : case (.rng .i64 (-9223372036854775808) (-1)) (.strA [] 0 60) = true := by kernel_rfl
theorem over : case (.rng .i64 14 9223372036854775807) (.strA [] 0 60) = true := by kernel_rfl
theorem long : case .top (.strA [] 61 9223372036854775807) = true := by kernel_rfl

theorem walk (a0 : Int) (a1 : ByteArray) (h0 : (-9223372036854775808) ≤ a0 ∧ a0 ≤ 9223372036854775807) (h1 : a1.size ≤ maxLen) (W : World) (hG : GOk (fun _ => True) W) :
    Calls Tryd.prog 7 #[.int .i64 a0, .string a1] W fun e w' => e = .returned (.bool true) ∧ Below W.heap.size W w' := by
  have known : ∀ {x y : AV}, case x y = true → VRel W (fun _ => True) none x (.int .i64 a0) → VRel W (fun _ => True) none y (.string a1) →
      Calls Tryd.prog 7 #[.int .i64 a0, .string a1] W fun e w' => e = .returned (.bool true) ∧ Below W.heap.size W w' :=
    fun h hx hy => calls_true (case_ok h) hG (crel2 hx hy)
  have hlen : a1.data.toList.length = a1.size := rfl
  have hmax : a1.size ≤ 9223372036854775807 := Nat.le_trans h1 (by decide)
  by_cases hl : 60 < a1.size
  · exact known long .top (.strA (fun s hs => by cases hs) (by omega) (by omega))
  have short : ∀ no, (∀ s ∈ no, a1.data.toList ≠ s) → VRel W (fun _ => True) none (.strA no 0 60) (.string a1) := fun no h => .strA h (by omega) (by omega)
  by_cases k1 : a0 < 0
  · exact known under (.rng (by omega) (by omega)) (short [] fun s hs => by cases hs)
  by_cases k2 : 14 ≤ a0
  · exact known over (.rng (by omega) (by omega)) (short [] fun s hs => by cases hs)
  obtain ⟨k, rfl⟩ : ∃ k : Nat, a0 = k := ⟨a0.toNat, by omega⟩
  have hk := List.all_eq_true.1 inside k (List.mem_range.2 (by omega))
  simp only [Bool.and_eq_true] at hk
  by_cases hm : a1.data.toList ∈ names
  · exact known (List.all_eq_true.1 hk.1 _ hm) .int (vstr rfl)
  · exact known hk.2 .int (short names fun s hs e => hm (by rw [e]; exact hs))

set_option maxRecDepth 100000 in
theorem contract (H : Type) (enc : TypeId × Value → H) (W : World) (base : Nat) (args : Array Value) (ds gs : List (DataW H)) (before : List MemPlace)
    (hval : ∀ (j : Nat) t v, Tryd.f7.params[j]? = some t → args[j]? = some v → Value.okWide Tryd.prog W .any base t v)
    (hW : DataW.Whole enc Tryd.prog Tryd.f7.params.toList Rows.partPortsSpec.vars false W args.toList ds gs before) (hL : laidMetH Tryd.prog Rows.partPortsRow.laid W) :
    Calls Tryd.prog 7 args W fun e W' => ∃ v, e = .returned v ∧ Rows.partPortsSpec.post enc Tryd.prog Tryd.f7 false true false false W args v W' := by
  have hW' := hW
  obtain ⟨p, q, hA0, hV, rfl, hfz, hnd⟩ := hW
  have hA : DataW.TrodAll enc Tryd.prog W 0 (fun _ => true) true Tryd.f7.params.toList args.toList ds p := hA0
  rw [Tryd.params7] at hA hval
  obtain ⟨v0, vs0, d0, ds0, p0, q0, hargs, rfl, rfl, t0, r0⟩ := trodAll_cons hA
  obtain ⟨v1, vs1, d1, ds1, p1, q1, rfl, rfl, rfl, t1, r1⟩ := trodAll_cons r0
  obtain ⟨rfl, rfl, rfl⟩ := trodAll_nil r1
  obtain rfl : args = #[v0, v1] := by cases args; simp_all
  obtain ⟨rfl, rfl⟩ := trodVars_none hV
  obtain ⟨a0, rfl, rfl, rfl, w0⟩ := open_int Tryd.underlying3 (hval 0 3 v0 rfl rfl) t0
  obtain ⟨a1, rfl, rfl, rfl, h1⟩ := open_string Tryd.underlying9 (hval 1 9 v1 rfl rfl) t1
  clear hA0
  simp only [List.append_nil] at hW'
  have h0 : (-9223372036854775808) ≤ a0 ∧ a0 ≤ 9223372036854775807 := by simpa [Lit.wf, IntKind.min, IntKind.max, IntKind.signed, IntKind.bits] using w0
  refine (walk a0 a1 h0 h1 W (table rfl hL)).mono fun e W' ⟨he, hg⟩ => ?_
  subst he
  exact ⟨_, rfl, post_below (pa := []) (pv := []) hW' (fun _ _ _ => trodAll_cons_mk (shut_bool Tryd.underlying4 _) trodAll_mk0)
    (fun _ _ => trodAll_cons_mk (shut_int Tryd.underlying3 w0) (trodAll_cons_mk (shut_string Tryd.underlying9 h1) trodAll_mk0)) (fun _ _ => rfl) rfl
    hg (ok_one (by kernel_rfl) rfl (okWide_bool_mk Tryd.underlying4 _))⟩

set_option maxRecDepth 100000 in
theorem laid_met (os : Os) : laidMet Tryd.prog Rows.partPortsRow.laid ((laidWorld os #[.int .i64 0, .string ⟨#[]⟩]).forCall (fun _ _ => 0) ⟨#[], #[.int .i64 0, .string ⟨#[]⟩], []⟩).memory :=
  laidMet_of_run' 8 (by kernel_rfl) (by kernel_rfl)
set_option maxRecDepth 100000 in
theorem readsW (os : Os) {H : Type} (enc : TypeId × Value → H) : ∃ places, DataW.whole enc Tryd.prog ((laidWorld os #[.int .i64 0, .string ⟨#[]⟩]).forCall (fun _ _ => 0) ⟨#[], #[.int .i64 0, .string ⟨#[]⟩], []⟩).memory Tryd.f7.params.toList Rows.partPortsSpec.vars false (#[.int .i64 0, .string ⟨#[]⟩] : Array Value).toList 8 = some ([.lit (.int .i64 0), .lit (.string [])], [], places) :=
  ⟨[], by kernel_rfl⟩

set_option maxRecDepth 100000 in
theorem lifted (os : Os) (started : os.Started) (H : Type) (enc : TypeId × Value → H) (F : Stop.Interp) :
    ReturnsInHanded {} Tryd.checked os 7 .any ((OpenSpec.ofChange Rows.partPortsSpec).preRow enc Tryd.prog Tryd.f7 Rows.partPortsRow.domain false Rows.partPortsRow.laid) (((OpenSpec.ofChange Rows.partPortsSpec).at F).post enc Tryd.prog Tryd.f7 false true false false) := by
  obtain ⟨places, hx⟩ := readsW os enc
  refine returnsInHanded_of_row (C := Tryd.checked) (s := OpenSpec.ofChange Rows.partPortsSpec) own started (by kernel_rfl) Tryd.func7
    (witness_row_at (enc := enc) (C := Tryd.checked) false (laidWorld os #[.int .i64 0, .string ⟨#[]⟩]) #[.int .i64 0, .string ⟨#[]⟩] rfl (by kernel_rfl) (by kernel_rfl) (by kernel_rfl)
      (OpenSpec.preRow_of_cond 8 hx (by kernel_rfl) (fun k hk => by cases hk) (by kernel_rfl) (laid_met os))) ?_
  intro W base args ds gs before hval hW _ _ _ hL _ _
  exact contract H enc W base args ds gs before hval hW hL

theorem said : Rows.PartPortsSaid :=
  OpenClaim.holds_of_cond 7 Tryd.f7 rfl rfl rfl rfl rfl rfl rfl ⟨rfl, rfl, rfl, rfl, rfl⟩ rfl rfl rfl rfl rfl (by kernel_rfl) Tryd.func7 (by kernel_rfl)
    (of_decide_eq_true (by kernel_rfl)) (by unfold Func.isWrapper; first | (rw [if_pos (by decide +kernel)]; kernel_rfl) | (rw [if_neg (by decide +kernel)]; exact ⟨rfl, rfl⟩))
    (fun os started H enc _ F => by rw [OpenClaim.pre_eq_preRow]; exact lifted os started H enc F)

theorem plain (f : FuncId) (fn : Func) (hf : Tryd.pinned.checked.prog.funcNamed "pneumatic/pneumaticlaw20.PartPorts" = some f) (hfn : Tryd.pinned.checked.prog.funcs[f]? = some fn) :
    false = Tryd.pinned.checked.prog.looks [] ∧ ∀ (j : Nat) t, fn.params[j]? = some t → Tryd.pinned.checked.prog.wantsStandIn t = false := by
  obtain rfl : f = 7 := Option.some.inj ((show Tryd.prog.funcNamed "pneumatic/pneumaticlaw20.PartPorts" = some 7 by kernel_rfl).symm.trans hf) |>.symm
  obtain rfl : fn = Tryd.f7 := (Option.some.inj (Tryd.func7.symm.trans hfn)).symm
  refine ⟨by kernel_rfl, fun j t ht => ?_⟩
  rw [Tryd.params7] at ht
  have n3 : Tryd.prog.wantsStandIn 3 = false := by kernel_rfl
  have n9 : Tryd.prog.wantsStandIn 9 = false := by kernel_rfl
  match j with
  | 0 => obtain rfl : t = 3 := by simpa using ht.symm
         exact n3
  | 1 => obtain rfl : t = 9 := by simpa using ht.symm
         exact n9
  | j + 2 => simp at ht

/-- THE CARD. -/
theorem card : Rows.PartPortsCardSaid :=
  Claim7.holds_tied_plain_at .later [] _ _ _ _ said (fun _ h => by cases h) (by kernel_rfl) (fun _ h => by cases h) partPorts_row_tie rfl ⟨rfl, rfl⟩ (by kernel_rfl) rfl plain (by kernel_rfl)
end Go.Proofs.YtclefndccgmolaaDoor.ports
