/-
  WORD, KIND, LETTER AND CHECK RETURN THE RESULTS OR ERRORS OF THE REFERENCE FOR ALL KINDS, WORDS AND PARTS: 'PartNames' returns true for every kind, text and part, and leaves its arguments as they were, where lexer.ranges holds what its initialiser lays.
-/
import Derived.Test.YtclefndccgmolaaDoorW
import Derived.Test.YtclefndccgmolaaDoorBase
namespace Go.Proofs.YtclefndccgmolaaDoor.names_
open Go Go.Am Go.ChangeShapes Go.WideShapes Go.ChangeAt Go.RowKit Go.ChangeMaps Go.Joins

section
variable {H : Type} {enc : TypeId × Value → H} {w : World} {base : Nat} {sp : Nat → Bool} {held : Bool}

theorem partOne : Go.Deep.oneCellFields Tryd.prog #[{ name := "Kind", type := 3, offset := 0, embedded := false, tag := "", pkgPath := "", byteOffset := 0 }, { name := "Name", type := 9, offset := 1, embedded := false, tag := "", pkgPath := "", byteOffset := 8 }, { name := "Delay", type := 3, offset := 2, embedded := false, tag := "", pkgPath := "", byteOffset := 24 }] = true := by kernel_rfl
theorem partCells : Tryd.prog.cellsOf 54 = 3 := by kernel_rfl

set_option maxRecDepth 100000 in
theorem open_part {r : Reach} {b0 : Nat} {v : Value} {d : DataW H} {p : List MemPlace} (hv : Value.okWide Tryd.prog w r b0 54 v) (h : DataW.Trod enc Tryd.prog w base sp held 54 v d p) :
    ∃ (a : Int) (s : ByteArray) (c : Int), v = .agg #[.int .i64 a, .string s, .int .i64 c] ∧ d = .agg [.lit (.int .i64 a), .lit (.string s.data.toList), .lit (.int .i64 c)] ∧ p = [] ∧ (Lit.int .i64 a).wf = true ∧ s.size ≤ maxLen ∧ (Lit.int .i64 c).wf = true := by
  obtain ⟨v0, v1, v2, y0, y1, y2, n, rfl, rfl, rfl, t0, t1, t2⟩ := Joins.open_agg3 Tryd.underlying54 partOne partCells hv h
  obtain ⟨a, e0, rfl, wa⟩ := DataW.trod_int Tryd.underlying3 t0
  obtain ⟨s, e1, rfl, ws⟩ := DataW.trod_string Tryd.underlying9 t1
  obtain ⟨c, e2, rfl, wc⟩ := DataW.trod_int Tryd.underlying3 t2
  simp only [List.cons.injEq, and_true] at e0 e1 e2
  subst e0 e1 e2
  exact ⟨a, s, c, rfl, rfl, rfl, wa, ws, wc⟩

set_option maxRecDepth 100000 in
theorem shut_part {a c : Int} {s : ByteArray} (wa : (Lit.int .i64 a).wf = true) (ws : s.size ≤ maxLen) (wc : (Lit.int .i64 c).wf = true) :
    DataW.Trod enc Tryd.prog w base sp held 54 (.agg #[.int .i64 a, .string s, .int .i64 c]) (.agg [.lit (.int .i64 a), .lit (.string s.data.toList), .lit (.int .i64 c)]) [] :=
  Joins.shut_agg3 (y0 := (.lit (.int .i64 a), [])) (y1 := (.lit (.string s.data.toList), [])) (y2 := (.lit (.int .i64 c), [])) Tryd.underlying54 partOne partCells
    ⟨1, by simp [DataW.trod, Tryd.underlying3, wa]⟩ ⟨1, by simp [DataW.trod, Tryd.underlying9, ws]⟩ ⟨1, by simp [DataW.trod, Tryd.underlying3, wc]⟩

end

theorem walk (a0 : Int) (a1 : ByteArray) (a2 : Int) (b2 : ByteArray) (c2 : Int) (h0 : (-9223372036854775808) ≤ a0 ∧ a0 ≤ 9223372036854775807) (_h1 : a1.size ≤ maxLen) (h2 : (-9223372036854775808) ≤ a2 ∧ a2 ≤ 9223372036854775807) (W : World) (hG : GOk (fun _ => True) W) :
    Calls Tryd.prog 6 #[.int .i64 a0, .string a1, .agg #[.int .i64 a2, .string b2, .int .i64 c2]] W fun e w' => e = .returned (.bool true) ∧ Below W.heap.size W w' :=
  calls_true (names a0 h0 a1.data.toList a2 h2 b2.data.toList c2) hG (crel3 .int .str (.agg rfl (crel3 .int .str .int).2))

set_option maxRecDepth 100000 in
theorem contract (H : Type) (enc : TypeId × Value → H) (W : World) (base : Nat) (args : Array Value) (ds gs : List (DataW H)) (before : List MemPlace)
    (hval : ∀ (j : Nat) t v, Tryd.f6.params[j]? = some t → args[j]? = some v → Value.okWide Tryd.prog W .any base t v)
    (hW : DataW.Whole enc Tryd.prog Tryd.f6.params.toList Rows.partNamesSpec.vars false W args.toList ds gs before) (hL : laidMetH Tryd.prog Rows.partNamesRow.laid W) :
    Calls Tryd.prog 6 args W fun e W' => ∃ v, e = .returned v ∧ Rows.partNamesSpec.post enc Tryd.prog Tryd.f6 false true false false W args v W' := by
  have hW' := hW
  obtain ⟨p, q, hA0, hV, rfl, hfz, hnd⟩ := hW
  have hA : DataW.TrodAll enc Tryd.prog W 0 (fun _ => true) true Tryd.f6.params.toList args.toList ds p := hA0
  rw [Tryd.params6] at hA hval
  obtain ⟨v0, vs0, d0, ds0, p0, q0, hargs, rfl, rfl, t0, r0⟩ := trodAll_cons hA
  obtain ⟨v1, vs1, d1, ds1, p1, q1, rfl, rfl, rfl, t1, r1⟩ := trodAll_cons r0
  obtain ⟨v2, vs2, d2, ds2, p2, q2, rfl, rfl, rfl, t2, r2⟩ := trodAll_cons r1
  obtain ⟨rfl, rfl, rfl⟩ := trodAll_nil r2
  obtain rfl : args = #[v0, v1, v2] := by cases args; simp_all
  obtain ⟨rfl, rfl⟩ := trodVars_none hV
  obtain ⟨a0, rfl, rfl, rfl, w0⟩ := open_int Tryd.underlying3 (hval 0 3 v0 rfl rfl) t0
  obtain ⟨a1, rfl, rfl, rfl, h1⟩ := open_string Tryd.underlying9 (hval 1 9 v1 rfl rfl) t1
  obtain ⟨a2, b2, c2, rfl, rfl, rfl, w2, x2, y2⟩ := open_part (hval 2 54 v2 rfl rfl) t2
  clear hA0
  simp only [List.append_nil] at hW'
  have h0 : (-9223372036854775808) ≤ a0 ∧ a0 ≤ 9223372036854775807 := by simpa [Lit.wf, IntKind.min, IntKind.max, IntKind.signed, IntKind.bits] using w0
  have h2 : (-9223372036854775808) ≤ a2 ∧ a2 ≤ 9223372036854775807 := by simpa [Lit.wf, IntKind.min, IntKind.max, IntKind.signed, IntKind.bits] using w2
  refine (walk a0 a1 a2 b2 c2 h0 h1 h2 W (table rfl hL)).mono fun e W' ⟨he, hg⟩ => ?_
  subst he
  exact ⟨_, rfl, post_below (pa := []) (pv := []) hW' (fun _ _ _ => trodAll_cons_mk (shut_bool Tryd.underlying4 _) trodAll_mk0)
    (fun _ _ => trodAll_cons_mk (shut_int Tryd.underlying3 w0) (trodAll_cons_mk (shut_string Tryd.underlying9 h1) (trodAll_cons_mk (shut_part w2 x2 y2) trodAll_mk0))) (fun _ _ => rfl) rfl
    hg (ok_one (by kernel_rfl) rfl (okWide_bool_mk Tryd.underlying4 _))⟩

set_option maxRecDepth 100000 in
theorem laid_met (os : Os) : laidMet Tryd.prog Rows.partNamesRow.laid ((laidWorld os #[.int .i64 0, .string ⟨#[]⟩, .agg #[.int .i64 0, .string ⟨#[]⟩, .int .i64 0]]).forCall (fun _ _ => 0) ⟨#[], #[.int .i64 0, .string ⟨#[]⟩, .agg #[.int .i64 0, .string ⟨#[]⟩, .int .i64 0]], []⟩).memory :=
  laidMet_of_run' 8 (by kernel_rfl) (by kernel_rfl)
set_option maxRecDepth 100000 in
theorem readsW (os : Os) {H : Type} (enc : TypeId × Value → H) : ∃ places, DataW.whole enc Tryd.prog ((laidWorld os #[.int .i64 0, .string ⟨#[]⟩, .agg #[.int .i64 0, .string ⟨#[]⟩, .int .i64 0]]).forCall (fun _ _ => 0) ⟨#[], #[.int .i64 0, .string ⟨#[]⟩, .agg #[.int .i64 0, .string ⟨#[]⟩, .int .i64 0]], []⟩).memory Tryd.f6.params.toList Rows.partNamesSpec.vars false (#[.int .i64 0, .string ⟨#[]⟩, .agg #[.int .i64 0, .string ⟨#[]⟩, .int .i64 0]] : Array Value).toList 8 = some ([.lit (.int .i64 0), .lit (.string []), .agg [.lit (.int .i64 0), .lit (.string []), .lit (.int .i64 0)]], [], places) :=
  ⟨[], by kernel_rfl⟩

set_option maxRecDepth 100000 in
theorem lifted (os : Os) (started : os.Started) (H : Type) (enc : TypeId × Value → H) (F : Stop.Interp) :
    ReturnsInHanded {} Tryd.checked os 6 .any ((OpenSpec.ofChange Rows.partNamesSpec).preRow enc Tryd.prog Tryd.f6 Rows.partNamesRow.domain false Rows.partNamesRow.laid) (((OpenSpec.ofChange Rows.partNamesSpec).at F).post enc Tryd.prog Tryd.f6 false true false false) := by
  obtain ⟨places, hx⟩ := readsW os enc
  refine returnsInHanded_of_row (C := Tryd.checked) (s := OpenSpec.ofChange Rows.partNamesSpec) own started (by kernel_rfl) Tryd.func6
    (witness_row_at (enc := enc) (C := Tryd.checked) false (laidWorld os #[.int .i64 0, .string ⟨#[]⟩, .agg #[.int .i64 0, .string ⟨#[]⟩, .int .i64 0]]) #[.int .i64 0, .string ⟨#[]⟩, .agg #[.int .i64 0, .string ⟨#[]⟩, .int .i64 0]] rfl (by kernel_rfl) (by kernel_rfl) (by kernel_rfl)
      (OpenSpec.preRow_of_cond 8 hx (by kernel_rfl) (fun k hk => by cases hk) (by kernel_rfl) (laid_met os))) ?_
  intro W base args ds gs before hval hW _ _ _ hL _ _
  exact contract H enc W base args ds gs before hval hW hL

theorem said : Rows.PartNamesSaid :=
  OpenClaim.holds_of_cond 6 Tryd.f6 rfl rfl rfl rfl rfl rfl rfl ⟨rfl, rfl, rfl, rfl, rfl⟩ rfl rfl rfl rfl rfl (by kernel_rfl) Tryd.func6 (by kernel_rfl)
    (of_decide_eq_true (by kernel_rfl)) (by unfold Func.isWrapper; first | (rw [if_pos (by decide +kernel)]; kernel_rfl) | (rw [if_neg (by decide +kernel)]; exact ⟨rfl, rfl⟩))
    (fun os started H enc _ F => by rw [OpenClaim.pre_eq_preRow]; exact lifted os started H enc F)

theorem plain (f : FuncId) (fn : Func) (hf : Tryd.pinned.checked.prog.funcNamed "pneumatic/pneumaticlaw20.PartNames" = some f) (hfn : Tryd.pinned.checked.prog.funcs[f]? = some fn) :
    false = Tryd.pinned.checked.prog.looks [] ∧ ∀ (j : Nat) t, fn.params[j]? = some t → Tryd.pinned.checked.prog.wantsStandIn t = false := by
  obtain rfl : f = 6 := Option.some.inj ((show Tryd.prog.funcNamed "pneumatic/pneumaticlaw20.PartNames" = some 6 by kernel_rfl).symm.trans hf) |>.symm
  obtain rfl : fn = Tryd.f6 := (Option.some.inj (Tryd.func6.symm.trans hfn)).symm
  refine ⟨by kernel_rfl, fun j t ht => ?_⟩
  rw [Tryd.params6] at ht
  have n3 : Tryd.prog.wantsStandIn 3 = false := by kernel_rfl
  have n9 : Tryd.prog.wantsStandIn 9 = false := by kernel_rfl
  have n54 : Tryd.prog.wantsStandIn 54 = false := by kernel_rfl
  match j with
  | 0 => obtain rfl : t = 3 := by simpa using ht.symm
         exact n3
  | 1 => obtain rfl : t = 9 := by simpa using ht.symm
         exact n9
  | 2 => obtain rfl : t = 54 := by simpa using ht.symm
         exact n54
  | j + 3 => simp at ht

/-- THE CARD. -/
theorem card : Rows.PartNamesCardSaid :=
  Claim7.holds_tied_plain_at .later [] _ _ _ _ said (fun _ h => by cases h) (by kernel_rfl) (fun _ h => by cases h) partNames_row_tie rfl ⟨rfl, rfl⟩ (by kernel_rfl) rfl plain (by kernel_rfl)
end Go.Proofs.YtclefndccgmolaaDoor.names_
