/-
  RANGE OVER A FUNCTION. A general base for proofs: no program is named here.
-/
import Derived.Test.YtclefndccgmolaaDoorAmRound
import Derived.RangeFuncNested
namespace Go.Am
open Go Go.RowKit

/-- What a jump out of a loop comes to. -/
def exitOf : Option Code → Option Exit
  | none => some .normal
  | some .ret => some .ret
  | some (.exit id) => some (.exit id)
  | _ => none

section
variable {P : Program} {w0 w : World} {N0 : Nat} {I : LI} {S S' : AS} {a : Act} {rd : Option (Nat × Nat)} {Q : Exit → AS → Prop}

/-- A block that is no row of cells is laid. -/
theorem lay_rel (h : HRel w0 N0 I S.heap S.next w) (hc : I.clk = S.clk) (ob : Obj) (o : AObj) (nn : Nat) (ho : Evo I w (I.bind S.next (.at w.heap.size 0 nn)) (w.alloc ob) → ORel (w.alloc ob) (I.bind S.next (.at w.heap.size 0 nn)) (.at w.heap.size 0 nn) o) :
    HRel w0 N0 (I.bind S.next (.at w.heap.size 0 nn)) ((S.next, S.clk, o) :: S.heap) (S.next + 1) (w.alloc ob) ∧ Evo I w (I.bind S.next (.at w.heap.size 0 nn)) (w.alloc ob) := by
  have hN : N0 ≤ w.heap.size := Nat.le_trans h.base h.below.size
  obtain ⟨k1, k2⟩ := h.bind (w' := w.alloc ob) (id := S.next) (next' := S.next + 1) (l := .at w.heap.size 0 nn) (o := o) ((Below.refl _ _).alloc hN _)
    (fun b hb' _ => Below.heap_alloc w _ b hb') (fun b base n e => by injection e with e1 e2 e3; subst e1; exact .inl (Nat.le_refl _)) ho (Nat.le_succ _) (Nat.lt_succ_self _)
  refine ⟨k1.congr fun i => ?_, k2⟩
  rw [← hc, look_putl, look_cons]

theorem after_loop (hE0 : S'.size = S.size) : S'.size = S.size := hE0

/-- Behind the function that was ranged over. -/
theorem end_loop {n : Nat} {r : Option Nat} {I0 I3 : LI} {w3 : World} {H2 : HS} {b lid lst base nn size : Nat} {stt : LoopState} {pe : Option Code} {tmps : TM} {ps : List Nat} {ca cb : Code} {df : Nat × Nat} {S4 : AS} {e : Exit} {a' : Act} {w00 : World}
    (h3 : HRel w0 N0 I3 H2.heap H2.next w3) (hloc : I3.loc lid lst = some (.at b base nn)) (hl : look lid H2.heap = some (lst, .loop stt pe size tmps ps ca cb df)) (hb : stt ≠ .busy) (hp : exitOf pe = some e)
    (hQ : Q e S4) (hR : ∀ w4 I4, HRel w0 N0 I4 (dropl lid H2.heap) H2.next w4 → I4.clk = I3.clk → Evo I3 w3 I4 w4 → Rel w0 N0 I4 S4 a' w4) (hE : Evo I0 w00 I3 w3) :
    ∃ jump w4, (Instr.endLoop b).run P w3 = .ok jump w4 ∧ (match jump with | none => Post w0 N0 I0 w00 Q .normal a' w4 | some c => c.wpIn (Wd r) n P (Post w0 N0 I0 w00 Q) a' w4) := by
  obtain ⟨_, l, hl2, hol⟩ := h3.heap _ _ _ hl
  rw [hloc] at hl2; injection hl2 with hl2; subst hl2
  obtain ⟨rr, g1, g2, g3, _⟩ := hol
  obtain ⟨m1, m2⟩ := loop_write (H := H2) (s2 := .exhausted) (p2 := rr.pending) h3 hl hloc g1
  have e1 : ({ rr with state := .exhausted } : Loop) = { rr with state := .exhausted, pending := rr.pending } := rfl
  refine ⟨rr.pending, _, run_endLoop g1 (by rw [g2]; exact hb), ?_⟩
  rw [e1]
  have m3 := m1.drop lid
  have m4 : HRel w0 N0 (I3.drop lid) (dropl lid H2.heap) H2.next _ := m3.congr fun i => by
    rw [look_dropl, look_dropl, look_putl]
    split <;> rfl
  have hE4 := m2.trans (Evo.drop I3 (w3.putObj b (.loop { rr with state := .exhausted, pending := rr.pending })) lid)
  have hRR := hR _ _ m4 rfl hE4
  have hpost : Post w0 N0 I0 w00 Q e a' (w3.putObj b (.loop { rr with state := .exhausted, pending := rr.pending })) := ⟨I3.drop lid, S4, hQ, hRR, hE.trans hE4⟩
  generalize w3.putObj b (.loop { rr with state := .exhausted, pending := rr.pending }) = W at hpost ⊢
  rw [g3]
  unfold exitOf at hp
  split at hp <;> simp only [Option.some.injEq, reduceCtorEq] at hp <;> subst hp
  · exact hpost
  · exact wpIn_ret hpost
  · exact wpIn_exit hpost

/-- The heap in which a function is ranged over, at an outermost loop. -/
def AS.rangeOuter (S : AS) (ps : List Nat) (ca cb : Code) : HS :=
  ⟨(S.next + 1, S.clk + 1, .loop .ready none S.size S.tmps ps ca cb (S.next, S.clk)) :: (S.next, S.clk, .deferred) :: S.heap, S.next + 2, S.clk + 2⟩

/-- What is asked of the function that is ranged over. -/
def RangeQ (S : AS) (lid lst : Nat) (marks : List (Nat × Nat)) (Q : Exit → AS → Prop) (H2 : HS) : Prop :=
  ∃ stt pe e tmps size ps' ca' cb' df, look lid H2.heap = some (lst, .loop stt pe size tmps ps' ca' cb' df) ∧ stt ≠ .busy ∧ exitOf pe = some e ∧ marksOk marks (dropl lid H2.heap) ∧
    Q e ⟨S.size, S.tmps, dropl lid H2.heap, H2.next, H2.clk, marks⟩

/-- **RANGE OVER A FUNCTION, IN NO ROUND.** -/
theorem T_range_outer {g : Arg} {ps : List Nat} {ca cb : Code} {ia ib : IC} {fid : FuncId} {first cap : List AV} (hg : S.arg g = some (.fn fid first cap))
    (h : Com P ca ia → Com P cb ib → FT P w0 N0 fid (first ++ [.yield (S.next + 1) (S.clk + 1)] ++ cap) (S.rangeOuter ps ca cb) fun _ H2 => RangeQ S (S.next + 1) (S.clk + 1) ((S.next, S.clk) :: S.marks) Q H2) :
    T P w0 N0 none (.rangeFunc g ps ca cb ia ib) S Q := fun code hcom n I a w r hr ho => by
  cases hcom with
  | @rangeFunc gf ps' _ _ _ _ _ h0 h1 h2 =>
    obtain rfl : r = none := by cases r with | none => rfl | some _ => exact ho.elim
    refine wpIn_rangeFunc fun fn _ => ?_
    have hv := hr.arg h0 hg
    generalize hgu : a.eval gf = gu at hv
    cases hv with
    | @fn _ _ _ _ fs cs f1 f2 f3 f4 =>
      obtain ⟨hEnt, hcall⟩ := h h1 h2
      -- the two blocks
      obtain ⟨k1, k2⟩ := lay_rel hr.hrel hr.clk (.deferred (some [])) .deferred 0 (fun _ => World.alloc_heap_new w _)
      have hI1c : (I.bind S.next (.at w.heap.size 0 0)).clk = S.clk + 1 := by show I.clk + 1 = _; rw [hr.clk]
      have hr1 : TRel (w.alloc (.deferred (some []))) (I.bind S.next (.at w.heap.size 0 0)).ro (some (I.bind S.next (.at w.heap.size 0 0))) S.size S.tmps a.tmps := hr.tmps.evo k2
      obtain ⟨m1, m2⟩ := lay_rel (S := ⟨S.size, S.tmps, (S.next, S.clk, .deferred) :: S.heap, S.next + 1, S.clk + 1, S.marks⟩) k1 hI1c
        (.loop { state := .ready, pending := none, fn := fn, tmps := a.tmps, params := ps', assign := ca, body := cb, defers := w.heap.size }) (.loop .ready none S.size S.tmps ps'.toList ca cb (S.next, S.clk)) 0
        (fun e => ⟨_, World.alloc_heap_new _ _, rfl, rfl, hr1.evo e, rfl, rfl, rfl, by show S.clk < I.clk + 1 + 1; rw [hr.clk]; omega, fun b' base' n' hl => by
          have hl2 := e.loc S.next S.clk _ (by rw [hI1c]; omega) hl
          rw [← hr.clk, LI.bind_same] at hl2
          injection hl2 with hl2; injection hl2 with e1 e2 e3⟩)
      let W := (w.alloc (.deferred (some []))).alloc (.loop { state := .ready, pending := none, fn := fn, tmps := a.tmps, params := ps', assign := ca, body := cb, defers := w.heap.size })
      refine ⟨w.heap.size + 1, [{ target := .collected w.heap.size, args := #[] }], W, { target := .fn (.func fid) cs, args := fs ++ #[.func (.yield (w.heap.size + 1)) #[] #[]] }, W, fid, fs ++ #[.func (.yield (w.heap.size + 1)) #[] #[]] ++ cs, W,
        run_enterLoop_outer fn a.tmps ps' ca cb, ?_, fun _ _ => Wd_fn _ _, ?_, fun e => by simp [Wd_depth] at e, ?_⟩
      · simp only [resolve, hgu, Deferred.ofValue]
        simp only [List.map_toArray, List.map_cons, List.map_nil]
        rfl
      · simp only [invoke]
        exact hEnt _ _
      · have hE2 := k2.trans m2
        have hI2 : ((I.bind S.next (.at w.heap.size 0 0)).bind (S.next + 1) (.at (w.alloc (.deferred (some []))).heap.size 0 0)).clk = S.clk + 2 := by show I.clk + 1 + 1 = _; rw [hr.clk]
        have hsz1 : (w.alloc (.deferred (some []))).heap.size = w.heap.size + 1 := World.size_alloc ..
        have hy : VRel ((w.alloc (.deferred (some []))).alloc (.loop { state := .ready, pending := none, fn := fn, tmps := a.tmps, params := ps', assign := ca, body := cb, defers := w.heap.size }))
            ((I.bind S.next (.at w.heap.size 0 0)).bind (S.next + 1) (.at (w.alloc (.deferred (some []))).heap.size 0 0)).ro (some ((I.bind S.next (.at w.heap.size 0 0)).bind (S.next + 1) (.at (w.alloc (.deferred (some []))).heap.size 0 0)))
            (.yield (S.next + 1) (S.clk + 1)) (.func (.yield (w.heap.size + 1)) #[] #[]) := by
          refine .yield ⟨_, rfl⟩ ⟨_, rfl, by rw [hI2]; omega, fun b base nn hb => ?_⟩
          have : (I.bind S.next (.at w.heap.size 0 0)).clk = S.clk + 1 := hI1c
          rw [← this, LI.bind_same] at hb
          injection hb with hb; injection hb with e1 e2 e3
          rw [← e1, hsz1]
        have hcr : CRel _ _ _ (first ++ [.yield (S.next + 1) (S.clk + 1)] ++ cap) (fs ++ #[.func (.yield (w.heap.size + 1)) #[] #[]] ++ cs) :=
          CRel.app (CRel.app ⟨f1, fun i x hx => (f3 i x hx).evo hE2⟩ ⟨rfl, fun i x hx => by
            cases i with
            | zero => simp at hx; subst hx; exact hy
            | succ i => simp at hx⟩) ⟨f2, fun i x hx => (f4 i x hx).evo hE2⟩
        refine callsIn_wd ((hcall _ _ _ m1 hI2 hcr).mono fun e w3 ⟨u, v, H2, I3, e1, ⟨stt, pe, ex, tmps, size, ps3, ca3, cb3, df, q1, q2, q3, q4, q5⟩, e3, e4, e5, e6⟩ => ?_)
        subst e1
        -- the record still lies where it was laid
        obtain ⟨_, l, hl, _⟩ := e3.heap _ _ _ q1
        have hl' := e6.loc _ _ _ (by rw [hI2]; omega) hl
        rw [← hI1c, LI.bind_same] at hl'
        injection hl' with hl'; subst hl'
        rw [hsz1] at hl
        refine end_loop e3 hl q1 q2 q3 q5 (fun w4 I4 g1 g2 g3 => ?_) (hE2.trans e6)
        have hEE := (hE2.trans e6).trans g3
        refine ⟨by rw [g2]; exact e4, hr.tmps.evo hEE, g1, ?_⟩
        refine ⟨by simp [hr.marks.1], fun i id st d hm hd => ?_, ?_⟩
        · have hmk := q4 _ (List.mem_of_getElem? hm)
          obtain ⟨_, l4, hl4, _⟩ := g1.heap _ _ _ hmk
          cases i with
          | zero =>
            simp at hm hd
            obtain ⟨rfl, rfl⟩ := hm
            subst hd
            have h5 := (m2.trans (e6.trans g3)).loc _ _ _ (by rw [hI1c]; omega) hl4
            rw [← hr.clk, LI.bind_same] at h5
            injection h5 with h5; subst h5
            exact ⟨hmk, _, _, _, hl4, rfl⟩
          | succ i =>
            obtain ⟨o1, b, base, nn, o2, o3⟩ := hr.marks.2.1 i id st d (by simpa using hm) (by simpa using hd)
            have h5 := hEE.loc _ _ _ (hr.hrel.heap _ _ _ o1).1 hl4
            rw [o2] at h5; injection h5 with h5; subst h5
            exact ⟨hmk, _, _, _, hl4, o3⟩
        · simp only [List.map_cons, List.nodup_cons]
          refine ⟨fun hmem => ?_, hr.marks.2.2⟩
          rw [List.mem_map] at hmem
          obtain ⟨m, hm, e1⟩ := hmem
          obtain ⟨i, hi, rfl⟩ := List.mem_iff_getElem.1 hm
          have hlt : i < a.defers.length := by rw [hr.marks.1]; exact hi
          obtain ⟨o1, _⟩ := hr.marks.2.1 i (S.marks[i]).1 (S.marks[i]).2 a.defers[i] (by simp [hi]) (by simp [hlt])
          rw [e1, hr.hrel.free _ (Nat.le_refl _)] at o1
          cases o1

/-- The heap in which a function is ranged over, at a loop in a round. -/
def AS.rangeInner (S : AS) (ps : List Nat) (ca cb : Code) (df : Nat × Nat) : HS :=
  ⟨(S.next, S.clk, .loop .ready none S.size S.tmps ps ca cb df) :: S.heap, S.next + 1, S.clk + 1⟩

/-- **RANGE OVER A FUNCTION, IN A ROUND.** -/
theorem T_range_inner {g : Arg} {ps : List Nat} {ca cb : Code} {ia ib : IC} {fid : FuncId} {first cap : List AV} {idr str : Nat} {s0 : LoopState} {p0 : Option Code} {size0 : Nat} {tmps0 : TM} {ps0 : List Nat} {ca0 cb0 : Code} {df : Nat × Nat} (hrl : look idr S.heap = some (str, .loop s0 p0 size0 tmps0 ps0 ca0 cb0 df)) (hg : S.arg g = some (.fn fid first cap))
    (h : Com P ca ia → Com P cb ib → FT P w0 N0 fid (first ++ [.yield S.next S.clk] ++ cap) (S.rangeInner ps ca cb df) fun _ H2 => RangeQ S S.next S.clk S.marks Q H2) :
    T P w0 N0 (some (idr, str)) (.rangeFunc g ps ca cb ia ib) S Q := fun code hcom n I a w r hr ho => by
  cases hcom with
  | @rangeFunc gf ps' _ _ _ _ _ h0 h1 h2 =>
    obtain ⟨l₀, rfl⟩ : ∃ l, r = some l := by cases r with | none => exact ho.elim | some l => exact ⟨l, rfl⟩
    refine wpIn_rangeFunc fun fn _ => ?_
    have hv := hr.arg h0 hg
    generalize hgu : a.eval gf = gu at hv
    cases hv with
    | @fn _ _ _ _ fs cs f1 f2 f3 f4 =>
      obtain ⟨hEnt, hcall⟩ := h h1 h2
      -- the enclosing round's record
      obtain ⟨_, l1, hl1, hol1⟩ := hr.hrel.heap _ _ _ hrl
      obtain ⟨bb, nn, hle⟩ := ho.2 _ hl1
      subst hle
      obtain ⟨r0, g1, g2, g3, g4, g5, g6, g7, g8, g9⟩ := hol1
      obtain ⟨m1, m2⟩ := lay_rel hr.hrel hr.clk (.loop { state := .ready, pending := none, fn := fn, tmps := a.tmps, params := ps', assign := ca, body := cb, defers := r0.defers }) (.loop .ready none S.size S.tmps ps'.toList ca cb df) 0
        (fun e => ⟨_, World.alloc_heap_new _ _, rfl, rfl, hr.tmps.evo e, rfl, rfl, rfl, Nat.lt_of_lt_of_le g8 e.clk, fun b' base' n' hl => g9 b' base' n' (e.loc _ _ _ g8 hl)⟩)
      let W := w.alloc (.loop { state := .ready, pending := none, fn := fn, tmps := a.tmps, params := ps', assign := ca, body := cb, defers := r0.defers })
      refine ⟨w.heap.size, [], W, { target := .fn (.func fid) cs, args := fs ++ #[.func (.yield w.heap.size) #[] #[]] }, W, fid, fs ++ #[.func (.yield w.heap.size) #[] #[]] ++ cs, W,
        run_enterLoop_inner g1 fn a.tmps ps' ca cb, ?_, fun _ _ => Wd_fn _ _, ?_, fun e => by simp [Wd_depth] at e, ?_⟩
      · simp only [resolve, hgu, Deferred.ofValue]
        simp only [List.map_toArray, List.map_cons, List.map_nil]
        rfl
      · simp only [invoke]
        exact hEnt _ _
      · have hI2 : (I.bind S.next (.at w.heap.size 0 0)).clk = S.clk + 1 := by show I.clk + 1 = _; rw [hr.clk]
        have hy : VRel W (I.bind S.next (.at w.heap.size 0 0)).ro (some (I.bind S.next (.at w.heap.size 0 0))) (.yield S.next S.clk) (.func (.yield w.heap.size) #[] #[]) := by
          refine .yield ⟨_, rfl⟩ ⟨_, rfl, by rw [hI2]; omega, fun b base nn hb => ?_⟩
          rw [← hr.clk, LI.bind_same] at hb
          injection hb with hb; injection hb with e1 e2 e3
          rw [e1]
        have hcr : CRel _ _ _ (first ++ [.yield S.next S.clk] ++ cap) (fs ++ #[.func (.yield w.heap.size) #[] #[]] ++ cs) :=
          CRel.app (CRel.app ⟨f1, fun i x hx => (f3 i x hx).evo m2⟩ ⟨rfl, fun i x hx => by
            cases i with
            | zero => simp at hx; subst hx; exact hy
            | succ i => simp at hx⟩) ⟨f2, fun i x hx => (f4 i x hx).evo m2⟩
        refine callsIn_wd ((hcall _ _ _ m1 hI2 hcr).mono fun e w3 ⟨u, v, H2, I3, e1, ⟨stt, pe, ex, tmps, size, ps3, ca3, cb3, df3, q1, q2, q3, q4, q5⟩, e3, e4, e5, e6⟩ => ?_)
        subst e1
        obtain ⟨_, l, hl, _⟩ := e3.heap _ _ _ q1
        have hl' := e6.loc _ _ _ (by rw [hI2]; omega) hl
        rw [← hr.clk, LI.bind_same] at hl'
        injection hl' with hl'; subst hl'

        refine end_loop e3 hl q1 q2 q3 q5 (fun w4 I4 g1 g2 g3 => ?_) (m2.trans e6)
        have hEE := (m2.trans e6).trans g3
        refine ⟨by rw [g2]; exact e4, hr.tmps.evo hEE, g1, ?_⟩
        refine ⟨hr.marks.1, fun i id st d hm hd => ?_, hr.marks.2.2⟩
        have hmk := q4 _ (List.mem_of_getElem? hm)
        obtain ⟨_, l4, hl4, _⟩ := g1.heap _ _ _ hmk
        obtain ⟨o1, b, base, nn, o2, o3⟩ := hr.marks.2.1 i id st d hm (by simpa using hd)
        have h5 := hEE.loc _ _ _ (hr.hrel.heap _ _ _ o1).1 hl4
        rw [o2] at h5; injection h5 with h5; subst h5
        exact ⟨hmk, _, _, _, hl4, o3⟩

end
end Go.Am
