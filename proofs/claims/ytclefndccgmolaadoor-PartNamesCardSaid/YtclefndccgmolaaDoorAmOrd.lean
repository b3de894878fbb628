/-
  OPERATIONS IN A ROW. A general base for proofs: no program is named here.
-/
import Derived.Test.YtclefndccgmolaaDoorAmCall
namespace Go.Am
open Go Go.RowKit

def Match (P : Program) (ops : Array Oper) : List Nat → List Opr → Prop
  | [], [] => True
  | i :: l, io :: ios => (∃ o, ops[i]? = some o ∧ comIO P ops o = some io) ∧ Match P ops l ios
  | _, _ => False

theorem match_range (P : Program) (ops : Array Oper) : ∀ (m k : Nat) (ios : List Opr), k + m = ops.size → (ops.toList.drop k).mapM (comIO P ops) = some ios → Match P ops (List.range' k m) ios
  | 0, k, ios, h, hm => by
    have : ops.toList.drop k = [] := by simp; omega
    rw [this] at hm
    simp at hm; subst hm
    exact trivial
  | m + 1, k, ios, h, hm => by
    have hk : k < ops.toList.length := by simp; omega
    rw [List.drop_eq_getElem_cons hk, List.mapM_cons] at hm
    generalize hx : ops.toList[k] = x at hm
    have hxo : ops[k]? = some x := by
      have : k < ops.size := by simpa using hk
      rw [← hx]; simp [this]
    cases h1 : comIO P ops x with
    | none => simp [h1] at hm
    | some io =>
      cases h2 : (ops.toList.drop (k + 1)).mapM (comIO P ops) with
      | none => simp [h1, h2] at hm
      | some r =>
        simp [h1, h2] at hm
        subst hm
        rw [List.range'_succ]
        exact ⟨⟨x, hxo, h1⟩, match_range P ops m (k + 1) r (by omega) h2⟩

theorem com_call {P : Program} {op : Op} {fa : Arg} {args : List Arg} (h : comOp P op = some (.call fa args)) :
    ∃ f xs ts, op = .call ⟨.value f, xs, ts⟩ ∧ comOperand f = some fa ∧ xs.toList.mapM comOperand = some args := by
  cases op
  case call c =>
    obtain ⟨callee, xs, ts⟩ := c
    cases callee with
    | value f =>
      simp only [comOp] at h
      split at h
      · rename_i f' l hf' hl
        simp only [Option.some.injEq, IOp.call.injEq] at h
        obtain ⟨rfl, rfl⟩ := h
        exact ⟨f, xs, ts, rfl, hf', hl⟩
      · cases h
    | invoke => simp [comOp] at h
    | builtin b =>
      exfalso
      cases b <;> simp only [comOp, reduceCtorEq] at h
      all_goals (repeat' (split at h)) <;> simp at h
  all_goals (exfalso; simp only [comOp, reduceCtorEq] at h)
  all_goals (repeat' (split at h)) <;> first | (simp at h; done) | simp_all

def wantedA (S : AS) (io : Opr) : Option Bool :=
  match io.guard with
  | none => some true
  | some (d, b) => match S.get d with
    | some (.bool x) => some (x == b)
    | some (.tup _) => some false
    | _ => none

/-- Operations in a row, from a state. -/
def TO (P : Program) (w0 : World) (N0 : Nat) (rd : Option (Nat × Nat)) (ios : List Opr) (S : AS) (K : AS → Prop) : Prop :=
  ∀ ops l, Match P ops l ios → ∀ n I a w r (Qc : Exit → Act → World → Prop), Rel w0 N0 I S a w → RdOk I rd r →
    (∀ I' S' a' w', K S' → Rel w0 N0 I' S' a' w' → Evo I w I' w' → Qc .normal a' w') → wpOpsIn (Wd r) n P ops Qc l a w

section
variable {P : Program} {w0 w : World} {N0 : Nat} {I : LI} {S S' S1 : AS} {a : Act} {rd : Option (Nat × Nat)} {K : AS → Prop} {io : Opr} {ios : List Opr} {v : AV}

theorem wanted_of (h : Rel w0 N0 I S a w) {ops : Array Oper} {o : Oper} (hc : comIO P ops o = some io) {b : Bool} (hw : wantedA S io = some b) : Region.wanted o (yielded ops a.tmps) = b := by
  unfold comIO at hc
  split at hc
  · rename_i hg
    simp only [Option.some.injEq] at hc; subst hc
    simp [wantedA] at hw; subst hw
    simp [Region.wanted, hg]
  · rename_i g bb hg
    split at hc
    · rename_i d hd
      simp only [Option.some.injEq] at hc; subst hc
      simp only [wantedA] at hw
      split at hw
      · rename_i x hx
        simp only [Option.some.injEq] at hw; subst hw
        have hv := h.tmps.2 d _ hx
        have hy : yielded ops a.tmps g = some x := by
          generalize hu : a.tmps.getD d undef = u at hv
          cases hv
          simp only [yielded, hd, Option.bind_some]
          cases he : a.tmps[d]? with
          | none => rw [Array.getD_eq_getD_getElem?, he] at hu; simp [undef] at hu
          | some y => rw [Array.getD_eq_getD_getElem?, he] at hu; simp at hu; subst hu; rfl
        simp only [Region.wanted, hg, hy]
        cases x <;> cases bb <;> rfl
      · rename_i vs hx
        simp only [Option.some.injEq] at hw; subst hw
        have hv := h.tmps.2 d _ hx
        have hy : yielded ops a.tmps g = none := by
          generalize hu : a.tmps.getD d undef = u at hv
          cases hv
          simp only [yielded, hd, Option.bind_some]
          cases he : a.tmps[d]? with
          | none => rfl
          | some y => rw [Array.getD_eq_getD_getElem?, he] at hu; simp at hu; subst hu; rfl
        simp only [Region.wanted, hg, hy]
        cases bb <;> rfl
      · cases hw
    · cases hc

theorem com_dst {ops : Array Oper} {o : Oper} (hc : comIO P ops o = some io) : o.dst = io.dst ∧ opOf P o.op = io.op := by
  unfold comIO at hc
  split at hc
  · simp only [Option.some.injEq] at hc; subst hc; exact ⟨rfl, rfl⟩
  · split at hc
    · simp only [Option.some.injEq] at hc; subst hc; exact ⟨rfl, rfl⟩
    · cases hc

theorem com_op {ops : Array Oper} {o : Oper} (hc : comIO P ops o = some io) (hb : io.op ≠ .bad) : comOp P o.op = some io.op := by
  have h := (com_dst hc).2
  unfold opOf at h
  split at h
  · rename_i x hx; rw [hx, h]
  · exact absurd h.symm hb

theorem not_defer {o : Oper} {op : IOp} (h : comOp P o.op = some op) : ∀ c, o.op ≠ .defer c := by
  intro c e; rw [e] at h; simp [comOp] at h

theorem TO_nil (h : K S) : TO P w0 N0 rd [] S K := fun ops l hm n I a w r Qc hr ho hk => by
  cases l with
  | nil => exact hk I S a w h hr (Evo.refl I w)
  | cons => exact hm.elim

theorem AS.put_size (d : Option Nat) (v : AV) : (S.put d v).size = S.size := by cases d <;> rfl

/-- One operation's contract. -/
def Stp (P : Program) (w0 : World) (N0 : Nat) (rd : Option (Nat × Nat)) (io : Opr) (S : AS) (Fk : AS → AV → Prop) : Prop :=
  ∀ (ops : Array Oper) (o : Oper), comIO P ops o = some io → ∀ n I a w r (next : Act → World → Prop) (Qc : Exit → Act → World → Prop), Rel w0 N0 I S a w → RdOk I rd r →
      (∀ I' S1 v u w', Fk S1 v → Rel w0 N0 I' S1 a w' → VRel w' I'.ro (some I') v u → Evo I w I' w' → next (a.put o.dst u) w') → o.wpIn (Wd r) n P a w next Qc

theorem Stp.mono {Fk Fk' : AS → AV → Prop} (h : Stp P w0 N0 rd io S Fk) (hq : ∀ S v, Fk S v → Fk' S v) : Stp P w0 N0 rd io S Fk' :=
  fun ops o hc n I a w r next Qc hR ho hk => h ops o hc n I a w r next Qc hR ho fun I' S1 v u w' q => hk I' S1 v u w' (hq _ _ q)

/-- One operation more, whatever its next state is. -/
theorem TO_cons {Fk : AS → AV → Prop} (h : Stp P w0 N0 rd io S Fk)
    (hw : wantedA S io = some true) (hn : ∀ S1 v, Fk S1 v → okDst S1.size io.dst = true ∧ TO P w0 N0 rd ios (S1.put io.dst v) K) : TO P w0 N0 rd (io :: ios) S K := fun ops l hm n I a w r Qc hr ho hk => by
  cases l with
  | nil => exact hm.elim
  | cons i l =>
    obtain ⟨⟨o, hi, hc⟩, hm'⟩ := hm
    simp only [wpOpsIn, hi]
    rw [if_pos (wanted_of hr hc hw)]
    refine h ops o hc n I a w r _ Qc hr ho fun I' S1 v u w' hF hR hV hE => ?_
    obtain ⟨hd, hT⟩ := hn S1 v hF
    have hR' := hR.put hd hV
    rw [(com_dst hc).1]
    exact hT ops l hm' n I' _ w' r Qc hR' (ho.evo hE) fun I'' S'' a'' w'' k x y => hk I'' S'' a'' w'' k x (hE.trans y)

/-- An operation whose guard says no. -/
theorem TO_skip (hw : wantedA S io = some false) (hd : okDst S.size io.dst = true) (h : TO P w0 N0 rd ios (S.put io.dst (.tup [])) K) : TO P w0 N0 rd (io :: ios) S K := fun ops l hm n I a w r Qc hr ho hk => by
  cases l with
  | nil => exact hm.elim
  | cons i l =>
    obtain ⟨⟨o, hi, hc⟩, hm'⟩ := hm
    simp only [wpOpsIn, hi]
    rw [if_neg (by rw [wanted_of hr hc hw]; simp), (com_dst hc).1]
    exact ⟨fun _ _ => trivial, h ops l hm' n I _ w r Qc (hr.put hd (v := .tup []) (u := undef) (.tup rfl (by simp))) ho hk⟩

/-- An operation that is no call. -/
theorem Stp_op (hr : iop S io.op = some (v, S1)) : Stp P w0 N0 rd io S (fun S2 v2 => S2 = S1 ∧ v2 = v) := fun ops o hc n I a w r next Qc hR ho hk => by
    refine ⟨fun _ _ => trivial, ?_⟩
    show o.uponIn (Wd r) n P a next Qc ((o.semAt r a.eval).run P w)
    have hcop := com_op hc (fun e => by rw [e] at hr; simp [iop] at hr)
    rw [Oper.semAt_eq r a.eval o (not_defer hcop)]
    obtain ⟨u, w', I', e, hv, hR', hE⟩ := iop_sound hR o hcop hr
    rcases e with e | ⟨e, hu⟩
    · rw [e]; exact hk I' S1 v u w' ⟨rfl, rfl⟩ hR' hv hE
    · rw [e]; subst hu; exact hk I' S1 v undef w' ⟨rfl, rfl⟩ hR' hv hE

theorem TO_op (hr : iop S io.op = some (v, S1)) (hw : wantedA S io = some true) (hd : okDst S1.size io.dst = true) (h : TO P w0 N0 rd ios (S1.put io.dst v) K) : TO P w0 N0 rd (io :: ios) S K :=
  TO_cons (Stp_op hr) hw (fun S2 v2 ⟨e1, e2⟩ => by subst e1 e2; exact ⟨hd, h⟩)

theorem Rel.withH (h : Rel w0 N0 I S a w) {H : HS} {I' : LI} {w' : World} (hH : HRel w0 N0 I' H.heap H.next w') (hc : I'.clk = H.clk) (hE : Evo I w I' w') (hm : DRel I' H.heap S.marks a.defers) : Rel w0 N0 I' (S.withH H) a w' :=
  ⟨hc, h.tmps.evo hE, hH, hm⟩

/-- What a call of a function value comes to. -/
theorem run_callv {o : Oper} {f : Operand} {xs : Array Operand} {ts : Array TypeId} (ho : o.op = .call ⟨.value f, xs, ts⟩) {fid : FuncId} {fs cs : Array Value} (hf : a.eval f = .func (.func fid) fs cs) (he : Ent P fid) (w : World) :
    (execOp a.eval o).run P w = .ok (.enter fid (fs ++ xs.map a.eval ++ cs)) w := by
  simp only [execOp, ho, resolve, hf, Deferred.ofValue, Sem.run_bind, Sem.run_pure, Result.andThen_ok, invoke]
  exact he _ w

theorem CRel.app {w : World} {ro : Nat → Prop} {L : Option LI} {cs ds : List AV} {us zs : Array Value} (h1 : CRel w ro L cs us) (h2 : CRel w ro L ds zs) : CRel w ro L (cs ++ ds) (us ++ zs) :=
  ⟨by simp [h1.1, h2.1], fun i x hx => by have := h1.append h2 #[] i x hx; simpa using this⟩

/-- The marks of the activation's own loops still stand. -/
def marksOk (marks : List (Nat × Nat)) (hp : List (Nat × Nat × AObj)) : Prop := ∀ m ∈ marks, look m.1 hp = some (m.2, .deferred)

theorem DRel.later {I I' : LI} {w' : World} {hp hp' : List (Nat × Nat × AObj)} {next' : Nat} {marks : List (Nat × Nat)} {ds : List Deferred} (h : DRel I hp marks ds) (hs : ∀ m ∈ marks, m.2 < I.clk) (hm : marksOk marks hp') (hH : HRel w0 N0 I' hp' next' w') (hE : Evo I w I' w') :
    DRel I' hp' marks ds := by
  refine ⟨h.1, fun i id st d h1 h2 => ?_, h.2.2⟩
  obtain ⟨_, b, base, n, h4, h5⟩ := h.2.1 i id st d h1 h2
  have hmem := List.mem_of_getElem? h1
  have hl := hm _ hmem
  obtain ⟨_, l, hl', _⟩ := hH.heap _ _ _ hl
  have := hE.loc id st l (hs _ hmem) hl'
  rw [h4] at this
  injection this with this
  subst this
  exact ⟨hl, b, base, n, hl', h5⟩

theorem Rel.stamps (h : Rel w0 N0 I S a w) : ∀ m ∈ S.marks, m.2 < I.clk := by
  intro m hm
  obtain ⟨i, hi, rfl⟩ := List.mem_iff_getElem.1 hm
  have hlt : i < a.defers.length := by rw [h.marks.1]; exact hi
  obtain ⟨h1, _⟩ := h.marks.2.1 i (S.marks[i]).1 (S.marks[i]).2 a.defers[i] (by simp [hi]) (by simp [hlt])
  exact (h.hrel.heap _ _ _ h1).1

/-- A call of a function whose contract is known, heap and all. -/
theorem Stp_call {fa : Arg} {args : List Arg} {fid : FuncId} {first cap vs : List AV} (hop : io.op = .call fa args) (hf : S.arg fa = some (.fn fid first cap)) (ha : S.args args = some vs) {Fk : AV → HS → Prop}
    (hc : FT P w0 N0 fid (first ++ vs ++ cap) S.hs Fk) (hmk : ∀ v H, Fk v H → marksOk S.marks H.heap) : Stp P w0 N0 rd io S (fun S2 v2 => ∃ H, Fk v2 H ∧ S2 = S.withH H) := fun ops o hcom n I a w r next Qc hR ho hk => by
    have hcop := com_op hcom (by rw [hop]; simp)
    have hcop0 := hcop
    rw [hop] at hcop
    obtain ⟨f, xs, ts, hoo, hf', hl⟩ := com_call hcop
    have hfv := hR.arg hf' hf
    generalize hfe : a.eval f = fu at hfv
    cases hfv with
    | @fn _ _ _ _ fs cs g1 g2 g3 g4 =>
      refine ⟨fun _ _ => trivial, ?_⟩
      show Oper.uponIn (Wd r) n P _ a next Qc ((Oper.semAt r a.eval _).run P w)
      rw [Oper.semAt_eq r a.eval _ (not_defer hcop0), run_callv hoo hfe hc.1 w]
      refine ⟨fun e => by simp [Wd_depth] at e, ?_⟩
      obtain ⟨x1, x2⟩ := hR.args hl ha
      have hcr : CRel w I.ro (some I) (first ++ vs ++ cap) (fs ++ xs.map a.eval ++ cs) := CRel.app (CRel.app ⟨g1, g3⟩ ⟨x1, x2⟩) ⟨g2, g4⟩
      refine callsIn_wd ((hc.2 I w _ hR.hrel hR.clk hcr).mono fun e w' ⟨u, v, H', I', h1, h2, h3, h4, h5, h6⟩ => ?_)
      subst h1
      exact hk I' (S.withH H') v u w' ⟨H', h2, rfl⟩ (hR.withH h3 h4 h6 (hR.marks.later hR.stamps (hmk v H' h2) h3 h6)) h5 h6

theorem TO_call {fa : Arg} {args : List Arg} {fid : FuncId} {first cap vs : List AV} (hop : io.op = .call fa args) (hf : S.arg fa = some (.fn fid first cap)) (ha : S.args args = some vs) (hw : wantedA S io = some true) {Fk : AV → HS → Prop}
    (hc : FT P w0 N0 fid (first ++ vs ++ cap) S.hs Fk) (hmk : ∀ v H, Fk v H → marksOk S.marks H.heap) (hd : okDst S.size io.dst = true) (h : ∀ v H, Fk v H → TO P w0 N0 rd ios ((S.withH H).put io.dst v) K) : TO P w0 N0 rd (io :: ios) S K :=
  TO_cons (Stp_call hop hf ha hc hmk) hw (fun S2 v2 ⟨H, e1, e2⟩ => by subst e2; exact ⟨hd, h v2 H e1⟩)

/-- How deep an argument is viewed. -/
def VD : Nat := 4

theorem views_rel (h : Rel w0 N0 I S a w) {vs : List AV} {us : Array Value} (hc : CRel w I.ro (some I) vs us) : CRel w I.ok none (vs.map (S.view VD)) us ∧ (hasM.hasML vs = false → CRel w I.ro none (vs.map (S.view VD)) us) := by
  refine ⟨⟨by simp [hc.1], fun i x hx => ?_⟩, fun hm => ⟨by simp [hc.1], fun i x hx => ?_⟩⟩
  · rw [List.getElem?_map, Option.map_eq_some_iff] at hx
    obtain ⟨y, hy, rfl⟩ := hx
    exact view_rel h.hrel VD (hc.2 i y hy)
  · rw [List.getElem?_map, Option.map_eq_some_iff] at hx
    obtain ⟨y, hy, rfl⟩ := hx
    exact view_pure VD (hc.2 i y hy) (hasML_get hm i y hy)

/-- A call that only computes. -/
theorem Stp_pure {fa : Arg} {args : List Arg} {fid : FuncId} {first cap vs : List AV} (hop : io.op = .call fa args) (hf : S.arg fa = some (.fn fid first cap)) (ha : S.args args = some vs)
    (hc : PF P fid ((first ++ vs ++ cap).map (S.view VD)) v) (hfl : hasM.hasML (first ++ vs ++ cap) = true → flat v = true) : Stp P w0 N0 rd io S (fun S2 v2 => S2 = S ∧ v2 = v) := fun ops o hcom n I a w r next Qc hR ho hk => by
    have hcop := com_op hcom (by rw [hop]; simp)
    have hcop0 := hcop
    rw [hop] at hcop
    obtain ⟨f, xs, ts, hoo, hf', hl⟩ := com_call hcop
    have hfv := hR.arg hf' hf
    generalize hfe : a.eval f = fu at hfv
    cases hfv with
    | @fn _ _ _ _ fs cs g1 g2 g3 g4 =>
      refine ⟨fun _ _ => trivial, ?_⟩
      show Oper.uponIn (Wd r) n P _ a next Qc ((Oper.semAt r a.eval _).run P w)
      rw [Oper.semAt_eq r a.eval _ (not_defer hcop0), run_callv hoo hfe hc.1 w]
      refine ⟨fun e => by simp [Wd_depth] at e, ?_⟩
      obtain ⟨x1, x2⟩ := hR.args hl ha
      have hcr : CRel w I.ro (some I) (first ++ vs ++ cap) (fs ++ xs.map a.eval ++ cs) := CRel.app (CRel.app ⟨g1, g3⟩ ⟨x1, x2⟩) ⟨g2, g4⟩
      obtain ⟨c1, c2⟩ := views_rel hR hcr
      have fin : ∀ (ro : Nat → Prop) u w', Below w.heap.size w w' → VRel w' (fun b => ro b ∨ w.heap.size ≤ b) none v u → ((∀ b, ro b → I.ro b) ∨ flat v = true) → next (a.put o.dst u) w' := by
        intro ro u w' hb hv hor
        obtain ⟨k1, k2⟩ := hR.hrel.below' hb
        refine hk I S v u w' ⟨rfl, rfl⟩ ⟨hR.clk, hR.tmps.evo k2, k1, hR.marks⟩ ?_ k2
        rcases hor with hro | hfv
        · refine (hv.mono (ro' := I.ro) (w' := w') (fun b i x hb hc => ⟨?_, hc⟩) (L' := none) trivial).pure
          rcases hb with hb | hb
          · exact hro b hb
          · refine ⟨hR.hrel.okN b (Nat.le_trans (Nat.le_trans hR.hrel.base hR.hrel.below.size) hb), fun id st base n hl => ?_⟩
            obtain ⟨oo, hoo⟩ := hR.hrel.locs _ _ _ hl
            obtain ⟨_, l, hl', hol⟩ := hR.hrel.heap _ _ _ hoo
            rw [hl] at hl'; injection hl' with hl'; subst hl'
            have hlt : b < w.heap.size := by
              cases oo with
              | cells cs => obtain ⟨c, elem, h1, _⟩ := hol; exact (Array.getElem?_eq_some_iff.1 h1).1
              | loop => obtain ⟨c, h1, _⟩ := hol; exact (Array.getElem?_eq_some_iff.1 h1).1
              | deferred => exact (Array.getElem?_eq_some_iff.1 hol).1
              | map es => obtain ⟨c, elem, h1, _⟩ := hol; exact (Array.getElem?_eq_some_iff.1 h1).1
            omega
        · exact hv.flat hfv
      by_cases hm : hasM.hasML (first ++ vs ++ cap) = true
      · refine callsIn_wd ((hc.2 I.ok w _ (hR.hrel.glob.mono fun b i x hb hc => ⟨hb.1, hc⟩) c1).mono fun e w' ⟨u, h1, h2, h3⟩ => ?_)
        subst h1
        exact fin I.ok u w' h2 h3 (.inr (hfl hm))
      · refine callsIn_wd ((hc.2 I.ro w _ hR.hrel.glob (c2 (by simpa using hm))).mono fun e w' ⟨u, h1, h2, h3⟩ => ?_)
        subst h1
        exact fin I.ro u w' h2 h3 (.inl fun b hb => hb)

theorem TO_pure {fa : Arg} {args : List Arg} {fid : FuncId} {first cap vs : List AV} (hop : io.op = .call fa args) (hf : S.arg fa = some (.fn fid first cap)) (ha : S.args args = some vs) (hw : wantedA S io = some true)
    (hc : PF P fid ((first ++ vs ++ cap).map (S.view VD)) v) (hfl : hasM.hasML (first ++ vs ++ cap) = true → flat v = true) (hd : okDst S.size io.dst = true) (h : TO P w0 N0 rd ios (S.put io.dst v) K) : TO P w0 N0 rd (io :: ios) S K :=
  TO_cons (Stp_pure hop hf ha hc hfl) hw (fun S2 v2 ⟨e1, e2⟩ => by subst e1 e2; exact ⟨hd, h⟩)

/-- A region whose order is the text's. -/
theorem T_region {Q : Exit → AS → Prop} (h : TO P w0 N0 rd ios S (Q .normal)) : T P w0 N0 rd (.region ios none) S Q := fun code hcom n I a w r hr ho => by
  cases hcom with
  | @region id ops draw _ _ h1 hp =>
    obtain rfl : draw = false := by cases draw <;> simp_all
    refine wpIn_region ?_
    rw [List.range_eq_range']
    exact h ops _ (match_range P ops ops.size 0 ios (by omega) (by simpa using h1)) n I a w r _ hr ho fun I' S' a' w' k x y => ⟨I', S', k, x, y⟩

end
end Go.Am
