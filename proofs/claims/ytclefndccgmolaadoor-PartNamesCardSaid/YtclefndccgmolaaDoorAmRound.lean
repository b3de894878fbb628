/-
  CALLS OF VALUES; ROUNDS OF A RANGE OVER A FUNCTION. A general base for proofs: no program is named here.
-/
import Derived.Test.YtclefndccgmolaaDoorAmFun
namespace Go.Am
open Go Go.RowKit

/-- What is asked when a call of a value is made: it enters a function, or asks for a round. -/
def CallQ (P : Program) (r : Option Nat) (n : Nat) (nx : Value → World → Prop) : Result Next → Prop
  | .ok (.enter f args) w => Calls P f args w fun e w' => ∃ u, e = .returned u ∧ nx u w'
  | .ok (.round l f tmps a b) w => RoundIn (Wd r) n P l f tmps a b w fun e w' => ∃ u, e = .returned u ∧ nx u w'
  | _ => False

/-- WHAT A CALL OF A VALUE DOES, the value, arguments and heap known abstractly. -/
def CT (P : Program) (w0 : World) (N0 : Nat) (fv : AV) (args : List AV) (H : HS) (Q : AV → HS → Prop) : Prop :=
  ∀ I w fu us r n (nx : Value → World → Prop), HRel w0 N0 I H.heap H.next w → I.clk = H.clk → VRel w I.ro (some I) fv fu → CRel w I.ro (some I) args us →
    (∀ u v H' I' w', Q v H' → HRel w0 N0 I' H'.heap H'.next w' → I'.clk = H'.clk → VRel w' I'.ro (some I') v u → Evo I w I' w' → nx u w') →
    ∃ d, (Deferred.ofValue fu us).run P w = .ok d w ∧ CallQ P r n nx ((invoke d.target d.args).run P w)

section
variable {P : Program} {w0 w : World} {N0 : Nat} {I : LI} {S S' : AS} {a : Act} {rd : Option (Nat × Nat)} {K : AS → Prop} {io : Opr} {ios : List Opr} {v : AV} {Q : AV → HS → Prop} {H : HS}

theorem CT.mono {fv : AV} {args : List AV} {Q' : AV → HS → Prop} (h : CT P w0 N0 fv args H Q) (hq : ∀ v H, Q v H → Q' v H) : CT P w0 N0 fv args H Q' :=
  fun I w fu us r n nx a b c d k => h I w fu us r n nx a b c d fun u v H' I' w' q => k u v H' I' w' (hq v H' q)

theorem CT_of_FT {fid : FuncId} {first cap args : List AV} (h : FT P w0 N0 fid (first ++ args ++ cap) H Q) : CT P w0 N0 (.fn fid first cap) args H Q := by
  intro I w fu us r n nx hH hc hf ha hk
  cases hf with
  | @fn _ _ _ _ fs cs g1 g2 g3 g4 =>
    refine ⟨{ target := .fn (.func fid) cs, args := fs ++ us }, rfl, ?_⟩
    simp only [invoke]
    rw [h.1 _ w]
    exact (h.2 I w _ hH hc (CRel.app (CRel.app ⟨g1, g3⟩ ha) ⟨g2, g4⟩)).mono fun e w' ⟨u, v, H', I', h1, h2, h3, h4, h5, h6⟩ => ⟨u, h1, hk u v H' I' w' h2 h3 h4 h5 h6⟩

/-- A call that only computes, as a call. -/
theorem FT_of_PF {fid : FuncId} {args : List AV} (hc : PF P fid (args.map ((⟨0, .nil, H.heap, H.next, H.clk, []⟩ : AS).view VD)) v) (hfl : hasM.hasML args = true → flat v = true) : FT P w0 N0 fid args H (fun v' H' => v' = v ∧ H' = H) := by
  refine ⟨hc.1, fun I w us hH hclk hcr => ?_⟩
  have hR : Rel w0 N0 I ⟨0, .nil, H.heap, H.next, H.clk, []⟩ ⟨#[], []⟩ w := ⟨hclk, ⟨rfl, fun i v e => by simp [lookT_nil] at e⟩, hH, ⟨rfl, fun i id st d e => by simp at e, by simp⟩⟩
  obtain ⟨c1, c2⟩ := views_rel hR hcr
  have fin : ∀ (ro : Nat → Prop) e u w', e = Ending.returned u → Below w.heap.size w w' → VRel w' (fun b => ro b ∨ w.heap.size ≤ b) none v u → ((∀ b, ro b → I.ro b) ∨ flat v = true) →
      ∃ u v' H' I', e = .returned u ∧ (v' = v ∧ H' = H) ∧ HRel w0 N0 I' H'.heap H'.next w' ∧ I'.clk = H'.clk ∧ VRel w' I'.ro (some I') v' u ∧ Evo I w I' w' := by
    intro ro e u w' he hb hv hor
    obtain ⟨k1, k2⟩ := hH.below' hb
    refine ⟨u, v, H, I, he, ⟨rfl, rfl⟩, k1, hclk, ?_, k2⟩
    rcases hor with hro | hfv
    · refine (hv.mono (ro' := I.ro) (w' := w') (fun b i x hb hc => ⟨?_, hc⟩) (L' := none) trivial).pure
      rcases hb with hb | hb
      · exact hro b hb
      · refine ⟨hH.okN b (Nat.le_trans (Nat.le_trans hH.base hH.below.size) hb), fun id st base n hl => ?_⟩
        obtain ⟨oo, hoo⟩ := hH.locs _ _ _ hl
        obtain ⟨_, l, hl', hol⟩ := hH.heap _ _ _ hoo
        rw [hl] at hl'; injection hl' with hl'; subst hl'
        have hlt : b < w.heap.size := by
          cases oo with
          | cells cs => obtain ⟨c, elem, h1, _⟩ := hol; exact (Array.getElem?_eq_some_iff.1 h1).1
          | loop => obtain ⟨c, h1, _⟩ := hol; exact (Array.getElem?_eq_some_iff.1 h1).1
          | deferred => exact (Array.getElem?_eq_some_iff.1 hol).1
          | map es => obtain ⟨c, elem, h1, _⟩ := hol; exact (Array.getElem?_eq_some_iff.1 h1).1
        omega
    · exact hv.flat hfv
  by_cases hm : hasM.hasML args = true
  · exact (hc.2 I.ok w _ (hH.glob.mono fun b i x hb hc => ⟨hb.1, hc⟩) c1).mono fun e w' ⟨u, h1, h2, h3⟩ => fin I.ok e u w' h1 h2 h3 (.inr (hfl hm))
  · exact (hc.2 I.ro w _ hH.glob (c2 (by simpa using hm))).mono fun e w' ⟨u, h1, h2, h3⟩ => fin I.ro e u w' h1 h2 h3 (.inl fun b hb => hb)

/-- A call of a value in a row of operations. -/
theorem Stp_ct {fa : Arg} {args : List Arg} {fv : AV} {vs : List AV} (hop : io.op = .call fa args) (hf : S.arg fa = some fv) (ha : S.args args = some vs) {Fk : AV → HS → Prop}
    (hc : CT P w0 N0 fv vs S.hs Fk) (hmk : ∀ v H, Fk v H → marksOk S.marks H.heap) : Stp P w0 N0 rd io S (fun S2 v2 => ∃ H, Fk v2 H ∧ S2 = S.withH H) := fun ops o hcom n I a w r next Qc hR ho hk => by
    have hcop := com_op hcom (by rw [hop]; simp)
    have hcop0 := hcop
    rw [hop] at hcop
    obtain ⟨f, xs, ts, hoo, hf', hl⟩ := com_call hcop
    have hfv := hR.arg hf' hf
    obtain ⟨x1, x2⟩ := hR.args hl ha
    obtain ⟨d, hd1, hd2⟩ := hc I w (a.eval f) (xs.map a.eval) r (n - 1) (fun u w' => next (a.put o.dst u) w') hR.hrel hR.clk hfv ⟨x1, x2⟩ (fun u v H' I' w' h2 h3 h4 h5 h6 =>
      hk I' (S.withH H') v u w' ⟨H', h2, rfl⟩ (hR.withH h3 h4 h6 (hR.marks.later hR.stamps (hmk v H' h2) h3 h6)) h5 h6)
    refine ⟨fun _ _ => trivial, ?_⟩
    show Oper.uponIn (Wd r) n P _ a next Qc ((Oper.semAt r a.eval _).run P w)
    rw [Oper.semAt_eq r a.eval _ (not_defer hcop0)]
    have : (execOp a.eval o).run P w = (invoke d.target d.args).run P w := by
      simp only [execOp, hoo, resolve, Sem.run_bind, hd1, Result.andThen_ok]
    rw [this]
    generalize (invoke d.target d.args).run P w = res at hd2
    cases res with
    | halt x w' => exact hd2.elim
    | ok nx w' =>
      cases nx <;> simp only [CallQ] at hd2
      case enter f args =>
        refine ⟨fun e => by simp [Wd_depth] at e, callsIn_wd (hd2.mono fun e w'' ⟨u, h1, h2⟩ => ?_)⟩
        subst h1; exact h2
      case round l f tmps as body =>
        refine ⟨fun e => by simp [Wd_depth] at e, hd2.mono fun e w'' ⟨u, h1, h2⟩ => ?_⟩
        subst h1; exact h2

theorem TO_ct {fa : Arg} {args : List Arg} {fv : AV} {vs : List AV} (hop : io.op = .call fa args) (hf : S.arg fa = some fv) (ha : S.args args = some vs) (hw : wantedA S io = some true) {Fk : AV → HS → Prop}
    (hc : CT P w0 N0 fv vs S.hs Fk) (hmk : ∀ v H, Fk v H → marksOk S.marks H.heap) (hd : okDst S.size io.dst = true) (h : ∀ v H, Fk v H → TO P w0 N0 rd ios ((S.withH H).put io.dst v) K) : TO P w0 N0 rd (io :: ios) S K :=
  TO_cons (Stp_ct hop hf ha hc hmk) hw (fun S2 v2 ⟨H, e1, e2⟩ => by subst e2; exact ⟨hd, h v2 H e1⟩)

def putAll : List Nat → List AV → TM → TM
  | p :: ps, v :: vs, t => putAll ps vs (putT p v t)
  | _, _, t => t

theorem putAll_rel {w : World} {ro : Nat → Prop} {L : Option LI} {size : Nat} : ∀ (ps : List Nat) (vs : List AV) (us : List Value) (t : TM) (ts : Array Value), ps.length = vs.length → us.length = vs.length → (∀ p ∈ ps, p < size) →
    (∀ (i : Nat) (x : AV), vs[i]? = some x → ∃ u, us[i]? = some u ∧ VRel w ro L x u) → TRel w ro L size t ts → TRel w ro L size (putAll ps vs t) ((ps.zip us).foldl (fun tmps (x : Nat × Value) => tmps.setIfInBounds x.1 x.2) ts)
  | [], vs, us, t, ts, _, _, _, _, ht => by simpa [putAll] using ht
  | p :: ps, [], us, t, ts, h1, _, _, _, _ => by simp at h1
  | p :: ps, v :: vs, [], t, ts, _, h2, _, _, _ => by simp at h2
  | p :: ps, v :: vs, u :: us, t, ts, h1, h2, h3, h4, ht => by
    simp only [putAll, List.zip_cons_cons, List.foldl_cons]
    obtain ⟨u', hu, hv⟩ := h4 0 v rfl
    simp at hu; subst hu
    exact putAll_rel ps vs us _ _ (by simpa using h1) (by simpa using h2) (fun q hq => h3 q (List.mem_cons_of_mem _ hq)) (fun i x hx => by simpa using h4 (i + 1) x (by simpa using hx)) (ht.put (h3 p (List.mem_cons_self ..)) hv)

/-- The state of a round. -/
def AS.round (size : Nat) (tmps : TM) (ps : List Nat) (args : List AV) (H : HS) : AS := ⟨size, putAll ps args tmps, H.heap, H.next, H.clk, []⟩

def jumpOf : Exit → Option (Option Code)
  | .normal => some none
  | .ret => some (some .ret)
  | .exit id => some (some (.exit id))
  | _ => none

/-- The record of a loop is turned. -/
theorem loop_write (h : HRel w0 N0 I H.heap H.next w) {id st b base nn : Nat} {s1 s2 : LoopState} {p1 p2 : Option Code} {size : Nat} {tmps : TM} {ps : List Nat} {assign body : Code} {df : Nat × Nat}
    (hl : look id H.heap = some (st, .loop s1 p1 size tmps ps assign body df)) (hloc : I.loc id st = some (.at b base nn)) {rr : Loop} (hb : w.heap[b]? = some (.loop rr)) :
    HRel w0 N0 I (putl id (st, .loop s2 p2 size tmps ps assign body df) H.heap) H.next (w.putObj b (.loop { rr with state := s2, pending := p2 })) ∧ Evo I w I (w.putObj b (.loop { rr with state := s2, pending := p2 })) := by
  obtain ⟨_, l, hl', hol⟩ := h.heap _ _ _ hl
  rw [hloc] at hl'; injection hl' with hl'; subst hl'
  obtain ⟨r', h1, h2, h3, h4, h5, h6, h7, h8, h9⟩ := hol
  rw [hb] at h1; injection h1 with h1; injection h1 with h1; subst h1
  have hlt : b < w.heap.size := (Array.getElem?_eq_some_iff.1 hb).1
  have hN := h.fresh _ _ _ _ _ hloc
  exact h.write (o' := .loop s2 p2 size tmps ps assign body df) ⟨rfl, rfl, rfl, by simp, fun k hk => World.putObj_heap_other (by omega)⟩ hloc hl (fun b' hb' => World.putObj_heap_other hb')
    (fun e => ⟨_, World.putObj_heap_same hlt, rfl, rfl, h4.evo e, h5, h6, h7, Nat.lt_of_lt_of_le h8 e.clk, fun b' base' n' hl => h9 b' base' n' (e.loc _ _ _ h8 hl)⟩)

/-- **A CALL OF YIELD IS A ROUND.** -/
theorem CT_yield {id st : Nat} {args : List AV} {size : Nat} {tmps : TM} {ps : List Nat} {ca cb : Code} {df : Nat × Nat} {ia ib : IC} (hl : look id H.heap = some (st, .loop .ready none size tmps ps ca cb df))
    (ha : Com P ca ia) (hb : Com P cb ib) (hps : ps.length = args.length) (hlt : ∀ p ∈ ps, p < size)
    (h : T P w0 N0 (some (id, st)) ia (AS.round size tmps ps args H) fun e S1 => e = .normal ∧ ∃ size1 tmps1 ps1 ca1 cb1 df1, look id S1.heap = some (st, .loop .ready none size1 tmps1 ps1 ca1 cb1 df1) ∧
      T P w0 N0 (some (id, st)) ib { S1 with heap := putl id (st, .loop .busy none size1 tmps1 ps1 ca1 cb1 df1) S1.heap } fun e S2 => ∃ size2 tmps2 ps2 ca2 cb2 df2, look id S2.heap = some (st, .loop .busy none size2 tmps2 ps2 ca2 cb2 df2) ∧
        ∃ j, jumpOf e = some j ∧ Q (.bool j.isNone) ⟨putl id (st, .loop (if j.isNone then .ready else .done) j size2 tmps2 ps2 ca2 cb2 df2) S2.heap, S2.next, S2.clk⟩) :
    CT P w0 N0 (.yield id st) args H Q := by
  intro I w fu us r n nx hH hclk hf hargs hk
  cases hf with
  | yield hkk hcl =>
    obtain ⟨J, hJ, c1, c2⟩ := hcl
    injection hJ with hJ; subst hJ
    obtain ⟨_, l, hl', hol⟩ := hH.heap _ _ _ hl
    cases l with
    | void => exact hol.elim
    | «at» b base nn =>
      have hol0 := hol
      obtain ⟨rr, h1, h2, h3, h4, h5, h6, h7, h8, h9⟩ := hol
      rw [c2 _ _ _ hl']
      refine ⟨{ target := .fn (.yield b) #[], args := #[] ++ us }, rfl, ?_⟩
      have hsz : (#[] ++ us).size = rr.params.size := by
        have : rr.params.size = ps.length := by rw [← h5]; simp
        simp [this, hps, hargs.1]
      simp only [invoke, run_yield h1 hsz]
      refine roundIn_of_wpIn (Wd_fn r rr.fn) ?_
      -- the round's own state
      have hR : Rel w0 N0 I (AS.round size tmps ps args H) { tmps := (rr.params.zip (#[] ++ us)).foldl (fun tmps (t, a) => tmps.setIfInBounds t a) rr.tmps, defers := [] } w := by
        refine ⟨hclk, ?_, hH, ⟨rfl, fun i id st d e => by simp [AS.round] at e, by simp [AS.round]⟩⟩
        have e : (rr.params.zip (#[] ++ us)).foldl (fun tmps (x : Nat × Value) => tmps.setIfInBounds x.1 x.2) rr.tmps = (ps.zip us.toList).foldl (fun tmps (x : Nat × Value) => tmps.setIfInBounds x.1 x.2) rr.tmps := by
          rw [← Array.foldl_toList]
          simp [h5]
        show TRel w I.ro (some I) size (putAll ps args tmps) _
        rw [e]
        refine putAll_rel ps args us.toList tmps rr.tmps hps (by simp [hargs.1]) hlt (fun i x hx => ?_) h4
        have hi : i < us.size := by rw [hargs.1]; exact (List.getElem?_eq_some_iff.1 hx).1
        refine ⟨us.getD i undef, ?_, hargs.2 i x hx⟩
        simp only [Array.getElem?_toList, Array.getD_eq_getD_getElem?, Array.getElem?_eq_getElem hi, Option.getD_some]
      have hrd : RdOk I (some (id, st)) (some b) := ⟨c1, fun l hl2 => by rw [hl'] at hl2; injection hl2 with hl2; subst hl2; exact ⟨_, _, rfl⟩⟩
      have hab : Com P rr.assign ia := h6 ▸ ha
      have hbb : Com P rr.body ib := h7 ▸ hb
      refine wpIn_mono (h rr.assign hab n I _ w (some b) hR hrd) fun e a1 w1 ⟨I1, S1, ⟨q1, size1, tmps1, ps1, ca1, cb1, df1, q2, q3⟩, hR1, hE1⟩ => ?_
      subst q1
      -- the round begins
      obtain ⟨_, l1, hl1, hol1⟩ := hR1.hrel.heap _ _ _ q2
      have hle : l1 = .at b base nn := by have := hE1.loc id st l1 c1 hl1; rw [hl'] at this; injection this with this; exact this.symm
      subst hle
      obtain ⟨r1, g1, g2, g3, g4, g5, g6, g7, g8, g9⟩ := hol1
      refine ⟨_, run_beginRound g1 g2, ?_⟩
      obtain ⟨k1, k2⟩ := loop_write (H := S1.hs) (s2 := .busy) (p2 := none) hR1.hrel q2 hl1 g1
      have hpe : r1.pending = none := g3
      have er : ({ r1 with state := .busy } : Loop) = { r1 with state := .busy, pending := none } := by rw [← hpe]
      rw [er]
      have hR2 : Rel w0 N0 I1 { S1 with heap := putl id (st, .loop .busy none size1 tmps1 ps1 ca1 cb1 df1) S1.heap } a1 (w1.putObj b (.loop { r1 with state := .busy, pending := none })) :=
        ⟨hR1.clk, hR1.tmps.evo k2, k1, hR1.marks.write fun s e => by rw [q2] at e; cases e⟩
      refine wpIn_mono (q3 rr.body hbb n I1 a1 _ (some b) hR2 ((hrd.evo hE1).evo k2)) fun e a2 w2 ⟨I2, S2, ⟨size2, tmps2, ps2, ca2, cb2, df2, p1, j, p2, p3⟩, hR3, hE3⟩ => ?_
      have hEE := (hE1.trans k2).trans hE3
      obtain ⟨_, l2, hl2, hol2⟩ := hR3.hrel.heap _ _ _ p1
      have hle : l2 = .at b base nn := by have := hEE.loc id st l2 c1 hl2; rw [hl'] at this; injection this with this; exact this.symm
      subst hle
      obtain ⟨r2, f1, f2⟩ := hol2
      obtain ⟨m1, m2⟩ := loop_write (H := S2.hs) (s2 := if j.isNone then .ready else .done) (p2 := j) hR3.hrel p1 hl2 f1
      have fin : ∀ j', j = j' → ∃ v w', (Instr.endRound b j').run P w2 = .ok v w' ∧ (∃ u, Ending.returned v = .returned u ∧ nx u w') := by
        intro j' e; subst e
        refine ⟨_, _, run_endRound j f1, _, rfl, ?_⟩
        exact hk _ _ ⟨_, S2.next, S2.clk⟩ I2 _ p3 m1 hR3.clk .bool (hEE.trans m2)
      cases e <;> simp only [jumpOf, Option.some.injEq, reduceCtorEq] at p2
      · exact fin none p2.symm
      · exact fin _ p2.symm
      · exact fin _ p2.symm

end
end Go.Am
