/-
  AN EVALUATOR OVER ABSTRACT STATES: CODE. A general base for proofs: no program is named here.
-/
import Derived.Test.YtclefndccgmolaaDoorAmStat3
namespace Go.Am
open Go Go.RowKit

/-- A drawn region: in the text's order where the text allows it, else by trying the schedules. -/
def runD (P : Program) (E : Env) (R : Rec) (ios : List Opr) (pres : List (List Nat)) (S : AS) : Option AS :=
  match statD E ios pres S.size with
  | some fl => runS P E R ios fl S
  | none => runDraw P E R ios pres S

def iter (body : AS → Option (Exit × AS)) : Nat → AS → Option (Exit × AS)
  | 0, _ => none
  | n + 1, S => match body S with
    | some (.normal, S1) => iter body n S1
    | r => r

def notBusy : LoopState → Bool
  | .busy => false
  | _ => true

def rangeEnd (r : Option (AV × HS)) (S : AS) (lid lst : Nat) (marks : List (Nat × Nat)) : Option (Exit × AS) :=
  match r with
  | some (_, H2) => match look lid H2.heap with
    | some (lst', .loop stt pe _ _ _ _ _ _) =>
      if (lst' == lst && notBusy stt && marksOkB marks (dropl lid H2.heap)) = true then
        match exitOf pe with
        | some e => some (e, ⟨S.size, S.tmps, dropl lid H2.heap, H2.next, H2.clk, marks⟩)
        | none => none
      else none
    | _ => none
  | none => none

def runC (P : Program) (E : Env) (R : Rec) (rd : Option (Nat × Nat)) : IC → AS → Option (Exit × AS)
  | .skip, S => some (.normal, S)
  | .region ios none, S => match runO P E R ios S with
    | some S' => some (.normal, S')
    | none => none
  | .region ios (some pres), S => match runD P E R ios pres S with
    | some S' => some (.normal, S')
    | none => none
  | .seq a b, S => match runC P E R rd a S with
    | some (.normal, S') => runC P E R rd b S'
    | r => r
  | .cond c a b, S => match S.arg c with
    | some (.bool true) => runC P E R rd a S
    | some (.bool false) => runC P E R rd b S
    | _ => none
  | .block id b, S => match runC P E R rd b S with
    | some (.exit i, S') => if i = id then some (.normal, S') else some (.exit i, S')
    | r => r
  | .loop b, S => iter (runC P E R rd b) E.fuel S
  | .rangeFunc g ps ca cb _ _, S => match S.arg g with
    | some (.fn fid first cap) => match rd with
      | none => rangeEnd (R.f fid (first ++ [.yield (S.next + 1) (S.clk + 1)] ++ cap) (S.rangeOuter ps ca cb)) S (S.next + 1) (S.clk + 1) ((S.next, S.clk) :: S.marks)
      | some (idr, str) => match look idr S.heap with
        | some (str', .loop _ _ _ _ _ _ _ df) => if str' = str then rangeEnd (R.f fid (first ++ [.yield S.next S.clk] ++ cap) (S.rangeInner ps ca cb df)) S S.next S.clk S.marks else none
        | _ => none
    | _ => none
  | .exit id, S => some (.exit id, S)
  | .ret, S => some (.ret, S)

section
variable {P : Program} {w0 w : World} {N0 : Nat} {S S' S1 : AS} {rd : Option (Nat × Nat)} {Q : Exit → AS → Prop} {E : Env} {R : Rec} {io : Opr} {v : AV} {H : HS}

theorem runD_ok (hE : EnvOk P E) (hR : RecOk P R) {ios : List Opr} {pres : List (List Nat)} (h : runD P E R ios pres S = some S') : T P w0 N0 rd (.region ios (some pres)) S fun e1 S1 => e1 = .normal ∧ S1 = S' := by
  unfold runD at h
  split at h
  · rename_i hs; exact T_stat hE hR hs h
  · exact runDraw_ok hE hR h

theorem iter_ok {body : AS → Option (Exit × AS)} {ic : IC} (hb : ∀ S e S', body S = some (e, S') → T P w0 N0 rd ic S fun e1 S1 => e1 = e ∧ S1 = S') {n : Nat} {e : Exit} (h : iter body n S = some (e, S')) :
    T P w0 N0 rd (.loop ic) S fun e1 S1 => e1 = e ∧ S1 = S' := by
  refine T_loop (fun m S => iter body m S = some (e, S')) h fun m S hS => ?_
  cases m with
  | zero => simp [iter] at hS
  | succ m =>
    simp only [iter] at hS
    split at hS
    · rename_i S1 h1
      exact T_mono (hb _ _ _ h1) fun e2 S2 ⟨k1, k2⟩ => by subst k1 k2; exact ⟨m, _, Nat.lt_succ_self _, fun I _ w h => ⟨I, h, Evo.refl I w⟩, hS⟩
    · rename_i r hr
      refine T_mono (hb _ _ _ hS) fun e2 S2 ⟨k1, k2⟩ => ?_
      subst k1 k2
      cases e2 with
      | normal => exact absurd hS (hr S2)
      | _ => exact ⟨rfl, rfl⟩

theorem notBusy_ok {s : LoopState} (h : notBusy s = true) : s ≠ .busy := by intro e; subst e; cases h

theorem rangeEnd_ok {r : Option (AV × HS)} {lid lst : Nat} {marks : List (Nat × Nat)} {e : Exit} (h : rangeEnd r S lid lst marks = some (e, S')) : ∃ v H2, r = some (v, H2) ∧ RangeQ S lid lst marks (fun e1 S1 => e1 = e ∧ S1 = S') H2 := by
  unfold rangeEnd at h
  split at h <;> try cases h
  rename_i v H2
  split at h <;> try cases h
  rename_i lst' stt pe size tmps ps ca cb df hl
  split at h <;> try cases h
  rename_i hc
  simp only [Bool.and_eq_true, beq_iff_eq] at hc
  obtain ⟨⟨rfl, h2⟩, h3⟩ := hc
  split at h <;> try cases h
  rename_i e1 he
  exact ⟨v, H2, rfl, stt, pe, _, _, _, _, _, _, _, hl, notBusy_ok h2, he, marksOk_of h3, rfl, rfl⟩

theorem runC_ok (hE : EnvOk P E) (hR : RecOk P R) : ∀ {ic : IC} {S : AS} {e : Exit} {S' : AS}, runC P E R rd ic S = some (e, S') → T P w0 N0 rd ic S fun e1 S1 => e1 = e ∧ S1 = S' := by
  intro ic
  induction ic with
  | skip => intro S e S' h; simp only [runC, Option.some.injEq, Prod.mk.injEq] at h; obtain ⟨rfl, rfl⟩ := h; exact T_skip ⟨rfl, rfl⟩
  | region ios draw =>
    intro S e S' h
    cases draw with
    | none =>
      simp only [runC] at h
      split at h <;> try cases h
      rename_i hr
      exact T_region (fun ops l hm n I a w r Qc hR' ho hk => runO_ok hE hR hr ops l hm n I a w r Qc hR' ho fun I' S' a' w' hS => hk I' S' a' w' ⟨rfl, hS⟩)
    | some pres =>
      simp only [runC] at h
      split at h <;> try cases h
      rename_i hr
      exact runD_ok hE hR hr
  | seq a b iha ihb =>
    intro S e S' h
    simp only [runC] at h
    split at h
    · rename_i S1 h1
      exact T_seq (T_mono (iha h1) fun e2 S2 ⟨k1, k2⟩ => by subst k1 k2; exact ihb h)
    · rename_i r hr
      refine T_seq (T_mono (iha h) fun e2 S2 ⟨k1, k2⟩ => ?_)
      subst k1 k2
      cases e2 with
      | normal => exact absurd h (hr S2)
      | _ => exact ⟨rfl, rfl⟩
  | cond c a b iha ihb =>
    intro S e S' h
    simp only [runC] at h
    split at h
    · rename_i hc; exact T_cond hc (iha h)
    · rename_i hc; exact T_cond hc (ihb h)
    · cases h
  | block id b ih =>
    intro S e S' h
    simp only [runC] at h
    split at h
    · rename_i i S1 h1
      refine T_block (T_mono (ih h1) fun e2 S2 ⟨k1, k2⟩ => ?_)
      subst k1 k2
      simp only [QBlock]
      split at h
      · rename_i hi; rw [if_pos hi]; simp only [Option.some.injEq, Prod.mk.injEq] at h; exact ⟨h.1, h.2⟩
      · rename_i hi; rw [if_neg hi]; simp only [Option.some.injEq, Prod.mk.injEq] at h; exact ⟨h.1, h.2⟩
    · rename_i r hr
      refine T_block (T_mono (ih h) fun e2 S2 ⟨k1, k2⟩ => ?_)
      subst k1 k2
      cases e2 with
      | exit i => exact absurd h (hr i S2)
      | _ => exact ⟨rfl, rfl⟩
  | loop b ih =>
    intro S e S' h
    simp only [runC] at h
    exact iter_ok (fun S e S' => ih) h
  | rangeFunc g ps ca cb ia ib _ _ =>
    intro S e S' h
    simp only [runC] at h
    split at h <;> try cases h
    rename_i fid first cap hg
    cases rd with
    | none =>
      simp only at h
      obtain ⟨v, H2, h1, h2⟩ := rangeEnd_ok h
      exact T_range_outer hg fun _ _ => (hR.1 _ _ _ _ _ h1 w0 N0).mono fun v' H' ⟨_, e2⟩ => by subst e2; exact h2
    | some x =>
      obtain ⟨idr, str⟩ := x
      simp only at h
      split at h <;> try cases h
      rename_i str' s0 p0 size0 tmps0 ps0 ca0 cb0 df hl
      split at h <;> try cases h
      rename_i e1; subst e1
      obtain ⟨v, H2, h1, h2⟩ := rangeEnd_ok h
      exact T_range_inner hl hg fun _ _ => (hR.1 _ _ _ _ _ h1 w0 N0).mono fun v' H' ⟨_, e2⟩ => by subst e2; exact h2
  | exit id => intro S e S' h; simp only [runC, Option.some.injEq, Prod.mk.injEq] at h; obtain ⟨rfl, rfl⟩ := h; exact T_exit ⟨rfl, rfl⟩
  | ret => intro S e S' h; simp only [runC, Option.some.injEq, Prod.mk.injEq] at h; obtain ⟨rfl, rfl⟩ := h; exact T_ret ⟨rfl, rfl⟩

/-! ### Functions -/

def isOut : Exit → Bool
  | .normal | .ret => true
  | _ => false

def runF (P : Program) (E : Env) (R : Rec) (f : FuncId) (args : List AV) (H : HS) : Option (AV × HS) :=
  match E.sum f args H with
  | some r => some r
  | none => match E.fn f with
  | some i =>
    if args.length ≤ i.size then
      match runC P E R none i.ic (AS.enter i.size args H) with
      | some (e, S') => if isOut e then
          match S'.leave.res i.res with
          | some v => some (v, S'.leave.hs)
          | none => none
        else none
      | none => none
    else none
  | none => none

theorem runF_ok (hE : EnvOk P E) (hR : RecOk P R) {f : FuncId} {args : List AV} {H' : HS} (h : runF P E R f args H = some (v, H')) : FT P w0 N0 f args H fun v1 H1 => v1 = v ∧ H1 = H' := by
  unfold runF at h
  split at h
  · rename_i r hs
    simp only [Option.some.injEq] at h; subst h
    exact hE.sum _ _ _ _ _ hs w0 N0
  split at h <;> try cases h
  rename_i i hi
  split at h <;> try cases h
  rename_i hn
  split at h <;> try cases h
  rename_i e S' hr
  split at h <;> try cases h
  rename_i hout
  split at h <;> try cases h
  rename_i v1 hv
  obtain ⟨fn, code, k1, k2, k3, k4, k5, k6⟩ := hE.fn f i hi
  refine FT_of_T k1 k2 k3 k6 (by rw [k4]; exact hn) k5 ?_
  rw [k4]
  refine T_mono (runC_ok hE hR hr) fun e2 S2 ⟨e1, e3⟩ => ?_
  subst e1 e3
  refine ⟨by cases e2 <;> simp [isOut] at hout <;> simp, v, hv, rfl, rfl⟩

/-- The evaluator, so many calls deep. -/
def lvl (P : Program) (E : Env) (n : Nat) : Rec :=
  Nat.rec ⟨fun _ _ _ => none, fun _ _ _ => none⟩ (fun _ R => ⟨runF P E R, runC P E R⟩) n

theorem lvl_ok (hE : EnvOk P E) (n : Nat) : RecOk P (lvl P E n) := by
  induction n with
  | zero =>
    refine ⟨?_, ?_⟩
    · intro f args H v H' h; cases h
    · intro rd ic S e S' h; cases h
  | succ n ih => exact ⟨fun _ _ _ _ _ h _ _ => runF_ok hE ih h, fun _ _ _ _ _ h _ _ => runC_ok hE ih h⟩

end
end Go.Am
