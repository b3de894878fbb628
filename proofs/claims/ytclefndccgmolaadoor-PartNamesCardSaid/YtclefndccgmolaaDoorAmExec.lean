/-
  AN EVALUATOR OVER ABSTRACT STATES, PARTS. A general base for proofs: no program is named here.
-/
import Derived.Test.YtclefndccgmolaaDoorAmFast
namespace Go.Am
open Go Go.RowKit

mutual
def AV.beq : AV → AV → Bool
  | .top, .top => true
  | .bool a, .bool b => a == b
  | .int k n, .int k' n' => decide (k = k') && decide (n = n')
  | .str s, .str t => decide (s = t)
  | .nilp, .nilp => true
  | .vptr a, .vptr b => beqL a b
  | .mptr a b c, .mptr a' b' c' => a == a' && b == b' && c == c'
  | .nils, .nils => true
  | .vs a, .vs b => beqLL a b
  | .ms a b c d e f, .ms a' b' c' d' e' f' => a == a' && b == b' && c == c' && d == d' && e == e' && decide (f = f')
  | .fn f a b, .fn f' a' b' => decide (f = f') && beqL a a' && beqL b b'
  | .yield a b, .yield a' b' => a == a' && b == b'
  | .nilf, .nilf => true
  | .agg a, .agg b => beqL a b
  | .tup a, .tup b => beqL a b
  | .mapv a b, .mapv a' b' => a == a' && b == b'
  | .rng k a b, .rng k' a' b' => decide (k = k') && decide (a = a') && decide (b = b')
  | .ints k l, .ints k' l' => decide (k = k') && decide (l = l')
  | .strA n a b, .strA n' a' b' => decide (n = n') && a == a' && b == b'
  | _, _ => false
def beqL : List AV → List AV → Bool
  | [], [] => true
  | a :: l, b :: m => AV.beq a b && beqL l m
  | _, _ => false
def beqLL : List (List AV) → List (List AV) → Bool
  | [], [] => true
  | a :: l, b :: m => beqL a b && beqLL l m
  | _, _ => false
end

mutual
theorem AV.eq_of_beq : ∀ (a b : AV), AV.beq a b = true → a = b := fun a b h => by
  cases a <;> cases b <;> simp only [AV.beq, Bool.and_eq_true, beq_iff_eq, decide_eq_true_eq, Bool.false_eq_true] at h
  all_goals first
    | rfl
    | (subst h; rfl)
    | (obtain ⟨rfl, rfl⟩ := h; rfl)
    | (obtain ⟨⟨rfl, rfl⟩, rfl⟩ := h; rfl)
    | (obtain ⟨⟨⟨⟨⟨rfl, rfl⟩, rfl⟩, rfl⟩, rfl⟩, rfl⟩ := h; rfl)
    | skip
  case vptr a b => rw [eq_of_beqL a b h]
  case vs a b => rw [eq_of_beqLL a b h]
  case fn f a b f' a' b' => obtain ⟨⟨rfl, h1⟩, h2⟩ := h; rw [eq_of_beqL _ _ h1, eq_of_beqL _ _ h2]
  case agg a b => rw [eq_of_beqL a b h]
  case tup a b => rw [eq_of_beqL a b h]
theorem eq_of_beqL : ∀ (a b : List AV), beqL a b = true → a = b
  | [], [], _ => rfl
  | a :: l, b :: m, h => by
    simp only [beqL, Bool.and_eq_true] at h
    rw [AV.eq_of_beq a b h.1, eq_of_beqL l m h.2]
  | [], _ :: _, h => by simp [beqL] at h
  | _ :: _, [], h => by simp [beqL] at h
theorem eq_of_beqLL : ∀ (a b : List (List AV)), beqLL a b = true → a = b
  | [], [], _ => rfl
  | a :: l, b :: m, h => by
    simp only [beqLL, Bool.and_eq_true] at h
    rw [eq_of_beqL a b h.1, eq_of_beqLL l m h.2]
  | [], _ :: _, h => by simp [beqLL] at h
  | _ :: _, [], h => by simp [beqLL] at h
end

def loudOp : IOp → Bool
  | .alloc _ | .box _ | .bslice .. | .store .. | .mkslice .. | .append .. | .appendz .. | .copy .. | .mkmap | .mapset .. | .call .. => true
  | _ => false

theorem iop_quiet {S S1 : AS} {op : IOp} {v : AV} (hl : loudOp op = false) (h : iop S op = some (v, S1)) : S1 = S := by
  cases op <;> simp only [loudOp, Bool.true_eq_false] at hl <;> simp only [iop] at h
  all_goals (repeat' (split at h)) <;> simp only [Option.map_eq_some_iff, Option.some.injEq, Prod.mk.injEq, reduceCtorEq] at h
  all_goals first
      | (obtain ⟨_, rfl⟩ := h; rfl)
      | (obtain ⟨_, _, _, rfl⟩ := h; rfl)

structure FnI where
  size : Nat
  ic : IC
  res : List RA

structure Env where
  fn : FuncId → Option FnI
  orc : FuncId → List AV → Option AV
  sum : FuncId → List AV → HS → Option (AV × HS)
  pure : FuncId → Bool
  known : FuncId → Bool
  fuel : Nat

structure Rec where
  f : FuncId → List AV → HS → Option (AV × HS)
  c : Option (Nat × Nat) → IC → AS → Option (Exit × AS)

def RecOk (P : Program) (R : Rec) : Prop :=
  (∀ f args H v H', R.f f args H = some (v, H') → ∀ w0 N0, FT P w0 N0 f args H fun v1 H1 => v1 = v ∧ H1 = H') ∧
  (∀ rd ic S e S', R.c rd ic S = some (e, S') → ∀ w0 N0, T P w0 N0 rd ic S fun e1 S1 => e1 = e ∧ S1 = S')

structure EnvOk (P : Program) (E : Env) : Prop where
  fn : ∀ f i, E.fn f = some i → ∃ fn code, P.funcs[f]? = some fn ∧ fn.body = some code ∧ comC P code = some i.ic ∧ fn.ntmps = i.size ∧ comRes P fn.results.toList = some i.res ∧ Ent P f
  orc : ∀ f args v, E.orc f args = some v → PF P f args v
  sum : ∀ f args H v H', E.sum f args H = some (v, H') → ∀ w0 N0, FT P w0 N0 f args H fun v1 H1 => v1 = v ∧ H1 = H'
  mix : P.follows .mixedOrders = true

def marksOkB (marks : List (Nat × Nat)) (hp : List (Nat × Nat × AObj)) : Bool :=
  marks.all fun m => match look m.1 hp with
    | some (st, .deferred) => st == m.2
    | _ => false

theorem marksOk_of {marks : List (Nat × Nat)} {hp : List (Nat × Nat × AObj)} (h : marksOkB marks hp = true) : marksOk marks hp := by
  intro m hm
  have := List.all_eq_true.1 h m hm
  split at this
  · rename_i st hl; rw [hl]; simp at this; rw [this]
  · cases this

/-- A call that only computes. -/
def pureOf (E : Env) (R : Rec) (S : AS) (fv : AV) (vs : List AV) : Option AV :=
  match fv with
  | .fn fid first cap => match E.orc fid ((first ++ vs ++ cap).map (S.view VD)) with
    | some v => if hasM.hasML (first ++ vs ++ cap) = false ∨ flat v = true then some v else none
    | none => if E.pure fid = true then
        match R.f fid ((first ++ vs ++ cap).map (S.view VD)) ⟨[], 0, 0⟩ with
        | some (v0, H) => if hasM.hasML (first ++ vs ++ cap) = false ∨ flat ((⟨0, .nil, H.heap, H.next, H.clk, []⟩ : AS).view VD v0) = true then some ((⟨0, .nil, H.heap, H.next, H.clk, []⟩ : AS).view VD v0) else none
        | none => none
      else none
  | _ => none

def quiet1 (E : Env) (R : Rec) (S : AS) (io : Opr) : Option AV :=
  match io.op with
  | .call fa args => match S.arg fa, S.args args with
    | some fv, some vs => pureOf E R S fv vs
    | _, _ => none
  | op => if loudOp op then none else (iop S op).map (·.1)

/-- A call of yield. -/
def yieldV (P : Program) (R : Rec) (id st : Nat) (args : List AV) (H : HS) : Option (AV × HS) :=
  match look id H.heap with
  | some (st', .loop .ready none size tmps ps ca cb _) =>
    if st' = st ∧ ps.length = args.length ∧ ps.all (fun p => decide (p < size)) = true then
      match comC P ca, comC P cb with
      | some ia, some ib => match R.c (some (id, st)) ia (AS.round size tmps ps args H) with
        | some (.normal, S1) => match look id S1.heap with
          | some (st1, .loop .ready none size1 tmps1 ps1 ca1 cb1 df1) =>
            if st1 = st then match R.c (some (id, st)) ib { S1 with heap := putl id (st, .loop .busy none size1 tmps1 ps1 ca1 cb1 df1) S1.heap } with
              | some (e, S2) => match look id S2.heap with
                | some (st2, .loop .busy none size2 tmps2 ps2 ca2 cb2 df2) =>
                  if st2 = st then match jumpOf e with
                    | some j => some (.bool j.isNone, ⟨putl id (st, .loop (if j.isNone then .ready else .done) j size2 tmps2 ps2 ca2 cb2 df2) S2.heap, S2.next, S2.clk⟩)
                    | none => none
                  else none
                | _ => none
              | none => none
            else none
          | _ => none
        | _ => none
      | _, _ => none
    else none
  | _ => none

def callV (P : Program) (R : Rec) (fv : AV) (vs : List AV) (H : HS) : Option (AV × HS) :=
  match fv with
  | .fn fid first cap => R.f fid (first ++ vs ++ cap) H
  | .yield id st => yieldV P R id st vs H
  | _ => none

def loud1 (P : Program) (R : Rec) (S : AS) (io : Opr) : Option (AV × HS) :=
  match io.op with
  | .call fa args => match S.arg fa, S.args args with
    | some fv, some vs => match callV P R fv vs S.hs with
      | some (v, H) => if marksOkB S.marks H.heap then some (v, H) else none
      | none => none
    | _, _ => none
  | op => match iop S op with
    | some (v, S1) => some (v, S1.hs)
    | none => none

section
variable {P : Program} {w0 w : World} {N0 : Nat} {S S' S1 : AS} {rd : Option (Nat × Nat)} {Q : Exit → AS → Prop} {E : Env} {R : Rec} {io : Opr} {v : AV} {H : HS}

theorem pureOf_ok (hE : EnvOk P E) (hR : RecOk P R) {fid : FuncId} {first cap vs : List AV} (h : pureOf E R S (.fn fid first cap) vs = some v) :
    PF P fid ((first ++ vs ++ cap).map (S.view VD)) v ∧ (hasM.hasML (first ++ vs ++ cap) = false ∨ flat v = true) := by
  simp only [pureOf] at h
  split at h
  · rename_i v' hv
    split at h
    · rename_i hc
      simp only [Option.some.injEq] at h; subst h
      exact ⟨hE.orc _ _ _ hv, hc⟩
    · cases h
  · split at h <;> try cases h
    split at h <;> try cases h
    rename_i v0 H0 hr
    split at h <;> try cases h
    rename_i hc
    exact ⟨PF_of_FT fun w0 N0 => (hR.1 _ _ _ _ _ hr w0 N0).mono fun v1 H1 ⟨e1, e2⟩ => by subst e1 e2; rfl, hc⟩

theorem quiet1_ok (hE : EnvOk P E) (hR : RecOk P R) (h : quiet1 E R S io = some v) : Stp P w0 N0 rd io S fun S2 v2 => v2 = v ∧ S2 = S := by
  unfold quiet1 at h
  split at h
  · rename_i fa args hop
    split at h
    · rename_i fv vs hf ha
      cases fv with
      | fn fid first cap =>
        obtain ⟨h1, hc⟩ := pureOf_ok hE hR h
        exact (Stp_pure hop hf ha h1 (fun hm => hc.resolve_left (by rw [hm]; simp))).mono fun S v ⟨e1, e2⟩ => ⟨e2, e1⟩
      | _ => simp [pureOf] at h
    · cases h
  · split at h
    · cases h
    · rename_i hl
      simp only [Option.map_eq_some_iff, Prod.exists, exists_and_right, exists_eq_right] at h
      obtain ⟨S1, h1⟩ := h
      obtain rfl := iop_quiet (by simpa using hl) h1
      exact (Stp_op h1).mono fun S v ⟨e1, e2⟩ => ⟨e2, e1⟩

theorem yieldV_ok (hR : RecOk P R) {id st : Nat} {args : List AV} {H' : HS} (h : yieldV P R id st args H = some (v, H')) : CT P w0 N0 (.yield id st) args H fun v1 H1 => v1 = v ∧ H1 = H' := by
  unfold yieldV at h
  split at h <;> try cases h
  rename_i st' size tmps ps ca cb df hl
  split at h <;> try cases h
  rename_i hc
  obtain ⟨rfl, hps, hlt⟩ := hc
  split at h <;> try cases h
  rename_i ia ib hia hib
  split at h <;> try cases h
  rename_i S1 hc1
  split at h <;> try cases h
  rename_i st1 size1 tmps1 ps1 ca1 cb1 df1 hl1
  split at h <;> try cases h
  rename_i e1; subst e1
  split at h <;> try cases h
  rename_i e S2 hc2
  split at h <;> try cases h
  rename_i st2 size2 tmps2 ps2 ca2 cb2 df2 hl2
  split at h <;> try cases h
  rename_i e2; subst e2
  split at h <;> try cases h
  rename_i j hj
  refine CT_yield hl (com_of hia) (com_of hib) hps (fun p hp => by simpa using List.all_eq_true.1 hlt p hp) (T_mono (hR.2 _ _ _ _ _ hc1 w0 N0) fun e3 S3 ⟨k1, k2⟩ => ?_)
  subst k1 k2
  refine ⟨rfl, _, _, _, _, _, _, hl1, T_mono (hR.2 _ _ _ _ _ hc2 w0 N0) fun e4 S4 ⟨k1, k2⟩ => ?_⟩
  subst k1 k2
  exact ⟨_, _, _, _, _, _, hl2, j, hj, rfl, rfl⟩

theorem callV_ok (hR : RecOk P R) {fv : AV} {vs : List AV} {H' : HS} (h : callV P R fv vs H = some (v, H')) : CT P w0 N0 fv vs H fun v1 H1 => v1 = v ∧ H1 = H' := by
  unfold callV at h
  split at h
  · exact CT_of_FT (hR.1 _ _ _ _ _ h w0 N0)
  · exact yieldV_ok hR h
  · cases h

theorem loud1_ok (hR : RecOk P R) {H' : HS} (h : loud1 P R S io = some (v, H')) : Stp P w0 N0 rd io S fun S2 v2 => v2 = v ∧ S2 = S.withH H' := by
  unfold loud1 at h
  split at h
  · rename_i fa args hop
    split at h <;> try cases h
    rename_i fv vs hf ha
    split at h <;> try cases h
    rename_i v1 H1 hv
    split at h <;> try cases h
    rename_i hm
    exact (Stp_ct hop hf ha (callV_ok hR hv) (fun v2 H2 ⟨_, e⟩ => e ▸ marksOk_of hm)).mono fun S2 v2 ⟨H2, ⟨e1, e2⟩, e3⟩ => ⟨e1, by rw [e3, e2]⟩
  · split at h <;> try cases h
    rename_i v1 S1 h1
    exact (Stp_op h1).mono fun S2 v2 ⟨e1, e2⟩ => ⟨e2, by rw [e1]; exact iop_same h1⟩

end
end Go.Am
