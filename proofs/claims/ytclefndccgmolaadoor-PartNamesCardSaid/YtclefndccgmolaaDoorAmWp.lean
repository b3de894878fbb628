/-
  CODE OVER STATES OF WHICH SOME VALUES ARE UNKNOWN NUMBERS, TEXTS, LISTS: what is left to show, as a proposition. A general base for proofs: no program is named here.
-/
import Derived.Test.YtclefndccgmolaaDoorAmTab
namespace Go.Am
open Go Go.RowKit

def isCmp : BinOp → Bool
  | .eql | .neq | .lss | .leq | .gtr | .geq => true
  | _ => false

/-- A known truth, or both. -/
def askB (o : Option AV) (K : AV → Prop) : Prop :=
  match o with
  | some (.bool t) => (t = true → K (.bool true)) ∧ (t = false → K (.bool false))
  | _ => False

def knownO (o : Option (AV × AS)) (K : AV → AS → Prop) : Prop :=
  match o with
  | some (v, S1) => K v S1
  | none => False

/-- Operations whose answer may hang on a side condition. -/
def asked : IOp → Bool
  | .store .. | .mkslice .. | .slsl .. | .slarr .. | .slstr .. | .idxs .. | .idxarr .. | .idxagg .. | .idxstr .. | .append .. | .appendz .. | .copy .. | .minmax .. | .mapset .. | .mapget .. => true
  | _ => false

section
variable (P : Program) (w0 : World) (N0 : Nat)

structure WpCall (S : AS) (fv : AV) (vs : List AV) (K : AV → AS → Prop) : Prop where
  ok : ∃ Fk : AV → HS → Prop, CT P w0 N0 fv vs S.hs Fk ∧ ∀ v H, Fk v H → marksOk S.marks H.heap ∧ K v (S.withH H)

structure WpT (rd : Option (Nat × Nat)) (ic : IC) (S : AS) (K : Exit → AS → Prop) : Prop where
  ok : T P w0 N0 rd ic S K

def wpOp (S : AS) (op : IOp) (K : AV → AS → Prop) : Prop :=
  match op with
  | .bin op x y => match S.arg x, S.arg y with
    | some a, some b => if isCmp op then askB (binOp op a b) (K · S) else knownO ((binOp op a b).map (·, S)) K
    | _, _ => False
  | .eqb neg x y => askB ((iop S (.eqb neg x y)).map (·.1)) (K · S)
  | .eqs neg fs x y => askB ((iop S (.eqs neg fs x y)).map (·.1)) (K · S)
  | .call fa args => match S.arg fa, S.args args with
    | some fv, some vs => WpCall P w0 N0 S fv vs K
    | _, _ => False
  | op => if asked op then ∃ v S1, iop S op = some (v, S1) ∧ K v S1 else knownO (iop S op) K

def wpPut (dst : Option Nat) (v : AV) (S : AS) (K : AS → Prop) : Prop :=
  match okDst S.size dst with
  | true => K (S.put dst v)
  | false => False

def wpO : List Opr → AS → (AS → Prop) → Prop
  | [], S, K => K S
  | io :: ios, S, K => match wantedA S io with
    | some true => wpOp P w0 N0 S io.op fun v S1 => wpPut io.dst v S1 fun S2 => wpO ios S2 K
    | some false => wpPut io.dst (.tup []) S fun S2 => wpO ios S2 K
    | none => False

/-- What is left to show of code. Loops, drawn regions and ranges over functions are left as they are. -/
def wpC (rd : Option (Nat × Nat)) : IC → AS → (Exit → AS → Prop) → Prop
  | .skip, S, K => K .normal S
  | .region ios none, S, K => wpO P w0 N0 ios S (K .normal)
  | .region ios (some pres), S, K => WpT P w0 N0 rd (.region ios (some pres)) S K
  | .seq a b, S, K => wpC rd a S fun e S1 => match e with
    | .normal => wpC rd b S1 K
    | e => K e S1
  | .cond c a b, S, K => match S.arg c with
    | some (.bool t) => match t with
      | true => wpC rd a S K
      | false => wpC rd b S K
    | _ => False
  | .block id b, S, K => wpC rd b S (QBlock id K)
  | .loop b, S, K => WpT P w0 N0 rd (.loop b) S K
  | .rangeFunc g ps ca cb a b, S, K => WpT P w0 N0 rd (.rangeFunc g ps ca cb a b) S K
  | .exit id, S, K => K (.exit id) S
  | .ret, S, K => K .ret S

end

section
variable {P : Program} {w0 w : World} {N0 : Nat} {S S' : AS} {rd : Option (Nat × Nat)}

theorem bool_of_cmp {op : BinOp} (hc : isCmp op = true) {a b v : AV} (h : binOp op a b = some v) : ∃ t, v = .bool t := by
  have key : ∀ {o : Option Bool}, o.map AV.bool = some v → ∃ t, v = .bool t := fun {o} h => by
    simp only [Option.map_eq_some_iff] at h
    obtain ⟨t, _, rfl⟩ := h; exact ⟨t, rfl⟩
  unfold binOp at h
  split at h
  · split at h <;> try (simp [isCmp] at hc; done)
    split at h <;> try cases h
    cases op <;> simp only [isCmp, Bool.false_eq_true] at hc <;> simp only [binInt, Option.some.injEq] at h <;> exact ⟨_, h.symm⟩
  · cases op <;> simp only [isCmp, Bool.false_eq_true] at hc <;> simp only [binStr, Option.some.injEq] at h <;> exact ⟨_, h.symm⟩
  · unfold binAbs at h
    split at h
    · split at h <;> try cases h
      exact key h
    · split at h <;> try cases h
      exact key h
    · split at h <;> try cases h
      cases op <;> simp only [isCmp, Bool.false_eq_true] at hc <;> simp [remInts] at h
    · exact key h
    · exact key h
    · cases h

theorem TO_wp {K : AS → Prop} : ∀ {ios : List Opr} {S : AS}, wpO P w0 N0 ios S K → TO P w0 N0 rd ios S K
  | [], S, h => TO_nil h
  | io :: ios, S, h => by
    have put : ∀ {v : AV} {S1 : AS}, wpPut io.dst v S1 (fun S2 => wpO P w0 N0 ios S2 K) → okDst S1.size io.dst = true ∧ TO P w0 N0 rd ios (S1.put io.dst v) K := by
      intro v S1 h
      unfold wpPut at h
      split at h
      · rename_i hd; exact ⟨hd, TO_wp h⟩
      · exact h.elim
    simp only [wpO] at h
    split at h
    · rename_i hw
      have ofIop : ∀ {v : AV} {S1 : AS}, iop S io.op = some (v, S1) → wpPut io.dst v S1 (fun S2 => wpO P w0 N0 ios S2 K) → TO P w0 N0 rd (io :: ios) S K := by
        intro v S1 hi hk
        refine TO_cons (Stp_op hi) hw fun S2 v2 ⟨e1, e2⟩ => ?_
        subst e1 e2; exact put hk
      have ofAsk : ∀ {o : Option AV}, (∀ v, o = some v → iop S io.op = some (v, S)) → askB o (fun v => wpPut io.dst v S fun S2 => wpO P w0 N0 ios S2 K) → TO P w0 N0 rd (io :: ios) S K := by
        intro o hi hk
        unfold askB at hk
        split at hk
        · rename_i t
          cases t with
          | true => exact ofIop (hi _ rfl) (hk.1 rfl)
          | false => exact ofIop (hi _ rfl) (hk.2 rfl)
        · exact hk.elim
      unfold wpOp at h
      split at h
      · rename_i op x y hop
        split at h
        · rename_i a b ha hb
          split at h
          · exact ofAsk (fun v hv => by rw [hop]; simp only [iop, ha, hb, hv]; rfl) h
          · unfold knownO at h
            split at h
            · rename_i v S1 hv
              exact ofIop (by rw [hop]; simp only [iop, ha, hb]; exact hv) h
            · exact h.elim
        · exact h.elim
      · rename_i neg x y hop
        refine ofAsk (fun v hv => ?_) h
        simp only [Option.map_eq_some_iff, Prod.exists, exists_and_right, exists_eq_right] at hv
        obtain ⟨S1, hv⟩ := hv
        rw [hop, hv, iop_quiet rfl hv]
      · rename_i neg fs x y hop
        refine ofAsk (fun v hv => ?_) h
        simp only [Option.map_eq_some_iff, Prod.exists, exists_and_right, exists_eq_right] at hv
        obtain ⟨S1, hv⟩ := hv
        rw [hop, hv, iop_quiet rfl hv]
      · rename_i fa args hop
        split at h
        · rename_i fv vs hf ha
          obtain ⟨Fk, hct, hk⟩ := h.ok
          exact TO_cons (Stp_ct hop hf ha hct fun v H hF => (hk v H hF).1) hw fun S2 v2 ⟨H, hF, e⟩ => by subst e; exact put (hk v2 H hF).2
        · exact h.elim
      · split at h
        · obtain ⟨v, S1, hi, hk⟩ := h
          exact ofIop hi hk
        · unfold knownO at h
          split at h
          · rename_i v S1 hi; exact ofIop hi h
          · exact h.elim
    · rename_i hw
      unfold wpPut at h
      split at h
      · rename_i hd; exact TO_skip hw hd (TO_wp h)
      · exact h.elim
    · exact h.elim

theorem T_wp : ∀ {ic : IC} {S : AS} {K : Exit → AS → Prop}, wpC P w0 N0 rd ic S K → T P w0 N0 rd ic S K := by
  intro ic
  induction ic with
  | skip => intro S K h; exact T_skip h
  | region ios d =>
    intro S K h
    cases d with
    | none => exact T_region (TO_wp h)
    | some pres => exact h.ok
  | seq a b iha ihb =>
    intro S K h
    refine T_seq (T_mono (iha h) fun e S1 hk => ?_)
    cases e with
    | normal => exact ihb hk
    | _ => exact hk
  | cond c a b iha ihb =>
    intro S K h
    simp only [wpC] at h
    split at h
    · rename_i t hc
      refine T_cond hc ?_
      cases t with
      | true => exact iha h
      | false => exact ihb h
    · exact h.elim
  | block id b ih => intro S K h; exact T_block (ih h)
  | loop b _ => intro S K h; exact h.ok
  | rangeFunc => intro S K h; exact h.ok
  | exit id => intro S K h; exact T_exit h
  | ret => intro S K h; exact T_ret h

/-- Less may be known behind than before. -/
theorem Sub.of {S S' : AS} (h1 : S'.size = S.size) (h2 : S'.heap = S.heap) (h3 : S'.next = S.next) (h4 : S'.clk = S.clk) (h5 : S'.marks = S.marks) (hi : ∀ d v, lookT d S'.tmps = some v → lookT d S.tmps = some v) : Sub w0 N0 S S' := by
  intro I a w h
  obtain ⟨size, tmps, heap, nx, clk, marks⟩ := S
  obtain ⟨size', tmps', heap', nx', clk', marks'⟩ := S'
  simp only at h1 h2 h3 h4 h5
  subst h1 h2 h3 h4 h5
  exact ⟨I, ⟨h.clk, ⟨h.tmps.1, fun d v hv => h.tmps.2 d v (hi d v hv)⟩, h.hrel, h.marks⟩, Evo.refl I w⟩

/-- A pure function's contract, from its code. -/
theorem PF_of_wp {E : Env} (hE : EnvOk P E) {f : FuncId} {i : FnI} (hf : E.fn f = some i) {args : List AV} {v : AV} (hn : args.length ≤ i.size)
    (h : ∀ w0 N0, wpC P w0 N0 none i.ic (AS.enter i.size args ⟨[], 0, 0⟩) fun e S' => (e = .normal ∨ e = .ret) ∧ ∃ v0, S'.leave.res i.res = some v0 ∧ (⟨0, .nil, S'.leave.heap, S'.leave.next, S'.leave.clk, []⟩ : AS).view VD v0 = v) : PF P f args v := by
  obtain ⟨fn, code, k1, k2, k3, k4, k5, k6⟩ := hE.fn f i hf
  refine PF_of_FT fun w0 N0 => FT_of_T k1 k2 k3 k6 (by rw [k4]; exact hn) k5 ?_
  rw [k4]
  exact T_mono (T_wp (h w0 N0)) fun e S' ⟨h1, v0, h2, h3⟩ => ⟨h1, v0, h2, h3⟩

theorem wpCall_pure {fid : FuncId} {first cap vs : List AV} {v : AV} {K : AV → AS → Prop} (h : PF P fid ((first ++ vs ++ cap).map (S.view VD)) v) (hfl : hasM.hasML (first ++ vs ++ cap) = true → flat v = true) (hm : marksOk S.marks S.heap)
    (hk : K v S) : WpCall P w0 N0 S (.fn fid first cap) vs K := by
  have hv : (⟨0, .nil, S.hs.heap, S.hs.next, S.hs.clk, []⟩ : AS).view VD = S.view VD := funext fun x => by
    have : ∀ (d : Nat) (x : AV), (⟨0, .nil, S.hs.heap, S.hs.next, S.hs.clk, []⟩ : AS).view d x = S.view d x := by
      intro d
      induction d with
      | zero => intro x; rfl
      | succ d ih =>
        intro x
        have ih' : (⟨0, .nil, S.hs.heap, S.hs.next, S.hs.clk, []⟩ : AS).view d = S.view d := funext ih
        cases x <;> simp only [AS.view, ih'] <;> rfl
    exact this VD x
  refine ⟨⟨fun v' H' => v' = v ∧ H' = S.hs, CT_of_FT (FT_of_PF (H := S.hs) (by rw [hv]; exact h) hfl), fun v' H' ⟨e1, e2⟩ => ?_⟩⟩
  subst e1 e2
  exact ⟨hm, hk⟩

theorem iop_idxstr {x i : Arg} {s : List UInt8} {k : IntKind} {n : Int} {b : UInt8} (hx : S.arg x = some (.str s)) (hi : S.arg i = some (.int k n)) (h0 : 0 ≤ n) (hb : s[n.toNat]? = some b) : iop S (.idxstr x i) = some (.int .u8 b.toNat, S) := by
  simp only [iop, hx, hi, if_pos h0, hb]

theorem iop_store {size : Nat} {p v : Arg} {id st off : Nat} {cs vs : List AV} {x : AV} (hp : S.arg p = some (.mptr id st off)) (hl : look id S.heap = some (st, .cells cs)) (hv : S.arg v = some x) (hc : x.cells? = some vs) (hn : vs.length = size)
    (hle : off + vs.length ≤ cs.length) (ha : vs.all AV.isCell = true) : iop S (.store size p v) = some (.tup [], { S with heap := putl id (st, .cells (setAt off cs vs)) S.heap }) := by
  simp only [iop, hp, hv, hc, if_pos hn, AS.store, hl]
  rw [if_pos ⟨trivial, hle, ha⟩]
  rfl

theorem iop_idxs {sz : Nat} {x i : Arg} {es : List (List AV)} {e : List AV} {k : IntKind} {n : Int} (hx : S.arg x = some (.vs es)) (hi : S.arg i = some (.int k n)) (h0 : 0 ≤ n) (hb : es[n.toNat]? = some e) (he : e.length = sz) : iop S (.idxs sz x i) = some (.vptr e, S) := by
  have hlt : n < es.length := by have := (List.getElem?_eq_some_iff.1 hb).1; omega
  simp only [iop, hx, hi, if_pos (And.intro h0 hlt), hb, if_pos he]

def tmOf : List (Nat × AV) → TM
  | [] => .nil
  | (d, v) :: l => putT d v (tmOf l)

theorem look_tmOf {d : Nat} {v : AV} {T : TM} : ∀ {l : List (Nat × AV)}, (∀ x ∈ l, lookT x.1 T = some x.2) → lookT d (tmOf l) = some v → lookT d T = some v
  | [], _, h => by simp [tmOf, lookT_nil] at h
  | (k, u) :: l, hl, h => by
    simp only [tmOf, lookT_putT] at h
    by_cases e : k = d
    · subst e; rw [if_pos rfl] at h; injection h with h; subst h; exact hl (k, u) (List.mem_cons_self ..)
    · rw [if_neg e] at h; exact look_tmOf (fun x hx => hl x (List.mem_cons_of_mem _ hx)) h

/-- Only what a list names is kept of the temporaries. -/
theorem Sub.tm {l : List (Nat × AV)} {n : Nat} {hp : List (Nat × Nat × AObj)} {nx ck : Nat} {mk : List (Nat × Nat)} (h1 : n = S.size) (h2 : hp = S.heap) (h3 : nx = S.next) (h4 : ck = S.clk) (h5 : mk = S.marks)
    (h : ∀ x ∈ l, lookT x.1 S.tmps = some x.2) : Sub w0 N0 S ⟨n, tmOf l, hp, nx, ck, mk⟩ :=
  Sub.of h1 h2 h3 h4 h5 fun _ _ hv => look_tmOf h hv

end
end Go.Am
