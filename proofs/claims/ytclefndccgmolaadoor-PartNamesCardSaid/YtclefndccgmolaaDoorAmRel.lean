/-
  ABSTRACT STATES AND WHAT THEY SAY OF AN ACTIVATION AND A WORLD. A general base for proofs: no program is named here.
-/
import Derived.Test.YtclefndccgmolaaDoorAmVal
namespace Go.Am
open Go Go.RowKit

def look {α : Type} (i : Nat) : List (Nat × α) → Option α
  | [] => none
  | (j, v) :: l => match Nat.beq j i with
    | true => some v
    | false => look i l

def putl {α : Type} (i : Nat) (v : α) : List (Nat × α) → List (Nat × α)
  | [] => [(i, v)]
  | (j, u) :: l => match Nat.beq j i with
    | true => (i, v) :: l
    | false => (j, u) :: putl i v l

def dropl {α : Type} (i : Nat) : List (Nat × α) → List (Nat × α)
  | [] => []
  | (j, u) :: l => match Nat.beq j i with
    | true => dropl i l
    | false => (j, u) :: dropl i l

theorem look_nil {α : Type} (i : Nat) : look i ([] : List (Nat × α)) = none := rfl
theorem putl_nil {α : Type} (i : Nat) (v : α) : putl i v [] = [(i, v)] := rfl
theorem dropl_nil {α : Type} (i : Nat) : dropl i ([] : List (Nat × α)) = [] := rfl

theorem beq_if {α : Type} (i j : Nat) (a b : α) : (match Nat.beq j i with | true => a | false => b) = if j = i then a else b := by
  by_cases h : j = i
  · rw [if_pos h, show Nat.beq j i = true from by rw [h]; exact Nat.beq_refl i]
  · rw [if_neg h, show Nat.beq j i = false from by cases hb : Nat.beq j i with | false => rfl | true => exact absurd (Nat.eq_of_beq_eq_true hb) h]

theorem look_cons {α : Type} (i j : Nat) (v : α) (l : List (Nat × α)) : look i ((j, v) :: l) = if j = i then some v else look i l := by rw [look]; exact beq_if ..
theorem putl_cons {α : Type} (i j : Nat) (u v : α) (l : List (Nat × α)) : putl i v ((j, u) :: l) = if j = i then (i, v) :: l else (j, u) :: putl i v l := by rw [putl]; exact beq_if ..
theorem dropl_cons {α : Type} (i j : Nat) (u : α) (l : List (Nat × α)) : dropl i ((j, u) :: l) = if j = i then dropl i l else (j, u) :: dropl i l := by rw [dropl]; exact beq_if ..

theorem look_putl {α : Type} (i j : Nat) (v : α) : ∀ l : List (Nat × α), look i (putl j v l) = if j = i then some v else look i l
  | [] => by simp [putl_nil, look_nil, look_cons]
  | (k, u) :: l => by
    simp only [putl_cons]
    by_cases h : k = j
    · subst h; simp only [if_true, look_cons]; split <;> rfl
    · simp only [if_neg h, look_cons, look_putl i j v l]
      by_cases h2 : k = i
      · subst h2; rw [if_pos rfl, if_pos rfl, if_neg (fun e => h e.symm)]
      · rw [if_neg h2, if_neg h2]

theorem look_dropl {α : Type} (i j : Nat) : ∀ l : List (Nat × α), look i (dropl j l) = if j = i then none else look i l
  | [] => by simp [dropl_nil, look_nil]
  | (k, u) :: l => by
    simp only [dropl_cons]
    by_cases h : k = j
    · subst h; simp only [if_true, look_dropl i k l, look_cons]; split <;> rfl
    · simp only [if_neg h, look_cons, look_dropl i j l]
      by_cases h2 : k = i
      · subst h2; rw [if_pos rfl, if_pos rfl, if_neg (fun e => h e.symm)]
      · rw [if_neg h2, if_neg h2]

inductive TM where
  | nil
  | nd (v : Option AV) (l r : TM)

/-- A temporary's place in the tree. -/
def pathF : Nat → Nat → List Bool
  | 0, _ => []
  | f + 1, n => match Nat.beq n 0 with
    | true => []
    | false => Nat.beq (n % 2) 0 :: pathF f ((n - 1) / 2)

def pathOf (n : Nat) : List Bool := pathF n n

theorem pathF_inj : ∀ (f g n m : Nat), n ≤ f → m ≤ g → pathF f n = pathF g m → n = m
  | 0, 0, n, m, h1, h2, _ => by omega
  | 0, g + 1, n, m, h1, h2, h => by
    simp only [pathF] at h
    cases hb : Nat.beq m 0 with
    | true => have := Nat.eq_of_beq_eq_true hb; omega
    | false => rw [hb] at h; cases h
  | f + 1, 0, n, m, h1, h2, h => by
    simp only [pathF] at h
    cases hb : Nat.beq n 0 with
    | true => have := Nat.eq_of_beq_eq_true hb; omega
    | false => rw [hb] at h; cases h
  | f + 1, g + 1, n, m, h1, h2, h => by
    simp only [pathF] at h
    cases hb : Nat.beq n 0 with
    | true =>
      cases hc : Nat.beq m 0 with
      | true => rw [Nat.eq_of_beq_eq_true hb, Nat.eq_of_beq_eq_true hc]
      | false => rw [hb, hc] at h; cases h
    | false =>
      cases hc : Nat.beq m 0 with
      | true => rw [hb, hc] at h; cases h
      | false =>
        rw [hb, hc] at h
        simp only [List.cons.injEq] at h
        have hn : n ≠ 0 := fun e => by subst e; simp at hb
        have hm : m ≠ 0 := fun e => by subst e; simp at hc
        have ih := pathF_inj f g ((n - 1) / 2) ((m - 1) / 2) (by omega) (by omega) h.2
        have h3 : (n % 2 = 0) ↔ (m % 2 = 0) := by
          have e1 : ∀ x : Nat, Nat.beq x 0 = true ↔ x = 0 := fun x => ⟨Nat.eq_of_beq_eq_true, fun e => by rw [e]; rfl⟩
          rw [← e1, ← e1, h.1]
        omega

theorem pathOf_inj {n m : Nat} (h : pathOf n = pathOf m) : n = m := pathF_inj n m n m (Nat.le_refl _) (Nat.le_refl _) h

def TM.val : TM → Option AV
  | .nil => none
  | .nd v _ _ => v

def getStep (b : Bool) (ih : TM → Option AV) : TM → Option AV
  | .nil => none
  | .nd _ l r => match b with
    | true => ih r
    | false => ih l

def TM.getP : List Bool → TM → Option AV
  | [] => TM.val
  | b :: p => getStep b (TM.getP p)

def setHere (o : Option AV) : TM → TM
  | .nil => .nd o .nil .nil
  | .nd _ l r => .nd o l r

def setStep (b : Bool) (ih : TM → TM) : TM → TM
  | .nil => match b with
    | true => .nd none .nil (ih .nil)
    | false => .nd none (ih .nil) .nil
  | .nd v l r => match b with
    | true => .nd v l (ih r)
    | false => .nd v (ih l) r

def TM.setP (o : Option AV) : List Bool → TM → TM
  | [] => setHere o
  | b :: p => setStep b (TM.setP o p)

def lookT (i : Nat) (t : TM) : Option AV := TM.getP (pathOf i) t
def setT (i : Nat) (o : Option AV) (t : TM) : TM := TM.setP o (pathOf i) t
def putT (i : Nat) (v : AV) (t : TM) : TM := TM.setP (some v) (pathOf i) t

theorem get_nil : ∀ p : List Bool, TM.getP p TM.nil = none
  | [] => rfl
  | _ :: _ => rfl

theorem get_setP (o : Option AV) : ∀ (q p : List Bool) (t : TM), TM.getP p (TM.setP o q t) = if q = p then o else TM.getP p t
  | [], [], t => by cases t <;> rfl
  | [], b :: p, t => by
    rw [if_neg (by simp)]
    cases t with
    | nil => cases b <;> exact get_nil p
    | nd => rfl
  | b :: q, [], t => by
    rw [if_neg (by simp)]
    cases t <;> cases b <;> rfl
  | b :: q, c :: p, t => by
    cases b <;> cases c <;> cases t <;> first
      | (have := get_setP o q p .nil; rw [get_nil] at this; simp only [List.cons.injEq, true_and]; exact this)
      | (rename_i v l r; have := get_setP o q p l; simp only [List.cons.injEq, true_and]; exact this)
      | (rename_i v l r; have := get_setP o q p r; simp only [List.cons.injEq, true_and]; exact this)
      | (rw [if_neg (by simp)]; exact get_nil p)
      | (rw [if_neg (by simp)]; rfl)

theorem lookT_setT (i j : Nat) (o : Option AV) (t : TM) : lookT i (setT j o t) = if j = i then o else lookT i t := by
  unfold lookT setT
  rw [get_setP]
  by_cases h : j = i
  · rw [if_pos (by rw [h]), if_pos h]
  · rw [if_neg (fun e => h (pathOf_inj e)), if_neg h]

theorem lookT_putT (i j : Nat) (v : AV) (t : TM) : lookT i (putT j v t) = if j = i then some v else lookT i t := lookT_setT i j (some v) t

theorem lookT_nil (i : Nat) : lookT i .nil = none := get_nil _

inductive AObj where
  | cells (cs : List AV)
  | loop (state : LoopState) (pending : Option Code) (size : Nat) (tmps : TM) (ps : List Nat) (assign body : Code) (df : Nat × Nat)
  | deferred
  | map (entries : List (AV × AV))

structure AS where
  size : Nat
  tmps : TM
  heap : List (Nat × Nat × AObj)
  next : Nat
  clk : Nat
  marks : List (Nat × Nat)

def TRel (w : World) (ro : Nat → Prop) (L : Option LI) (size : Nat) (tmps : TM) (ts : Array Value) : Prop :=
  ts.size = size ∧ ∀ i v, lookT i tmps = some v → VRel w ro L v (ts.getD i undef)

/-- What an abstract object says of the block at a place. -/
def ORel (w : World) (I : LI) : Loc → AObj → Prop
  | .void, .cells cs => cs = []
  | .at b base n, .cells cs => ∃ c elem, w.heap[b]? = some (.cells c elem (0, 0)) ∧ c.size = n ∧ base + cs.length ≤ n ∧
      ∀ i x, cs[i]? = some x → VRel w I.ro (some I) x (c.getD (base + i) undef)
  | .at b _ _, .loop st pe size tmps ps assign body df => ∃ r : Loop, w.heap[b]? = some (.loop r) ∧ r.state = st ∧ r.pending = pe ∧ TRel w I.ro (some I) size tmps r.tmps ∧
      r.params.toList = ps ∧ r.assign = assign ∧ r.body = body ∧ df.2 < I.clk ∧ ∀ b' base' n', I.loc df.1 df.2 = some (.at b' base' n') → r.defers = b'
  | .at b _ _, .deferred => w.heap[b]? = some (.deferred (some []))
  | .at b _ _, .map es => ∃ (l : Array MapEntry) (q : Nat), w.heap[b]? = some (.map l q) ∧ l.size = es.length ∧
      (∀ (i : Nat) (k v : AV), es[i]? = some (k, v) → ∃ e : MapEntry, l[i]? = some e ∧ VRel w I.ro (some I) k e.key ∧ VRel w I.ro (some I) v e.val)
  | _, _ => False

structure HRel (w0 : World) (N0 : Nat) (I : LI) (hp : List (Nat × Nat × AObj)) (next : Nat) (w : World) : Prop where
  below : Below N0 w0 w
  base : N0 ≤ w0.heap.size
  heap : ∀ id st o, look id hp = some (st, o) → st < I.clk ∧ ∃ l, I.loc id st = some l ∧ ORel w I l o
  locs : ∀ id st l, I.loc id st = some l → ∃ o, look id hp = some (st, o)
  inj : ∀ id st b base n id' st' base' n', I.loc id st = some (.at b base n) → I.loc id' st' = some (.at b base' n') → id = id'
  fresh : ∀ id st b base n, I.loc id st = some (.at b base n) → N0 ≤ b
  free : ∀ id, next ≤ id → look id hp = none
  okN : ∀ b, N0 ≤ b → I.ok b
  glob : GOk I.ro w

def DRel (I : LI) (hp : List (Nat × Nat × AObj)) (marks : List (Nat × Nat)) (ds : List Deferred) : Prop :=
  ds.length = marks.length ∧ (∀ (i id st : Nat) (d : Deferred), marks[i]? = some (id, st) → ds[i]? = some d →
    look id hp = some (st, .deferred) ∧ ∃ b base n, I.loc id st = some (.at b base n) ∧ d = ({ target := .collected b, args := #[] } : Deferred)) ∧ (marks.map (·.1)).Nodup

structure Rel (w0 : World) (N0 : Nat) (I : LI) (S : AS) (a : Act) (w : World) : Prop where
  clk : I.clk = S.clk
  tmps : TRel w I.ro (some I) S.size S.tmps a.tmps
  hrel : HRel w0 N0 I S.heap S.next w
  marks : DRel I S.heap S.marks a.defers

/-- How one pair of label and world follows another: nothing that was shut has turned, no claim is new at an old stamp. -/
structure Evo (I : LI) (w : World) (I' : LI) (w' : World) : Prop where
  clk : I.clk ≤ I'.clk
  loc : ∀ id st l, st < I.clk → I'.loc id st = some l → I.loc id st = some l
  ro : ∀ b i x, I.ro b → w.cell? ⟨b, i, none⟩ = some x → I'.ro b ∧ w'.cell? ⟨b, i, none⟩ = some x
  ok : I'.ok = I.ok

theorem Evo.refl (I : LI) (w : World) : Evo I w I w := ⟨Nat.le_refl _, fun _ _ _ _ h => h, fun _ _ _ h h' => ⟨h, h'⟩, rfl⟩

theorem Evo.trans {I J K : LI} {w w' w'' : World} (h : Evo I w J w') (k : Evo J w' K w'') : Evo I w K w'' :=
  ⟨Nat.le_trans h.clk k.clk, fun id st l hs hl => h.loc id st l hs (k.loc id st l (Nat.lt_of_lt_of_le hs h.clk) hl),
   fun b i x hr hc => let ⟨h1, h2⟩ := h.ro b i x hr hc; k.ro b i x h1 h2, k.ok.trans h.ok⟩

theorem VRel.evo {I I' : LI} {w w' : World} {v : AV} {u : Value} (h : VRel w I.ro (some I) v u) (e : Evo I w I' w') : VRel w' I'.ro (some I') v u :=
  h.mono e.ro ⟨e.clk, e.loc⟩

theorem VRel.evo0 {I I' : LI} {w w' : World} {v : AV} {u : Value} (h : VRel w I.ro none v u) (e : Evo I w I' w') : VRel w' I'.ro none v u :=
  h.mono e.ro trivial

theorem TRel.evo {I I' : LI} {w w' : World} {size : Nat} {tmps : TM} {ts : Array Value} (h : TRel w I.ro (some I) size tmps ts) (e : Evo I w I' w') :
    TRel w' I'.ro (some I') size tmps ts := ⟨h.1, fun i v hv => (h.2 i v hv).evo e⟩

theorem TRel.put {w : World} {ro : Nat → Prop} {L : Option LI} {size : Nat} {tmps : TM} {ts : Array Value} {d : Nat} {v : AV} {u : Value} (h : TRel w ro L size tmps ts) (hd : d < size) (hv : VRel w ro L v u) :
    TRel w ro L size (putT d v tmps) (ts.setIfInBounds d u) := by
  refine ⟨by simp [h.1], fun i x hx => ?_⟩
  rw [lookT_putT] at hx
  by_cases hdi : d = i
  · subst hdi
    rw [if_pos rfl] at hx
    injection hx with hx
    subst hx
    have : d < ts.size := h.1 ▸ hd
    simpa [Array.getD, this] using hv
  · rw [if_neg hdi] at hx
    have := h.2 i x hx
    simpa [Array.getD_eq_getD_getElem?, Array.getElem?_setIfInBounds_ne hdi] using this

def AS.get (S : AS) (i : Nat) : Option AV := lookT i S.tmps

def AS.put (S : AS) (d : Option Nat) (v : AV) : AS :=
  match d with
  | some d => { S with tmps := putT d v S.tmps }
  | none => S

def okDst (size : Nat) : Option Nat → Bool
  | some d => decide (d < size)
  | none => true

theorem Rel.put {w0 : World} {N0 : Nat} {I : LI} {S : AS} {a : Act} {w : World} {d : Option Nat} {v : AV} {u : Value} (h : Rel w0 N0 I S a w) (hd : okDst S.size d = true) (hv : VRel w I.ro (some I) v u) :
    Rel w0 N0 I (S.put d v) (a.put d u) w := by
  cases d with
  | none => exact h
  | some d => exact ⟨h.clk, h.tmps.put (by simpa [okDst] using hd) hv, h.hrel, h.marks⟩

end Go.Am
