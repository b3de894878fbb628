/-
  AN OPERATION READS ITS ARGUMENTS AND THE HEAP ALONE. A general base for proofs: no program is named here.
-/
import Derived.Test.YtclefndccgmolaaDoorAmExec2
namespace Go.Am
open Go Go.RowKit

def AS.withT (S : AS) (T : TM) : AS := { S with tmps := T }

def argTs : Arg → List Nat
  | .t n => [n]
  | .c _ => []

def argsTs : List Arg → List Nat
  | [] => []
  | a :: l => argTs a ++ argsTs l

def oargTs : Option Arg → List Nat
  | none => []
  | some a => argTs a

def partsTs : List (Nat × Nat × Arg) → List Nat
  | [] => []
  | x :: l => argTs x.2.2 ++ partsTs l

/-- The temporaries that an operation reads. -/
def reads : IOp → List Nat
  | .mov a | .box a | .load _ a | .nilchk a | .un _ a | .conv _ a | .faddr _ a | .field _ _ a | .extract a _ | .len _ a | .capo a => argTs a
  | .pick c a b => argTs c ++ (argTs a ++ argTs b)
  | .alloc _ | .lenc _ | .mkmap | .bad => []
  | .build _ ps | .bslice _ _ _ ps => partsTs ps
  | .store _ a v => argTs a ++ argTs v
  | .bin _ x y | .eqb _ x y | .eqs _ _ x y => argTs x ++ argTs y
  | .mkfn _ a b => argsTs a ++ argsTs b
  | .mkslice _ _ _ l c => argTs l ++ argTs c
  | .slsl _ x lo hi mx => argTs x ++ (oargTs lo ++ (oargTs hi ++ oargTs mx))
  | .slarr _ _ x lo hi | .slstr x lo hi => argTs x ++ (oargTs lo ++ oargTs hi)
  | .idxs _ x i | .idxarr _ _ x i | .idxagg _ _ _ x i | .idxstr x i => argTs x ++ argTs i
  | .append _ _ _ s x | .appendz _ _ _ s x => argTs s ++ argTs x
  | .copy _ d s => argTs d ++ argTs s
  | .mapset _ m k v => argTs m ++ (argTs k ++ argTs v)
  | .mapget _ _ _ m k => argTs m ++ argTs k
  | .minmax _ l => argsTs l
  | .call f l => argTs f ++ argsTs l

def readsO (io : Opr) : List Nat := (match io.guard with | some (d, _) => [d] | none => []) ++ reads io.op

def restrT (T : TM) : List Nat → TM
  | [] => .nil
  | d :: l => setT d (lookT d T) (restrT T l)

theorem look_restrT {T : TM} {d : Nat} : ∀ {l : List Nat}, d ∈ l → lookT d (restrT T l) = lookT d T
  | [], h => by cases h
  | k :: l, h => by
    simp only [restrT, lookT_setT]
    by_cases e : k = d
    · subst e; rw [if_pos rfl]
    · rw [if_neg e]
      rcases List.mem_cons.1 h with h | h
      · exact absurd h.symm e
      · exact look_restrT h

theorem restrT_look {T : TM} {d : Nat} {v : AV} : ∀ {l : List Nat}, lookT d (restrT T l) = some v → d ∈ l ∧ lookT d T = some v
  | [], h => by simp [restrT, lookT_nil] at h
  | k :: l, h => by
    simp only [restrT, lookT_setT] at h
    by_cases e : k = d
    · subst e; rw [if_pos rfl] at h; exact ⟨List.mem_cons_self .., h⟩
    · rw [if_neg e] at h
      obtain ⟨h1, h2⟩ := restrT_look h
      exact ⟨List.mem_cons_of_mem _ h1, h2⟩

section
variable {S : AS} {T : TM}

theorem arg_T {a : Arg} (h : ∀ d ∈ argTs a, lookT d T = S.get d) : (S.withT T).arg a = S.arg a := by
  cases a with
  | c v => rfl
  | t n => exact h n (by simp [argTs])

theorem args_T : ∀ {l : List Arg}, (∀ d ∈ argsTs l, lookT d T = S.get d) → (S.withT T).args l = S.args l
  | [], _ => rfl
  | a :: l, h => by
    rw [AS.args, AS.args, arg_T (a := a) fun d hd => h d (by simp [argsTs, hd]), args_T (l := l) fun d hd => h d (by simp [argsTs, hd])]

theorem oarg_T {o : Option Arg} (h : ∀ d ∈ oargTs o, lookT d T = S.get d) : (S.withT T).oarg o = S.oarg o := by
  cases o with
  | none => rfl
  | some a => simp only [AS.oarg, arg_T h]

theorem parts_T : ∀ {l : List (Nat × Nat × Arg)}, (∀ d ∈ partsTs l, lookT d T = S.get d) → (S.withT T).parts l = S.parts l
  | [], _ => rfl
  | (o, s, a) :: l, h => by
    rw [AS.parts, AS.parts, arg_T (a := a) fun d hd => h d (by simp [partsTs, hd]), parts_T (l := l) fun d hd => h d (by simp [partsTs, hd])]

theorem deref_T (p : AV) : (S.withT T).deref p = S.deref p := by cases p <;> rfl
theorem elems_T (sz : Nat) (p : AV) : (S.withT T).elems sz p = S.elems sz p := by cases p <;> rfl

theorem store_T (p : AV) (vs : List AV) : (S.withT T).store p vs = (S.store p vs).map (·.withT T) := by
  cases p <;> try rfl
  rename_i id st off
  have e : (S.withT T).heap = S.heap := rfl
  simp only [AS.store, e]
  split
  · split <;> rfl
  · rfl

abbrev mapT (T : TM) (x : AV × AS) : AV × AS := (x.1, x.2.withT T)

theorem appendS_T (sz bytes : Nat) (sv : AV) (es : List (List AV)) : appendS (S.withT T) sz bytes sv es = (appendS S sz bytes sv es).map (mapT T) := by
  unfold appendS
  split
  · cases sv <;> rfl
  · split
    · cases sv <;> try rfl
      · dsimp only
        split <;> rfl
      · rename_i id st sz' off len cap
        have e : (S.withT T).heap = S.heap := rfl
        dsimp only
        rw [e]
        split
        · split
          · cases cap with
            | none => rfl
            | some k =>
              dsimp only
              split
              · split <;> rfl
              · rfl
          · rfl
        · rfl
    · rfl

theorem appendZ_T (sz bytes : Nat) (z : List AV) (sv : AV) (n : Int) : appendZ (S.withT T) sz bytes z sv n = (appendZ S sz bytes z sv n).map (mapT T) := by
  unfold appendZ
  cases sv <;> try rfl
  dsimp only
  split <;> rfl

theorem mapset_T (kd : EqK) (m k v : AV) : (S.withT T).mapset kd m k v = (S.mapset kd m k v).map (·.withT T) := by
  cases m <;> try rfl
  have e : (S.withT T).heap = S.heap := rfl
  simp only [AS.mapset, e]
  split
  · split
    · simp only [Option.map_map]; rfl
    · rfl
  · rfl

theorem mapget_T (kd : EqK) (z : AV) (ok : Bool) (m k : AV) : (S.withT T).mapget kd z ok m k = S.mapget kd z ok m k := by cases m <;> rfl

theorem iop_T {op : IOp} (h : ∀ d ∈ reads op, lookT d T = S.get d) : iop (S.withT T) op = (iop S op).map (mapT T) := by
  have sub : ∀ {l : List Nat}, (∀ d ∈ l, d ∈ reads op) → ∀ d ∈ l, lookT d T = S.get d := fun hl d hd => h d (hl d hd)
  cases op <;> simp only [iop]
  case mov a => rw [arg_T h]; cases S.arg a <;> rfl
  case pick c a b =>
    rw [arg_T (sub fun d hd => by simp [reads, hd]), arg_T (sub fun d hd => by simp [reads, hd]), arg_T (sub fun d hd => by simp [reads, hd])]
    split
    · rename_i t _; cases t <;> simp only [if_true, Bool.false_eq_true, if_false]
      · cases S.arg b <;> rfl
      · cases S.arg a <;> rfl
    · rfl
  case alloc z => rfl
  case box a =>
    rw [arg_T h]
    split
    · split <;> rfl
    · rfl
  case build z ps =>
    rw [parts_T h]
    split
    · split <;> rfl
    · rfl
  case bslice a b z ps =>
    rw [parts_T h]
    split
    · split <;> rfl
    · rfl
  case load g a =>
    rw [arg_T h]
    split
    · rw [deref_T]
      split
      · cases g with
        | some n => simp only; split <;> rfl
        | none => simp only; split <;> rfl
      · rfl
    · rfl
  case store n a v =>
    rw [arg_T (sub fun d hd => by simp [reads, hd]), arg_T (sub fun d hd => by simp [reads, hd])]
    split
    · split
      · split
        · rw [store_T]; cases S.store _ _ <;> rfl
        · rfl
      · rfl
    · rfl
  case nilchk a => rw [arg_T h]; split <;> rfl
  case bin op x y =>
    rw [arg_T (sub fun d hd => by simp [reads, hd]), arg_T (sub fun d hd => by simp [reads, hd])]
    split
    · cases binOp op _ _ <;> rfl
    · rfl
  case eqb n x y =>
    rw [arg_T (sub fun d hd => by simp [reads, hd]), arg_T (sub fun d hd => by simp [reads, hd])]
    split <;> rfl
  case eqs n fs x y =>
    rw [arg_T (sub fun d hd => by simp [reads, hd]), arg_T (sub fun d hd => by simp [reads, hd])]
    split
    · split <;> rfl
    · rfl
  case un op a =>
    rw [arg_T h]
    split
    · cases unOp op _ <;> rfl
    · rfl
  case conv k a =>
    rw [arg_T h]
    split
    · cases convA k _ <;> rfl
    · rfl
  case mkfn f a b =>
    rw [args_T (sub fun d hd => by simp [reads, hd]), args_T (sub fun d hd => by simp [reads, hd])]
    split <;> rfl
  case mkslice sz b z l c =>
    rw [arg_T (sub fun d hd => by simp [reads, hd]), arg_T (sub fun d hd => by simp [reads, hd])]
    split
    · split <;> rfl
    · rfl
  case slsl sz x lo hi mx =>
    rw [arg_T (sub fun d hd => by simp [reads, hd]), oarg_T (sub fun d hd => by simp [reads, hd]), oarg_T (sub fun d hd => by simp [reads, hd]), oarg_T (sub fun d hd => by simp [reads, hd])]
    split
    · cases slslc sz _ _ _ _ <;> rfl
    · rfl
  case slarr n sz x lo hi =>
    rw [arg_T (sub fun d hd => by simp [reads, hd]), oarg_T (sub fun d hd => by simp [reads, hd]), oarg_T (sub fun d hd => by simp [reads, hd])]
    split
    · split
      · split <;> rfl
      · rfl
    · rfl
  case slstr x lo hi =>
    rw [arg_T (sub fun d hd => by simp [reads, hd]), oarg_T (sub fun d hd => by simp [reads, hd]), oarg_T (sub fun d hd => by simp [reads, hd])]
    split
    · split
      · split <;> rfl
      · rfl
    · rfl
  case faddr o x =>
    rw [arg_T h]
    split
    · split <;> rfl
    · rfl
    · rfl
  case field o g x =>
    rw [arg_T h]
    split
    · cases g with
      | some n => simp only; split <;> rfl
      | none => simp only [Option.map_map]; rfl
    · rfl
  case idxs sz x i =>
    rw [arg_T (sub fun d hd => by simp [reads, hd]), arg_T (sub fun d hd => by simp [reads, hd])]
    split
    · split
      · split
        · split <;> rfl
        · rfl
      · rfl
    · split <;> rfl
    · rfl
  case idxarr n sz x i =>
    rw [arg_T (sub fun d hd => by simp [reads, hd]), arg_T (sub fun d hd => by simp [reads, hd])]
    split
    · split <;> rfl
    · split <;> rfl
    · rfl
  case idxagg n sz g x i =>
    rw [arg_T (sub fun d hd => by simp [reads, hd]), arg_T (sub fun d hd => by simp [reads, hd])]
    split
    · split
      · split
        · rfl
        · simp only [Option.map_map]; rfl
      · rfl
    · rfl
  case idxstr x i =>
    rw [arg_T (sub fun d hd => by simp [reads, hd]), arg_T (sub fun d hd => by simp [reads, hd])]
    split
    · split
      · split <;> rfl
      · rfl
    · rfl
  case extract x i =>
    rw [arg_T h]
    split
    · simp only [Option.map_map]; rfl
    · rfl
  case len b a =>
    rw [arg_T h]
    split
    · cases lenA b _ <;> rfl
    · rfl
  case lenc n => rfl
  case append sz b z s x =>
    rw [arg_T (sub fun d hd => by simp [reads, hd]), arg_T (sub fun d hd => by simp [reads, hd])]
    split
    · rw [elems_T]
      split
      · exact appendS_T ..
      · rfl
    · rfl
  case appendz sz b z s x =>
    rw [arg_T (sub fun d hd => by simp [reads, hd]), arg_T (sub fun d hd => by simp [reads, hd])]
    split
    · exact appendZ_T ..
    · rfl
  case mkmap => rfl
  case mapset kd m k v =>
    rw [arg_T (sub fun d hd => by simp [reads, hd]), arg_T (sub fun d hd => by simp [reads, hd]), arg_T (sub fun d hd => by simp [reads, hd])]
    split
    · rw [mapset_T]; cases S.mapset kd _ _ _ <;> rfl
    · rfl
  case mapget kd z ok m k =>
    rw [arg_T (sub fun d hd => by simp [reads, hd]), arg_T (sub fun d hd => by simp [reads, hd])]
    split
    · rw [mapget_T]; cases S.mapget kd z ok _ _ <;> rfl
    · rfl
  case capo a =>
    rw [arg_T h]
    split
    · split <;> rfl
    · rfl
  case copy sz d s =>
    rw [arg_T (sub fun d hd => by simp [reads, hd]), arg_T (sub fun d hd => by simp [reads, hd])]
    split
    · rw [elems_T]
      have e : (S.withT T).heap = S.heap := rfl
      rw [e]
      split
      · split <;> rfl
      · rfl
    · rfl
  case minmax mx l =>
    rw [args_T h]
    split
    · simp only [Option.map_map]; rfl
    · rfl
  case call f l => rfl
  case bad => rfl

theorem view_T : ∀ (d : Nat) (v : AV), (S.withT T).view d v = S.view d v
  | 0, v => rfl
  | d + 1, v => by
    have ih : (S.withT T).view d = S.view d := funext fun v => view_T d v
    cases v <;> simp only [AS.view, ih, elems_T, deref_T]

end

section
variable {P : Program} {w0 w : World} {N0 : Nat} {S S' S1 : AS} {T : TM} {rd : Option (Nat × Nat)} {E : Env} {R : Rec} {io : Opr} {v : AV} {H : HS}

theorem pureOf_T (fv : AV) (vs : List AV) : pureOf E R (S.withT T) fv vs = pureOf E R S fv vs := by
  have : (S.withT T).view VD = S.view VD := funext fun v => view_T VD v
  simp only [pureOf, this]

theorem wanted_T (h : ∀ d ∈ readsO io, lookT d T = S.get d) : wantedA (S.withT T) io = wantedA S io := by
  unfold wantedA
  split
  · rfl
  · rename_i d b hg
    have : (S.withT T).get d = S.get d := h d (by simp [readsO, hg])
    rw [this]

theorem quiet1_T (h : ∀ d ∈ readsO io, lookT d T = S.get d) : quiet1 E R (S.withT T) io = quiet1 E R S io := by
  have h2 : ∀ d ∈ reads io.op, lookT d T = S.get d := fun d hd => h d (List.mem_append_right _ hd)
  unfold quiet1
  split
  · rename_i fa args hop
    rw [hop] at h2
    rw [arg_T fun d hd => h2 d (by simp [reads, hd]), args_T fun d hd => h2 d (by simp [reads, hd])]
    simp only [pureOf_T]
  · split
    · rfl
    · rw [iop_T h2]; cases iop S io.op <;> rfl

theorem loud1_T (h : ∀ d ∈ readsO io, lookT d T = S.get d) : loud1 P R (S.withT T) io = loud1 P R S io := by
  have h2 : ∀ d ∈ reads io.op, lookT d T = S.get d := fun d hd => h d (List.mem_append_right _ hd)
  unfold loud1
  split
  · rename_i fa args hop
    rw [hop] at h2
    rw [arg_T fun d hd => h2 d (by simp [reads, hd]), args_T fun d hd => h2 d (by simp [reads, hd])]
    rfl
  · rw [iop_T h2]
    cases iop S io.op with
    | none => rfl
    | some r => rfl

theorem step1_T (h : ∀ d ∈ readsO io, lookT d T = S.get d) : step1 P E R (S.withT T) io = step1 P E R S io := by
  unfold step1
  rw [quiet1_T h, loud1_T h]
  rfl

end
end Go.Am
