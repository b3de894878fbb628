/-
  AN ABSTRACT MACHINE FOR PROOFS, PART 5. A general base for proofs: no program is named here.
-/
import Derived.Test.YtfbeableaihooaaVA4
namespace Go.Am
open Go Go.RowKit
def AS.withT (S : AS) (T : TM) : AS := { S with tmps := T }
def zck : Arg → List Nat
 | .t n => [n]
 | .c _ => []
def zhk : List Arg → List Nat
 | [] => []
 | a :: l => zck a ++ zhk l
def zkl : Option Arg → List Nat
 | none => []
 | some a => zck a
def zjl : List (Nat × Nat × Arg) → List Nat
 | [] => []
 | x :: l => zck x.2.2 ++ zjl l
def zbc : IOp → List Nat
 | .mov a | .box a | .load _ a | .nilchk a | .un _ a | .conv _ a | .faddr _ a | .field _ _ a | .extract a _ | .len _ a | .capo a | .nilq _ a => zck a
 | .pick c a b => zck c ++ (zck a ++ zck b)
 | .alloc _ | .lenc _ | .mkmap | .bad => []
 | .build _ ps | .bslice _ _ _ ps => zjl ps
 | .store _ a v => zck a ++ zck v
 | .bin _ x y | .eqb _ x y | .eqs _ _ x y => zck x ++ zck y
 | .mkfn _ a b => zhk a ++ zhk b
 | .mkslice _ _ _ l c => zck l ++ zck c
 | .slsl _ x lo hi mx => zck x ++ (zkl lo ++ (zkl hi ++ zkl mx))
 | .slarr _ _ x lo hi | .slstr x lo hi => zck x ++ (zkl lo ++ zkl hi)
 | .idxs _ x i | .idxarr _ _ x i | .idxagg _ _ _ x i | .idxstr x i => zck x ++ zck i
 | .append _ _ _ s x | .appendz _ _ _ s x => zck s ++ zck x
 | .copy _ d s => zck d ++ zck s
 | .clear _ _ x => zck x
 | .mapset _ m k v => zck m ++ (zck k ++ zck v)
 | .mapget _ _ _ m k => zck m ++ zck k
 | .minmax _ l => zhk l
 | .call f l => zck f ++ zhk l
def zch (io : Opr) : List Nat := (match io.guard with | some (d, _) => [d] | none => []) ++ zbc io.op
def zd0 (T : TM) : List Nat → TM
 | [] => .nil
 | d :: l => setT d (zan d T) (zd0 T l)
theorem zf0 {T : TM} {d : Nat} : ∀ {l : List Nat}, d ∈ l → zan d (zd0 T l) = zan d T
 | [], h => by cases h
 | k :: l, h => by
  simp only [zd0, zem]
  by_cases e : k = d
  ·subst e; rw [if_pos rfl]
  ·rw [if_neg e]
   rcases y0j.1 h with h | h
   ·exact absurd h.symm e
   ·exact zf0 h
theorem zg9 {T : TM} {d : Nat} {v : AV} : ∀ {l : List Nat}, zan d (zd0 T l) = some v → d ∈ l ∧ zan d T = some v
 | [], h => by simp [zd0, zdh] at h
 | k :: l, h => by
  simp only [zd0, zem] at h
  by_cases e : k = d
  ·subst e; rw [if_pos rfl] at h; exact ⟨y05 .., h⟩
  ·rw [if_neg e] at h
   obtain ⟨h1, h2⟩ := zg9 h
   exact ⟨y04 _ h1, h2⟩
section
variable {S : AS} {T : TM}
theorem zbh {a : Arg} (h : ∀ d ∈ zck a, zan d T = S.get d) : (S.withT T).arg a = S.arg a := by
 cases a with
 | c v => rfl
 | t n => exact h n (by simp [zck])
theorem zik : ∀ {l : List Arg}, (∀ d ∈ zhk l, zan d T = S.get d) → (S.withT T).args l = S.args l
 | [], _ => rfl
 | a :: l, h => by
  rw [AS.args, AS.args, zbh (a := a) fun d hd => h d (by simp [zhk, hd]), zik (l := l) fun d hd => h d (by simp [zhk, hd])]
theorem zjj {o : Option Arg} (h : ∀ d ∈ zkl o, zan d T = S.get d) : (S.withT T).oarg o = S.oarg o := by
 cases o with
 | none => rfl
 | some a => simp only [AS.oarg, zbh h]
theorem zpc : ∀ {l : List (Nat × Nat × Arg)}, (∀ d ∈ zjl l, zan d T = S.get d) → (S.withT T).parts l = S.parts l
 | [], _ => rfl
 | (o, s, a) :: l, h => by
  rw [AS.parts, AS.parts, zbh (a := a) fun d hd => h d (by simp [zjl, hd]), zpc (l := l) fun d hd => h d (by simp [zjl, hd])]
theorem zu8 (p : AV) : (S.withT T).deref p = S.deref p := by cases p <;> rfl
theorem zok (sz : Nat) (p : AV) : (S.withT T).elems sz p = S.elems sz p := by cases p <;> rfl
theorem store_T (p : AV) (vs : List AV) : (S.withT T).store p vs = (S.store p vs).map (·.withT T) := by
 cases p <;> try rfl
 rename_i id st off
 have e : (S.withT T).heap = S.heap := rfl
 simp only [AS.store, e]
 split
 ·split <;> rfl
 ·rfl
abbrev mapT (T : TM) (x : AV × AS) : AV × AS := (x.1, x.2.withT T)
theorem zta (sz bytes : Nat) (sv : AV) (es : List (List AV)) : zbi (S.withT T) sz bytes sv es = (zbi S sz bytes sv es).map (mapT T) := by
 unfold zbi
 split
 ·cases sv <;> rfl
 ·split
  ·cases sv <;> try rfl
   ·dsimp only
    split <;> rfl
   ·rename_i id st sz' off len cap
    have e : (S.withT T).heap = S.heap := rfl
    dsimp only
    rw [e]
    split
    ·split
     ·cases cap with
      | none => rfl
      | some k =>
       dsimp only
       split
       ·split <;> rfl
       ·rfl
     ·rfl
    ·rfl
  ·rfl
theorem ztb (sz bytes : Nat) (z : List AV) (sv : AV) (n : Int) : zet (S.withT T) sz bytes z sv n = (zet S sz bytes z sv n).map (mapT T) := by
 unfold zet
 cases sv <;> try rfl
 dsimp only
 split <;> rfl
theorem mapset_T (kd : EqK) (m k v : AV) : (S.withT T).mapset kd m k v = (S.mapset kd m k v).map (·.withT T) := by
 cases m <;> try rfl
 have e : (S.withT T).heap = S.heap := rfl
 simp only [AS.mapset, e]
 split
 ·split
  ·simp only [y2r]; rfl
  ·rfl
 ·rfl
theorem mapget_T (kd : EqK) (z : AV) (ok : Bool) (m k : AV) : (S.withT T).mapget kd z ok m k = S.mapget kd z ok m k := by cases m <;> rfl
theorem iop_T {op : IOp} (h : ∀ d ∈ zbc op, zan d T = S.get d) : iop (S.withT T) op = (iop S op).map (mapT T) := by
 have sub : ∀ {l : List Nat}, (∀ d ∈ l, d ∈ zbc op) → ∀ d ∈ l, zan d T = S.get d := fun hl d hd => h d (hl d hd)
 cases op <;> simp only [iop]
 case mov a => rw [zbh h]; cases S.arg a <;> rfl
 case pick c a b =>
  rw [zbh (sub fun d hd => by simp [zbc, hd]), zbh (sub fun d hd => by simp [zbc, hd]), zbh (sub fun d hd => by simp [zbc, hd])]
  split
  ·rename_i t _; cases t <;> simp only [if_true, y0u, if_false]
   ·cases S.arg b <;> rfl
   ·cases S.arg a <;> rfl
  ·rfl
 case alloc z => rfl
 case box a =>
  rw [zbh h]
  split
  ·split <;> rfl
  ·rfl
 case build z ps =>
  rw [zpc h]
  split
  ·split <;> rfl
  ·rfl
 case bslice a b z ps =>
  rw [zpc h]
  split
  ·split <;> rfl
  ·rfl
 case load g a =>
  rw [zbh h]
  split
  ·rw [zu8]
   split
   ·cases g with
    | some n => simp only; split <;> rfl
    | none => simp only; split <;> rfl
   ·rfl
  ·rfl
 case store n a v =>
  rw [zbh (sub fun d hd => by simp [zbc, hd]), zbh (sub fun d hd => by simp [zbc, hd])]
  split
  ·split
   ·split
    ·rw [store_T]; cases S.store _ _ <;> rfl
    ·rfl
   ·rfl
  ·rfl
 case nilchk a => rw [zbh h]; split <;> rfl
 case bin op x y =>
  rw [zbh (sub fun d hd => by simp [zbc, hd]), zbh (sub fun d hd => by simp [zbc, hd])]
  split
  ·cases binOp op _ _ <;> rfl
  ·rfl
 case eqb n x y =>
  rw [zbh (sub fun d hd => by simp [zbc, hd]), zbh (sub fun d hd => by simp [zbc, hd])]
  split <;> rfl
 case eqs n fs x y =>
  rw [zbh (sub fun d hd => by simp [zbc, hd]), zbh (sub fun d hd => by simp [zbc, hd])]
  split
  ·split <;> rfl
  ·rfl
 case un op a =>
  rw [zbh h]
  split
  ·cases unOp op _ <;> rfl
  ·rfl
 case conv k a =>
  rw [zbh h]
  split
  ·cases zoi k _ <;> rfl
  ·rfl
 case mkfn f a b =>
  rw [zik (sub fun d hd => by simp [zbc, hd]), zik (sub fun d hd => by simp [zbc, hd])]
  split <;> rfl
 case mkslice sz b z l c =>
  rw [zbh (sub fun d hd => by simp [zbc, hd]), zbh (sub fun d hd => by simp [zbc, hd])]
  split
  ·split <;> rfl
  ·rfl
 case slsl sz x lo hi mx =>
  rw [zbh (sub fun d hd => by simp [zbc, hd]), zjj (sub fun d hd => by simp [zbc, hd]), zjj (sub fun d hd => by simp [zbc, hd]), zjj (sub fun d hd => by simp [zbc, hd])]
  split
  ·cases zsk sz _ _ _ _ <;> rfl
  ·rfl
 case slarr n sz x lo hi =>
  rw [zbh (sub fun d hd => by simp [zbc, hd]), zjj (sub fun d hd => by simp [zbc, hd]), zjj (sub fun d hd => by simp [zbc, hd])]
  split
  ·split
   ·split <;> rfl
   ·rfl
  ·rfl
 case slstr x lo hi =>
  rw [zbh (sub fun d hd => by simp [zbc, hd]), zjj (sub fun d hd => by simp [zbc, hd]), zjj (sub fun d hd => by simp [zbc, hd])]
  split
  ·split
   ·split <;> rfl
   ·rfl
  ·rfl
 case faddr o x =>
  rw [zbh h]
  split
  ·split <;> rfl
  ·rfl
  ·rfl
 case field o g x =>
  rw [zbh h]
  split
  ·cases g with
   | some n => simp only; split <;> rfl
   | none => simp only [y2r]; rfl
  ·rfl
 case idxs sz x i =>
  rw [zbh (sub fun d hd => by simp [zbc, hd]), zbh (sub fun d hd => by simp [zbc, hd])]
  split
  ·split
   ·split
    ·split <;> rfl
    ·rfl
   ·rfl
  ·split <;> rfl
  ·rfl
 case idxarr n sz x i =>
  rw [zbh (sub fun d hd => by simp [zbc, hd]), zbh (sub fun d hd => by simp [zbc, hd])]
  split
  ·split <;> rfl
  ·split <;> rfl
  ·rfl
 case idxagg n sz g x i =>
  rw [zbh (sub fun d hd => by simp [zbc, hd]), zbh (sub fun d hd => by simp [zbc, hd])]
  split
  ·split
   ·split
    ·rfl
    ·simp only [y2r]; rfl
   ·rfl
  ·rfl
 case idxstr x i =>
  rw [zbh (sub fun d hd => by simp [zbc, hd]), zbh (sub fun d hd => by simp [zbc, hd])]
  split
  ·split
   ·split <;> rfl
   ·rfl
  ·rfl
 case extract x i =>
  rw [zbh h]
  split
  ·simp only [y2r]; rfl
  ·rfl
 case len b a =>
  rw [zbh h]
  split
  ·cases lenA b _ <;> rfl
  ·rfl
 case lenc n => rfl
 case append sz b z s x =>
  rw [zbh (sub fun d hd => by simp [zbc, hd]), zbh (sub fun d hd => by simp [zbc, hd])]
  split
  ·rw [zok]
   split
   ·exact zta ..
   ·rfl
  ·rfl
 case appendz sz b z s x =>
  rw [zbh (sub fun d hd => by simp [zbc, hd]), zbh (sub fun d hd => by simp [zbc, hd])]
  split
  ·exact ztb ..
  ·rfl
 case mkmap => rfl
 case mapset kd m k v =>
  rw [zbh (sub fun d hd => by simp [zbc, hd]), zbh (sub fun d hd => by simp [zbc, hd]), zbh (sub fun d hd => by simp [zbc, hd])]
  split
  ·rw [mapset_T]; cases S.mapset kd _ _ _ <;> rfl
  ·rfl
 case mapget kd z ok m k =>
  rw [zbh (sub fun d hd => by simp [zbc, hd]), zbh (sub fun d hd => by simp [zbc, hd])]
  split
  ·rw [mapget_T]; cases S.mapget kd z ok _ _ <;> rfl
  ·rfl
 case capo a =>
  rw [zbh h]
  split
  ·split <;> rfl
  ·rfl
 case nilq n a =>
  rw [zbh h]
  split <;> rfl
 case clear sz z x =>
  rw [zbh h]
  split
  ·have e : (S.withT T).heap = S.heap := rfl
   rw [e]
   split
   ·split <;> rfl
   ·rfl
  ·rfl
 case copy sz d s =>
  rw [zbh (sub fun d hd => by simp [zbc, hd]), zbh (sub fun d hd => by simp [zbc, hd])]
  split
  ·rw [zok]
   have e : (S.withT T).heap = S.heap := rfl
   rw [e]
   split
   ·split <;> rfl
   ·rfl
  ·rfl
 case minmax mx l =>
  rw [zik h]
  split
  ·simp only [y2r]; rfl
  ·rfl
 case call f l => rfl
 case bad => rfl
theorem view_T : ∀ (d : Nat) (v : AV), (S.withT T).view d v = S.view d v
 | 0, v => rfl
 | d + 1, v => by
  have ih : (S.withT T).view d = S.view d := funext fun v => view_T d v
  cases v <;> simp only [AS.view, ih, zok, zu8]
end
section
variable {P : Program} {w0 w : World} {N0 : Nat} {S S' S1 : AS} {T : TM} {rd : Option (Nat × Nat)} {E : Env} {R : Rec} {io : Opr} {v : AV} {H : HS}
theorem zqr (fv : AV) (vs : List AV) : zdm E R (S.withT T) fv vs = zdm E R S fv vs := by
 have : (S.withT T).view VD = S.view VD := funext fun v => view_T VD v
 simp only [zdm, this]
theorem zrj (h : ∀ d ∈ zch io, zan d T = S.get d) : zah (S.withT T) io = zah S io := by
 unfold zah
 split
 ·rfl
 ·rename_i d b hg
  have : (S.withT T).get d = S.get d := h d (by simp [zch, hg])
  rw [this]
theorem zm1 (h : ∀ d ∈ zch io, zan d T = S.get d) : zb8 E R (S.withT T) io = zb8 E R S io := by
 have h2 : ∀ d ∈ zbc io.op, zan d T = S.get d := fun d hd => h d (y1m _ hd)
 unfold zb8
 split
 ·rename_i fa args hop
  rw [hop] at h2
  rw [zbh fun d hd => h2 d (by simp [zbc, hd]), zik fun d hd => h2 d (by simp [zbc, hd])]
  simp only [zqr]
 ·split
  ·rfl
  ·rw [iop_T h2]; cases iop S io.op <;> rfl
theorem loud1_T (h : ∀ d ∈ zch io, zan d T = S.get d) : zg4 P R (S.withT T) io = zg4 P R S io := by
 have h2 : ∀ d ∈ zbc io.op, zan d T = S.get d := fun d hd => h d (y1m _ hd)
 unfold zg4
 split
 ·rename_i fa args hop
  rw [hop] at h2
  rw [zbh fun d hd => h2 d (by simp [zbc, hd]), zik fun d hd => h2 d (by simp [zbc, hd])]
  rfl
 ·rw [iop_T h2]
  cases iop S io.op with
  | none => rfl
  | some r => rfl
theorem zx4 (h : ∀ d ∈ zch io, zan d T = S.get d) : zdw P E R (S.withT T) io = zdw P E R S io := by
 unfold zdw
 rw [zm1 h, loud1_T h]
 rfl
end
section
variable {P : Program} {w0 w : World} {N0 : Nat} {S S' S1 : AS} {T : TM} {rd : Option (Nat × Nat)} {E : Env} {R : Rec} {io : Opr} {op : IOp} {v : AV} {H : HS}
theorem zml (a : Arg) : (S.withH H).arg a = S.arg a := by cases a <;> rfl
theorem ztd : ∀ l : List Arg, (S.withH H).args l = S.args l
 | [] => rfl
 | a :: l => by rw [AS.args, AS.args, zml, ztd l]
theorem oarg_H (a : Option Arg) : (S.withH H).oarg a = S.oarg a := by cases a <;> simp [AS.oarg, zml]
theorem zw6 : ∀ l : List (Nat × Nat × Arg), (S.withH H).parts l = S.parts l
 | [] => rfl
 | (o, s, a) :: l => by rw [AS.parts, AS.parts, zml, zw6 l]
def zki : HS := ⟨[], 0, 0⟩
abbrev mapH (S : AS) (H : HS) (x : AV × AS) : AV × AS := (x.1, S.withH H)
theorem iop_H (hl : zbu op = false) (hn : ∀ g a, op ≠ .load g a) (hn2 : ∀ kd z ok m k, op ≠ .mapget kd z ok m k) : iop (S.withH H) op = (iop (S.withH zki) op).map (mapH S H) := by
 cases op <;> simp only [zbu, Bool.true_eq_false] at hl <;> simp only [iop, zml, ztd, oarg_H, zw6]
 case load g a => exact absurd rfl (hn g a)
 case mapget kd z ok m k => exact absurd rfl (hn2 kd z ok m k)
 case mov a => cases S.arg a <;> rfl
 case pick c a b =>
  split
  ·rename_i t _; cases t <;> simp only [if_true, y0u, if_false]
   ·cases S.arg b <;> rfl
   ·cases S.arg a <;> rfl
  ·rfl
 case build z ps =>
  split
  ·split <;> rfl
  ·rfl
 case nilchk a => split <;> rfl
 case bin op x y =>
  split
  ·cases binOp op _ _ <;> rfl
  ·rfl
 case eqb n x y => split <;> rfl
 case eqs n fs x y =>
  split
  ·split <;> rfl
  ·rfl
 case un op a =>
  split
  ·cases unOp op _ <;> rfl
  ·rfl
 case conv k a =>
  split
  ·cases zoi k _ <;> rfl
  ·rfl
 case mkfn f a b => split <;> rfl
 case slsl sz x lo hi mx =>
  split
  ·cases zsk sz _ _ _ _ <;> rfl
  ·rfl
 case slarr n sz x lo hi =>
  split
  ·split
   ·split <;> rfl
   ·rfl
  ·rfl
 case slstr x lo hi =>
  split
  ·split
   ·split <;> rfl
   ·rfl
  ·rfl
 case faddr o x =>
  split
  ·split <;> rfl
  ·rfl
  ·rfl
 case field o g x =>
  split
  ·cases g with
   | some n => simp only; split <;> rfl
   | none => simp only [y2r]; rfl
  ·rfl
 case idxs sz x i =>
  split
  ·split
   ·split
    ·split <;> rfl
    ·rfl
   ·rfl
  ·split <;> rfl
  ·rfl
 case idxarr n sz x i =>
  split
  ·split <;> rfl
  ·split <;> rfl
  ·rfl
 case idxagg n sz g x i =>
  split
  ·split
   ·split
    ·rfl
    ·simp only [y2r]; rfl
   ·rfl
  ·rfl
 case idxstr x i =>
  split
  ·split
   ·split <;> rfl
   ·rfl
  ·rfl
 case extract x i =>
  split
  ·simp only [y2r]; rfl
  ·rfl
 case len b a =>
  split
  ·cases lenA b _ <;> rfl
  ·rfl
 case lenc n => rfl
 case capo a =>
  split
  ·split <;> rfl
  ·rfl
 case nilq n a =>
  split <;> rfl
 case minmax mx l =>
  split
  ·simp only [y2r]; rfl
  ·rfl
 case bad => rfl
theorem zs4 {g : Option Nat} {a : Arg} (h : iop (S.withH zki) (.load g a) = some (v, S1)) : iop (S.withH H) (.load g a) = some (v, S.withH H) := by
 simp only [iop, zml] at h ⊢
 cases hp : S.arg a with
 | none => rw [hp] at h; cases h
 | some p =>
  rw [hp] at h
  cases p <;> try (simp only [AS.deref, reduceCtorEq] at h)
  case vptr cs =>
   simp only [AS.deref]
   cases g with
   | some n =>
    simp only at h ⊢
    split at h
    ·rename_i hc; simp only [y00, y09] at h; rw [if_pos hc]; simp only [h.1]
    ·cases h
   | none =>
    simp only at h ⊢
    split at h
    ·simp only [y00, y09] at h; simp only [h.1]
    ·cases h
  case mptr id st off => exact absurd h (by rw [show (S.withH zki).heap = [] from rfl]; simp [zdd])
theorem iop_E (hl : zbu op = false) (h : iop (S.withH zki) op = some (v, S1)) (H : HS) : ∃ S2, iop (S.withH H) op = some (v, S2) := by
 by_cases hn : ∃ g a, op = .load g a
 ·obtain ⟨g, a, rfl⟩ := hn
  exact ⟨_, zs4 h⟩
 ·by_cases hn2 : ∃ kd z ok m k, op = .mapget kd z ok m k
  ·obtain ⟨kd, z, ok, m, k, rfl⟩ := hn2
   exfalso
   simp only [iop, zml] at h
   split at h <;> try cases h
   rename_i mv kv _ _
   have : (S.withH zki).mapget kd z ok mv kv = none := by cases mv <;> rfl
   rw [this] at h; cases h
  ·rw [iop_H hl (fun g a e => hn ⟨g, a, e⟩) (fun kd z ok m k e => hn2 ⟨kd, z, ok, m, k, e⟩), h]
   exact ⟨_, rfl⟩
theorem zma {S S' : AS} {d : Nat} (ih : ∀ v, hasM v = false → S.view d v = S'.view d v) : ∀ l : List AV, hasM.hasML l = false → l.map (S.view d) = l.map (S'.view d)
 | [], _ => rfl
 | v :: l, h => by
  simp only [hasM.hasML, y1f] at h
  simp only [y1p, ih v h.1, zma ih l h.2]
theorem zrg {S S' : AS} : ∀ (d : Nat) (v : AV), hasM v = false → S.view d v = S'.view d v
 | 0, v, _ => rfl
 | d + 1, v, h => by
  have ih := zma (S := S) (S' := S') (d := d) (fun v => zrg d v)
  cases v <;> simp only [hasM, Bool.true_eq_false, y1f] at h <;> simp only [AS.view]
  ·rename_i f a b; rw [ih a h.1, ih b h.2]
  ·rename_i cs; rw [ih cs h]
  ·rename_i cs; rw [ih cs h]
def zfx (E : Env) (R : Rec) (S : AS) (io : Opr) : Option AV :=
 match io.op with
 | .call fa args => match S.arg fa, S.args args with
  | some (.fn fid first cap), some vs => if hasM.hasML (first ++ vs ++ cap) = true then none else zdm E R (S.withH zki) (.fn fid first cap) vs
  | _, _ => none
 | op => if zbu op then none else (iop (S.withH zki) op).map (·.1)
theorem pureOf_H {fid : FuncId} {first cap vs : List AV} (h : hasM.hasML (first ++ vs ++ cap) = false) : zdm E R S (.fn fid first cap) vs = zdm E R S' (.fn fid first cap) vs := by
 have : (first ++ vs ++ cap).map (S.view VD) = (first ++ vs ++ cap).map (S'.view VD) := zma (fun v => zrg VD v) _ h
 simp only [zdm, this]
theorem zjs (h : zfx E R S io = some v) (H : HS) : zb8 E R (S.withH H) io = some v := by
 unfold zfx at h
 unfold zb8
 split at h
 ·rename_i fa args hop
  simp only [hop, zml, ztd]
  split at h
  ·rename_i fid first cap vs hf ha
   split at h
   ·cases h
   ·rename_i hm
    simp only [hf, ha]
    rw [← h]
    exact pureOf_H (by simpa using hm)
  ·cases h
 ·rename_i hop
  split at h
  ·cases h
  ·rename_i hl
   simp only [y01, Prod.exists, exists_and_right, exists_eq_right] at h
   obtain ⟨S1, h⟩ := h
   obtain ⟨S2, h2⟩ := iop_E (by simpa using hl) h H
   split
   ·rename_i hop2; exact absurd hop2 (hop _ _)
   ·rw [if_neg hl, h2]; rfl
theorem zx6 (h : ∀ d ∈ zch io, zan d T = S.get d) : zfx E R (S.withT T) io = zfx E R S io := by
 have h2 : ∀ d ∈ zbc io.op, zan d T = S.get d := fun d hd => h d (y1m _ hd)
 unfold zfx
 split
 ·rename_i fa args hop
  rw [hop] at h2
  rw [zbh fun d hd => h2 d (by simp [zbc, hd]), zik fun d hd => h2 d (by simp [zbc, hd])]
  split
  ·have : ((S.withT T).withH zki) = ((S.withH zki).withT T) := rfl
   rw [this, zqr]
  ·rfl
 ·split
  ·rfl
  ·have : ((S.withT T).withH zki) = ((S.withH zki).withT T) := rfl
   rw [this, iop_T (S := S.withH zki) h2]; cases iop (S.withH zki) io.op <;> rfl
end
def zat (m i : Nat) : Bool := Nat.beq (Nat.land (Nat.shiftRight m i) 1) 1
theorem zgh (m i : Nat) : zat m i = m.testBit i := by
 have h : Nat.land (Nat.shiftRight m i) 1 = (m >>> i) % 2 := Nat.and_one_is_mod _
 unfold zat
 rw [h, Nat.testBit_eq_decide_div_mod_eq, Nat.shiftRight_eq_div_pow]
 rw [y2u, decide_eq_true_iff]
 exact ⟨y0n, fun e => by rw [e]; rfl⟩
def bitM (d : Nat) : Nat := Nat.shiftLeft 1 d
theorem zpy (a b i : Nat) : zat (Nat.lor a b) i = (zat a i || zat b i) := by
 rw [zgh, zgh, zgh]; exact Nat.testBit_or a b i
theorem bit_M (d i : Nat) : zat (bitM d) i = decide (d = i) := by
 rw [zgh]
 show (1 <<< d).testBit i = _
 rw [Nat.one_shiftLeft, Nat.testBit_two_pow]
theorem bit_0 (i : Nat) : zat 0 i = false := by rw [zgh]; exact Nat.zero_testBit i
def dM : Option Nat → Nat
 | some d => bitM d
 | none => 0
theorem zk2 (o : Option Nat) (i : Nat) : zat (dM o) i = true ↔ o = some i := by
 cases o with
 | none => simp [dM, bit_0]
 | some d => simp [dM, bit_M]
structure OI where
 idx : Nat
 io : Opr
 a : Nat
 k : Nat
def nth {α : Type} : List α → Nat → Option α
 | [], _ => none
 | x :: l, n => match n with
  | 0 => some x
  | m + 1 => nth l m
theorem nth_eq {α : Type} : ∀ (l : List α) (n : Nat), nth l n = l[n]?
 | [], _ => rfl
 | x :: l, 0 => rfl
 | x :: l, n + 1 => by rw [nth]; simpa using nth_eq l n
def zt6 (acc : List OI) (len : Nat) : List Nat → Nat → Nat → Option (Nat × Nat)
 | [], a, k => some (a, k)
 | p :: ps, a, k => match Nat.ble (p + 1) len with
  | true => match nth acc (len - 1 - p) with
   | some s => zt6 acc len ps (Nat.lor a (Nat.lor s.a (bitM p))) (Nat.lor k (Nat.lor s.k (dM s.io.dst)))
   | none => none
  | false => none
def znn : List Opr → List (List Nat) → List OI → Nat → Option (List OI)
 | [], [], acc, _ => some acc.reverse
 | io :: ios, ps :: pres, acc, len => match zt6 acc len ps 0 0 with
  | some (a, k) => znn ios pres (⟨len, io, a, k⟩ :: acc) (len + 1)
  | none => none
 | _, _, _, _ => none
def zpe (E : Env) (op : IOp) : Bool :=
 match op with
 | .call (.c (.fn f _ _)) _ => E.known f
 | .call _ _ => false
 | op => !zbu op
def ndM : List OI → Nat → Bool
 | [], _ => true
 | x :: l, m => match x.io.dst with
  | some d => match zat m d with
   | true => false
   | false => ndM l (Nat.lor m (bitM d))
  | none => ndM l m
def wAll : List OI → Nat
 | [] => 0
 | x :: l => Nat.lor (dM x.io.dst) (wAll l)
def zwf (rs : List OI) (W : Nat) (x : OI) : Bool := (zch x.io).all fun d => !zat W d || zat x.k d || rs.all fun y => !zat (dM y.io.dst) d || zat y.a x.idx
def zdg (E : Env) : List OI → List OI
 | [] => []
 | x :: l => match zpe E x.io.op with
  | true => zdg E l
  | false => x :: zdg E l
def zj6 : IOp → Bool
 | .alloc _ | .box _ | .bslice .. => true
 | _ => false
def zhn : IOp → Bool
 | .load _ (.t _) => true
 | _ => false
def zfc (x y : OI) : Bool := zat x.a y.idx || zat y.a x.idx || (zhn x.io.op && zj6 y.io.op)
def flagOf (E : Env) (lds : List OI) (x : OI) : Bool × Bool := (zpe E x.io.op, !(lds.all fun y => zfc x y))
def zm6 (E : Env) (ios : List Opr) (pres : List (List Nat)) (size : Nat) : Option (List (Bool × Bool)) :=
 match znn ios pres [] 0 with
 | some rs =>
  if ndM rs 0 && rs.all (zwf rs (wAll rs)) && (zdg E rs).all (fun x => (zdg E rs).all fun y => Nat.ble x.idx y.idx || zat x.a y.idx) && ios.all (fun io => zbx size io.dst) then some (rs.map (flagOf E (zdg E rs))) else none
 | none => none
def zd6 (P : Program) (E : Env) (R : Rec) : List Opr → List (Bool × Bool) → AS → Option AS
 | [], [], S => some S
 | io :: ios, (q, ind) :: fl, S => match zah S io with
  | some true =>
   if q then match (if ind then zfx E R S io else zb8 E R S io) with
    | some v => zd6 P E R ios fl (S.put io.dst v)
    | none => none
   else match zdw P E R S io with
    | some (v, H) => zd6 P E R ios fl ((S.withH H).put io.dst v)
    | none => none
  | some false => zd6 P E R ios fl (S.put io.dst (.tup []))
  | none => none
 | _, _, _ => none
structure PassOk (ios : List Opr) (pres : List (List Nat)) (rs : List OI) : Prop where
 len : rs.length = ios.length
 len2 : pres.length = ios.length
 at_ : ∀ (i : Nat) (r : OI), rs[i]? = some r → r.idx = i ∧ ios[i]? = some r.io
 acyc : ∀ (i : Nat) (ps : List Nat), pres[i]? = some ps → ∀ p ∈ ps, p < i
 up : ∀ (i : Nat) (ps : List Nat) (r : OI), pres[i]? = some ps → rs[i]? = some r → ∀ q, zat r.a q = true → ∃ p ∈ ps, q = p ∨ ∃ s, rs[p]? = some s ∧ zat s.a q = true
 down : ∀ (i : Nat) (ps : List Nat) (r : OI), pres[i]? = some ps → rs[i]? = some r → ∀ p ∈ ps, zat r.a p = true ∧ ∃ s, rs[p]? = some s ∧ ∀ q, zat s.a q = true → zat r.a q = true
 wr : ∀ (i : Nat) (ps : List Nat) (r : OI), pres[i]? = some ps → rs[i]? = some r → ∀ d, zat r.k d = true → ∃ p ∈ ps, ∃ s, rs[p]? = some s ∧ (s.io.dst = some d ∨ zat s.k d = true)
theorem zpt {acc : List OI} {len : Nat} (hacc : acc.length = len) : ∀ {ps : List Nat} {a k a' k' : Nat}, zt6 acc len ps a k = some (a', k') →
  (∀ p ∈ ps, p < len) ∧ (∀ q, zat a' q = true ↔ zat a q = true ∨ ∃ p ∈ ps, q = p ∨ ∃ s, acc.reverse[p]? = some s ∧ zat s.a q = true) ∧
  (∀ p ∈ ps, ∃ s, acc.reverse[p]? = some s) ∧
  (∀ d, zat k' d = true → zat k d = true ∨ ∃ p ∈ ps, ∃ s, acc.reverse[p]? = some s ∧ (s.io.dst = some d ∨ zat s.k d = true))
 | [], a, k, a', k', h => by
  simp only [zt6, y00, y09] at h
  obtain ⟨rfl, rfl⟩ := h
  exact ⟨by simp, fun q => by simp, by simp, fun d hd => .inl hd⟩
 | p :: ps, a, k, a', k', h => by
  simp only [zt6] at h
  split at h <;> try cases h
  rename_i hlt
  have hp : p < len := y1g hlt
  split at h <;> try cases h
  rename_i s hs
  rw [nth_eq] at hs
  have hrev : acc.reverse[p]? = some s := by
   rw [List.getElem?_reverse (by omega), hacc]; exact hs
  obtain ⟨h1, h2, h3, h4⟩ := zpt hacc h
  refine ⟨fun q hq => ?_, fun q => ?_, fun q hq => ?_, fun d hd => ?_⟩
  ·rcases y0j.1 hq with rfl | hq
   ·exact hp
   ·exact h1 q hq
  ·rw [h2]
   simp only [zpy, bit_M, y13, decide_eq_true_eq, y0j, exists_eq_or_imp]
   constructor
   ·rintro ((h | h | h) | h)
    ·exact .inl h
    ·exact .inr (.inl (.inr ⟨s, hrev, h⟩))
    ·exact .inr (.inl (.inl h.symm))
    ·exact .inr (.inr h)
   ·rintro (h | (h | ⟨s', e, h⟩) | h)
    ·exact .inl (.inl h)
    ·exact .inl (.inr (.inr h.symm))
    ·rw [hrev] at e; injection e with e; subst e; exact .inl (.inr (.inl h))
    ·exact .inr h
  ·rcases y0j.1 hq with rfl | hq
   ·exact ⟨s, hrev⟩
   ·exact h3 q hq
  ·rcases h4 d hd with h | ⟨p', hp', h⟩
   ·simp only [zpy, y13] at h
    rcases h with h | h | h
    ·exact .inl h
    ·exact .inr ⟨p, y05 .., s, hrev, .inr h⟩
    ·exact .inr ⟨p, y05 .., s, hrev, .inl ((zk2 _ _).1 h)⟩
   ·exact .inr ⟨p', y04 _ hp', h⟩
theorem zie {α : Type} {l : List α} {x y : α} {i : Nat} (h : (l ++ [x])[i]? = some y) : l[i]? = some y ∨ (i = l.length ∧ y = x) := zeb h
theorem PassOk.snoc {ios : List Opr} {pres : List (List Nat)} {rs : List OI} (h : PassOk ios pres rs) {io : Opr} {ps : List Nat} {a k : Nat}
  (h1 : ∀ p ∈ ps, p < rs.length) (h2 : ∀ q, zat a q = true ↔ ∃ p ∈ ps, q = p ∨ ∃ s, rs[p]? = some s ∧ zat s.a q = true)
  (h4 : ∀ d, zat k d = true → ∃ p ∈ ps, ∃ s, rs[p]? = some s ∧ (s.io.dst = some d ∨ zat s.k d = true)) :
  PassOk (ios ++ [io]) (pres ++ [ps]) (rs ++ [⟨rs.length, io, a, k⟩]) := by
 have hl : ∀ {p : Nat} {s : OI}, rs[p]? = some s → (rs ++ [(⟨rs.length, io, a, k⟩ : OI)])[p]? = some s := fun h => zea h
 have two : ∀ (i : Nat) (ps' : List Nat) (r : OI), (pres ++ [ps])[i]? = some ps' → (rs ++ [(⟨rs.length, io, a, k⟩ : OI)])[i]? = some r → (pres[i]? = some ps' ∧ rs[i]? = some r) ∨ (i = rs.length ∧ ps' = ps ∧ r = ⟨rs.length, io, a, k⟩) := by
  intro i ps' r e1 e2
  rcases zie e1 with e1 | ⟨e1, e3⟩ <;> rcases zie e2 with e2 | ⟨e2, e4⟩
  ·exact .inl ⟨e1, e2⟩
  ·have := (y03.1 e1).1; rw [h.len2, ← h.len] at this; omega
  ·have := (y03.1 e2).1; rw [h.len, ← h.len2] at this; omega
  ·exact .inr ⟨e2, e3, e4⟩
 refine ⟨by simp [h.len], by simp [h.len2], fun i r hr => ?_, fun i ps' hp => ?_, fun i ps' r e1 e2 => ?_, fun i ps' r e1 e2 => ?_, fun i ps' r e1 e2 => ?_⟩
 ·rcases zie hr with hr | ⟨e1, e2⟩
  ·exact ⟨(h.at_ i r hr).1, zea (h.at_ i r hr).2⟩
  ·subst e1 e2; exact ⟨rfl, by rw [h.len]; simp⟩
 ·rcases zie hp with hp | ⟨e1, e2⟩
  ·exact h.acyc i ps' hp
  ·subst e1 e2; rw [h.len2, ← h.len]; exact h1
 ·rcases two i ps' r e1 e2 with ⟨e1, e2⟩ | ⟨e3, e4, e5⟩
  ·intro q hq
   obtain ⟨p, hp, hor⟩ := h.up i ps' r e1 e2 q hq
   exact ⟨p, hp, hor.imp id fun ⟨s, k1, k2⟩ => ⟨s, hl k1, k2⟩⟩
  ·subst e3 e4 e5
   intro q hq
   obtain ⟨p, hp, hor⟩ := (h2 q).1 hq
   exact ⟨p, hp, hor.imp id fun ⟨s, k1, k2⟩ => ⟨s, hl k1, k2⟩⟩
 ·rcases two i ps' r e1 e2 with ⟨e1, e2⟩ | ⟨e3, e4, e5⟩
  ·intro p hp
   obtain ⟨k1, s, k2, k3⟩ := h.down i ps' r e1 e2 p hp
   exact ⟨k1, s, hl k2, k3⟩
  ·subst e3 e4 e5
   intro p hp
   refine ⟨(h2 p).2 ⟨p, hp, .inl rfl⟩, rs[p]'(h1 p hp), hl (by simp [h1 p hp]), fun q hq => (h2 q).2 ⟨p, hp, .inr ⟨_, by simp [h1 p hp], hq⟩⟩⟩
 ·rcases two i ps' r e1 e2 with ⟨e1, e2⟩ | ⟨e3, e4, e5⟩
  ·intro d hd
   obtain ⟨p, hp, s, k1, k2⟩ := h.wr i ps' r e1 e2 d hd
   exact ⟨p, hp, s, hl k1, k2⟩
  ·subst e3 e4 e5
   intro d hd
   obtain ⟨p, hp, s, k1, k2⟩ := h4 d hd
   exact ⟨p, hp, s, hl k1, k2⟩
theorem zm0 : ∀ {ios : List Opr} {pres : List (List Nat)} {done : List Opr} {dpres : List (List Nat)} {acc : List OI} {len : Nat} {rs : List OI}, PassOk done dpres acc.reverse → acc.length = len →
  znn ios pres acc len = some rs → PassOk (done ++ ios) (dpres ++ pres) rs
 | [], [], done, dpres, acc, len, rs, h, hl, hp => by
  simp only [znn, y00] at hp
  subst hp
  simpa using h
 | io :: ios, ps :: pres, done, dpres, acc, len, rs, h, hl, hp => by
  simp only [znn] at hp
  split at hp <;> try cases hp
  rename_i a k hak
  obtain ⟨h1, h2, h3, h4⟩ := zpt hl hak
  have hlr : acc.reverse.length = len := by simpa using hl
  have := h.snoc (io := io) (ps := ps) (a := a) (k := k) (by rw [hlr]; exact h1) (fun q => by rw [h2 q]; simp [bit_0]) (fun d hd => (h4 d hd).resolve_left (by simp [bit_0]))
  rw [hlr] at this
  have e1 : done ++ io :: ios = (done ++ [io]) ++ ios := by simp
  have e2 : dpres ++ ps :: pres = (dpres ++ [ps]) ++ pres := by simp
  rw [e1, e2]
  exact zm0 (by simpa using this) (by simp [hl]) hp
 | [], _ :: _, _, _, _, _, _, _, _, hp => by simp [znn] at hp
 | _ :: _, [], _, _, _, _, _, _, _, hp => by simp [znn] at hp
theorem PassOk.alt {ios : List Opr} {pres : List (List Nat)} {rs : List OI} (h : PassOk ios pres rs) : ∀ (i : Nat) (r : OI), rs[i]? = some r → ∀ q, zat r.a q = true → q < i := by
 intro i
 induction i using Nat.strongRecOn with
 | _ i ih =>
  intro r hr q hq
  have hi := (y03.1 hr).1
  have hp : pres[i]? = some (pres[i]'(by rw [h.len2, ← h.len]; exact hi)) := by simp [h.len2, ← h.len, hi]
  obtain ⟨p, hpm, hor⟩ := h.up i _ r hp hr q hq
  have hpi := h.acyc i _ hp p hpm
  rcases hor with rfl | ⟨s, hs, hqs⟩
  ·exact hpi
  ·have := ih p hpi s hs q hqs; omega
theorem PassOk.ofK {ios : List Opr} {pres : List (List Nat)} {rs : List OI} (h : PassOk ios pres rs) : ∀ (i : Nat) (r : OI), rs[i]? = some r → ∀ d, zat r.k d = true → ∃ q s, zat r.a q = true ∧ rs[q]? = some s ∧ s.io.dst = some d := by
 intro i
 induction i using Nat.strongRecOn with
 | _ i ih =>
  intro r hr d hd
  have hi := (y03.1 hr).1
  have hp : pres[i]? = some (pres[i]'(by rw [h.len2, ← h.len]; exact hi)) := by simp [h.len2, ← h.len, hi]
  obtain ⟨p, hpm, s, hs, hor⟩ := h.wr i _ r hp hr d hd
  have hpi := h.acyc i _ hp p hpm
  obtain ⟨k1, s', k2, k3⟩ := h.down i _ r hp hr p hpm
  rw [hs] at k2; injection k2 with k2; subst k2
  rcases hor with hor | hor
  ·exact ⟨p, s, k1, hs, hor⟩
  ·obtain ⟨q, s2, e1, e2, e3⟩ := ih p hpi s hs d hor
   exact ⟨q, s2, k3 q e1, e2, e3⟩
theorem zqm : ∀ {rs : List OI} {m : Nat}, ndM rs m = true → (∀ (i : Nat) (x : OI) (d : Nat), rs[i]? = some x → x.io.dst = some d → zat m d = false) ∧
  ∀ (i j : Nat) (x y : OI) (d : Nat), rs[i]? = some x → rs[j]? = some y → x.io.dst = some d → y.io.dst = some d → i = j
 | [], m, _ => ⟨by simp, by simp⟩
 | x :: l, m, h => by
  simp only [ndM] at h
  cases hd : x.io.dst with
  | none =>
   rw [hd] at h
   obtain ⟨h1, h2⟩ := zqm h
   refine ⟨fun i y d hy he => ?_, fun i j y z d hy hz e1 e2 => ?_⟩
   ·cases i with
    | zero => simp at hy; subst hy; rw [hd] at he; cases he
    | succ i => exact h1 i y d (by simpa using hy) he
   ·cases i with
    | zero => simp at hy; subst hy; rw [hd] at e1; cases e1
    | succ i =>
     cases j with
     | zero => simp at hz; subst hz; rw [hd] at e2; cases e2
     | succ j => rw [h2 i j y z d (by simpa using hy) (by simpa using hz) e1 e2]
  | some d0 =>
   rw [hd] at h
   simp only at h
   split at h <;> try cases h
   rename_i hb
   obtain ⟨h1, h2⟩ := zqm h
   have out : ∀ (i : Nat) (y : OI) (d : Nat), l[i]? = some y → y.io.dst = some d → zat m d = false ∧ d0 ≠ d := by
    intro i y d hy he
    have := h1 i y d hy he
    simp only [zpy, bit_M, y1f, decide_eq_false_iff_not] at this
    exact this
   refine ⟨fun i y d hy he => ?_, fun i j y z d hy hz e1 e2 => ?_⟩
   ·cases i with
    | zero => simp at hy; subst hy; rw [hd] at he; injection he with he; subst he; exact hb
    | succ i => exact (out i y d (by simpa using hy) he).1
   ·cases i with
    | zero =>
     simp at hy; subst hy
     rw [hd] at e1; injection e1 with e1; subst e1
     cases j with
     | zero => rfl
     | succ j => exact absurd rfl (out j z d0 (by simpa using hz) e2).2
    | succ i =>
     cases j with
     | zero => simp at hz; subst hz; rw [hd] at e2; injection e2 with e2; subst e2; exact absurd rfl (out i y d0 (by simpa using hy) e1).2
     | succ j => rw [h2 i j y z d (by simpa using hy) (by simpa using hz) e1 e2]
theorem zju : ∀ {rs : List OI} {d : Nat}, zat (wAll rs) d = false → ∀ (i : Nat) (x : OI), rs[i]? = some x → x.io.dst ≠ some d
 | [], d, _, i, x, hx => by simp at hx
 | y :: l, d, h, i, x, hx => by
  simp only [wAll, zpy, y1f] at h
  cases i with
  | zero => simp at hx; subst hx; intro e; have := (zk2 _ _).2 e; rw [h.1] at this; cases this
  | succ i => exact zju h.2 i x (by simpa using hx)
theorem zhc {E : Env} {x : OI} : ∀ {rs : List OI}, x ∈ rs → zpe E x.io.op = false → x ∈ zdg E rs
 | [], h, _ => by cases h
 | y :: l, h, hq => by
  simp only [zdg]
  rcases y0j.1 h with rfl | h
  ·rw [hq]; exact y05 ..
  ·cases zpe E y.io.op with
   | true => exact zhc h hq
   | false => exact y04 _ (zhc h hq)
def ndB : List Opr → Bool
 | [] => true
 | io :: l => (match io.dst with
  | none => true
  | some d => l.all fun x => match x.dst with
   | some d' => !(d' == d)
   | none => true) && ndB l
theorem ndB_ok : ∀ {l : List Opr}, ndB l = true → ∀ (i j : Nat) (a b : Opr) (d : Nat), l[i]? = some a → l[j]? = some b → a.dst = some d → b.dst = some d → i = j
 | [], _, i, j, a, b, d, h1, _, _, _ => by simp at h1
 | x :: l, h, i, j, a, b, d, h1, h2, h3, h4 => by
  simp only [ndB, y0h] at h
  have out : ∀ (k : Nat) (c : Opr), l[k]? = some c → x.dst = some d → c.dst = some d → False := by
   intro k c hk hx hc
   have := h.1
   rw [hx] at this
   have := y0d.1 this c (y0a hk)
   rw [hc] at this
   simp at this
  cases i with
  | zero =>
   cases j with
   | zero => rfl
   | succ j =>
    simp at h1 h2; subst h1
    exact (out j b h2 h3 h4).elim
  | succ i =>
   cases j with
   | zero =>
    simp at h1 h2; subst h2
    exact (out i a h1 h4 h3).elim
   | succ j => rw [ndB_ok h.2 i j a b d (by simpa using h1) (by simpa using h2) h3 h4]
def zq2 (tr : List Tr) : List Nat → Bool
 | l :: l' :: r => (match tr[l']? with
  | some t => t.anc.contains l
  | none => false) && zq2 tr (l' :: r)
 | _ => true
theorem zis {tr : List Tr} : ∀ {ls : List Nat}, zq2 tr ls = true → ∀ (m l l' : Nat), ls[m]? = some l → ls[m + 1]? = some l' → ∃ t : Tr, tr[l']? = some t ∧ l ∈ t.anc
 | [], _, m, l, l', h1, _ => by simp at h1
 | [x], _, m, l, l', h1, h2 => by simp at h2
 | x :: y :: r, h, m, l, l', h1, h2 => by
  simp only [zq2, y0h] at h
  cases m with
  | zero =>
   simp at h1 h2; subst h1 h2
   have := h.1
   split at this
   ·rename_i t ht; exact ⟨t, ht, by simpa using this⟩
   ·cases this
  | succ m => exact zis h.2 m l l' (by simpa using h1) (by simpa using h2)
def zuk (tr : List Tr) (i : Nat) (t : Tr) (j : Nat) : Nat → List Nat → Bool
 | _, [] => true
 | m, l :: r => (!t.anc.contains l || decide (m < j)) && (!(l == i) || decide (j ≤ m)) && (match tr[l]? with
  | some tl => !tl.anc.contains i || decide (j ≤ m)
  | none => true) && zuk tr i t j (m + 1) r
theorem zqb {tr : List Tr} {i : Nat} {t : Tr} {j : Nat} : ∀ (ls : List Nat) (k : Nat), (∀ m l, ls[m]? = some l → (l ∈ t.anc → k + m < j) ∧ (l = i → j ≤ k + m) ∧ ∀ tl, tr[l]? = some tl → i ∈ tl.anc → j ≤ k + m) → zuk tr i t j k ls = true
 | [], _, _ => rfl
 | l :: r, k, h => by
  obtain ⟨h1, h2, h3⟩ := h 0 l rfl
  have ih := zqb r (k + 1) fun m l hm => by
   have := h (m + 1) l (by simpa using hm)
   rw [show k + 1 + m = k + (m + 1) from by omega]; exact this
  simp only [zuk, ih, Bool.and_true, y0h]
  refine ⟨⟨?_, ?_⟩, ?_⟩
  ·by_cases hc : l ∈ t.anc
   ·have := h1 hc; simp; right; omega
   ·simp [hc]
  ·by_cases hc : l = i
   ·have := h2 hc; simp; right; omega
   ·simp [hc]
  ·cases ht : tr[l]? with
   | none => rfl
   | some tl =>
    by_cases hc : i ∈ tl.anc
    ·have := h3 tl ht hc; simp; right; omega
    ·simp [hc]
def okAt (E : Env) (R : Rec) (B : AS) (io : Opr) (t : Tr) : Bool :=
 match zah B io with
 | some false => AV.beq t.v (.tup [])
 | some true => match zb8 E R B io with
  | some v => AV.beq v t.v
  | none => false
 | none => false
def quietB (E : Env) (R : Rec) (S : AS) (rf : Nat → TM) (D : DR) (ios : List Opr) : Bool :=
 (List.range ios.length).all fun i => match ios[i]?, D.tr[i]? with
  | some io, some t => D.louds.contains i || (List.range D.heaps.length).all fun j => match D.heaps[j]? with
   | some H => !zuk D.tr i t j 0 D.louds || okAt E R (S.base (rf i) D.tr t.anc H) io t
   | none => true
  | _, _ => false
def ancs : List Opr → List (List Nat) → List Tr → List Tr
 | io :: ios, ps :: pres, tr => ancs ios pres (tr ++ [⟨io.dst, .top, ze1 tr ps⟩])
 | _, _, tr => tr
def zo4 (i : Nat) : Nat → List Tr → List Nat
 | _, [] => []
 | k, t :: l => match t.dst with
  | some d => if (k == i || t.anc.contains i) = true then zo4 i (k + 1) l else d :: zo4 i (k + 1) l
  | none => zo4 i (k + 1) l
theorem zi8 {i d : Nat} : ∀ {l : List Tr} {k m : Nat} {t : Tr}, l[m]? = some t → t.dst = some d → k + m = i ∨ i ∈ t.anc ∨ d ∈ zo4 i k l
 | [], k, m, t, h, _ => by simp at h
 | x :: l, k, m, t, h, hd => by
  cases m with
  | zero =>
   simp at h; subst h
   simp only [zo4, hd]
   split
   ·rename_i hc
    simp only [y13, beq_iff_eq] at hc
    rcases hc with hc | hc
    ·exact .inl hc
    ·exact .inr (.inl (by simpa using hc))
   ·exact .inr (.inr (y05 ..))
  | succ m =>
   have ih := zi8 (i := i) (k := k + 1) (l := l) (m := m) (by simpa using h) hd
   rcases ih with ih | ih | ih
   ·exact .inl (by omega)
   ·exact .inr (.inl ih)
   ·right; right
    simp only [zo4]
    split
    ·split
     ·exact ih
     ·exact y04 _ ih
    ·exact ih
def zhh : List Tr → List Tr → Bool
 | [], [] => true
 | a :: l, b :: m => decide (a.anc = b.anc) && decide (a.dst = b.dst) && zhh l m
 | _, _ => false
theorem zkt : ∀ {a b : List Tr}, zhh a b = true → ∀ (i : Nat) (t : Tr), a[i]? = some t → ∃ t', b[i]? = some t' ∧ t'.anc = t.anc ∧ t'.dst = t.dst
 | [], [], _, i, t, h => by simp at h
 | x :: l, y :: m, h, i, t, ht => by
  simp only [zhh, y0h, decide_eq_true_eq] at h
  cases i with
  | zero => simp at ht; subst ht; exact ⟨y, rfl, h.1.1.symm, h.1.2.symm⟩
  | succ i => simpa using zkt h.2 i t (by simpa using ht)
 | [], _ :: _, h, _, _, _ => by simp [zhh] at h
 | _ :: _, [], h, _, _, _ => by simp [zhh] at h
def zhg (P : Program) (E : Env) (R : Rec) (ios : List Opr) (pres : List (List Nat)) (S : AS) : Option AS :=
 let st := ancs ios pres []
 let rf := fun i => zg8 (zo4 i 0 st) S.tmps
 match zla P E R S rf ios pres [] [] [] S.hs with
 | some D =>
  if ndB ios && ios.all (fun io => zbx S.size io.dst) && zq2 D.tr D.louds && zhh D.tr st && quietB E R S rf D ios then
   match D.heaps[D.louds.length]? with
   | some H => some (S.base (zg8 (ios.filterMap (·.dst)) S.tmps) D.tr (List.range ios.length) H)
   | none => none
  else none
 | none => none
section
variable {P : Program} {w0 w : World} {N0 : Nat} {S S' S1 : AS} {rd : Option (Nat × Nat)} {Q : Exit → AS → Prop} {E : Env} {R : Rec} {io : Opr} {v : AV} {H : HS}
theorem zkq (hE : EnvOk P E) (hR : zg0 P R) {ios : List Opr} {pres : List (List Nat)} (h : zhg P E R ios pres S = some S') : T P w0 N0 rd (.region ios (some pres)) S fun e1 S1 => e1 = .normal ∧ S1 = S' := by
 unfold zhg at h
 simp only at h
 split at h <;> try cases h
 rename_i D hD
 split at h <;> try cases h
 rename_i hc
 simp only [y0h] at hc
 obtain ⟨⟨⟨⟨c1, c2⟩, c3⟩, c5⟩, c4⟩ := hc
 split at h <;> try cases h
 rename_i Hn hHn
 generalize hrest : zg8 (ios.filterMap (·.dst)) S.tmps = rest at *
 generalize hrf : (fun i => zg8 (zo4 i 0 (ancs ios pres [])) S.tmps) = rf at *
 have I0 : Inv1 P E R S rf [] [] [] [] [] S.hs := by
  refine ⟨rfl, rfl, rfl, rfl, ?_, ?_, ?_, ?_, ?_, ?_⟩
  ·intro i io t h; simp at h
  ·intro i ps h; simp at h
  ·intro i ps t h; simp at h
  ·intro i t h; simp at h
  ·intro l h; simp at h
  ·intro m l h; simp at h
 obtain ⟨hs, Hn', e1, I1⟩ := zhz I0 hD
 simp only [y22] at I1
 refine T_draw hE.mix rf rest D.tr D.louds D.heaps ⟨I1.l1, fun i d v hv => ?_, fun d v hv => ?_, I1.l2, fun i io t h1 h2 => ⟨I1.dst i io t h1 h2, ?_⟩, ?_, I1.acyc, I1.anc, ?_, ?_, zis c3, I1.lob, ?_⟩ ?_
 ·rw [← hrf] at hv
  obtain ⟨h1, h2⟩ := zd8 hv
  refine ⟨h1, fun k t ht hd => ?_⟩
  obtain ⟨t', e1, e2, e3⟩ := zkt c5 k t ht
  rcases zi8 (i := i) (k := 0) e1 (e3.trans hd) with h3 | h3 | h3
  ·exact .inl (by omega)
  ·exact .inr (e2 ▸ h3)
  ·rw [y1y] at h2
   simp [h3] at h2
 ·rw [← hrest] at hv
  obtain ⟨h1, h2⟩ := zd8 hv
  refine ⟨h1, fun i t ht e => ?_⟩
  have hi : i < ios.length := by rw [← I1.l1]; exact (y03.1 ht).1
  have hd := I1.dst i ios[i] t (by simp [hi]) ht
  have : d ∈ ios.filterMap (·.dst) := List.mem_filterMap.2 ⟨ios[i], y0y hi, by rw [← hd]; exact e⟩
  rw [y1y] at h2
  simp [this] at h2
 ·exact y0d.1 c2 io (y0a h1)
 ·intro i j t t' d h1 h2 h3 h4
  have hi : i < ios.length := by rw [← I1.l1]; exact (y03.1 h1).1
  have hj : j < ios.length := by rw [← I1.l1]; exact (y03.1 h2).1
  exact ndB_ok c1 i j ios[i] ios[j] d (by simp [hi]) (by simp [hj]) (by rw [← I1.dst i ios[i] t (by simp [hi]) h1]; exact h3) (by rw [← I1.dst j ios[j] t' (by simp [hj]) h2]; exact h4)
 ·rw [e1]; exact I1.h0
 ·rw [e1]; simp [I1.l3]
 ·intro i io t j H hio ht hH hfit
  by_cases hl : i ∈ D.louds
  ·obtain ⟨m, hm, hmi⟩ := y1j.1 hl
   have hml : D.louds[m]? = some i := by rw [y06 hm, hmi]
   obtain ⟨io', t', H1, H2, k1, k2, k3, k4, k5, k6⟩ := I1.loud m i hml
   rw [hio] at k1; injection k1 with k1; subst k1
   rw [ht] at k2; injection k2 with k2; subst k2
   rw [← e1] at k3 k4
   have hj1 : j ≤ m := (hfit m i hml).2.1 rfl
   have hj2 : m ≤ j := by
    cases m with
    | zero => exact y12 _
    | succ m =>
     have hm' : m < D.louds.length := by omega
     obtain ⟨t2, ht2, hin⟩ := zis c3 m D.louds[m] i (by simp [hm']) hml
     rw [ht] at ht2; injection ht2 with ht2; subst ht2
     exact (hfit m D.louds[m] (by simp [hm'])).1 hin
   obtain rfl : j = m := by omega
   rw [hH] at k3; injection k3 with k3; subst k3
   exact .inr ⟨k5, .inr ⟨hml, H2, k4, zqj hR k6⟩⟩
  ·have hi : i < ios.length := (y03.1 hio).1
   have := y0d.1 c4 i (y0g.2 hi)
   rw [hio, ht] at this
   simp only [y13] at this
   rcases this with h1 | h1
   ·exact absurd (by simpa using h1) hl
   ·have hj : j < D.heaps.length := (y03.1 hH).1
    have := y0d.1 h1 j (y0g.2 hj)
    rw [hH] at this
    have hf : zuk D.tr i t j 0 D.louds = true := zqb D.louds 0 fun m l hm => by
     have := hfit m l hm
     simpa using this
    simp only [hf, Bool.not_true, y2y] at this
    unfold okAt at this
    split at this
    ·rename_i hw; exact .inl ⟨hl, hw, AV.eq_of_beq _ _ this⟩
    ·rename_i hw
     split at this
     ·rename_i v hq
      have := AV.eq_of_beq _ _ this
      subst this
      exact .inr ⟨hw, .inl ⟨hl, zdn hE hR hq⟩⟩
     ·cases this
    ·cases this
 ·intro H hH
  rw [hHn] at hH; injection hH with hH; subst hH
  exact ⟨rfl, rfl⟩
end
structure StepR (P : Program) (E : Env) (R : Rec) (S : AS) (io : Opr) (q ind : Bool) (v : AV) (run : Bool) (S1 : AS) : Prop where
 ok : (zah S io = some false ∧ run = false ∧ v = .tup [] ∧ S1 = S.put io.dst v) ∨
  (zah S io = some true ∧ q = true ∧ run = false ∧ S1 = S.put io.dst v ∧ (ind = true → zfx E R S io = some v) ∧ (ind = false → zb8 E R S io = some v)) ∨
  (zah S io = some true ∧ q = false ∧ run = true ∧ ∃ H, zdw P E R S io = some (v, H) ∧ S1 = (S.withH H).put io.dst v)
section
variable {P : Program} {w0 w : World} {N0 : Nat} {S S' S1 : AS} {T : TM} {rd : Option (Nat × Nat)} {E : Env} {R : Rec} {io : Opr} {op : IOp} {v : AV} {H : HS}
theorem zwq : ∀ {ios : List Opr} {fl : List (Bool × Bool)} {S S' : AS}, zd6 P E R ios fl S = some S' → fl.length = ios.length ∧
  ∃ (Ss : Nat → AS) (vs : Nat → AV) (rl : Nat → Bool), Ss 0 = S ∧ Ss ios.length = S' ∧
   ∀ (i : Nat) (io : Opr) (q ind : Bool), ios[i]? = some io → fl[i]? = some (q, ind) → StepR P E R (Ss i) io q ind (vs i) (rl i) (Ss (i + 1))
 | [], [], S, S', h => by
  simp only [zd6, y00] at h
  exact ⟨rfl, fun _ => S, fun _ => .top, fun _ => false, rfl, h, by simp⟩
 | io :: ios, (q, ind) :: fl, S, S', h => by
  have go : ∀ {v : AV} {run : Bool} {S1 : AS}, StepR P E R S io q ind v run S1 → zd6 P E R ios fl S1 = some S' → ((q, ind) :: fl).length = (io :: ios).length ∧
    ∃ (Ss : Nat → AS) (vs : Nat → AV) (rl : Nat → Bool), Ss 0 = S ∧ Ss (io :: ios).length = S' ∧
     ∀ (i : Nat) (io' : Opr) (q' ind' : Bool), (io :: ios)[i]? = some io' → ((q, ind) :: fl)[i]? = some (q', ind') → StepR P E R (Ss i) io' q' ind' (vs i) (rl i) (Ss (i + 1)) := by
   intro v run S1 hs hr
   obtain ⟨h1, Ss, vs, rl, h2, h3, h4⟩ := zwq hr
   refine ⟨by simp [h1], fun i => match i with | 0 => S | i + 1 => Ss i, fun i => match i with | 0 => v | i + 1 => vs i, fun i => match i with | 0 => run | i + 1 => rl i, rfl, h3, fun i io' q' ind' e1 e2 => ?_⟩
   cases i with
   | zero =>
    simp at e1 e2
    obtain ⟨e2, e3⟩ := e2
    subst e1 e2 e3
    show StepR P E R S io q ind v run (Ss 0)
    rw [h2]; exact hs
   | succ i => exact h4 i io' q' ind' (by simpa using e1) (by simpa using e2)
  simp only [zd6] at h
  split at h
  ·rename_i hw
   split at h
   ·rename_i hq
    split at h <;> try cases h
    rename_i v hv
    exact go (run := false) ⟨.inr (.inl ⟨hw, hq, rfl, rfl, fun hi => by rw [if_pos hi] at hv; exact hv, fun hi => by rw [if_neg (by rw [hi]; simp)] at hv; exact hv⟩)⟩ h
   ·rename_i hq
    split at h <;> try cases h
    rename_i v H hv
    exact go (run := true) ⟨.inr (.inr ⟨hw, by simpa using hq, rfl, H, hv, rfl⟩)⟩ h
  ·rename_i hw
   exact go (run := false) ⟨.inl ⟨hw, rfl, rfl, rfl⟩⟩ h
  ·cases h
 | [], _ :: _, _, _, h => by simp [zd6] at h
 | _ :: _, [], _, _, h => by simp [zd6] at h
theorem Stp.more {B B' : AS} {H' : HS} (hs : B'.size = B.size) (hm : B'.marks = B.marks) (hh : B'.hs = B.hs) (hi : ∀ d v, zan d B'.tmps = some v → zan d B.tmps = some v)
  (h : Stp P w0 N0 rd io B' fun S2 v2 => v2 = v ∧ S2 = B'.withH H') : Stp P w0 N0 rd io B fun S2 v2 => v2 = v ∧ S2 = B.withH H' := by
 intro ops o hc n I a w r next Qc hR ho hk
 obtain ⟨size, tmps, heap, nx, clk, marks⟩ := B
 obtain ⟨size', tmps', heap', nx', clk', marks'⟩ := B'
 simp only [AS.hs, HS.mk.injEq] at hs hm hh hi
 obtain ⟨rfl, rfl, rfl⟩ := hh
 subst hs hm
 refine h ops o hc n I a w r next Qc ⟨hR.clk, ⟨hR.tmps.1, fun d v hv => hR.tmps.2 d v (hi d v hv)⟩, hR.hrel, hR.marks⟩ ho fun I' S1 v' u w' ⟨e1, e2⟩ hR' hV hE => ?_
 subst e1 e2
 exact hk I' _ v' u w' ⟨rfl, rfl⟩ ⟨hR'.clk, hR.tmps.evo hE, hR'.hrel, hR'.marks⟩ hV hE
theorem zjv {B B' : AS} {b : Bool} (hi : ∀ d v, zan d B'.tmps = some v → zan d B.tmps = some v) (h : zah B' io = some b) : zah B io = some b := by
 unfold zah at h ⊢
 cases hg : io.guard with
 | none => rw [hg] at h; exact h
 | some x =>
  obtain ⟨d, c⟩ := x
  rw [hg] at h
  dsimp only at h ⊢
  split at h
  ·rename_i y hy; rw [show B.get d = some (.bool y) from hi d _ hy]; exact h
  ·rename_i vs hy; rw [show B.get d = some (.tup vs) from hi d _ hy]; exact h
  ·cases h
theorem zfu {tr : List Tr} {rest : TM} {d : Nat} {v : AV} : ∀ {l : List Nat}, (∃ p ∈ l, ∃ t, tr[p]? = some t ∧ t.dst = some d) → (∀ p ∈ l, ∀ t, tr[p]? = some t → t.dst = some d → t.v = v) → zan d (zfa tr rest l) = some v
 | [], h, _ => by obtain ⟨p, hp, _⟩ := h; cases hp
 | p :: l, h, hv => by
  simp only [zfa]
  cases ht : tr[p]? with
  | none =>
   simp only
   obtain ⟨p', hp', t, h1, h2⟩ := h
   rcases y0j.1 hp' with rfl | hp'
   ·rw [ht] at h1; cases h1
   ·exact zfu ⟨p', hp', t, h1, h2⟩ fun q hq => hv q (y04 _ hq)
  | some t0 =>
   simp only
   have rest' : t0.dst ≠ some d → zan d (zfa tr rest l) = some v := by
    intro hne
    obtain ⟨p', hp', t, h1, h2⟩ := h
    rcases y0j.1 hp' with rfl | hp'
    ·rw [ht] at h1; injection h1 with h1; subst h1; exact absurd h2 hne
    ·exact zfu ⟨p', hp', t, h1, h2⟩ fun q hq => hv q (y04 _ hq)
   cases hd : t0.dst with
   | none => exact rest' (by rw [hd]; simp)
   | some d0 =>
    simp only [zbp]
    by_cases e : d0 = d
    ·subst e
     rw [if_pos rfl, hv p (y05 ..) t0 ht hd]
    ·rw [if_neg e]
     exact rest' (by rw [hd]; simp; exact e)
theorem zfm {tr : List Tr} {rest : TM} {d : Nat} : ∀ {l : List Nat}, (∀ p ∈ l, ∀ t, tr[p]? = some t → t.dst ≠ some d) → zan d (zfa tr rest l) = zan d rest
 | [], _ => rfl
 | p :: l, h => by
  have ih := zfm (tr := tr) (rest := rest) (d := d) (l := l) fun q hq => h q (y04 _ hq)
  simp only [zfa]
  split
  ·rename_i t ht
   split
   ·rename_i d0 hd
    rw [zbp, if_neg (fun e => h p (y05 ..) t ht (by rw [hd, e])), ih]
   ·exact ih
  ·exact ih
theorem zfj {d : Nat} : ∀ {ds : List Nat} {t : TM}, d ∉ ds → zan d (zg8 ds t) = zan d t
 | [], _, _ => rfl
 | k :: ds, t, h => by
  simp only [zg8, zem]
  rw [if_neg (fun e => h (by rw [e]; exact y05 ..)), zfj fun hd => h (y04 _ hd)]
def zcg (p : Nat → Bool) (n : Nat) : List Nat := (List.range n).filter p
theorem mem_upTo {p : Nat → Bool} {n x : Nat} : x ∈ zcg p n ↔ x < n ∧ p x = true := by simp [zcg]
theorem zc3 (p : Nat → Bool) (n : Nat) : zcg p (n + 1) = zcg p n ++ (if p n = true then [n] else []) := by
 simp only [zcg, y2k, List.filter_append]
 congr 1
 by_cases h : p n = true <;> simp [h]
theorem zf3 (p : Nat → Bool) : ∀ (n i : Nat), i ≤ n → ∃ r, zcg p n = zcg p i ++ r ∧ ∀ x ∈ r, i ≤ x
 | 0, i, h => ⟨[], by rw [show i = 0 by omega]; simp, by simp⟩
 | n + 1, i, h => by
  by_cases e : i = n + 1
  ·exact ⟨[], by rw [e]; simp, by simp⟩
  ·obtain ⟨r, hr, hx⟩ := zf3 p n i (by omega)
   refine ⟨r ++ (if p n = true then [n] else []), by rw [zc3, hr, y19], fun x hm => ?_⟩
   rcases y0q.1 hm with hm | hm
   ·exact hx x hm
   ·split at hm
    ·simp at hm; omega
    ·cases hm
theorem zm9 {p : Nat → Bool} {n i : Nat} (hi : i < n) (hp : p i = true) : (zcg p n)[(zcg p i).length]? = some i := by
 obtain ⟨r, hr, _⟩ := zf3 p n (i + 1) hi
 rw [hr, zc3, if_pos hp]
 simp
theorem zcf {p : Nat → Bool} {n i m l : Nat} (hi : i ≤ n) (hm : (zcg p n)[m]? = some l) : m < (zcg p i).length ↔ l < i := by
 obtain ⟨r, hr, hx⟩ := zf3 p n i hi
 rw [hr] at hm
 constructor
 ·intro h
  rw [y0w h] at hm
  exact (mem_upTo.1 (y0a hm)).1
 ·intro h
  rcases y2d m (zcg p i).length with h1 | h1
  ·exact h1
  ·rw [y10 h1] at hm
   have := hx l (y0a hm)
   omega
end
section
variable {P : Program} {w0 w : World} {N0 : Nat} {S S' S1 : AS} {rd : Option (Nat × Nat)} {E : Env} {R : Rec} {io : Opr} {op : IOp} {v : AV} {H : HS}
theorem T_less {ic : IC} {Q Q' : Exit → AS → Prop} (h : T P w0 N0 rd ic S Q) (hq : ∀ e S1, Q e S1 → ∃ S2, Q' e S2 ∧ ∀ I a w, Rel w0 N0 I S1 a w → Rel w0 N0 I S2 a w) : T P w0 N0 rd ic S Q' := fun code hc n I a w r hr ho =>
 wpIn_mono (h code hc n I a w r hr ho) fun e a' w' ⟨I', S1, q, k1, k2⟩ => by
  obtain ⟨S2, q2, k3⟩ := hq e S1 q
  exact ⟨I', S2, q2, k3 _ _ _ k1, k2⟩
theorem StepR.kept {q ind run : Bool} (h : StepR P E R S io q ind v run S1) : S1.size = S.size ∧ S1.marks = S.marks ∧ S1.tmps = (S.put io.dst v).tmps ∧ (run = false → S1.hs = S.hs) ∧ (run = true → q = false) := by
 have p1 : ∀ S0 : AS, (S0.put io.dst v).size = S0.size ∧ (S0.put io.dst v).marks = S0.marks ∧ (S0.put io.dst v).hs = S0.hs := fun S0 => by cases io.dst <;> exact ⟨rfl, rfl, rfl⟩
 rcases h.ok with ⟨_, h2, _, rfl⟩ | ⟨_, _, h2, rfl, _⟩ | ⟨_, h1, h2, H, _, rfl⟩
 ·exact ⟨(p1 S).1, (p1 S).2.1, rfl, fun _ => (p1 S).2.2, fun e => by rw [h2] at e; cases e⟩
 ·exact ⟨(p1 S).1, (p1 S).2.1, rfl, fun _ => (p1 S).2.2, fun e => by rw [h2] at e; cases e⟩
 ·refine ⟨(p1 _).1, (p1 _).2.1, ?_, fun e => (by rw [h2] at e; cases e), fun _ => h1⟩
  cases io.dst <;> rfl
theorem zqs {S : AS} {dst : Option Nat} {v x : AV} {d : Nat} (h : zan d (S.put dst v).tmps = some x) : (dst = some d ∧ x = v) ∨ (dst ≠ some d ∧ zan d S.tmps = some x) := by
 cases dst with
 | none => exact .inr ⟨by simp, h⟩
 | some k =>
  simp only [AS.put, zbp] at h
  by_cases e : k = d
  ·subst e; rw [if_pos rfl] at h; injection h with h; exact .inl ⟨rfl, h.symm⟩
  ·rw [if_neg e] at h; exact .inr ⟨by simp; exact e, h⟩
structure FreshExt (H H' : HS) : Prop where
 next : H.next ≤ H'.next
 clk : H.clk ≤ H'.clk
 look : ∀ id, look id H'.heap = look id H.heap ∨ (H.next ≤ id ∧ ∃ st o, look id H'.heap = some (st, o) ∧ H.clk ≤ st)
theorem FreshExt.refl (H : HS) : FreshExt H H := ⟨y0b _, y0b _, fun _ => .inl rfl⟩
theorem FreshExt.trans {H H' H'' : HS} (h : FreshExt H H') (k : FreshExt H' H'') : FreshExt H H'' := by
 refine ⟨y0s h.next k.next, y0s h.clk k.clk, fun id => ?_⟩
 rcases k.look id with e | ⟨e1, st, o, e2, e3⟩
 ·rw [e]; exact h.look id
 ·exact .inr ⟨y0s h.next e1, st, o, e2, y0s h.clk e3⟩
theorem zl2 {f : Nat → HS} {a : Nat} : ∀ {b : Nat}, (∀ k, a ≤ k → k < b → FreshExt (f k) (f (k + 1))) → a ≤ b → FreshExt (f a) (f b)
 | 0, _, h => by rw [show a = 0 by omega]; exact FreshExt.refl _
 | b + 1, hs, h => by
  by_cases e : a = b + 1
  ·subst e; exact FreshExt.refl _
  ·exact (zl2 (b := b) (fun k h1 h2 => hs k h1 (by omega)) (by omega)).trans (hs b (by omega) (y0m _))
theorem znc {op : IOp} (h : zhn op = true) : ∃ g d, op = .load g (.t d) := by
 unfold zhn at h
 split at h
 ·exact ⟨_, _, rfl⟩
 ·cases h
theorem newExt (S : AS) (o : AObj) : FreshExt S.hs (S.new o).hs := by
 refine ⟨y23 _, y23 _, fun id => ?_⟩
 show look id ((S.next, S.clk, o) :: S.heap) = look id S.heap ∨ _
 rw [za8]
 by_cases e : S.next = id
 ·rw [if_pos e]
  refine .inr ⟨by rw [← e]; exact y0b _, S.clk, o, ?_, y0b _⟩
  show look id ((S.next, S.clk, o) :: S.heap) = _
  rw [za8, if_pos e]
 ·rw [if_neg e]; exact .inl rfl
theorem zk8 (hf : zj6 io.op = true) (h : zdw P E R S io = some (v, H)) : FreshExt S.hs H := by
 unfold zdw zb8 zg4 at h
 cases hop : io.op <;> rw [hop] at hf <;> simp only [zj6, y0u] at hf <;> simp only [hop, zbu, if_true] at h
 all_goals
  split at h
  ·rename_i v' S1 hi
   simp only [y00, y09] at h
   obtain ⟨_, rfl⟩ := h
   simp only [iop] at hi
   repeat' (split at hi)
   all_goals simp only [y00, y09, reduceCtorEq] at hi
   obtain ⟨_, rfl⟩ := hi
   exact newExt ..
  ·cases h
def zlq (g : Option Nat) (cs : List AV) : Option AV :=
 match g with
 | some n => if n ≤ cs.length then some (.agg (cs.take n)) else none
 | none => cs.head?
theorem zvo {g : Option Nat} {d : Nat} {X : AS} {H H' : HS} (hop : io.op = .load g (.t d)) (hx : FreshExt H H' ∨ FreshExt H' H) (hst : ∀ id st off, X.get d = some (.mptr id st off) → st < H.clk) (hfree : ∀ id, H.next ≤ id → look id H.heap = none)
  (h : zb8 E R (X.withH H') io = some v) : zb8 E R (X.withH H) io = some v := by
 have key : ∀ G : HS, zb8 E R (X.withH G) io = (X.get d).bind fun p => ((X.withH G).deref p).bind (zlq g) := by
  intro G
  have e1 : zb8 E R (X.withH G) io = (iop (X.withH G) (.load g (.t d))).map (·.1) := by
   unfold zb8
   split
   ·rename_i hc; rw [hop] at hc; cases hc
   ·rw [hop]; simp [zbu]
  rw [e1]
  simp only [iop, AS.arg]
  have eg : (X.withH G).get d = X.get d := rfl
  rw [eg]
  cases X.get d with
  | none => rfl
  | some p =>
   simp only [y2e]
   cases (X.withH G).deref p with
   | none => rfl
   | some cs =>
    cases g with
    | none => cases cs <;> rfl
    | some n => simp only [y2e, zlq]; split <;> rfl
 rw [key] at h ⊢
 cases hg : X.get d with
 | none => rw [hg] at h; cases h
 | some p =>
  rw [hg] at h
  simp only [y2e] at h ⊢
  have hd : (X.withH H').deref p ≠ none := by
   intro e; rw [e] at h; cases h
  have : (X.withH H).deref p = (X.withH H').deref p := by
   cases p <;> try (exact absurd rfl hd)
   ·rfl
   ·rename_i id st off
    have hst' := hst id st off hg
    simp only [AS.deref] at hd ⊢
    have e1 : (X.withH H').heap = H'.heap := rfl
    have e2 : (X.withH H).heap = H.heap := rfl
    have e3 : (X.withH H').next = H'.next := rfl
    have e4 : (X.withH H).next = H.next := rfl
    rw [e1, e3] at hd ⊢
    rw [e2, e4]
    cases hl : look id H'.heap with
    | none => rw [hl] at hd; exact absurd rfl hd
    | some x =>
     obtain ⟨st', o⟩ := x
     rw [hl] at hd
     cases o with
     | cells cs =>
      simp only at hd
      split at hd
      ·rename_i hc
       obtain ⟨hc1, hc2⟩ := hc
       have same : look id H.heap = look id H'.heap := by
        rcases hx with hx | hx
        ·rcases hx.look id with e | ⟨_, st2, o2, e, e5⟩
         ·exact e.symm
         ·rw [hl] at e; injection e with e; injection e with e _; omega
        ·rcases hx.look id with e | ⟨e, _⟩
         ·exact e
         ·omega
       have hlt : id < H.next := by
        rcases y2d id H.next with h5 | h5
        ·exact h5
        ·have := hfree id h5; rw [same, hl] at this; cases this
       rw [same, hl]
       simp only [hc1, hc2, hlt, and_self, if_true]
      ·exact absurd rfl hd
     | _ => exact absurd rfl hd
  rw [this]; exact h
theorem zj1 {i d : Nat} : ∀ {l : List Tr} {k : Nat}, d ∈ zo4 i k l → ∃ (m : Nat) (t : Tr), l[m]? = some t ∧ t.dst = some d ∧ k + m ≠ i ∧ i ∉ t.anc
 | [], k, h => by simp [zo4] at h
 | t :: l, k, h => by
  have tail : d ∈ zo4 i (k + 1) l → ∃ (m : Nat) (t' : Tr), (t :: l)[m]? = some t' ∧ t'.dst = some d ∧ k + m ≠ i ∧ i ∉ t'.anc := fun h => by
   obtain ⟨m, t', h1, h2, h3, h4⟩ := zj1 h
   exact ⟨m + 1, t', by simpa using h1, h2, by omega, h4⟩
  simp only [zo4] at h
  split at h
  ·rename_i d' hd
   split at h
   ·exact tail h
   ·rename_i hn
    rcases y0j.1 h with rfl | h
    ·simp only [y13, beq_iff_eq, y1y, decide_eq_true_eq, not_or] at hn
     exact ⟨0, t, rfl, hd, by simpa using hn.1, hn.2⟩
    ·exact tail h
  ·exact tail h
theorem T_stat (hE : EnvOk P E) (hR : zg0 P R) {ios : List Opr} {pres : List (List Nat)} {fl : List (Bool × Bool)} (hst : zm6 E ios pres S.size = some fl) (h : zd6 P E R ios fl S = some S') :
  T P w0 N0 rd (.region ios (some pres)) S fun e1 S1 => e1 = .normal ∧ S1 = S' := by
 unfold zm6 at hst
 split at hst <;> try cases hst
 rename_i rs hrs
 split at hst <;> try cases hst
 rename_i hc
 simp only [y0h] at hc
 obtain ⟨⟨⟨c1, c2⟩, c3⟩, c4⟩ := hc
 have hP : PassOk ios pres rs := by
  have := zm0 (ios := ios) (pres := pres) (done := []) (dpres := []) (acc := []) (len := 0) ⟨rfl, rfl, by simp, by simp, by simp, by simp, by simp⟩ rfl hrs
  simpa using this
 obtain ⟨_, hnd⟩ := zqm c1
 obtain ⟨_, Ss, vs, rl, s0, sn, hstep⟩ := zwq h
 generalize hn : ios.length = n at *
 have rsAt : ∀ {i : Nat} {io : Opr}, ios[i]? = some io → ∃ r, rs[i]? = some r ∧ r.io = io ∧ r.idx = i := by
  intro i io hi
  have hlt : i < rs.length := by rw [hP.len]; exact (y03.1 hi).1
  refine ⟨rs[i], by simp [hlt], ?_, (hP.at_ i _ (by simp [hlt])).1⟩
  have := (hP.at_ i rs[i] (by simp [hlt])).2
  rw [hi] at this; injection this with this; exact this.symm
 have step : ∀ {i : Nat} {r : OI}, rs[i]? = some r → StepR P E R (Ss i) r.io (zpe E r.io.op) (!((zdg E rs).all fun y => zfc r y)) (vs i) (rl i) (Ss (i + 1)) := by
  intro i r hr
  exact hstep i r.io _ _ (hP.at_ i r hr).2 (by simp [flagOf, hr])
 have ltn : ∀ {i : Nat} {r : OI}, rs[i]? = some r → i < n := fun hr => by have := (y03.1 hr).1; rw [hP.len] at this; omega
 have atn : ∀ {i : Nat}, i < n → ∃ r, rs[i]? = some r := by
  intro i hi
  have : i < rs.length := by rw [hP.len]; omega
  exact ⟨rs[i], by simp [this]⟩
 -- what stays, what is known, and the heaps
 have keep : ∀ i, i ≤ n → (Ss i).size = S.size ∧ (Ss i).marks = S.marks := by
  intro i
  induction i with
  | zero => intro _; rw [s0]; exact ⟨rfl, rfl⟩
  | succ i ih =>
   intro hi
   obtain ⟨r, hr⟩ := atn (show i < n by omega)
   obtain ⟨k1, k2, _⟩ := (step hr).kept
   exact ⟨k1.trans (ih (by omega)).1, k2.trans (ih (by omega)).2⟩
 have info : ∀ i, i ≤ n → ∀ d v, zan d (Ss i).tmps = some v → (∃ j r, j < i ∧ rs[j]? = some r ∧ r.io.dst = some d ∧ v = vs j) ∨ ((∀ j r, j < i → rs[j]? = some r → r.io.dst ≠ some d) ∧ zan d S.tmps = some v) := by
  intro i
  induction i with
  | zero => intro _ d v hv; rw [s0] at hv; exact .inr ⟨fun j r hj => by omega, hv⟩
  | succ i ih =>
   intro hi d v hv
   obtain ⟨r, hr⟩ := atn (show i < n by omega)
   obtain ⟨_, _, k3, _⟩ := (step hr).kept
   rw [k3] at hv
   rcases zqs hv with ⟨e1, e2⟩ | ⟨e1, e2⟩
   ·exact .inl ⟨i, r, by omega, hr, e1, e2⟩
   ·rcases ih (by omega) d v e2 with ⟨j, r', h1, h2, h3, h4⟩ | ⟨h1, h2⟩
    ·exact .inl ⟨j, r', by omega, h2, h3, h4⟩
    ·refine .inr ⟨fun j r' hj hr' => ?_, h2⟩
     rcases y2d j i with hji | hji
     ·exact h1 j r' hji hr'
     ·obtain rfl : j = i := by omega
      rw [hr] at hr'; injection hr' with hr'; subst hr'; exact e1
 obtain ⟨louds, hlouds⟩ : ∃ l, l = zcg rl n := ⟨_, rfl⟩
 obtain ⟨heaps, hheaps⟩ : ∃ l : List HS, l = S.hs :: louds.map (fun l => (Ss (l + 1)).hs) := ⟨_, rfl⟩
 have heapAt : ∀ i, i ≤ n → heaps[(zcg rl i).length]? = some (Ss i).hs := by
  intro i
  induction i with
  | zero => intro _; rw [hheaps, s0]; rfl
  | succ i ih =>
   intro hi
   obtain ⟨r, hr⟩ := atn (show i < n by omega)
   obtain ⟨_, _, _, k4, _⟩ := (step hr).kept
   rw [zc3]
   by_cases hrl : rl i = true
   ·rw [if_pos hrl, y0k, y1a, hheaps, List.getElem?_cons_succ, y0f, hlouds, zm9 (show i < n by omega) hrl]
    rfl
   ·rw [if_neg hrl, y0r, k4 (by simpa using hrl)]
    exact ih (by omega)
 have ldm : ∀ {l : Nat}, l ∈ louds → ∃ r, rs[l]? = some r ∧ r ∈ zdg E rs ∧ r.idx = l := by
  intro l hl
  rw [hlouds] at hl
  obtain ⟨h1, h2⟩ := mem_upTo.1 hl
  obtain ⟨r, hr⟩ := atn h1
  obtain ⟨_, _, _, _, k5⟩ := (step hr).kept
  exact ⟨r, hr, zhc (y0a hr) (k5 h2), (hP.at_ l r hr).1⟩
 -- the record of the run
 obtain ⟨tr, htr⟩ : ∃ l : List Tr, l = rs.map (fun r => (⟨r.io.dst, vs r.idx, zcg (zat r.a) n⟩ : Tr)) := ⟨_, rfl⟩
 have trAt : ∀ {i : Nat} {r : OI}, rs[i]? = some r → tr[i]? = some ⟨r.io.dst, vs i, zcg (zat r.a) n⟩ := by
  intro i r hr
  rw [htr, y0f, hr, ← (hP.at_ i r hr).1]; rfl
 have trGet : ∀ {i : Nat} {t : Tr}, tr[i]? = some t → ∃ r, rs[i]? = some r ∧ t = ⟨r.io.dst, vs i, zcg (zat r.a) n⟩ := by
  intro i t ht
  have hlt : i < rs.length := by have := (y03.1 ht).1; rw [htr, y07] at this; exact this
  refine ⟨rs[i], by simp [hlt], ?_⟩
  have := trAt (i := i) (r := rs[i]) (by simp [hlt])
  rw [ht] at this; injection this
 have ancM : ∀ {i q : Nat} {r : OI}, rs[i]? = some r → (q ∈ zcg (zat r.a) n ↔ zat r.a q = true) := by
  intro i q r hr
  refine mem_upTo.trans ⟨fun h => h.2, fun h => ⟨?_, h⟩⟩
  have := hP.alt i r hr q h
  have := ltn hr
  omega
 have cnt : ∀ {i j : Nat} {r : OI}, rs[i]? = some r → j < heaps.length → Fits tr louds i ⟨r.io.dst, vs i, zcg (zat r.a) n⟩ j → (∀ y ∈ zdg E rs, y.idx ≠ i → zat r.a y.idx = true ∨ zat y.a i = true) → j = (zcg rl i).length := by
  intro i j r hr hj hfit hcomp
  have hin := ltn hr
  have hll : heaps.length = louds.length + 1 := by rw [hheaps]; simp
  rcases Nat.lt_trichotomy j (zcg rl i).length with h1 | h1 | h1
  ·exfalso
   have hle : (zcg rl i).length ≤ louds.length := by
    obtain ⟨x, hx, _⟩ := zf3 rl n i (by omega)
    rw [hlouds, hx]; simp
   have hm : louds[j]? = some louds[j] := by simp [show j < louds.length by omega]
   have hli : louds[j] < i := (zcf (p := rl) (n := n) (by omega) (by rw [← hlouds]; exact hm)).1 h1
   obtain ⟨y, hy, hyl, hyi⟩ := ldm (y0a hm)
   rcases hcomp y hyl (by rw [hyi]; omega) with h2 | h2
   ·have := (hfit j _ hm).1 ((ancM hr).2 (by rw [← hyi]; exact h2))
    omega
   ·have := hP.alt _ y hy i h2
    omega
  ·exact h1
  ·exfalso
   have hm : louds[(zcg rl i).length]? = some louds[(zcg rl i).length] := by simp [show (zcg rl i).length < louds.length by omega]
   have hge : ¬ louds[(zcg rl i).length] < i := fun hlt => by
    have := (zcf (p := rl) (n := n) (by omega) (by rw [← hlouds]; exact hm)).2 hlt
    omega
   obtain ⟨y, hy, hyl, hyi⟩ := ldm (y0a hm)
   by_cases he : louds[(zcg rl i).length] = i
   ·have := (hfit _ _ hm).2.1 he; omega
   ·rcases hcomp y hyl (by rw [hyi]; exact he) with h2 | h2
    ·have := hP.alt i r hr _ h2
     omega
    ·have := (hfit _ _ hm).2.2 _ (trAt hy) ((ancM hy).2 h2)
     omega
 generalize hrf : (fun i => zg8 (zo4 i 0 tr) S.tmps) = rf at *
 generalize hrest : zg8 (ios.filterMap (·.dst)) S.tmps = rest at *
 have chain : ∀ x ∈ zdg E rs, ∀ y ∈ zdg E rs, x.idx ≤ y.idx ∨ zat x.a y.idx = true := by
  intro x hx y hy
  have := y0d.1 (y0d.1 c3 x hx) y hy
  simp only [y13] at this
  exact this.imp y1g id
 have hll : heaps.length = louds.length + 1 := by rw [hheaps]; simp
 refine T_less (T_draw hE.mix rf rest tr louds heaps (Q := fun e1 S1 => e1 = .normal ∧ S1 = S.base rest tr (List.range ios.length) S'.hs) ⟨?_, ?_, ?_, ?_, ?_, ?_, hP.acyc, ?_, ?_, hll, ?_, ?_, ?_⟩ ?_) ?_
 ·rw [htr, y07, hP.len]
 ·-- free
  intro i d v hv
  rw [← hrf] at hv
  obtain ⟨h1, h2⟩ := zd8 hv
  refine ⟨h1, fun k t ht hd => ?_⟩
  rcases zi8 (i := i) (k := 0) ht hd with h3 | h3 | h3
  ·exact .inl (by omega)
  ·exact .inr h3
  ·rw [y1y] at h2
   simp [h3] at h2
 ·-- last
  intro d v hv
  rw [← hrest] at hv
  obtain ⟨h1, h2⟩ := zd8 hv
  refine ⟨h1, fun i t ht e => ?_⟩
  obtain ⟨r, hr, rfl⟩ := trGet ht
  have : d ∈ ios.filterMap (·.dst) := List.mem_filterMap.2 ⟨r.io, y0a (hP.at_ i r hr).2, e⟩
  rw [y1y] at h2
  simp [this] at h2
 ·exact hP.len2
 ·intro i io t hi ht
  obtain ⟨r, hr, rfl⟩ := trGet ht
  obtain ⟨r', hr', e1, _⟩ := rsAt hi
  rw [hr] at hr'; injection hr' with hr'; subst hr'
  exact ⟨by rw [← e1], y0d.1 c4 io (y0a hi)⟩
 ·intro i j t t' d h1 h2 h3 h4
  obtain ⟨r, hr, rfl⟩ := trGet h1
  obtain ⟨r', hr', rfl⟩ := trGet h2
  exact hnd i j r r' d hr hr' h3 h4
 ·intro i ps t hp ht q hq
  obtain ⟨r, hr, rfl⟩ := trGet ht
  obtain ⟨p, hpm, hor⟩ := hP.up i ps r hp hr q ((ancM hr).1 hq)
  exact ⟨p, hpm, hor.imp id fun ⟨s, k1, k2⟩ => ⟨_, trAt k1, (ancM k1).2 k2⟩⟩
 ·rw [hheaps]; rfl
 ·-- the heap's steps come one behind the other
  intro m l l' h1 h2
  obtain ⟨x, hx, hxl, hxi⟩ := ldm (y0a h1)
  obtain ⟨y, hy, hyl, hyi⟩ := ldm (y0a h2)
  refine ⟨_, trAt hy, (ancM hy).2 ?_⟩
  have hl' := (mem_upTo.1 (hlouds ▸ y0a h2)).1
  have c1' : m < (zcg rl l').length := by
   have h5 := (zcf (p := rl) (n := n) (i := l' + 1) (by omega) (by rw [← hlouds]; exact h2)).2 (by omega)
   rw [zc3] at h5
   simp at h5
   split at h5 <;> simp at h5 <;> omega
  have hlt : l < l' := (zcf (p := rl) (n := n) (by omega) (by rw [← hlouds]; exact h1)).1 c1'
  rcases chain y hyl x hxl with h3 | h3
  ·omega
  ·rw [hxi] at h3; exact h3
 ·intro l hl
  rw [hlouds] at hl
  have := (mem_upTo.1 hl).1
  omega
 ·-- each step
  intro i io t j H hi ht hH hfit
  obtain ⟨r, hr, rfl⟩ := trGet ht
  obtain ⟨r', hr', e1, hidx⟩ := rsAt hi
  rw [hr] at hr'; injection hr' with hr'; subst hr'
  subst e1
  have hin := ltn hr
  have hj : j < heaps.length := (y03.1 hH).1
  obtain ⟨ks, km⟩ := keep i (by omega)
  have eqT : ∀ d ∈ zch r.io, zan d (zd0 (Ss i).tmps (zch r.io)) = (Ss i).get d := fun d hd => zf0 hd
  have hinfo : ∀ d v, zan d (zd0 (Ss i).tmps (zch r.io)) = some v → zan d (S.base (rf i) tr (zcg (zat r.a) n) H).tmps = some v := by
   intro d v hv
   obtain ⟨hd, hv⟩ := zg9 hv
   have hrd := y0d.1 (y0d.1 c2 r (y0a hr)) d hd
   simp only [y13, Bool.not_eq_true'] at hrd
   show zan d (zfa tr (rf i) (zcg (zat r.a) n)) = some v
   rcases info i (by omega) d v hv with ⟨j', r', h1, h2, h3, h4⟩ | ⟨h1, h2⟩
   ·rcases hrd with (hrd | hrd) | hrd
    ·exact absurd h3 (zju hrd j' r' h2)
    rotate_left
    ·exfalso
     have h5 := y0d.1 hrd r' (y0a h2)
     rw [(zk2 _ _).2 h3, hidx] at h5
     have := hP.alt j' r' h2 i (by simpa using h5)
     omega
    ·obtain ⟨q, s, k1, k2, k3⟩ := hP.ofK i r hr d hrd
     obtain rfl := hnd _ _ _ _ d h2 k2 h3 k3
     refine zfu ⟨j', (ancM hr).2 k1, _, trAt h2, h3⟩ fun p hp t ht hd' => ?_
     obtain ⟨r2, hr2, rfl⟩ := trGet ht
     obtain rfl := hnd _ _ _ _ d h2 hr2 h3 hd'
     exact h4.symm
   ·have later : ∀ (p : Nat) (r2 : OI), rs[p]? = some r2 → r2.io.dst = some d → zat r2.a i = true := by
     intro p r2 hr2 hd2
     rcases hrd with (hrd | hrd) | hrd
     ·exact absurd hd2 (zju hrd p r2 hr2)
     ·exfalso
      obtain ⟨q, s, k1, k2, k3⟩ := hP.ofK i r hr d hrd
      exact absurd k3 (h1 q s (hP.alt i r hr q k1) k2)
     ·have h5 := y0d.1 hrd r2 (y0a hr2)
      rw [(zk2 _ _).2 hd2, hidx] at h5
      simpa using h5
    rw [zfm fun p hp t ht hd2 => by
     obtain ⟨r2, hr2, rfl⟩ := trGet ht
     have k1 := hP.alt p r2 hr2 i (later p r2 hr2 hd2)
     have k2 := hP.alt i r hr p ((ancM hr).1 hp)
     omega, ← hrf]
    show zan d (zg8 (zo4 i 0 tr) S.tmps) = some v
    rw [zfj fun hm => by
     obtain ⟨m, t, k1, k2, k3, k4⟩ := zj1 hm
     obtain ⟨r2, hr2, rfl⟩ := trGet k1
     exact k4 ((ancM hr2).2 (later m r2 hr2 k2))]
    exact h2
  have more : ∀ {B' : AS} {v : AV} {H' : HS}, B' = (((Ss i).withT (zd0 (Ss i).tmps (zch r.io))).withH H) → Stp P w0 N0 rd r.io B' (fun S2 v2 => v2 = v ∧ S2 = B'.withH H') → Stp P w0 N0 rd r.io (S.base (rf i) tr (zcg (zat r.a) n) H) fun S2 v2 => v2 = v ∧ S2 = (S.base (rf i) tr (zcg (zat r.a) n) H).withH H' := by
   intro B' v H' hB hs
   subst hB
   exact Stp.more (B' := ((Ss i).withT (zd0 (Ss i).tmps (zch r.io))).withH H) ks km rfl hinfo hs
  have wantB : ∀ {b : Bool}, zah (Ss i) r.io = some b → zah (S.base (rf i) tr (zcg (zat r.a) n) H) r.io = some b := by
   intro b hb
   refine zjv (B' := (Ss i).withT (zd0 (Ss i).tmps (zch r.io))) hinfo ?_
   rw [zrj eqT]; exact hb
  rcases (step hr).ok with ⟨h1, h2, h3, _⟩ | ⟨h1, h2, h3, _, h5, h6⟩ | ⟨h1, h2, h3, H1, h4, h5⟩
  ·exact .inl ⟨fun hm => (by rw [hlouds] at hm; have := (mem_upTo.1 hm).2; rw [h2] at this; cases this), wantB h1, h3⟩
  ·refine .inr ⟨wantB h1, .inl ⟨fun hm => (by rw [hlouds] at hm; have := (mem_upTo.1 hm).2; rw [h3] at this; cases this), ?_⟩⟩
   by_cases hall : ((zdg E rs).all fun y => zfc r y) = true
   ·have e2 := h6 (by rw [hall]; rfl)
    rw [← zm1 (E := E) (R := R) eqT] at e2
    by_cases hall2 : ((zdg E rs).all fun y => zat r.a y.idx || zat y.a r.idx) = true
    ·have hjc := cnt hr hj hfit fun y hy _ => by
      have := y0d.1 hall2 y hy
      rw [hidx] at this
      simpa using this
     have := heapAt i (by omega)
     rw [← hjc, hH] at this; injection this with this
     subst this
     exact more (H' := (Ss i).hs) rfl (zdn hE hR e2)
    ·have hld : zhn r.io.op = true := by
      rcases Bool.eq_false_or_eq_true (zhn r.io.op) with h | h
      ·exact h
      ·exfalso
       apply hall2
       rw [y0d] at hall ⊢
       intro y hy
       have := hall y hy
       simpa [zfc, h] using this
     obtain ⟨g, d, hop⟩ := znc hld
     have hni : i ∉ louds := fun hm => by rw [hlouds] at hm; have := (mem_upTo.1 hm).2; rw [h3] at this; cases this
     have one : ∀ (m l : Nat), louds[m]? = some l → ¬ (zat r.a l = true) → (∀ y : OI, rs[l]? = some y → ¬ (zat y.a i = true)) → FreshExt (heaps.getD m S.hs) (heaps.getD (m + 1) S.hs) := by
      intro m l hm hn1 hn2
      obtain ⟨y, hy, hyl, hyi⟩ := ldm (y0a hm)
      have hln := ltn hy
      have hsoft := y0d.1 hall y hyl
      have hfr : zj6 y.io.op = true := by
       simp only [zfc, y13, y0h] at hsoft
       rcases hsoft with (hs | hs) | hs
       ·rw [hyi] at hs; exact absurd hs hn1
       ·rw [hidx] at hs; exact absurd hs (hn2 y hy)
       ·exact hs.2
      have hcl : (zcg rl l).length = m := by
       have hrl : rl l = true := (mem_upTo.1 (hlouds ▸ y0a hm)).2
       have u1 := (zcf (p := rl) (n := n) (i := l) (by omega) (by rw [← hlouds]; exact hm)).1
       have u2 := (zcf (p := rl) (n := n) (i := l + 1) (by omega) (by rw [← hlouds]; exact hm)).2 (y0m _)
       rw [zc3, if_pos hrl, y0k, y1a] at u2
       have u3 : ¬ m < (zcg rl l).length := fun h => by have := u1 h; omega
       omega
      have hrl : rl l = true := (mem_upTo.1 (hlouds ▸ y0a hm)).2
      have g1 := heapAt l (by omega)
      have g2 := heapAt (l + 1) (by omega)
      rw [zc3, if_pos hrl, y0k, y1a, hcl] at g2
      rw [hcl] at g1
      have g1' : heaps.getD m S.hs = (Ss l).hs := by simp [List.getD, g1]
      have g2' : heaps.getD (m + 1) S.hs = (Ss (l + 1)).hs := by simp [List.getD, g2]
      rw [g1', g2']
      rcases (step hy).ok with ⟨_, k2, _, _⟩ | ⟨_, _, k3, _⟩ | ⟨_, _, _, H1, k4, k5⟩
      ·rw [hrl] at k2; cases k2
      ·rw [hrl] at k3; cases k3
      ·have := zk8 (P := P) (E := E) (R := R) hfr k4
       rw [k5]
       cases y.io.dst <;> exact this
     have hconn : FreshExt H (Ss i).hs ∨ FreshExt (Ss i).hs H := by
      have gi : heaps.getD (zcg rl i).length S.hs = (Ss i).hs := by simp [List.getD, heapAt i (by omega)]
      have gj : heaps.getD j S.hs = H := by simp [List.getD, hH]
      rcases Nat.le_total j (zcg rl i).length with hle | hle
      ·left
       rw [← gi, ← gj]
       refine zl2 (f := fun k => heaps.getD k S.hs) (fun k hk1 hk2 => ?_) hle
       have hkl : k < louds.length := by
        obtain ⟨x, hx, _⟩ := zf3 rl n i (by omega)
        rw [hlouds, hx, y0k]; omega
       have hm : louds[k]? = some louds[k] := by simp [hkl]
       have hlt : louds[k] < i := (zcf (p := rl) (n := n) (by omega) (by rw [← hlouds]; exact hm)).1 hk2
       refine one k _ hm (fun hb => ?_) (fun y hy hb => ?_)
       ·have := (hfit k _ hm).1 ((ancM hr).2 hb); omega
       ·have := hP.alt _ y hy i hb; omega
      ·right
       rw [← gi, ← gj]
       refine zl2 (f := fun k => heaps.getD k S.hs) (fun k hk1 hk2 => ?_) hle
       have hkl : k < louds.length := by omega
       have hm : louds[k]? = some louds[k] := by simp [hkl]
       have hge : ¬ louds[k] < i := fun hlt => by
        have := (zcf (p := rl) (n := n) (by omega) (by rw [← hlouds]; exact hm)).2 hlt
        omega
       refine one k _ hm (fun hb => ?_) (fun y hy hb => ?_)
       ·have := hP.alt i r hr _ hb; omega
       ·have := (hfit k _ hm).2.2 _ (trAt hy) ((ancM hy).2 hb); omega
     intro ops o hc n' I a w r' next Qc hR0 ho hk
     have hq : zb8 E R (((Ss i).withT (zd0 (Ss i).tmps (zch r.io))).withH H) r.io = some (vs i) := by
      refine zvo hop hconn (fun id st off hg => ?_) (fun id hid => hR0.hrel.free id hid) e2
      have hv := hR0.tmps.2 d _ (hinfo d _ hg)
      cases hv with
      | mptr _ hx =>
       obtain ⟨J, hJ, c1, _⟩ := hx
       injection hJ with hJ; subst hJ
       have h9 : I.clk = H.clk := hR0.clk
       omega
     exact more (H' := H) rfl (zdn hE hR hq) ops o hc n' I a w r' next Qc hR0 ho hk
   ·have e2 := h5 (by simpa using hall)
    rw [← zx6 (E := E) (R := R) eqT] at e2
    exact more (H' := H) rfl (zdn hE hR (zjs e2 H))
  ·have hlm : louds[(zcg rl i).length]? = some i := by rw [hlouds]; exact zm9 hin h3
   have hjc : j = (zcg rl i).length := cnt hr hj hfit fun y hy hne => by
    have hrl : r ∈ zdg E rs := zhc (y0a hr) h2
    rcases chain r hrl y hy with k | k
    ·rcases chain y hy r hrl with k' | k'
     ·omega
     ·rw [hidx] at k'; exact .inr k'
    ·exact .inl k
   have h0 := heapAt i (by omega)
   rw [← hjc, hH] at h0; injection h0 with h0
   subst h0
   refine .inr ⟨wantB h1, .inr ⟨by rw [hjc]; exact hlm, H1, ?_, ?_⟩⟩
   ·have := heapAt (i + 1) (by omega)
    rw [zc3, if_pos h3, y0k, y1a, ← hjc] at this
    rw [this, h5]
    cases r.io.dst <;> rfl
   ·refine more (H' := H1) rfl ?_
    rw [← zx4 (P := P) (E := E) (R := R) eqT] at h4
    exact zm7 hE hR h4
 ·intro H hH
  have := heapAt n (y0b _)
  rw [← hlouds, hH, sn] at this
  injection this with this
  exact ⟨rfl, by rw [this]⟩
 ·intro e S1 ⟨he, hS1⟩
  refine ⟨S', ⟨he, rfl⟩, fun I a w hrel => ?_⟩
  subst hS1
  obtain ⟨ks, km⟩ := keep n (y0b _)
  rw [sn] at ks km
  refine ⟨hrel.clk, ⟨by rw [ks]; exact hrel.tmps.1, fun d v hv => hrel.tmps.2 d v ?_⟩, hrel.hrel, by rw [km]; exact hrel.marks⟩
  show zan d (zfa tr rest (List.range ios.length)) = some v
  rw [← sn] at hv
  rcases info n (y0b _) d v hv with ⟨j, r, h1, h2, h3, h4⟩ | ⟨h1, h2⟩
  ·refine zfu ⟨j, by rw [hn]; simpa using h1, _, trAt h2, h3⟩ fun p hp t ht hd' => ?_
   obtain ⟨r2, hr2, rfl⟩ := trGet ht
   obtain rfl := hnd _ _ _ _ d h2 hr2 h3 hd'
   exact h4.symm
  ·rw [zfm fun p _ t ht => by obtain ⟨r2, hr2, rfl⟩ := trGet ht; exact h1 p r2 (ltn hr2) hr2, ← hrest, zfj]
   ·exact h2
   ·intro hm
    obtain ⟨io, hio, hd⟩ := List.mem_filterMap.1 hm
    obtain ⟨i, hi, rfl⟩ := y1j.1 hio
    obtain ⟨r, hr, e1, _⟩ := rsAt (i := i) (io := ios[i]) (by simp [hi])
    exact h1 i r (by omega) hr (by rw [e1]; exact hd)
end
def zlp : IOp → Bool
 | .store .. => true
 | .append .. => true
 | _ => false
def zpb (ld sd : Nat → Prop) (S : AS) : IOp → Prop
 | .load _ a => ∀ id sp off, S.arg a = some (.mptr id sp off) → ld id
 | .store _ p _ => ∀ id sp off, S.arg p = some (.mptr id sp off) → sd id
 | .append _ _ _ s _ => ∀ id sp sz off len cap, S.arg s = some (.ms id sp sz off len cap) → sd id
 | _ => True
def zmj (x y : OI) : Bool := zfc x y || (zhn x.io.op && zlp y.io.op)
def zul (E : Env) (lds : List OI) (x : OI) : Bool × Bool := (zpe E x.io.op, !(lds.all fun y => zmj x y))
def zx3 (E : Env) (ios : List Opr) (pres : List (List Nat)) (size : Nat) : Option (List (Bool × Bool)) :=
 match znn ios pres [] 0 with
 | some rs =>
  if ndM rs 0 && rs.all (zwf rs (wAll rs)) && (zdg E rs).all (fun x => (zdg E rs).all fun y => Nat.ble x.idx y.idx || zat x.a y.idx) && ios.all (fun io => zbx size io.dst) then some (rs.map (zul E (zdg E rs))) else none
 | none => none
section
variable {P : Program} {w0 w : World} {N0 : Nat} {S S' S1 : AS} {rd : Option (Nat × Nat)} {E : Env} {R : Rec} {io : Opr} {op : IOp} {v : AV} {H : HS}
structure ExtAt (id : Nat) (H H' : HS) : Prop where
 next : H.next ≤ H'.next
 clk : H.clk ≤ H'.clk
 look : Am.look id H'.heap = Am.look id H.heap ∨ (H.next ≤ id ∧ ∃ sp o, Am.look id H'.heap = some (sp, o) ∧ H.clk ≤ sp)
theorem FreshExt.at {H H' : HS} (h : FreshExt H H') (id : Nat) : ExtAt id H H' := ⟨h.next, h.clk, h.look id⟩
theorem ExtAt.refl (id : Nat) (H : HS) : ExtAt id H H := ⟨y0b _, y0b _, .inl rfl⟩
theorem ExtAt.trans {id : Nat} {H H' H'' : HS} (h : ExtAt id H H') (k : ExtAt id H' H'') : ExtAt id H H'' := by
 refine ⟨y0s h.next k.next, y0s h.clk k.clk, ?_⟩
 rcases k.look with e | ⟨e1, sp, o, e2, e3⟩
 ·rw [e]; exact h.look
 ·exact .inr ⟨y0s h.next e1, sp, o, e2, y0s h.clk e3⟩
theorem zog {id : Nat} {f : Nat → HS} {a : Nat} : ∀ {b : Nat}, (∀ k, a ≤ k → k < b → ExtAt id (f k) (f (k + 1))) → a ≤ b → ExtAt id (f a) (f b)
 | 0, _, h => by rw [show a = 0 by omega]; exact ExtAt.refl _ _
 | b + 1, hs, h => by
  by_cases e : a = b + 1
  ·subst e; exact ExtAt.refl _ _
  ·exact (zog (b := b) (fun k h1 h2 => hs k h1 (by omega)) (by omega)).trans (hs b (by omega) (y0m _))
theorem zrn {S1 : AS} {id sz b : Nat} {sv : AV} {es : List (List AV)} (hne : ∀ id2 sp2 sz2 off2 len2 cap2, sv = .ms id2 sp2 sz2 off2 len2 cap2 → id2 ≠ id) (h : zbi S sz b sv es = some (v, S1)) : ExtAt id S.hs S1.hs := by
 unfold zbi at h
 repeat' (split at h)
 all_goals simp only [y00, y09, reduceCtorEq] at h
 all_goals obtain ⟨_, rfl⟩ := h
 all_goals first
  | exact ExtAt.refl _ _
  | exact (newExt ..).at id
  | (
    refine ⟨y0b _, by first | exact y0b _ | exact y23 _, .inl ?_⟩
    show Am.look id (zaz _ _ S.heap) = Am.look id S.heap
    rw [za1, if_neg (hne _ _ _ _ _ _ rfl)])
theorem zsm {id : Nat} (hf : zlp io.op = true) (h : zdw P E R S io = some (v, H)) (hne : ∀ id2 sp2 off2 sz p x, io.op = .store sz p x → S.arg p = some (.mptr id2 sp2 off2) → id2 ≠ id)
  (hna : ∀ id2 sp2 sz2 off2 len2 cap2 sz b z s x, io.op = .append sz b z s x → S.arg s = some (.ms id2 sp2 sz2 off2 len2 cap2) → id2 ≠ id) : ExtAt id S.hs H := by
 unfold zdw zb8 zg4 at h
 cases hop : io.op <;> rw [hop] at hf <;> simp only [zlp, y0u] at hf
 case append sz b z s x =>
  simp only [hop, zbu, if_true] at h
  split at h
  ·rename_i v' S1 hi
   simp only [y00, y09] at h
   obtain ⟨_, rfl⟩ := h
   simp only [iop] at hi
   split at hi
   ·rename_i sv xv hs hx
    split at hi
    ·exact zrn (fun id2 sp2 sz2 off2 len2 cap2 e => hna id2 sp2 sz2 off2 len2 cap2 sz b z s x hop (e ▸ hs)) hi
    ·cases hi
   ·cases hi
  ·cases h
 rename_i sz p x
 simp only [hop, zbu, if_true] at h
 split at h
 ·rename_i v' S1 hi
  simp only [y00, y09] at h
  obtain ⟨_, rfl⟩ := h
  simp only [iop] at hi
  split at hi
  ·rename_i pv xv hp hx
   split at hi
   ·rename_i vs hc
    split at hi
    ·simp only [y01, y09] at hi
     obtain ⟨S2, hs, _, rfl⟩ := hi
     unfold AS.store at hs
     split at hs
     ·rename_i id2 sp2 off2
      split at hs
      ·split at hs
       ·simp only [y00] at hs
        subst hs
        refine ⟨y0b _, y0b _, .inl ?_⟩
        show Am.look id (zaz id2 _ S.heap) = Am.look id S.heap
        rw [za1, if_neg (hne id2 sp2 off2 sz p x hop hp)]
       ·cases hs
      ·cases hs
     ·cases hs
    ·cases hi
   ·cases hi
  ·cases hi
 ·cases h
theorem zne {T : TM} {l : List Nat} {d : Nat} (h : d ∈ l) : zan d (zd0 T l) = zan d T := zf0 h
theorem zs7 {g : Option Nat} {d : Nat} {X : AS} {H H' : HS} (hop : io.op = .load g (.t d)) (hx : ∀ id sp off, X.get d = some (.mptr id sp off) → ExtAt id H H' ∨ ExtAt id H' H) (hst : ∀ id st off, X.get d = some (.mptr id st off) → st < H.clk) (hfree : ∀ id, H.next ≤ id → look id H.heap = none)
  (h : zb8 E R (X.withH H') io = some v) : zb8 E R (X.withH H) io = some v := by
 have key : ∀ G : HS, zb8 E R (X.withH G) io = (X.get d).bind fun p => ((X.withH G).deref p).bind (zlq g) := by
  intro G
  have e1 : zb8 E R (X.withH G) io = (iop (X.withH G) (.load g (.t d))).map (·.1) := by
   unfold zb8
   split
   ·rename_i hc; rw [hop] at hc; cases hc
   ·rw [hop]; simp [zbu]
  rw [e1]
  simp only [iop, AS.arg]
  have eg : (X.withH G).get d = X.get d := rfl
  rw [eg]
  cases X.get d with
  | none => rfl
  | some p =>
   simp only [y2e]
   cases (X.withH G).deref p with
   | none => rfl
   | some cs =>
    cases g with
    | none => cases cs <;> rfl
    | some n => simp only [y2e, zlq]; split <;> rfl
 rw [key] at h ⊢
 cases hg : X.get d with
 | none => rw [hg] at h; cases h
 | some p =>
  rw [hg] at h
  simp only [y2e] at h ⊢
  have hd : (X.withH H').deref p ≠ none := by
   intro e; rw [e] at h; cases h
  have : (X.withH H).deref p = (X.withH H').deref p := by
   cases p <;> try (exact absurd rfl hd)
   ·rfl
   ·rename_i id st off
    have hst' := hst id st off hg
    simp only [AS.deref] at hd ⊢
    have e1 : (X.withH H').heap = H'.heap := rfl
    have e2 : (X.withH H).heap = H.heap := rfl
    have e3 : (X.withH H').next = H'.next := rfl
    have e4 : (X.withH H).next = H.next := rfl
    rw [e1, e3] at hd ⊢
    rw [e2, e4]
    cases hl : look id H'.heap with
    | none => rw [hl] at hd; exact absurd rfl hd
    | some x =>
     obtain ⟨st', o⟩ := x
     rw [hl] at hd
     cases o with
     | cells cs =>
      simp only at hd
      split at hd
      ·rename_i hc
       obtain ⟨hc1, hc2⟩ := hc
       have same : look id H.heap = look id H'.heap := by
        rcases hx id st off hg with hx | hx
        ·rcases hx.look with e | ⟨_, st2, o2, e, e5⟩
         ·exact e.symm
         ·rw [hl] at e; injection e with e; injection e with e _; omega
        ·rcases hx.look with e | ⟨e, _⟩
         ·exact e
         ·omega
       have hlt : id < H.next := by
        rcases y2d id H.next with h5 | h5
        ·exact h5
        ·have := hfree id h5; rw [same, hl] at this; cases this
       rw [same, hl]
       simp only [hc1, hc2, hlt, and_self, if_true]
      ·exact absurd rfl hd
     | _ => exact absurd rfl hd
  rw [this]; exact h
theorem zr4 : ∀ {ios : List Opr} {fl : List (Bool × Bool)} {S S' : AS}, zd6 P E R ios fl S = some S' → fl.length = ios.length ∧
  ∃ (Ss : Nat → AS) (vs : Nat → AV) (rl : Nat → Bool), Ss 0 = S ∧ Ss ios.length = S' ∧
   (∀ (i : Nat) (io : Opr) (q ind : Bool), ios[i]? = some io → fl[i]? = some (q, ind) → StepR P E R (Ss i) io q ind (vs i) (rl i) (Ss (i + 1))) ∧
   ∀ i, i ≤ ios.length → zd6 P E R (ios.take i) (fl.take i) S = some (Ss i)
 | [], [], S, S', h => by
  simp only [zd6, y00] at h
  exact ⟨rfl, fun _ => S, fun _ => .top, fun _ => false, rfl, h, by simp, fun i _ => by simp [zd6]⟩
 | io :: ios, (q, ind) :: fl, S, S', h => by
  have go : ∀ {v : AV} {run : Bool} {S1 : AS}, StepR P E R S io q ind v run S1 → (∀ l r, zd6 P E R (io :: l) ((q, ind) :: r) S = zd6 P E R l r S1) → zd6 P E R ios fl S1 = some S' → ((q, ind) :: fl).length = (io :: ios).length ∧
    ∃ (Ss : Nat → AS) (vs : Nat → AV) (rl : Nat → Bool), Ss 0 = S ∧ Ss (io :: ios).length = S' ∧
     (∀ (i : Nat) (io' : Opr) (q' ind' : Bool), (io :: ios)[i]? = some io' → ((q, ind) :: fl)[i]? = some (q', ind') → StepR P E R (Ss i) io' q' ind' (vs i) (rl i) (Ss (i + 1))) ∧
     ∀ i, i ≤ (io :: ios).length → zd6 P E R ((io :: ios).take i) (((q, ind) :: fl).take i) S = some (Ss i) := by
   intro v run S1 hs hrun hr
   obtain ⟨h1, Ss, vs, rl, h2, h3, h4, h5⟩ := zr4 hr
   refine ⟨by simp [h1], fun i => match i with | 0 => S | i + 1 => Ss i, fun i => match i with | 0 => v | i + 1 => vs i, fun i => match i with | 0 => run | i + 1 => rl i, rfl, h3, fun i io' q' ind' e1 e2 => ?_, fun i hi => ?_⟩
   ·cases i with
    | zero =>
     simp at e1 e2
     obtain ⟨e2, e3⟩ := e2
     subst e1 e2 e3
     show StepR P E R S io q ind v run (Ss 0)
     rw [h2]; exact hs
    | succ i => exact h4 i io' q' ind' (by simpa using e1) (by simpa using e2)
   ·cases i with
    | zero => simp [zd6]
    | succ i =>
     rw [y1o, y1o, hrun]
     exact h5 i (by simpa using hi)
  simp only [zd6] at h
  split at h
  ·rename_i hw
   split at h
   ·rename_i hq
    split at h <;> try cases h
    rename_i v hv
    exact go (run := false) ⟨.inr (.inl ⟨hw, hq, rfl, rfl, fun hi => by rw [if_pos hi] at hv; exact hv, fun hi => by rw [if_neg (by rw [hi]; simp)] at hv; exact hv⟩)⟩ (fun l r => by simp only [zd6, hw, hq, if_true, hv]) h
   ·rename_i hq
    split at h <;> try cases h
    rename_i v H hv
    exact go (run := true) ⟨.inr (.inr ⟨hw, by simpa using hq, rfl, H, hv, rfl⟩)⟩ (fun l r => by simp only [zd6, hw, if_neg hq, hv]) h
  ·rename_i hw
   exact go (run := false) ⟨.inl ⟨hw, rfl, rfl, rfl⟩⟩ (fun l r => by simp only [zd6, hw]) h
  ·cases h
 | [], _ :: _, _, _, h => by simp [zd6] at h
 | _ :: _, [], _, _, h => by simp [zd6] at h
theorem TA_stat2 (hE : EnvOk P E) (hR : zg0 P R) {ios : List Opr} {pres : List (List Nat)} {fl : List (Bool × Bool)} (hst : zx3 E ios pres S.size = some fl) (h : zd6 P E R ios fl S = some S') {ld sd : Nat → Prop} (hdis : ∀ id, ld id → sd id → False)
  (hops : ∀ (i : Nat) (io : Opr) (Si : AS), ios[i]? = some io → zd6 P E R (ios.take i) (fl.take i) S = some Si → zah Si io = some true → zpb ld sd Si io.op) :
  TA P w0 N0 rd ios pres S fun S1 => S1 = S' := by
 unfold zx3 at hst
 split at hst <;> try cases hst
 rename_i rs hrs
 split at hst <;> try cases hst
 rename_i hc
 simp only [y0h] at hc
 obtain ⟨⟨⟨c1, c2⟩, c3⟩, c4⟩ := hc
 have hP : PassOk ios pres rs := by
  have := zm0 (ios := ios) (pres := pres) (done := []) (dpres := []) (acc := []) (len := 0) ⟨rfl, rfl, by simp, by simp, by simp, by simp, by simp⟩ rfl hrs
  simpa using this
 obtain ⟨_, hnd⟩ := zqm c1
 obtain ⟨_, Ss, vs, rl, s0, sn, hstep, hpre⟩ := zr4 h
 generalize hn : ios.length = n at *
 have rsAt : ∀ {i : Nat} {io : Opr}, ios[i]? = some io → ∃ r, rs[i]? = some r ∧ r.io = io ∧ r.idx = i := by
  intro i io hi
  have hlt : i < rs.length := by rw [hP.len]; exact (y03.1 hi).1
  refine ⟨rs[i], by simp [hlt], ?_, (hP.at_ i _ (by simp [hlt])).1⟩
  have := (hP.at_ i rs[i] (by simp [hlt])).2
  rw [hi] at this; injection this with this; exact this.symm
 have step : ∀ {i : Nat} {r : OI}, rs[i]? = some r → StepR P E R (Ss i) r.io (zpe E r.io.op) (!((zdg E rs).all fun y => zmj r y)) (vs i) (rl i) (Ss (i + 1)) := by
  intro i r hr
  exact hstep i r.io _ _ (hP.at_ i r hr).2 (by simp [zul, hr])
 have ltn : ∀ {i : Nat} {r : OI}, rs[i]? = some r → i < n := fun hr => by have := (y03.1 hr).1; rw [hP.len] at this; omega
 have atn : ∀ {i : Nat}, i < n → ∃ r, rs[i]? = some r := by
  intro i hi
  have : i < rs.length := by rw [hP.len]; omega
  exact ⟨rs[i], by simp [this]⟩
 -- what stays, what is known, and the heaps
 have keep : ∀ i, i ≤ n → (Ss i).size = S.size ∧ (Ss i).marks = S.marks := by
  intro i
  induction i with
  | zero => intro _; rw [s0]; exact ⟨rfl, rfl⟩
  | succ i ih =>
   intro hi
   obtain ⟨r, hr⟩ := atn (show i < n by omega)
   obtain ⟨k1, k2, _⟩ := (step hr).kept
   exact ⟨k1.trans (ih (by omega)).1, k2.trans (ih (by omega)).2⟩
 have info : ∀ i, i ≤ n → ∀ d v, zan d (Ss i).tmps = some v → (∃ j r, j < i ∧ rs[j]? = some r ∧ r.io.dst = some d ∧ v = vs j) ∨ ((∀ j r, j < i → rs[j]? = some r → r.io.dst ≠ some d) ∧ zan d S.tmps = some v) := by
  intro i
  induction i with
  | zero => intro _ d v hv; rw [s0] at hv; exact .inr ⟨fun j r hj => by omega, hv⟩
  | succ i ih =>
   intro hi d v hv
   obtain ⟨r, hr⟩ := atn (show i < n by omega)
   obtain ⟨_, _, k3, _⟩ := (step hr).kept
   rw [k3] at hv
   rcases zqs hv with ⟨e1, e2⟩ | ⟨e1, e2⟩
   ·exact .inl ⟨i, r, by omega, hr, e1, e2⟩
   ·rcases ih (by omega) d v e2 with ⟨j, r', h1, h2, h3, h4⟩ | ⟨h1, h2⟩
    ·exact .inl ⟨j, r', by omega, h2, h3, h4⟩
    ·refine .inr ⟨fun j r' hj hr' => ?_, h2⟩
     rcases y2d j i with hji | hji
     ·exact h1 j r' hji hr'
     ·obtain rfl : j = i := by omega
      rw [hr] at hr'; injection hr' with hr'; subst hr'; exact e1
 obtain ⟨louds, hlouds⟩ : ∃ l, l = zcg rl n := ⟨_, rfl⟩
 obtain ⟨heaps, hheaps⟩ : ∃ l : List HS, l = S.hs :: louds.map (fun l => (Ss (l + 1)).hs) := ⟨_, rfl⟩
 have heapAt : ∀ i, i ≤ n → heaps[(zcg rl i).length]? = some (Ss i).hs := by
  intro i
  induction i with
  | zero => intro _; rw [hheaps, s0]; rfl
  | succ i ih =>
   intro hi
   obtain ⟨r, hr⟩ := atn (show i < n by omega)
   obtain ⟨_, _, _, k4, _⟩ := (step hr).kept
   rw [zc3]
   by_cases hrl : rl i = true
   ·rw [if_pos hrl, y0k, y1a, hheaps, List.getElem?_cons_succ, y0f, hlouds, zm9 (show i < n by omega) hrl]
    rfl
   ·rw [if_neg hrl, y0r, k4 (by simpa using hrl)]
    exact ih (by omega)
 have ldm : ∀ {l : Nat}, l ∈ louds → ∃ r, rs[l]? = some r ∧ r ∈ zdg E rs ∧ r.idx = l := by
  intro l hl
  rw [hlouds] at hl
  obtain ⟨h1, h2⟩ := mem_upTo.1 hl
  obtain ⟨r, hr⟩ := atn h1
  obtain ⟨_, _, _, _, k5⟩ := (step hr).kept
  exact ⟨r, hr, zhc (y0a hr) (k5 h2), (hP.at_ l r hr).1⟩
 -- the record of the run
 obtain ⟨tr, htr⟩ : ∃ l : List Tr, l = rs.map (fun r => (⟨r.io.dst, vs r.idx, zcg (zat r.a) n⟩ : Tr)) := ⟨_, rfl⟩
 have trAt : ∀ {i : Nat} {r : OI}, rs[i]? = some r → tr[i]? = some ⟨r.io.dst, vs i, zcg (zat r.a) n⟩ := by
  intro i r hr
  rw [htr, y0f, hr, ← (hP.at_ i r hr).1]; rfl
 have trGet : ∀ {i : Nat} {t : Tr}, tr[i]? = some t → ∃ r, rs[i]? = some r ∧ t = ⟨r.io.dst, vs i, zcg (zat r.a) n⟩ := by
  intro i t ht
  have hlt : i < rs.length := by have := (y03.1 ht).1; rw [htr, y07] at this; exact this
  refine ⟨rs[i], by simp [hlt], ?_⟩
  have := trAt (i := i) (r := rs[i]) (by simp [hlt])
  rw [ht] at this; injection this
 have ancM : ∀ {i q : Nat} {r : OI}, rs[i]? = some r → (q ∈ zcg (zat r.a) n ↔ zat r.a q = true) := by
  intro i q r hr
  refine mem_upTo.trans ⟨fun h => h.2, fun h => ⟨?_, h⟩⟩
  have := hP.alt i r hr q h
  have := ltn hr
  omega
 have cnt : ∀ {i j : Nat} {r : OI}, rs[i]? = some r → j < heaps.length → Fits tr louds i ⟨r.io.dst, vs i, zcg (zat r.a) n⟩ j → (∀ y ∈ zdg E rs, y.idx ≠ i → zat r.a y.idx = true ∨ zat y.a i = true) → j = (zcg rl i).length := by
  intro i j r hr hj hfit hcomp
  have hin := ltn hr
  have hll : heaps.length = louds.length + 1 := by rw [hheaps]; simp
  rcases Nat.lt_trichotomy j (zcg rl i).length with h1 | h1 | h1
  ·exfalso
   have hle : (zcg rl i).length ≤ louds.length := by
    obtain ⟨x, hx, _⟩ := zf3 rl n i (by omega)
    rw [hlouds, hx]; simp
   have hm : louds[j]? = some louds[j] := by simp [show j < louds.length by omega]
   have hli : louds[j] < i := (zcf (p := rl) (n := n) (by omega) (by rw [← hlouds]; exact hm)).1 h1
   obtain ⟨y, hy, hyl, hyi⟩ := ldm (y0a hm)
   rcases hcomp y hyl (by rw [hyi]; omega) with h2 | h2
   ·have := (hfit j _ hm).1 ((ancM hr).2 (by rw [← hyi]; exact h2))
    omega
   ·have := hP.alt _ y hy i h2
    omega
  ·exact h1
  ·exfalso
   have hm : louds[(zcg rl i).length]? = some louds[(zcg rl i).length] := by simp [show (zcg rl i).length < louds.length by omega]
   have hge : ¬ louds[(zcg rl i).length] < i := fun hlt => by
    have := (zcf (p := rl) (n := n) (by omega) (by rw [← hlouds]; exact hm)).2 hlt
    omega
   obtain ⟨y, hy, hyl, hyi⟩ := ldm (y0a hm)
   by_cases he : louds[(zcg rl i).length] = i
   ·have := (hfit _ _ hm).2.1 he; omega
   ·rcases hcomp y hyl (by rw [hyi]; exact he) with h2 | h2
    ·have := hP.alt i r hr _ h2
     omega
    ·have := (hfit _ _ hm).2.2 _ (trAt hy) ((ancM hy).2 h2)
     omega
 generalize hrf : (fun i => zg8 (zo4 i 0 tr) S.tmps) = rf at *
 generalize hrest : zg8 (ios.filterMap (·.dst)) S.tmps = rest at *
 have chain : ∀ x ∈ zdg E rs, ∀ y ∈ zdg E rs, x.idx ≤ y.idx ∨ zat x.a y.idx = true := by
  intro x hx y hy
  have := y0d.1 (y0d.1 c3 x hx) y hy
  simp only [y13] at this
  exact this.imp y1g id
 have hll : heaps.length = louds.length + 1 := by rw [hheaps]; simp
 refine TA_less (TA_draw rf rest tr louds heaps (K := fun S1 => S1 = S.base rest tr (List.range ios.length) S'.hs) ⟨?_, ?_, ?_, ?_, ?_, ?_, hP.acyc, ?_, ?_, hll, ?_, ?_, ?_⟩ ?_) ?_
 ·rw [htr, y07, hP.len]
 ·-- free
  intro i d v hv
  rw [← hrf] at hv
  obtain ⟨h1, h2⟩ := zd8 hv
  refine ⟨h1, fun k t ht hd => ?_⟩
  rcases zi8 (i := i) (k := 0) ht hd with h3 | h3 | h3
  ·exact .inl (by omega)
  ·exact .inr h3
  ·rw [y1y] at h2
   simp [h3] at h2
 ·-- last
  intro d v hv
  rw [← hrest] at hv
  obtain ⟨h1, h2⟩ := zd8 hv
  refine ⟨h1, fun i t ht e => ?_⟩
  obtain ⟨r, hr, rfl⟩ := trGet ht
  have : d ∈ ios.filterMap (·.dst) := List.mem_filterMap.2 ⟨r.io, y0a (hP.at_ i r hr).2, e⟩
  rw [y1y] at h2
  simp [this] at h2
 ·exact hP.len2
 ·intro i io t hi ht
  obtain ⟨r, hr, rfl⟩ := trGet ht
  obtain ⟨r', hr', e1, _⟩ := rsAt hi
  rw [hr] at hr'; injection hr' with hr'; subst hr'
  exact ⟨by rw [← e1], y0d.1 c4 io (y0a hi)⟩
 ·intro i j t t' d h1 h2 h3 h4
  obtain ⟨r, hr, rfl⟩ := trGet h1
  obtain ⟨r', hr', rfl⟩ := trGet h2
  exact hnd i j r r' d hr hr' h3 h4
 ·intro i ps t hp ht q hq
  obtain ⟨r, hr, rfl⟩ := trGet ht
  obtain ⟨p, hpm, hor⟩ := hP.up i ps r hp hr q ((ancM hr).1 hq)
  exact ⟨p, hpm, hor.imp id fun ⟨s, k1, k2⟩ => ⟨_, trAt k1, (ancM k1).2 k2⟩⟩
 ·rw [hheaps]; rfl
 ·-- the heap's steps come one behind the other
  intro m l l' h1 h2
  obtain ⟨x, hx, hxl, hxi⟩ := ldm (y0a h1)
  obtain ⟨y, hy, hyl, hyi⟩ := ldm (y0a h2)
  refine ⟨_, trAt hy, (ancM hy).2 ?_⟩
  have hl' := (mem_upTo.1 (hlouds ▸ y0a h2)).1
  have c1' : m < (zcg rl l').length := by
   have h5 := (zcf (p := rl) (n := n) (i := l' + 1) (by omega) (by rw [← hlouds]; exact h2)).2 (by omega)
   rw [zc3] at h5
   simp at h5
   split at h5 <;> simp at h5 <;> omega
  have hlt : l < l' := (zcf (p := rl) (n := n) (by omega) (by rw [← hlouds]; exact h1)).1 c1'
  rcases chain y hyl x hxl with h3 | h3
  ·omega
  ·rw [hxi] at h3; exact h3
 ·intro l hl
  rw [hlouds] at hl
  have := (mem_upTo.1 hl).1
  omega
 ·-- each step
  intro i io t j H hi ht hH hfit
  obtain ⟨r, hr, rfl⟩ := trGet ht
  obtain ⟨r', hr', e1, hidx⟩ := rsAt hi
  rw [hr] at hr'; injection hr' with hr'; subst hr'
  subst e1
  have hin := ltn hr
  have hj : j < heaps.length := (y03.1 hH).1
  obtain ⟨ks, km⟩ := keep i (by omega)
  have eqT : ∀ d ∈ zch r.io, zan d (zd0 (Ss i).tmps (zch r.io)) = (Ss i).get d := fun d hd => zf0 hd
  have hinfo : ∀ d v, zan d (zd0 (Ss i).tmps (zch r.io)) = some v → zan d (S.base (rf i) tr (zcg (zat r.a) n) H).tmps = some v := by
   intro d v hv
   obtain ⟨hd, hv⟩ := zg9 hv
   have hrd := y0d.1 (y0d.1 c2 r (y0a hr)) d hd
   simp only [y13, Bool.not_eq_true'] at hrd
   show zan d (zfa tr (rf i) (zcg (zat r.a) n)) = some v
   rcases info i (by omega) d v hv with ⟨j', r', h1, h2, h3, h4⟩ | ⟨h1, h2⟩
   ·rcases hrd with (hrd | hrd) | hrd
    ·exact absurd h3 (zju hrd j' r' h2)
    rotate_left
    ·exfalso
     have h5 := y0d.1 hrd r' (y0a h2)
     rw [(zk2 _ _).2 h3, hidx] at h5
     have := hP.alt j' r' h2 i (by simpa using h5)
     omega
    ·obtain ⟨q, s, k1, k2, k3⟩ := hP.ofK i r hr d hrd
     obtain rfl := hnd _ _ _ _ d h2 k2 h3 k3
     refine zfu ⟨j', (ancM hr).2 k1, _, trAt h2, h3⟩ fun p hp t ht hd' => ?_
     obtain ⟨r2, hr2, rfl⟩ := trGet ht
     obtain rfl := hnd _ _ _ _ d h2 hr2 h3 hd'
     exact h4.symm
   ·have later : ∀ (p : Nat) (r2 : OI), rs[p]? = some r2 → r2.io.dst = some d → zat r2.a i = true := by
     intro p r2 hr2 hd2
     rcases hrd with (hrd | hrd) | hrd
     ·exact absurd hd2 (zju hrd p r2 hr2)
     ·exfalso
      obtain ⟨q, s, k1, k2, k3⟩ := hP.ofK i r hr d hrd
      exact absurd k3 (h1 q s (hP.alt i r hr q k1) k2)
     ·have h5 := y0d.1 hrd r2 (y0a hr2)
      rw [(zk2 _ _).2 hd2, hidx] at h5
      simpa using h5
    rw [zfm fun p hp t ht hd2 => by
     obtain ⟨r2, hr2, rfl⟩ := trGet ht
     have k1 := hP.alt p r2 hr2 i (later p r2 hr2 hd2)
     have k2 := hP.alt i r hr p ((ancM hr).1 hp)
     omega, ← hrf]
    show zan d (zg8 (zo4 i 0 tr) S.tmps) = some v
    rw [zfj fun hm => by
     obtain ⟨m, t, k1, k2, k3, k4⟩ := zj1 hm
     obtain ⟨r2, hr2, rfl⟩ := trGet k1
     exact k4 ((ancM hr2).2 (later m r2 hr2 k2))]
    exact h2
  have more : ∀ {B' : AS} {v : AV} {H' : HS}, B' = (((Ss i).withT (zd0 (Ss i).tmps (zch r.io))).withH H) → Stp P w0 N0 rd r.io B' (fun S2 v2 => v2 = v ∧ S2 = B'.withH H') → Stp P w0 N0 rd r.io (S.base (rf i) tr (zcg (zat r.a) n) H) fun S2 v2 => v2 = v ∧ S2 = (S.base (rf i) tr (zcg (zat r.a) n) H).withH H' := by
   intro B' v H' hB hs
   subst hB
   exact Stp.more (B' := ((Ss i).withT (zd0 (Ss i).tmps (zch r.io))).withH H) ks km rfl hinfo hs
  have wantB : ∀ {b : Bool}, zah (Ss i) r.io = some b → zah (S.base (rf i) tr (zcg (zat r.a) n) H) r.io = some b := by
   intro b hb
   refine zjv (B' := (Ss i).withT (zd0 (Ss i).tmps (zch r.io))) hinfo ?_
   rw [zrj eqT]; exact hb
  rcases (step hr).ok with ⟨h1, h2, h3, _⟩ | ⟨h1, h2, h3, _, h5, h6⟩ | ⟨h1, h2, h3, H1, h4, h5⟩
  ·exact .inl ⟨fun hm => (by rw [hlouds] at hm; have := (mem_upTo.1 hm).2; rw [h2] at this; cases this), wantB h1, h3⟩
  ·refine .inr ⟨wantB h1, .inl ⟨fun hm => (by rw [hlouds] at hm; have := (mem_upTo.1 hm).2; rw [h3] at this; cases this), ?_⟩⟩
   by_cases hall : ((zdg E rs).all fun y => zmj r y) = true
   ·have e2 := h6 (by rw [hall]; rfl)
    rw [← zm1 (E := E) (R := R) eqT] at e2
    by_cases hall2 : ((zdg E rs).all fun y => zat r.a y.idx || zat y.a r.idx) = true
    ·have hjc := cnt hr hj hfit fun y hy _ => by
      have := y0d.1 hall2 y hy
      rw [hidx] at this
      simpa using this
     have := heapAt i (by omega)
     rw [← hjc, hH] at this; injection this with this
     subst this
     exact more (H' := (Ss i).hs) rfl (zdn hE hR e2)
    ·have hld : zhn r.io.op = true := by
      rcases Bool.eq_false_or_eq_true (zhn r.io.op) with h | h
      ·exact h
      ·exfalso
       apply hall2
       rw [y0d] at hall ⊢
       intro y hy
       have := hall y hy
       simpa [zmj, zfc, h] using this
     obtain ⟨g, d, hop⟩ := znc hld
     have hni : i ∉ louds := fun hm => by rw [hlouds] at hm; have := (mem_upTo.1 hm).2; rw [h3] at this; cases this
     have one : ∀ id sp off, (Ss i).get d = some (.mptr id sp off) → ∀ (m l : Nat), louds[m]? = some l → ¬ (zat r.a l = true) → (∀ y : OI, rs[l]? = some y → ¬ (zat y.a i = true)) → ExtAt id (heaps.getD m S.hs) (heaps.getD (m + 1) S.hs) := by
      intro id sp off hgd m l hm hn1 hn2
      obtain ⟨y, hy, hyl, hyi⟩ := ldm (y0a hm)
      have hln := ltn hy
      have hsoft := y0d.1 hall y hyl
      have hfr : zj6 y.io.op = true ∨ zlp y.io.op = true := by
       simp only [zmj, zfc, y13, y0h] at hsoft
       rcases hsoft with ((hs | hs) | hs) | hs
       ·rw [hyi] at hs; exact absurd hs hn1
       ·rw [hidx] at hs; exact absurd hs (hn2 y hy)
       ·exact .inl hs.2
       ·exact .inr hs.2
      have hcl : (zcg rl l).length = m := by
       have hrl : rl l = true := (mem_upTo.1 (hlouds ▸ y0a hm)).2
       have u1 := (zcf (p := rl) (n := n) (i := l) (by omega) (by rw [← hlouds]; exact hm)).1
       have u2 := (zcf (p := rl) (n := n) (i := l + 1) (by omega) (by rw [← hlouds]; exact hm)).2 (y0m _)
       rw [zc3, if_pos hrl, y0k, y1a] at u2
       have u3 : ¬ m < (zcg rl l).length := fun h => by have := u1 h; omega
       omega
      have hrl : rl l = true := (mem_upTo.1 (hlouds ▸ y0a hm)).2
      have g1 := heapAt l (by omega)
      have g2 := heapAt (l + 1) (by omega)
      rw [zc3, if_pos hrl, y0k, y1a, hcl] at g2
      rw [hcl] at g1
      have g1' : heaps.getD m S.hs = (Ss l).hs := by simp [List.getD, g1]
      have g2' : heaps.getD (m + 1) S.hs = (Ss (l + 1)).hs := by simp [List.getD, g2]
      rw [g1', g2']
      rcases (step hy).ok with ⟨_, k2, _, _⟩ | ⟨_, _, k3, _⟩ | ⟨k0, _, _, H1, k4, k5⟩
      ·rw [hrl] at k2; cases k2
      ·rw [hrl] at k3; cases k3
      ·have key : ExtAt id (Ss l).hs H1 := by
        rcases hfr with hfr | hfr
        ·exact (zk8 (P := P) (E := E) (R := R) hfr k4).at id
        ·have hl1 : ld id := by
          have := hops i r.io (Ss i) hi (hpre i (by omega)) h1
          rw [hop] at this
          exact this id sp off hgd
         refine zsm (P := P) (E := E) (R := R) hfr k4 (fun id2 sp2 off2 sz p v hop2 hp2 e => ?_) fun id2 sp2 sz2 off2 len2 cap2 sz b z s x hop2 hp2 e => ?_
         ·have := hops l y.io (Ss l) (hP.at_ l y hy).2 (hpre l (by omega)) k0
          rw [hop2] at this
          exact hdis id hl1 (e ▸ this id2 sp2 off2 hp2)
         ·have := hops l y.io (Ss l) (hP.at_ l y hy).2 (hpre l (by omega)) k0
          rw [hop2] at this
          exact hdis id hl1 (e ▸ this id2 sp2 sz2 off2 len2 cap2 hp2)
       rw [k5]
       cases y.io.dst <;> exact key
     have hconn : ∀ id sp off, (Ss i).get d = some (.mptr id sp off) → ExtAt id H (Ss i).hs ∨ ExtAt id (Ss i).hs H := by
      intro id sp off hgd
      have gi : heaps.getD (zcg rl i).length S.hs = (Ss i).hs := by simp [List.getD, heapAt i (by omega)]
      have gj : heaps.getD j S.hs = H := by simp [List.getD, hH]
      rcases Nat.le_total j (zcg rl i).length with hle | hle
      ·left
       rw [← gi, ← gj]
       refine zog (f := fun k => heaps.getD k S.hs) (fun k hk1 hk2 => ?_) hle
       have hkl : k < louds.length := by
        obtain ⟨x, hx, _⟩ := zf3 rl n i (by omega)
        rw [hlouds, hx, y0k]; omega
       have hm : louds[k]? = some louds[k] := by simp [hkl]
       have hlt : louds[k] < i := (zcf (p := rl) (n := n) (by omega) (by rw [← hlouds]; exact hm)).1 hk2
       refine one id sp off hgd k _ hm (fun hb => ?_) (fun y hy hb => ?_)
       ·have := (hfit k _ hm).1 ((ancM hr).2 hb); omega
       ·have := hP.alt _ y hy i hb; omega
      ·right
       rw [← gi, ← gj]
       refine zog (f := fun k => heaps.getD k S.hs) (fun k hk1 hk2 => ?_) hle
       have hkl : k < louds.length := by omega
       have hm : louds[k]? = some louds[k] := by simp [hkl]
       have hge : ¬ louds[k] < i := fun hlt => by
        have := (zcf (p := rl) (n := n) (by omega) (by rw [← hlouds]; exact hm)).2 hlt
        omega
       refine one id sp off hgd k _ hm (fun hb => ?_) (fun y hy hb => ?_)
       ·have := hP.alt i r hr _ hb; omega
       ·have := (hfit k _ hm).2.2 _ (trAt hy) ((ancM hy).2 hb); omega
     intro ops o hc n' I a w r' next Qc hR0 ho hk
     have hq : zb8 E R (((Ss i).withT (zd0 (Ss i).tmps (zch r.io))).withH H) r.io = some (vs i) := by
      refine zs7 hop (fun id st off hg => hconn id st off ((zne (y1m _ (by rw [hop]; simp [zbc, zck]))).symm.trans hg)) (fun id st off hg => ?_) (fun id hid => hR0.hrel.free id hid) e2
      have hv := hR0.tmps.2 d _ (hinfo d _ hg)
      cases hv with
      | mptr _ hx =>
       obtain ⟨J, hJ, c1, _⟩ := hx
       injection hJ with hJ; subst hJ
       have h9 : I.clk = H.clk := hR0.clk
       omega
     exact more (H' := H) rfl (zdn hE hR hq) ops o hc n' I a w r' next Qc hR0 ho hk
   ·have e2 := h5 (by simpa using hall)
    rw [← zx6 (E := E) (R := R) eqT] at e2
    exact more (H' := H) rfl (zdn hE hR (zjs e2 H))
  ·have hlm : louds[(zcg rl i).length]? = some i := by rw [hlouds]; exact zm9 hin h3
   have hjc : j = (zcg rl i).length := cnt hr hj hfit fun y hy hne => by
    have hrl : r ∈ zdg E rs := zhc (y0a hr) h2
    rcases chain r hrl y hy with k | k
    ·rcases chain y hy r hrl with k' | k'
     ·omega
     ·rw [hidx] at k'; exact .inr k'
    ·exact .inl k
   have h0 := heapAt i (by omega)
   rw [← hjc, hH] at h0; injection h0 with h0
   subst h0
   refine .inr ⟨wantB h1, .inr ⟨by rw [hjc]; exact hlm, H1, ?_, ?_⟩⟩
   ·have := heapAt (i + 1) (by omega)
    rw [zc3, if_pos h3, y0k, y1a, ← hjc] at this
    rw [this, h5]
    cases r.io.dst <;> rfl
   ·refine more (H' := H1) rfl ?_
    rw [← zx4 (P := P) (E := E) (R := R) eqT] at h4
    exact zm7 hE hR h4
 ·intro H hH
  have := heapAt n (y0b _)
  rw [← hlouds, hH, sn] at this
  injection this with this
  rw [this]
 ·intro S1 hS1
  refine ⟨S', rfl, fun I a w hrel => ?_⟩
  subst hS1
  obtain ⟨ks, km⟩ := keep n (y0b _)
  rw [sn] at ks km
  refine ⟨hrel.clk, ⟨by rw [ks]; exact hrel.tmps.1, fun d v hv => hrel.tmps.2 d v ?_⟩, hrel.hrel, by rw [km]; exact hrel.marks⟩
  show zan d (zfa tr rest (List.range ios.length)) = some v
  rw [← sn] at hv
  rcases info n (y0b _) d v hv with ⟨j, r, h1, h2, h3, h4⟩ | ⟨h1, h2⟩
  ·refine zfu ⟨j, by rw [hn]; simpa using h1, _, trAt h2, h3⟩ fun p hp t ht hd' => ?_
   obtain ⟨r2, hr2, rfl⟩ := trGet ht
   obtain rfl := hnd _ _ _ _ d h2 hr2 h3 hd'
   exact h4.symm
  ·rw [zfm fun p _ t ht => by obtain ⟨r2, hr2, rfl⟩ := trGet ht; exact h1 p r2 (ltn hr2) hr2, ← hrest, zfj]
   ·exact h2
   ·intro hm
    obtain ⟨io, hio, hd⟩ := List.mem_filterMap.1 hm
    obtain ⟨i, hi, rfl⟩ := y1j.1 hio
    obtain ⟨r, hr, e1, _⟩ := rsAt (i := i) (io := ios[i]) (by simp [hi])
    exact h1 i r (by omega) hr (by rw [e1]; exact hd)
end
structure Fz where
 d : Nat → Bool
 f : FuncId → Bool
 o : FuncId → List AV → Option AV
def isFz (fz : Fz) (io : Opr) : Bool := match io.op with
 | .bslice .. => (match io.dst with
  | some d => fz.d d
  | none => false)
 | .call (.c (.fn f [] [])) _ => fz.f f
 | _ => false
def PFn (P : Program) (f : FuncId) (args : List AV) (v : AV) : Prop :=
 Ent P f ∧ ∀ (ro : Nat → Prop) (w : World) (us : Array Value), GOk ro w → CRel w ro none args us → Calls P f us w fun e w' => ∃ u, e = .returned u ∧ Below w.heap.size w w' ∧ VRel w' (fun b => w.heap.size ≤ b) none v u
def fsl (S : AS) : IOp → Option AV
 | .bslice sz len z ps => match S.parts ps with
  | some l => match zbq z l with
   | some cs => if hasM.hasML cs = false then some (.vs (zd2 sz len cs)) else none
   | none => none
  | none => none
 | _ => none
def fslQ (fz : Fz) (S : AS) : IOp → Option AV
 | .call (.c (.fn f [] [])) args => match S.args args with
  | some vs => fz.o f (vs.map (S.view VD))
  | none => none
 | op => fsl S op
def fslI (fz : Fz) (S : AS) : IOp → Option AV
 | .call (.c (.fn f [] [])) args => match S.args args with
  | some vs => if hasM.hasML vs = true then none else fz.o f (vs.map (S.view VD))
  | none => none
 | op => fsl S op
def quietZ (fz : Fz) (E : Env) (R : Rec) (S : AS) (io : Opr) : Option AV := if isFz fz io = true then fslQ fz S io.op else zb8 E R S io
def stepZ (fz : Fz) (E : Env) (R : Rec) (S : AS) (io : Opr) : Option AV := if isFz fz io = true then fslI fz S io.op else zfx E R S io
structure StepZ (fz : Fz) (P : Program) (E : Env) (R : Rec) (S : AS) (io : Opr) (q ind : Bool) (v : AV) (run : Bool) (S1 : AS) : Prop where
 ok : (zah S io = some false ∧ run = false ∧ v = .tup [] ∧ S1 = S.put io.dst v) ∨
  (zah S io = some true ∧ q = true ∧ run = false ∧ S1 = S.put io.dst v ∧ (ind = true → stepZ fz E R S io = some v) ∧ (ind = false → quietZ fz E R S io = some v)) ∨
  (zah S io = some true ∧ q = false ∧ run = true ∧ ∃ H, zdw P E R S io = some (v, H) ∧ S1 = (S.withH H).put io.dst v)
section
variable {P : Program} {w0 w : World} {N0 : Nat} {I : LI} {S S' S1 : AS} {TT : TM} {a : Act} {rd : Option (Nat × Nat)} {E : Env} {R : Rec} {io : Opr} {op : IOp} {v : AV} {H : HS} {fz : Fz}
theorem ro_new (hR : Rel w0 N0 I S a w) : I.ro w.heap.size := by
 refine ⟨hR.hrel.okN _ (y0s hR.hrel.base hR.hrel.below.size), fun id st base n hl => ?_⟩
 obtain ⟨oo, hoo⟩ := hR.hrel.locs _ _ _ hl
 obtain ⟨_, l, hl', hol⟩ := hR.hrel.heap _ _ _ hoo
 rw [hl] at hl'; injection hl' with hl'; subst hl'
 have hlt : w.heap.size < w.heap.size := by
  cases oo with
  | cells cs => obtain ⟨c, elem, h1, _⟩ := hol; exact (y08.1 h1).1
  | loop => obtain ⟨c, h1, _⟩ := hol; exact (y08.1 h1).1
  | deferred => exact (y08.1 hol).1
  | map es => obtain ⟨c, elem, h1, _⟩ := hol; exact (y08.1 h1).1
 omega
theorem zxh {w : World} {ro : Nat → Prop} {L : Option LI} {v : AV} {u : Value} (h : VRel w ro L v u) : hasM v = false → VRel w ro none v u := by
 induction h with
 | mptr => intro hm; simp [hasM] at hm
 | ms => intro hm; simp [hasM] at hm
 | yield => intro hm; simp [hasM] at hm
 | mapv => intro hm; simp [hasM] at hm
 | agg h1 _ ih => intro hm; exact .agg h1 fun i x hx => ih i x hx (zbd hm i x hx)
 | tup h1 _ ih => intro hm; exact .tup h1 fun i x hx => ih i x hx (zbd hm i x hx)
 | fn h1 h2 _ _ ihf ihc =>
  intro hm
  simp only [hasM, y1f] at hm
  exact .fn h1 h2 (fun i x hx => ihf i x hx (zbd hm.1 i x hx)) fun i x hx => ihc i x hx (zbd hm.2 i x hx)
 | top => intro _; exact .top
 | bool => intro _; exact .bool
 | int => intro _; exact .int
 | str => intro _; exact .str
 | nilp => intro _; exact .nilp
 | vptr us hc hv _ => intro _; exact .vptr us hc hv
 | nils => intro _; exact .nils
 | vs us a b c d e f _ => intro _; exact .vs us a b c d e f
 | nilf => intro _; exact .nilf
 | rng a b => intro _; exact .rng a b
 | ints a => intro _; exact .ints a
 | strA a b c => intro _; exact .strA a b c
theorem s_fslice (h : Rel w0 N0 I S a w) {t e : TypeId} {s len : Nat} {z : List AV} {parts : Array (Nat × Operand)} {ps : List (Nat × Nat × Arg)} (hu : P.underlying t = some (.slice e)) (hs : sizeOf? P e = some s) (hz : zd7 P e = some z)
  (h0 : s ≠ 0) (h1 : len * s ≤ 16777216) (h2 : z.length = s) (hp : zcq (fun i => some (i * s, s)) parts.toList = some ps) (hr : fsl S (.bslice s len (zf9 len z) ps) = some v) :
  ∃ u w' I', (Instr.buildSlice t len (parts.map fun (i, x) => (i, a.eval x))).run P w = .ok u w' ∧ VRel w' I'.ro (some I') v u ∧ Rel w0 N0 I' S a w' ∧ Evo I w I' w' := by
 simp only [fsl] at hr
 split at hr
 ·rename_i l hl
  split at hr
  ·rename_i cs hcs
   split at hr <;> try cases hr
   rename_i hM
   obtain ⟨inf, u, hi, hzz, hcr⟩ := zdo hz
   have hcr0 := hcr w I.ro (some I)
   have rc := zeo hcr0 (by omega) len
   rw [h2] at rc
   obtain ⟨us, f1, f2⟩ := zi1 h _ parts.toList ps l _ cs _ hp hl hcs rc
   have f1' : Instr.fill (fun i => some (i * s, s)) ((Array.range (len * s)).map fun i => u.cells[i % u.cells.size]!) ((parts.map fun (i, x) => (i, a.eval x)).toList) = some us := by
    rw [← f1]; simp
   have hB : Below w.heap.size w (w.alloc (.cells us e)) := (Below.refl _ _).alloc (y0b _) _
   obtain ⟨k1, k2⟩ := h.hrel.below' hB
   have hcl : cs.length = len * s := by
    rw [← f2.1]
    have : ∀ (xs : List (Nat × Value)) (c r : Array Value), Instr.fill (fun i => some (i * s, s)) c xs = some r → r.size = c.size := by
     intro xs
     induction xs with
     | nil => intro c r hh; simp [Instr.fill] at hh; rw [hh]
     | cons x xs ih =>
      intro c r hh
      simp only [Instr.fill] at hh
      split at hh
      ·cases hh
      ·rw [ih _ _ hh, zeh]
    rw [this _ _ _ f1']; simp
   refine ⟨.slice (some ⟨w.heap.size, 0, none⟩) len len, w.alloc (.cells us e), I, ?_, ?_, ⟨h.clk, h.tmps.evo k2, k1, h.marks⟩, k2⟩
   ·by_cases hl0 : len = 0
    ·subst hl0
     have er : Array.range (0 * s) = #[] := by rw [y2s]; rfl
     rw [er] at f1'
     simp only [Instr.buildSlice, Sem.run_bind, za6 hu, Result.andThen_ok, zbt hs, y2s, y1w, gt_iff_lt, if_false, if_true, Sem.run_pure]
     rw [y2s] at er
     simp only [er, Array.map_empty] at f1' ⊢
     simp only [f1', newRow, Sem.run_bind, run_newObj, Result.andThen_ok, Sem.run_pure]
     rfl
    ·have n1 : ¬ (len * s = 0) := by rw [Nat.mul_eq_zero]; omega
     have n2 : ¬ (len * s > 2 ^ 24) := by omega
     simp only [Instr.buildSlice, Sem.run_bind, za6 hu, Result.andThen_ok, zbt hs, n2, if_false, Sem.run_pure, n1, zeroValue, typeInfo, run_program, hi, hzz, f1', newRow, run_newObj]
     rfl
   ·have hsz : us.size = len * s := by rw [f2.1, hcl]
    have hget : ∀ i j x y, (zd2 s len cs)[i]? = some x → x[j]? = some y → cs[i * s + j]? = some y := by
     intro i j x y hi hj
     rw [ziu _ _ _ _ _ hi] at hj
     have hjl : j < s := by have := (y03.1 hj).1; simp at this; omega
     rw [y1b hjl, y1c] at hj
     exact hj
    refine .vs (sz := s) (b := w.heap.size) (off := 0) (fun i j => us.getD (i * s + j) undef) (zcl _ _ _).symm (y0b _) (fun _ => rfl) (zfo s len _ (by omega)) (fun i j x y hi hj => ?_) fun i j x y hi hj => ?_
    ·have hc := hget i j x y hi hj
     have hlt : i * s + j < us.size := by rw [f2.1]; exact (y03.1 hc).1
     refine ⟨ro_new h, ?_⟩
     rw [y1u]
     have hh : (w.alloc (.cells us e)).heap[w.heap.size]? = some (.cells us e (0, 0)) := World.alloc_heap_new _ _
     simp only [World.cell?, hh]
     simp [hlt, y02]
    ·have hc := hget i j x y hi hj
     exact (zxh (f2.2 _ _ hc) (zbd hM _ _ hc)).mono (fun b i x hb hc => k2.ro b i x hb hc) trivial
  ·cases hr
 ·cases hr
theorem ro_ge (hR : Rel w0 N0 I S a w) {b : Nat} (hb : w.heap.size ≤ b) : I.ro b := by
 refine ⟨hR.hrel.okN _ (y0s (y0s hR.hrel.base hR.hrel.below.size) hb), fun id st base n hl => ?_⟩
 obtain ⟨oo, hoo⟩ := hR.hrel.locs _ _ _ hl
 obtain ⟨_, l, hl', hol⟩ := hR.hrel.heap _ _ _ hoo
 rw [hl] at hl'; injection hl' with hl'; subst hl'
 have hlt : b < w.heap.size := by
  cases oo with
  | cells cs => obtain ⟨c, elem, h1, _⟩ := hol; exact (y08.1 h1).1
  | loop => obtain ⟨c, h1, _⟩ := hol; exact (y08.1 h1).1
  | deferred => exact (y08.1 hol).1
  | map es => obtain ⟨c, elem, h1, _⟩ := hol; exact (y08.1 h1).1
 omega
theorem Stp_pfn {f : FuncId} {args : List Arg} {vs : List AV} (hop : io.op = .call (.c (.fn f [] [])) args) (ha : S.args args = some vs) (hc : PFn P f (vs.map (S.view VD)) v) : Stp P w0 N0 rd io S (fun S2 v2 => S2 = S ∧ v2 = v) := fun ops o hcom n I a w r next Qc hR ho hk => by
 have hcop := zk5 hcom (by rw [hop]; simp)
 have hcop0 := hcop
 rw [hop] at hcop
 obtain ⟨ff, xs, ts, hoo, hf', hl⟩ := zl5 hcop
 have hfv := hR.arg hf' (show S.arg (.c (.fn f [] [])) = some (.fn f [] []) from rfl)
 generalize hfe : a.eval ff = fu at hfv
 cases hfv with
 | @fn _ _ _ _ fs cs g1 g2 g3 g4 =>
  refine ⟨fun _ _ => trivial, ?_⟩
  show Oper.uponIn (Wd r) n P _ a next Qc ((Oper.semAt r a.eval _).run P w)
  rw [Oper.semAt_eq r a.eval _ (zen hcop0), zns hoo hfe hc.1 w]
  refine ⟨fun e => by simp [zfn] at e, ?_⟩
  obtain ⟨x1, x2⟩ := hR.args hl ha
  have hcr : CRel w I.ro (some I) (([] : List AV) ++ vs ++ []) (fs ++ xs.map a.eval ++ cs) := CRel.app (CRel.app ⟨g1, g3⟩ ⟨x1, x2⟩) ⟨g2, g4⟩
  rw [y22, y0r] at hcr
  obtain ⟨c1, c2⟩ := zh2 hR hcr
  refine zdx ((hc.2 I.ok w _ (hR.hrel.glob.mono fun b i x hb hc => ⟨hb.1, hc⟩) c1).mono fun e w' ⟨u, h1, h2, h3⟩ => ?_)
  subst h1
  obtain ⟨k1, k2⟩ := hR.hrel.below' h2
  exact hk I S v u w' ⟨rfl, rfl⟩ ⟨hR.clk, hR.tmps.evo k2, k1, hR.marks⟩ ((h3.mono (ro' := I.ro) (w' := w') (fun b i x hb hc => ⟨ro_ge hR hb, hc⟩) (L' := none) trivial).pure) k2
theorem zs3 {o : Op} {sz len : Nat} {z : List AV} {ps : List (Nat × Nat × Arg)} (hc : zbn P o = some (.bslice sz len z ps)) : ∃ t e z0 parts, o = .buildSlice t len parts ∧ P.underlying t = some (.slice e) ∧ sizeOf? P e = some sz ∧ zd7 P e = some z0 ∧ sz ≠ 0 ∧ len * sz ≤ 16777216 ∧ z0.length = sz ∧ z = zf9 len z0 ∧ zcq (fun i => some (i * sz, sz)) parts.toList = some ps := by
 unfold zbn at hc
 repeat' (split at hc)
 all_goals first
  | (simp only [reduceCtorEq] at hc; done)
  | (simp only [y01, reduceCtorEq, and_false, exists_false] at hc; done)
  | (simp only [y00, reduceCtorEq] at hc; done)
  | (simp at hc; done)
  | skip
 rename_i t len' parts _ e hu _ _ s z0 hs hz hcond
 simp only [y01, IOp.bslice.injEq] at hc
 obtain ⟨ps', h1, rfl, rfl, rfl, rfl⟩ := hc
 exact ⟨t, e, z0, parts, rfl, hu, hs, hz, by omega, by omega, by omega, rfl, h1⟩
theorem StepZ.kept {q ind run : Bool} (h : StepZ fz P E R S io q ind v run S1) : S1.size = S.size ∧ S1.marks = S.marks ∧ S1.tmps = (S.put io.dst v).tmps ∧ (run = false → S1.hs = S.hs) ∧ (run = true → q = false) := by
 have p1 : ∀ S0 : AS, (S0.put io.dst v).size = S0.size ∧ (S0.put io.dst v).marks = S0.marks ∧ (S0.put io.dst v).hs = S0.hs := fun S0 => by cases io.dst <;> exact ⟨rfl, rfl, rfl⟩
 rcases h.ok with ⟨_, h2, _, rfl⟩ | ⟨_, _, h2, rfl, _⟩ | ⟨_, h1, h2, H, _, rfl⟩
 ·exact ⟨(p1 S).1, (p1 S).2.1, rfl, fun _ => (p1 S).2.2, fun e => by rw [h2] at e; cases e⟩
 ·exact ⟨(p1 S).1, (p1 S).2.1, rfl, fun _ => (p1 S).2.2, fun e => by rw [h2] at e; cases e⟩
 ·refine ⟨(p1 _).1, (p1 _).2.1, ?_, fun e => (by rw [h2] at e; cases e), fun _ => h1⟩
  cases io.dst <;> rfl
end
def runD (P : Program) (E : Env) (R : Rec) (ios : List Opr) (pres : List (List Nat)) (S : AS) : Option AS :=
 match zm6 E ios pres S.size with
 | some fl => match zd6 P E R ios fl S with
  | some S1 => some S1
  | none => zhg P E R ios pres S
 | none => zhg P E R ios pres S
def iter (body : AS → Option (Exit × AS)) : Nat → AS → Option (Exit × AS)
 | 0, _ => none
 | n + 1, S => match body S with
  | some (.normal, S1) => iter body n S1
  | r => r
def zvy : LoopState → Bool
 | .busy => false
 | _ => true
def zic (r : Option (AV × HS)) (S : AS) (lid lst : Nat) (marks : List (Nat × Nat)) : Option (Exit × AS) :=
 match r with
 | some (_, H2) => match look lid H2.heap with
  | some (lst', .loop stt pe _ _ _ _ _ _) =>
   if (lst' == lst && zvy stt && zgt marks (zd4 lid H2.heap)) = true then
    match zn0 pe with
    | some e => some (e, ⟨S.size, S.tmps, zd4 lid H2.heap, H2.next, H2.clk, marks⟩)
    | none => none
   else none
  | _ => none
 | none => none
def zfw (P : Program) (E : Env) (R : Rec) (rd : Option (Nat × Nat)) : IC → AS → Option (Exit × AS)
 | .skip, S => some (.normal, S)
 | .region ios none, S => match zsu P E R ios S with
  | some S' => some (.normal, S')
  | none => none
 | .region ios (some pres), S => match runD P E R ios pres S with
  | some S' => some (.normal, S')
  | none => none
 | .seq a b, S => match zfw P E R rd a S with
  | some (.normal, S') => zfw P E R rd b S'
  | r => r
 | .cond c a b, S => match S.arg c with
  | some (.bool true) => zfw P E R rd a S
  | some (.bool false) => zfw P E R rd b S
  | _ => none
 | .block id b, S => match zfw P E R rd b S with
  | some (.exit i, S') => if i = id then some (.normal, S') else some (.exit i, S')
  | r => r
 | .loop b, S => iter (zfw P E R rd b) E.fuel S
 | .rangeFunc g ps ca cb _ _, S => match S.arg g with
  | some (.fn fid first cap) => match rd with
   | none => zic (R.f fid (first ++ [.yield (S.next + 1) (S.clk + 1)] ++ cap) (S.rangeOuter ps ca cb)) S (S.next + 1) (S.clk + 1) ((S.next, S.clk) :: S.marks)
   | some (idr, str) => match look idr S.heap with
    | some (str', .loop _ _ _ _ _ _ _ df) => if str' = str then zic (R.f fid (first ++ [.yield S.next S.clk] ++ cap) (S.rangeInner ps ca cb df)) S S.next S.clk S.marks else none
    | _ => none
  | _ => none
 | .exit id, S => some (.exit id, S)
 | .ret, S => some (.ret, S)
section
variable {P : Program} {w0 w : World} {N0 : Nat} {S S' S1 : AS} {rd : Option (Nat × Nat)} {Q : Exit → AS → Prop} {E : Env} {R : Rec} {io : Opr} {v : AV} {H : HS}
theorem runD_ok (hE : EnvOk P E) (hR : zg0 P R) {ios : List Opr} {pres : List (List Nat)} (h : runD P E R ios pres S = some S') : T P w0 N0 rd (.region ios (some pres)) S fun e1 S1 => e1 = .normal ∧ S1 = S' := by
 unfold runD at h
 split at h
 ·rename_i fl hs
  split at h
  ·rename_i S1 hr
   injection h with h; subst h
   exact T_stat hE hR hs hr
  ·exact zkq hE hR h
 ·exact zkq hE hR h
theorem iter_ok {body : AS → Option (Exit × AS)} {ic : IC} (hb : ∀ S e S', body S = some (e, S') → T P w0 N0 rd ic S fun e1 S1 => e1 = e ∧ S1 = S') {n : Nat} {e : Exit} (h : iter body n S = some (e, S')) :
  T P w0 N0 rd (.loop ic) S fun e1 S1 => e1 = e ∧ S1 = S' := by
 refine T_loop (fun m S => iter body m S = some (e, S')) h fun m S hS => ?_
 cases m with
 | zero => simp [iter] at hS
 | succ m =>
  simp only [iter] at hS
  split at hS
  ·rename_i S1 h1
   exact ze7 (hb _ _ _ h1) fun e2 S2 ⟨k1, k2⟩ => by subst k1 k2; exact ⟨m, _, y0m _, fun I _ w h => ⟨I, h, Evo.refl I w⟩, hS⟩
  ·rename_i r hr
   refine ze7 (hb _ _ _ hS) fun e2 S2 ⟨k1, k2⟩ => ?_
   subst k1 k2
   cases e2 with
   | normal => exact absurd hS (hr S2)
   | _ => exact ⟨rfl, rfl⟩
theorem zsc {s : LoopState} (h : zvy s = true) : s ≠ .busy := by intro e; subst e; cases h
theorem zjn {r : Option (AV × HS)} {lid lst : Nat} {marks : List (Nat × Nat)} {e : Exit} (h : zic r S lid lst marks = some (e, S')) : ∃ v H2, r = some (v, H2) ∧ zt0 S lid lst marks (fun e1 S1 => e1 = e ∧ S1 = S') H2 := by
 unfold zic at h
 split at h <;> try cases h
 rename_i v H2
 split at h <;> try cases h
 rename_i lst' stt pe size tmps ps ca cb df hl
 split at h <;> try cases h
 rename_i hc
 simp only [y0h, beq_iff_eq] at hc
 obtain ⟨⟨rfl, h2⟩, h3⟩ := hc
 split at h <;> try cases h
 rename_i e1 he
 exact ⟨v, H2, rfl, stt, pe, _, _, _, _, _, _, _, hl, zsc h2, he, zke h3, rfl, rfl⟩
theorem zwo (hE : EnvOk P E) (hR : zg0 P R) : ∀ {ic : IC} {S : AS} {e : Exit} {S' : AS}, zfw P E R rd ic S = some (e, S') → T P w0 N0 rd ic S fun e1 S1 => e1 = e ∧ S1 = S' := by
 intro ic
 induction ic with
 | skip => intro S e S' h; simp only [zfw, y00, y09] at h; obtain ⟨rfl, rfl⟩ := h; exact T_skip ⟨rfl, rfl⟩
 | region ios draw =>
  intro S e S' h
  cases draw with
  | none =>
   simp only [zfw] at h
   split at h <;> try cases h
   rename_i hr
   exact zpp (fun ops l hm n I a w r Qc hR' ho hk => zpg hE hR hr ops l hm n I a w r Qc hR' ho fun I' S' a' w' hS => hk I' S' a' w' ⟨rfl, hS⟩)
  | some pres =>
   simp only [zfw] at h
   split at h <;> try cases h
   rename_i hr
   exact runD_ok hE hR hr
 | seq a b iha ihb =>
  intro S e S' h
  simp only [zfw] at h
  split at h
  ·rename_i S1 h1
   exact T_seq (ze7 (iha h1) fun e2 S2 ⟨k1, k2⟩ => by subst k1 k2; exact ihb h)
  ·rename_i r hr
   refine T_seq (ze7 (iha h) fun e2 S2 ⟨k1, k2⟩ => ?_)
   subst k1 k2
   cases e2 with
   | normal => exact absurd h (hr S2)
   | _ => exact ⟨rfl, rfl⟩
 | cond c a b iha ihb =>
  intro S e S' h
  simp only [zfw] at h
  split at h
  ·rename_i hc; exact zt4 hc (iha h)
  ·rename_i hc; exact zt4 hc (ihb h)
  ·cases h
 | block id b ih =>
  intro S e S' h
  simp only [zfw] at h
  split at h
  ·rename_i i S1 h1
   refine zo6 (ze7 (ih h1) fun e2 S2 ⟨k1, k2⟩ => ?_)
   subst k1 k2
   simp only [zii]
   split at h
   ·rename_i hi; rw [if_pos hi]; simp only [y00, y09] at h; exact ⟨h.1, h.2⟩
   ·rename_i hi; rw [if_neg hi]; simp only [y00, y09] at h; exact ⟨h.1, h.2⟩
  ·rename_i r hr
   refine zo6 (ze7 (ih h) fun e2 S2 ⟨k1, k2⟩ => ?_)
   subst k1 k2
   cases e2 with
   | exit i => exact absurd h (hr i S2)
   | _ => exact ⟨rfl, rfl⟩
 | loop b ih =>
  intro S e S' h
  simp only [zfw] at h
  exact iter_ok (fun S e S' => ih) h
 | rangeFunc g ps ca cb ia ib _ _ =>
  intro S e S' h
  simp only [zfw] at h
  split at h <;> try cases h
  rename_i fid first cap hg
  cases rd with
  | none =>
   simp only at h
   obtain ⟨v, H2, h1, h2⟩ := zjn h
   exact zge hg fun _ _ => (hR.1 _ _ _ _ _ h1 w0 N0).mono fun v' H' ⟨_, e2⟩ => by subst e2; exact h2
  | some x =>
   obtain ⟨idr, str⟩ := x
   simp only at h
   split at h <;> try cases h
   rename_i str' s0 p0 size0 tmps0 ps0 ca0 cb0 df hl
   split at h <;> try cases h
   rename_i e1; subst e1
   obtain ⟨v, H2, h1, h2⟩ := zjn h
   exact zkw hl hg fun _ _ => (hR.1 _ _ _ _ _ h1 w0 N0).mono fun v' H' ⟨_, e2⟩ => by subst e2; exact h2
 | exit id => intro S e S' h; simp only [zfw, y00, y09] at h; obtain ⟨rfl, rfl⟩ := h; exact T_exit ⟨rfl, rfl⟩
 | ret => intro S e S' h; simp only [zfw, y00, y09] at h; obtain ⟨rfl, rfl⟩ := h; exact T_ret ⟨rfl, rfl⟩
def isOut : Exit → Bool
 | .normal | .ret => true
 | _ => false
def runF (P : Program) (E : Env) (R : Rec) (f : FuncId) (args : List AV) (H : HS) : Option (AV × HS) :=
 match E.sum f args H with
 | some r => some r
 | none => match E.fn f with
 | some i =>
  if args.length ≤ i.size then
   match zfw P E R none i.ic (AS.enter i.size args H) with
   | some (e, S') => if isOut e then
     match S'.leave.res i.res with
     | some v => some (v, S'.leave.hs)
     | none => none
    else none
   | none => none
  else none
 | none => none
theorem runF_ok (hE : EnvOk P E) (hR : zg0 P R) {f : FuncId} {args : List AV} {H' : HS} (h : runF P E R f args H = some (v, H')) : FT P w0 N0 f args H fun v1 H1 => v1 = v ∧ H1 = H' := by
 unfold runF at h
 split at h
 ·rename_i r hs
  simp only [y00] at h; subst h
  exact hE.sum _ _ _ _ _ hs w0 N0
 split at h <;> try cases h
 rename_i i hi
 split at h <;> try cases h
 rename_i hn
 split at h <;> try cases h
 rename_i e S' hr
 split at h <;> try cases h
 rename_i hout
 split at h <;> try cases h
 rename_i v1 hv
 obtain ⟨fn, code, k1, k2, k3, k4, k5, k6⟩ := hE.fn f i hi
 refine zsx k1 k2 k3 k6 (by rw [k4]; exact hn) k5 ?_
 rw [k4]
 refine ze7 (zwo hE hR hr) fun e2 S2 ⟨e1, e3⟩ => ?_
 subst e1 e3
 refine ⟨by cases e2 <;> simp [isOut] at hout <;> simp, v, hv, rfl, rfl⟩
def lvl (P : Program) (E : Env) (n : Nat) : Rec :=
 Nat.rec ⟨fun _ _ _ => none, fun _ _ _ => none⟩ (fun _ R => ⟨runF P E R, zfw P E R⟩) n
theorem lvl_ok (hE : EnvOk P E) (n : Nat) : zg0 P (lvl P E n) := by
 induction n with
 | zero =>
  refine ⟨?_, ?_⟩
  ·intro f args H v H' h; cases h
  ·intro rd ic S e S' h; cases h
 | succ n ih => exact ⟨fun _ _ _ _ _ h _ _ => runF_ok hE ih h, fun _ _ _ _ _ h _ _ => zwo hE ih h⟩
end
end Go.Am
