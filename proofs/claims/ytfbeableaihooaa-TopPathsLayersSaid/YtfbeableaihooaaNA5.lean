/-
  AN ABSTRACT MACHINE FOR PROOFS, PART 5. A general base for proofs: no program is named here.
-/
import Derived.Test.YtfbeableaihooaaNA4
namespace Go.Am
open Go Go.RowKit
def AS.withT (S : AS) (T : TM) : AS := { S with tmps := T }
def zco : Arg → List Nat
 | .t n => [n]
 | .c _ => []
def zh3 : List Arg → List Nat
 | [] => []
 | a :: l => zco a ++ zh3 l
def zjy : Option Arg → List Nat
 | none => []
 | some a => zco a
def zj1 : List (Nat × Nat × Arg) → List Nat
 | [] => []
 | x :: l => zco x.2.2 ++ zj1 l
def zb5 : IOp → List Nat
 | .mov a | .box a | .load _ a | .nilchk a | .un _ a | .conv _ a | .faddr _ a | .field _ _ a | .extract a _ | .len _ a | .capo a | .nilq _ a | .boxT _ a | .uptr _ a | .sdata a => zco a
 | .pick c a b => zco c ++ (zco a ++ zco b)
 | .alloc _ | .lenc _ | .mkmap | .bad => []
 | .build _ ps | .bslice _ _ _ ps => zj1 ps
 | .store _ a v => zco a ++ zco v
 | .bin _ x y | .eqb _ x y | .eqs _ _ x y => zco x ++ zco y
 | .mkfn _ a b => zh3 a ++ zh3 b
 | .mkslice _ _ _ l c => zco l ++ zco c
 | .slsl _ x lo hi mx => zco x ++ (zjy lo ++ (zjy hi ++ zjy mx))
 | .slarr _ _ x lo hi | .slstr x lo hi => zco x ++ (zjy lo ++ zjy hi)
 | .idxs _ x i | .idxarr _ _ x i | .idxagg _ _ _ x i | .idxstr x i => zco x ++ zco i
 | .append _ _ _ s x | .appendz _ _ _ s x | .appendT _ _ s x | .peq _ s x | .ustr _ s x => zco s ++ zco x
 | .copy _ d s => zco d ++ zco s
 | .clear _ _ x => zco x
 | .mapset _ m k v => zco m ++ (zco k ++ zco v)
 | .mapget _ _ _ m k => zco m ++ zco k
 | .minmax _ l => zh3 l
 | .call f l => zco f ++ zh3 l
def zcl (io : Opr) : List Nat := (match io.guard with | some (d, _) => [d] | none => []) ++ zb5 io.op
def zcy (T : TM) : List Nat → TM
 | [] => .nil
 | d :: l => setT d (zar d T) (zcy T l)
theorem zel {T : TM} {d : Nat} : ∀ {l : List Nat}, d ∈ l → zar d (zcy T l) = zar d T
 | [], h => by cases h
 | k :: l, h => by
  simp only [zcy, zea]
  by_cases e : k = d
  ·subst e; rw [if_pos rfl]
  ·rw [if_neg e]
   rcases y0n.1 h with h | h
   ·exact absurd h.symm e
   ·exact zel h
theorem zfx {T : TM} {d : Nat} {v : AV} : ∀ {l : List Nat}, zar d (zcy T l) = some v → d ∈ l ∧ zar d T = some v
 | [], h => by simp [zcy, zdb] at h
 | k :: l, h => by
  simp only [zcy, zea] at h
  by_cases e : k = d
  ·subst e; rw [if_pos rfl] at h; exact ⟨y08 .., h⟩
  ·rw [if_neg e] at h
   obtain ⟨h1, h2⟩ := zfx h
   exact ⟨y06 _ h1, h2⟩
section
variable {S : AS} {T : TM}
theorem zb2 {a : Arg} (h : ∀ d ∈ zco a, zar d T = S.get d) : (S.withT T).arg a = S.arg a := by
 cases a with
 | c v => rfl
 | t n => exact h n (by simp [zco])
theorem zhx : ∀ {l : List Arg}, (∀ d ∈ zh3 l, zar d T = S.get d) → (S.withT T).args l = S.args l
 | [], _ => rfl
 | a :: l, h => by
  rw [AS.args, AS.args, zb2 (a := a) fun d hd => h d (by simp [zh3, hd]), zhx (l := l) fun d hd => h d (by simp [zh3, hd])]
theorem zj0 {o : Option Arg} (h : ∀ d ∈ zjy o, zar d T = S.get d) : (S.withT T).oarg o = S.oarg o := by
 cases o with
 | none => rfl
 | some a => simp only [AS.oarg, zb2 h]
theorem zog : ∀ {l : List (Nat × Nat × Arg)}, (∀ d ∈ zj1 l, zar d T = S.get d) → (S.withT T).parts l = S.parts l
 | [], _ => rfl
 | (o, s, a) :: l, h => by
  rw [AS.parts, AS.parts, zb2 (a := a) fun d hd => h d (by simp [zj1, hd]), zog (l := l) fun d hd => h d (by simp [zj1, hd])]
theorem ztf (p : AV) : (S.withT T).deref p = S.deref p := by cases p <;> rfl
theorem znq (sz : Nat) (p : AV) : (S.withT T).elems sz p = S.elems sz p := by cases p <;> rfl
theorem store_T (p : AV) (vs : List AV) : (S.withT T).store p vs = (S.store p vs).map (·.withT T) := by
 cases p <;> try rfl
 rename_i id st off
 have e : (S.withT T).heap = S.heap := rfl
 simp only [AS.store, e]
 split
 ·split <;> rfl
 ·split <;> rfl
 ·rfl
theorem peq_T (p q : AV) : (S.withT T).peq p q = S.peq p q := by cases p <;> cases q <;> rfl
theorem zst (p : AV) : (S.withT T).bytesIn p = S.bytesIn p := by cases p <;> rfl
abbrev mapT (T : TM) (x : AV × AS) : AV × AS := (x.1, x.2.withT T)
theorem zsh (e : TypeId) (bytes : Nat) (sv : AV) (es : List (List AV)) : appendT (S.withT T) e bytes sv es = (appendT S e bytes sv es).map (mapT T) := by
 unfold appendT
 have eh : (S.withT T).heap = S.heap := rfl
 rw [eh]
 repeat' (first | rfl | split)
theorem zsg (sz bytes : Nat) (sv : AV) (es : List (List AV)) : zbg (S.withT T) sz bytes sv es = (zbg S sz bytes sv es).map (mapT T) := by
 unfold zbg
 split
 ·cases sv <;> rfl
 ·split
  ·cases sv <;> try rfl
   ·dsimp only
    split <;> rfl
   ·rename_i id st sz' off len cap
    have e : (S.withT T).heap = S.heap := rfl
    dsimp only
    rw [e]
    split
    ·split
     ·cases cap with
      | none => rfl
      | some k =>
       dsimp only
       split
       ·split <;> rfl
       ·rfl
     ·rfl
    ·rfl
  ·rfl
theorem zsi (sz bytes : Nat) (z : List AV) (sv : AV) (n : Int) : zei (S.withT T) sz bytes z sv n = (zei S sz bytes z sv n).map (mapT T) := by
 unfold zei
 cases sv <;> try rfl
 dsimp only
 split <;> rfl
theorem mapset_T (kd : EqK) (m k v : AV) : (S.withT T).mapset kd m k v = (S.mapset kd m k v).map (·.withT T) := by
 cases m <;> try rfl
 have e : (S.withT T).heap = S.heap := rfl
 simp only [AS.mapset, e]
 split
 ·split
  ·simp only [y2k]; rfl
  ·rfl
 ·rfl
theorem mapget_T (kd : EqK) (z : AV) (ok : Bool) (m k : AV) : (S.withT T).mapget kd z ok m k = S.mapget kd z ok m k := by cases m <;> rfl
theorem iop_T {op : IOp} (h : ∀ d ∈ zb5 op, zar d T = S.get d) : iop (S.withT T) op = (iop S op).map (mapT T) := by
 have sub : ∀ {l : List Nat}, (∀ d ∈ l, d ∈ zb5 op) → ∀ d ∈ l, zar d T = S.get d := fun hl d hd => h d (hl d hd)
 cases op <;> simp only [iop]
 case mov a => rw [zb2 h]; cases S.arg a <;> rfl
 case pick c a b =>
  rw [zb2 (sub fun d hd => by simp [zb5, hd]), zb2 (sub fun d hd => by simp [zb5, hd]), zb2 (sub fun d hd => by simp [zb5, hd])]
  split
  ·rename_i t _; cases t <;> simp only [if_true, y0u, if_false]
   ·cases S.arg b <;> rfl
   ·cases S.arg a <;> rfl
  ·rfl
 case alloc z => rfl
 case box a =>
  rw [zb2 h]
  split
  ·split <;> rfl
  ·rfl
 case build z ps =>
  rw [zog h]
  split
  ·split <;> rfl
  ·rfl
 case bslice a b z ps =>
  rw [zog h]
  split
  ·split <;> rfl
  ·rfl
 case load g a =>
  rw [zb2 h]
  split
  ·rw [ztf]
   split
   ·cases g with
    | some n => simp only; split <;> rfl
    | none => simp only; split <;> rfl
   ·rfl
  ·rfl
 case store n a v =>
  rw [zb2 (sub fun d hd => by simp [zb5, hd]), zb2 (sub fun d hd => by simp [zb5, hd])]
  split
  ·split
   ·split
    ·rw [store_T]; cases S.store _ _ <;> rfl
    ·rfl
   ·rfl
  ·rfl
 case nilchk a => rw [zb2 h]; split <;> rfl
 case bin op x y =>
  rw [zb2 (sub fun d hd => by simp [zb5, hd]), zb2 (sub fun d hd => by simp [zb5, hd])]
  split
  ·cases binOp op _ _ <;> rfl
  ·rfl
 case eqb n x y =>
  rw [zb2 (sub fun d hd => by simp [zb5, hd]), zb2 (sub fun d hd => by simp [zb5, hd])]
  split <;> rfl
 case eqs n fs x y =>
  rw [zb2 (sub fun d hd => by simp [zb5, hd]), zb2 (sub fun d hd => by simp [zb5, hd])]
  split
  ·split <;> rfl
  ·rfl
 case un op a =>
  rw [zb2 h]
  split
  ·cases unOp op _ <;> rfl
  ·rfl
 case conv k a =>
  rw [zb2 h]
  split
  ·cases zt6 k _ <;> rfl
  ·rfl
 case mkfn f a b =>
  rw [zhx (sub fun d hd => by simp [zb5, hd]), zhx (sub fun d hd => by simp [zb5, hd])]
  split <;> rfl
 case mkslice sz b z l c =>
  rw [zb2 (sub fun d hd => by simp [zb5, hd]), zb2 (sub fun d hd => by simp [zb5, hd])]
  split
  ·split <;> rfl
  ·rfl
 case slsl sz x lo hi mx =>
  rw [zb2 (sub fun d hd => by simp [zb5, hd]), zj0 (sub fun d hd => by simp [zb5, hd]), zj0 (sub fun d hd => by simp [zb5, hd]), zj0 (sub fun d hd => by simp [zb5, hd])]
  split
  ·cases zom sz _ _ _ _ <;> rfl
  ·rfl
 case slarr n sz x lo hi =>
  rw [zb2 (sub fun d hd => by simp [zb5, hd]), zj0 (sub fun d hd => by simp [zb5, hd]), zj0 (sub fun d hd => by simp [zb5, hd])]
  split
  ·split
   ·split <;> rfl
   ·rfl
  ·rfl
 case slstr x lo hi =>
  rw [zb2 (sub fun d hd => by simp [zb5, hd]), zj0 (sub fun d hd => by simp [zb5, hd]), zj0 (sub fun d hd => by simp [zb5, hd])]
  split
  ·split
   ·split <;> rfl
   ·rfl
  ·rfl
 case faddr o x =>
  rw [zb2 h]
  split
  ·split <;> rfl
  ·rfl
  ·rfl
 case field o g x =>
  rw [zb2 h]
  split
  ·cases g with
   | some n => simp only; split <;> rfl
   | none => simp only [y2k]; rfl
  ·rfl
 case idxs sz x i =>
  rw [zb2 (sub fun d hd => by simp [zb5, hd]), zb2 (sub fun d hd => by simp [zb5, hd])]
  split
  ·split
   ·split
    ·split <;> rfl
    ·rfl
   ·rfl
  ·split <;> rfl
  ·rfl
 case idxarr n sz x i =>
  rw [zb2 (sub fun d hd => by simp [zb5, hd]), zb2 (sub fun d hd => by simp [zb5, hd])]
  split
  ·split <;> rfl
  ·split <;> rfl
  ·rfl
 case idxagg n sz g x i =>
  rw [zb2 (sub fun d hd => by simp [zb5, hd]), zb2 (sub fun d hd => by simp [zb5, hd])]
  split
  ·split
   ·split
    ·rfl
    ·simp only [y2k]; rfl
   ·rfl
  ·rfl
 case idxstr x i =>
  rw [zb2 (sub fun d hd => by simp [zb5, hd]), zb2 (sub fun d hd => by simp [zb5, hd])]
  split
  ·split
   ·split <;> rfl
   ·rfl
  ·rfl
 case extract x i =>
  rw [zb2 h]
  split
  ·simp only [y2k]; rfl
  ·rfl
 case len b a =>
  rw [zb2 h]
  split
  ·cases lenA b _ <;> rfl
  ·rfl
 case lenc n => rfl
 case append sz b z s x =>
  rw [zb2 (sub fun d hd => by simp [zb5, hd]), zb2 (sub fun d hd => by simp [zb5, hd])]
  split
  ·rw [znq]
   split
   ·exact zsg ..
   ·rfl
  ·rfl
 case appendz sz b z s x =>
  rw [zb2 (sub fun d hd => by simp [zb5, hd]), zb2 (sub fun d hd => by simp [zb5, hd])]
  split
  ·exact zsi ..
  ·rfl
 case mkmap => rfl
 case mapset kd m k v =>
  rw [zb2 (sub fun d hd => by simp [zb5, hd]), zb2 (sub fun d hd => by simp [zb5, hd]), zb2 (sub fun d hd => by simp [zb5, hd])]
  split
  ·rw [mapset_T]; cases S.mapset kd _ _ _ <;> rfl
  ·rfl
 case mapget kd z ok m k =>
  rw [zb2 (sub fun d hd => by simp [zb5, hd]), zb2 (sub fun d hd => by simp [zb5, hd])]
  split
  ·rw [mapget_T]; cases S.mapget kd z ok _ _ <;> rfl
  ·rfl
 case capo a =>
  rw [zb2 h]
  split
  ·split <;> rfl
  ·rfl
 case nilq n a =>
  rw [zb2 h]
  split <;> rfl
 case clear sz z x =>
  rw [zb2 h]
  split
  ·have e : (S.withT T).heap = S.heap := rfl
   rw [e]
   split
   ·split <;> rfl
   ·rfl
  ·rfl
 case copy sz d s =>
  rw [zb2 (sub fun d hd => by simp [zb5, hd]), zb2 (sub fun d hd => by simp [zb5, hd])]
  split
  ·rw [znq]
   have e : (S.withT T).heap = S.heap := rfl
   rw [e]
   split
   ·split <;> rfl
   ·rfl
  ·rfl
 case minmax mx l =>
  rw [zhx h]
  split
  ·simp only [y2k]; rfl
  ·rfl
 case boxT e a =>
  rw [zb2 h]
  split
  ·split <;> rfl
  ·rfl
 case peq n x y =>
  rw [zb2 (sub fun d hd => by simp [zb5, hd]), zb2 (sub fun d hd => by simp [zb5, hd])]
  split
  ·rw [peq_T]; split <;> rfl
  ·rfl
 case uptr ok a =>
  rw [zb2 h]
  have e : (S.withT T).heap = S.heap := rfl
  rw [e]
  split
  ·split
   ·split <;> rfl
   ·rfl
  ·rfl
 case sdata a => rw [zb2 h]; split <;> rfl
 case ustr e a n =>
  rw [zb2 (sub fun d hd => by simp [zb5, hd]), zb2 (sub fun d hd => by simp [zb5, hd])]
  have e : (S.withT T).heap = S.heap := rfl
  rw [e]
  split
  ·split
   ·split
    ·split <;> rfl
    ·rfl
   ·rfl
  ·rfl
 case appendT e b s x =>
  rw [zb2 (sub fun d hd => by simp [zb5, hd]), zb2 (sub fun d hd => by simp [zb5, hd])]
  split
  ·rw [zst]
   split
   ·exact zsh ..
   ·rfl
  ·rfl
 case call f l => rfl
 case bad => rfl
theorem view_T : ∀ (d : Nat) (v : AV), (S.withT T).view d v = S.view d v
 | 0, v => rfl
 | d + 1, v => by
  have ih : (S.withT T).view d = S.view d := funext fun v => view_T d v
  cases v <;> simp only [AS.view, ih, znq, ztf]
end
section
variable {P : Program} {w0 w : World} {N0 : Nat} {S S' S1 : AS} {T : TM} {rd : Option (Nat × Nat)} {E : Env} {R : Rec} {io : Opr} {v : AV} {H : HS}
theorem zq4 (fv : AV) (vs : List AV) : zdd E R (S.withT T) fv vs = zdd E R S fv vs := by
 have : (S.withT T).view VD = S.view VD := funext fun v => view_T VD v
 simp only [zdd, this]
theorem zqu (h : ∀ d ∈ zcl io, zar d T = S.get d) : zaj (S.withT T) io = zaj S io := by
 unfold zaj
 split
 ·rfl
 ·rename_i d b hg
  have : (S.withT T).get d = S.get d := h d (by simp [zcl, hg])
  rw [this]
theorem zld (h : ∀ d ∈ zcl io, zar d T = S.get d) : zba E R (S.withT T) io = zba E R S io := by
 have h2 : ∀ d ∈ zb5 io.op, zar d T = S.get d := fun d hd => h d (y1b _ hd)
 unfold zba
 split
 ·rename_i fa args hop
  rw [hop] at h2
  rw [zb2 fun d hd => h2 d (by simp [zb5, hd]), zhx fun d hd => h2 d (by simp [zb5, hd])]
  simp only [zq4]
 ·split
  ·rfl
  ·rw [iop_T h2]; cases iop S io.op <;> rfl
theorem loud1_T (h : ∀ d ∈ zcl io, zar d T = S.get d) : zfr P R (S.withT T) io = zfr P R S io := by
 have h2 : ∀ d ∈ zb5 io.op, zar d T = S.get d := fun d hd => h d (y1b _ hd)
 unfold zfr
 split
 ·rename_i fa args hop
  rw [hop] at h2
  rw [zb2 fun d hd => h2 d (by simp [zb5, hd]), zhx fun d hd => h2 d (by simp [zb5, hd])]
  rfl
 ·rw [iop_T h2]
  cases iop S io.op with
  | none => rfl
  | some r => rfl
theorem zw5 (h : ∀ d ∈ zcl io, zar d T = S.get d) : zdk P E R (S.withT T) io = zdk P E R S io := by
 unfold zdk
 rw [zld h, loud1_T h]
 rfl
end
section
variable {P : Program} {w0 w : World} {N0 : Nat} {S S' S1 : AS} {T : TM} {rd : Option (Nat × Nat)} {E : Env} {R : Rec} {io : Opr} {op : IOp} {v : AV} {H : HS}
theorem zlz (a : Arg) : (S.withH H).arg a = S.arg a := by cases a <;> rfl
theorem zsk : ∀ l : List Arg, (S.withH H).args l = S.args l
 | [] => rfl
 | a :: l => by rw [AS.args, AS.args, zlz, zsk l]
theorem oarg_H (a : Option Arg) : (S.withH H).oarg a = S.oarg a := by cases a <;> simp [AS.oarg, zlz]
theorem zvd : ∀ l : List (Nat × Nat × Arg), (S.withH H).parts l = S.parts l
 | [] => rfl
 | (o, s, a) :: l => by rw [AS.parts, AS.parts, zlz, zvd l]
def zjv : HS := ⟨[], 0, 0⟩
abbrev mapH (S : AS) (H : HS) (x : AV × AS) : AV × AS := (x.1, S.withH H)
theorem iop_H (hl : zbv op = false) (hn : ∀ g a, op ≠ .load g a) (hn2 : ∀ kd z ok m k, op ≠ .mapget kd z ok m k) : iop (S.withH H) op = (iop (S.withH zjv) op).map (mapH S H) := by
 cases op <;> simp only [zbv, Bool.true_eq_false] at hl <;> simp only [iop, zlz, zsk, oarg_H, zvd]
 case load g a => exact absurd rfl (hn g a)
 case mapget kd z ok m k => exact absurd rfl (hn2 kd z ok m k)
 case mov a => cases S.arg a <;> rfl
 case pick c a b =>
  split
  ·rename_i t _; cases t <;> simp only [if_true, y0u, if_false]
   ·cases S.arg b <;> rfl
   ·cases S.arg a <;> rfl
  ·rfl
 case build z ps =>
  split
  ·split <;> rfl
  ·rfl
 case nilchk a => split <;> rfl
 case bin op x y =>
  split
  ·cases binOp op _ _ <;> rfl
  ·rfl
 case eqb n x y => split <;> rfl
 case eqs n fs x y =>
  split
  ·split <;> rfl
  ·rfl
 case un op a =>
  split
  ·cases unOp op _ <;> rfl
  ·rfl
 case conv k a =>
  split
  ·cases zt6 k _ <;> rfl
  ·rfl
 case mkfn f a b => split <;> rfl
 case slsl sz x lo hi mx =>
  split
  ·cases zom sz _ _ _ _ <;> rfl
  ·rfl
 case slarr n sz x lo hi =>
  split
  ·split
   ·split <;> rfl
   ·rfl
  ·rfl
 case slstr x lo hi =>
  split
  ·split
   ·split <;> rfl
   ·rfl
  ·rfl
 case faddr o x =>
  split
  ·split <;> rfl
  ·rfl
  ·rfl
 case field o g x =>
  split
  ·cases g with
   | some n => simp only; split <;> rfl
   | none => simp only [y2k]; rfl
  ·rfl
 case idxs sz x i =>
  split
  ·split
   ·split
    ·split <;> rfl
    ·rfl
   ·rfl
  ·split <;> rfl
  ·rfl
 case idxarr n sz x i =>
  split
  ·split <;> rfl
  ·split <;> rfl
  ·rfl
 case idxagg n sz g x i =>
  split
  ·split
   ·split
    ·rfl
    ·simp only [y2k]; rfl
   ·rfl
  ·rfl
 case idxstr x i =>
  split
  ·split
   ·split <;> rfl
   ·rfl
  ·rfl
 case extract x i =>
  split
  ·simp only [y2k]; rfl
  ·rfl
 case len b a =>
  split
  ·cases lenA b _ <;> rfl
  ·rfl
 case lenc n => rfl
 case capo a =>
  split
  ·split <;> rfl
  ·rfl
 case nilq n a =>
  split <;> rfl
 case sdata a =>
  split <;> rfl
 case minmax mx l =>
  split
  ·simp only [y2k]; rfl
  ·rfl
 case bad => rfl
theorem zra {g : Option Nat} {a : Arg} (h : iop (S.withH zjv) (.load g a) = some (v, S1)) : iop (S.withH H) (.load g a) = some (v, S.withH H) := by
 simp only [iop, zlz] at h ⊢
 cases hp : S.arg a with
 | none => rw [hp] at h; cases h
 | some p =>
  rw [hp] at h
  cases p <;> try (simp only [AS.deref, reduceCtorEq] at h)
  case vptr cs =>
   simp only [AS.deref]
   cases g with
   | some n =>
    simp only at h ⊢
    split at h
    ·rename_i hc; simp only [y00, y05] at h; rw [if_pos hc]; simp only [h.1]
    ·cases h
   | none =>
    simp only at h ⊢
    split at h
    ·simp only [y00, y05] at h; simp only [h.1]
    ·cases h
  case mptr id st off => exact absurd h (by rw [show (S.withH zjv).heap = [] from rfl]; simp [zdj])
theorem iop_E (hl : zbv op = false) (h : iop (S.withH zjv) op = some (v, S1)) (H : HS) : ∃ S2, iop (S.withH H) op = some (v, S2) := by
 by_cases hn : ∃ g a, op = .load g a
 ·obtain ⟨g, a, rfl⟩ := hn
  exact ⟨_, zra h⟩
 ·by_cases hn2 : ∃ kd z ok m k, op = .mapget kd z ok m k
  ·obtain ⟨kd, z, ok, m, k, rfl⟩ := hn2
   exfalso
   simp only [iop, zlz] at h
   split at h <;> try cases h
   rename_i mv kv _ _
   have : (S.withH zjv).mapget kd z ok mv kv = none := by cases mv <;> rfl
   rw [this] at h; cases h
  ·rw [iop_H hl (fun g a e => hn ⟨g, a, e⟩) (fun kd z ok m k e => hn2 ⟨kd, z, ok, m, k, e⟩), h]
   exact ⟨_, rfl⟩
theorem zln {S S' : AS} {d : Nat} (ih : ∀ v, hasM v = false → S.view d v = S'.view d v) : ∀ l : List AV, hasM.hasML l = false → l.map (S.view d) = l.map (S'.view d)
 | [], _ => rfl
 | v :: l, h => by
  simp only [hasM.hasML, y1d] at h
  simp only [y16, ih v h.1, zln ih l h.2]
theorem zqs {S S' : AS} : ∀ (d : Nat) (v : AV), hasM v = false → S.view d v = S'.view d v
 | 0, v, _ => rfl
 | d + 1, v, h => by
  have ih := zln (S := S) (S' := S') (d := d) (fun v => zqs d v)
  cases v <;> simp only [hasM, Bool.true_eq_false, y1d] at h <;> simp only [AS.view]
  ·rename_i f a b; rw [ih a h.1, ih b h.2]
  ·rename_i cs; rw [ih cs h]
  ·rename_i cs; rw [ih cs h]
def zfl (E : Env) (R : Rec) (S : AS) (io : Opr) : Option AV :=
 match io.op with
 | .call fa args => match S.arg fa, S.args args with
  | some (.fn fid first cap), some vs => if hasM.hasML (first ++ vs ++ cap) = true then none else zdd E R (S.withH zjv) (.fn fid first cap) vs
  | _, _ => none
 | op => if zbv op then none else (iop (S.withH zjv) op).map (·.1)
theorem pureOf_H {fid : FuncId} {first cap vs : List AV} (h : hasM.hasML (first ++ vs ++ cap) = false) : zdd E R S (.fn fid first cap) vs = zdd E R S' (.fn fid first cap) vs := by
 have : (first ++ vs ++ cap).map (S.view VD) = (first ++ vs ++ cap).map (S'.view VD) := zln (fun v => zqs VD v) _ h
 simp only [zdd, this]
theorem zj6 (h : zfl E R S io = some v) (H : HS) : zba E R (S.withH H) io = some v := by
 unfold zfl at h
 unfold zba
 split at h
 ·rename_i fa args hop
  simp only [hop, zlz, zsk]
  split at h
  ·rename_i fid first cap vs hf ha
   split at h
   ·cases h
   ·rename_i hm
    simp only [hf, ha]
    rw [← h]
    exact pureOf_H (by simpa using hm)
  ·cases h
 ·rename_i hop
  split at h
  ·cases h
  ·rename_i hl
   simp only [y01, Prod.exists, exists_and_right, exists_eq_right] at h
   obtain ⟨S1, h⟩ := h
   obtain ⟨S2, h2⟩ := iop_E (by simpa using hl) h H
   split
   ·rename_i hop2; exact absurd hop2 (hop _ _)
   ·rw [if_neg hl, h2]; rfl
theorem zw6 (h : ∀ d ∈ zcl io, zar d T = S.get d) : zfl E R (S.withT T) io = zfl E R S io := by
 have h2 : ∀ d ∈ zb5 io.op, zar d T = S.get d := fun d hd => h d (y1b _ hd)
 unfold zfl
 split
 ·rename_i fa args hop
  rw [hop] at h2
  rw [zb2 fun d hd => h2 d (by simp [zb5, hd]), zhx fun d hd => h2 d (by simp [zb5, hd])]
  split
  ·have : ((S.withT T).withH zjv) = ((S.withH zjv).withT T) := rfl
   rw [this, zq4]
  ·rfl
 ·split
  ·rfl
  ·have : ((S.withT T).withH zjv) = ((S.withH zjv).withT T) := rfl
   rw [this, iop_T (S := S.withH zjv) h2]; cases iop (S.withH zjv) io.op <;> rfl
end
def zas (m i : Nat) : Bool := Nat.beq (Nat.land (Nat.shiftRight m i) 1) 1
theorem zg4 (m i : Nat) : zas m i = m.testBit i := by
 have h : Nat.land (Nat.shiftRight m i) 1 = (m >>> i) % 2 := Nat.and_one_is_mod _
 unfold zas
 rw [h, Nat.testBit_eq_decide_div_mod_eq, Nat.shiftRight_eq_div_pow]
 rw [Bool.eq_iff_iff, decide_eq_true_iff]
 exact ⟨y0o, fun e => by rw [e]; rfl⟩
def bitM (d : Nat) : Nat := Nat.shiftLeft 1 d
theorem zp3 (a b i : Nat) : zas (Nat.lor a b) i = (zas a i || zas b i) := by
 rw [zg4, zg4, zg4]; exact Nat.testBit_or a b i
theorem bit_M (d i : Nat) : zas (bitM d) i = decide (d = i) := by
 rw [zg4]
 show (1 <<< d).testBit i = _
 rw [Nat.one_shiftLeft, Nat.testBit_two_pow]
theorem bit_0 (i : Nat) : zas 0 i = false := by rw [zg4]; exact Nat.zero_testBit i
def dM : Option Nat → Nat
 | some d => bitM d
 | none => 0
theorem zji (o : Option Nat) (i : Nat) : zas (dM o) i = true ↔ o = some i := by
 cases o with
 | none => simp [dM, bit_0]
 | some d => simp [dM, bit_M]
structure OI where
 idx : Nat
 io : Opr
 a : Nat
 k : Nat
def nth {α : Type} : List α → Nat → Option α
 | [], _ => none
 | x :: l, n => match n with
  | 0 => some x
  | m + 1 => nth l m
theorem nth_eq {α : Type} : ∀ (l : List α) (n : Nat), nth l n = l[n]?
 | [], _ => rfl
 | x :: l, 0 => rfl
 | x :: l, n + 1 => by rw [nth]; simpa using nth_eq l n
def zsd (acc : List OI) (len : Nat) : List Nat → Nat → Nat → Option (Nat × Nat)
 | [], a, k => some (a, k)
 | p :: ps, a, k => match Nat.ble (p + 1) len with
  | true => match nth acc (len - 1 - p) with
   | some s => zsd acc len ps (Nat.lor a (Nat.lor s.a (bitM p))) (Nat.lor k (Nat.lor s.k (dM s.io.dst)))
   | none => none
  | false => none
def zmw : List Opr → List (List Nat) → List OI → Nat → Option (List OI)
 | [], [], acc, _ => some acc.reverse
 | io :: ios, ps :: pres, acc, len => match zsd acc len ps 0 0 with
  | some (a, k) => zmw ios pres (⟨len, io, a, k⟩ :: acc) (len + 1)
  | none => none
 | _, _, _, _ => none
def zoi (E : Env) (op : IOp) : Bool :=
 match op with
 | .call (.c (.fn f _ _)) _ => E.known f
 | .call _ _ => false
 | op => !zbv op
def ndM : List OI → Nat → Bool
 | [], _ => true
 | x :: l, m => match x.io.dst with
  | some d => match zas m d with
   | true => false
   | false => ndM l (Nat.lor m (bitM d))
  | none => ndM l m
def wAll : List OI → Nat
 | [] => 0
 | x :: l => Nat.lor (dM x.io.dst) (wAll l)
def zvj (rs : List OI) (W : Nat) (x : OI) : Bool := (zcl x.io).all fun d => !zas W d || zas x.k d || rs.all fun y => !zas (dM y.io.dst) d || zas y.a x.idx
def zda (E : Env) : List OI → List OI
 | [] => []
 | x :: l => match zoi E x.io.op with
  | true => zda E l
  | false => x :: zda E l
def zij : IOp → Bool
 | .alloc _ | .box _ | .bslice .. => true
 | _ => false
def zh5 : IOp → Bool
 | .load _ (.t _) => true
 | _ => false
def zew (x y : OI) : Bool := zas x.a y.idx || zas y.a x.idx || (zh5 x.io.op && zij y.io.op)
def flagOf (E : Env) (lds : List OI) (x : OI) : Bool × Bool := (zoi E x.io.op, !(lds.all fun y => zew x y))
def zlk (E : Env) (ios : List Opr) (pres : List (List Nat)) (size : Nat) : Option (List (Bool × Bool)) :=
 match zmw ios pres [] 0 with
 | some rs =>
  if ndM rs 0 && rs.all (zvj rs (wAll rs)) && (zda E rs).all (fun x => (zda E rs).all fun y => Nat.ble x.idx y.idx || zas x.a y.idx) && ios.all (fun io => zc1 size io.dst) then some (rs.map (flagOf E (zda E rs))) else none
 | none => none
def zd3 (P : Program) (E : Env) (R : Rec) : List Opr → List (Bool × Bool) → AS → Option AS
 | [], [], S => some S
 | io :: ios, (q, ind) :: fl, S => match zaj S io with
  | some true =>
   if q then match (if ind then zfl E R S io else zba E R S io) with
    | some v => zd3 P E R ios fl (S.put io.dst v)
    | none => none
   else match zdk P E R S io with
    | some (v, H) => zd3 P E R ios fl ((S.withH H).put io.dst v)
    | none => none
  | some false => zd3 P E R ios fl (S.put io.dst (.tup []))
  | none => none
 | _, _, _ => none
structure PassOk (ios : List Opr) (pres : List (List Nat)) (rs : List OI) : Prop where
 len : rs.length = ios.length
 len2 : pres.length = ios.length
 at_ : ∀ (i : Nat) (r : OI), rs[i]? = some r → r.idx = i ∧ ios[i]? = some r.io
 acyc : ∀ (i : Nat) (ps : List Nat), pres[i]? = some ps → ∀ p ∈ ps, p < i
 up : ∀ (i : Nat) (ps : List Nat) (r : OI), pres[i]? = some ps → rs[i]? = some r → ∀ q, zas r.a q = true → ∃ p ∈ ps, q = p ∨ ∃ s, rs[p]? = some s ∧ zas s.a q = true
 down : ∀ (i : Nat) (ps : List Nat) (r : OI), pres[i]? = some ps → rs[i]? = some r → ∀ p ∈ ps, zas r.a p = true ∧ ∃ s, rs[p]? = some s ∧ ∀ q, zas s.a q = true → zas r.a q = true
 wr : ∀ (i : Nat) (ps : List Nat) (r : OI), pres[i]? = some ps → rs[i]? = some r → ∀ d, zas r.k d = true → ∃ p ∈ ps, ∃ s, rs[p]? = some s ∧ (s.io.dst = some d ∨ zas s.k d = true)
theorem zov {acc : List OI} {len : Nat} (hacc : acc.length = len) : ∀ {ps : List Nat} {a k a' k' : Nat}, zsd acc len ps a k = some (a', k') →
  (∀ p ∈ ps, p < len) ∧ (∀ q, zas a' q = true ↔ zas a q = true ∨ ∃ p ∈ ps, q = p ∨ ∃ s, acc.reverse[p]? = some s ∧ zas s.a q = true) ∧
  (∀ p ∈ ps, ∃ s, acc.reverse[p]? = some s) ∧
  (∀ d, zas k' d = true → zas k d = true ∨ ∃ p ∈ ps, ∃ s, acc.reverse[p]? = some s ∧ (s.io.dst = some d ∨ zas s.k d = true))
 | [], a, k, a', k', h => by
  simp only [zsd, y00, y05] at h
  obtain ⟨rfl, rfl⟩ := h
  exact ⟨by simp, fun q => by simp, by simp, fun d hd => .inl hd⟩
 | p :: ps, a, k, a', k', h => by
  simp only [zsd] at h
  split at h <;> try cases h
  rename_i hlt
  have hp : p < len := y1l hlt
  split at h <;> try cases h
  rename_i s hs
  rw [nth_eq] at hs
  have hrev : acc.reverse[p]? = some s := by
   rw [List.getElem?_reverse (by omega), hacc]; exact hs
  obtain ⟨h1, h2, h3, h4⟩ := zov hacc h
  refine ⟨fun q hq => ?_, fun q => ?_, fun q hq => ?_, fun d hd => ?_⟩
  ·rcases y0n.1 hq with rfl | hq
   ·exact hp
   ·exact h1 q hq
  ·rw [h2]
   simp only [zp3, bit_M, y14, decide_eq_true_eq, y0n, exists_eq_or_imp]
   constructor
   ·rintro ((h | h | h) | h)
    ·exact .inl h
    ·exact .inr (.inl (.inr ⟨s, hrev, h⟩))
    ·exact .inr (.inl (.inl h.symm))
    ·exact .inr (.inr h)
   ·rintro (h | (h | ⟨s', e, h⟩) | h)
    ·exact .inl (.inl h)
    ·exact .inl (.inr (.inr h.symm))
    ·rw [hrev] at e; injection e with e; subst e; exact .inl (.inr (.inl h))
    ·exact .inr h
  ·rcases y0n.1 hq with rfl | hq
   ·exact ⟨s, hrev⟩
   ·exact h3 q hq
  ·rcases h4 d hd with h | ⟨p', hp', h⟩
   ·simp only [zp3, y14] at h
    rcases h with h | h | h
    ·exact .inl h
    ·exact .inr ⟨p, y08 .., s, hrev, .inr h⟩
    ·exact .inr ⟨p, y08 .., s, hrev, .inl ((zji _ _).1 h)⟩
   ·exact .inr ⟨p', y06 _ hp', h⟩
theorem zhr {α : Type} {l : List α} {x y : α} {i : Nat} (h : (l ++ [x])[i]? = some y) : l[i]? = some y ∨ (i = l.length ∧ y = x) := zdx h
theorem PassOk.snoc {ios : List Opr} {pres : List (List Nat)} {rs : List OI} (h : PassOk ios pres rs) {io : Opr} {ps : List Nat} {a k : Nat}
  (h1 : ∀ p ∈ ps, p < rs.length) (h2 : ∀ q, zas a q = true ↔ ∃ p ∈ ps, q = p ∨ ∃ s, rs[p]? = some s ∧ zas s.a q = true)
  (h4 : ∀ d, zas k d = true → ∃ p ∈ ps, ∃ s, rs[p]? = some s ∧ (s.io.dst = some d ∨ zas s.k d = true)) :
  PassOk (ios ++ [io]) (pres ++ [ps]) (rs ++ [⟨rs.length, io, a, k⟩]) := by
 have hl : ∀ {p : Nat} {s : OI}, rs[p]? = some s → (rs ++ [(⟨rs.length, io, a, k⟩ : OI)])[p]? = some s := fun h => zdw h
 have two : ∀ (i : Nat) (ps' : List Nat) (r : OI), (pres ++ [ps])[i]? = some ps' → (rs ++ [(⟨rs.length, io, a, k⟩ : OI)])[i]? = some r → (pres[i]? = some ps' ∧ rs[i]? = some r) ∨ (i = rs.length ∧ ps' = ps ∧ r = ⟨rs.length, io, a, k⟩) := by
  intro i ps' r e1 e2
  rcases zhr e1 with e1 | ⟨e1, e3⟩ <;> rcases zhr e2 with e2 | ⟨e2, e4⟩
  ·exact .inl ⟨e1, e2⟩
  ·have := (y03.1 e1).1; rw [h.len2, ← h.len] at this; omega
  ·have := (y03.1 e2).1; rw [h.len, ← h.len2] at this; omega
  ·exact .inr ⟨e2, e3, e4⟩
 refine ⟨by simp [h.len], by simp [h.len2], fun i r hr => ?_, fun i ps' hp => ?_, fun i ps' r e1 e2 => ?_, fun i ps' r e1 e2 => ?_, fun i ps' r e1 e2 => ?_⟩
 ·rcases zhr hr with hr | ⟨e1, e2⟩
  ·exact ⟨(h.at_ i r hr).1, zdw (h.at_ i r hr).2⟩
  ·subst e1 e2; exact ⟨rfl, by rw [h.len]; simp⟩
 ·rcases zhr hp with hp | ⟨e1, e2⟩
  ·exact h.acyc i ps' hp
  ·subst e1 e2; rw [h.len2, ← h.len]; exact h1
 ·rcases two i ps' r e1 e2 with ⟨e1, e2⟩ | ⟨e3, e4, e5⟩
  ·intro q hq
   obtain ⟨p, hp, hor⟩ := h.up i ps' r e1 e2 q hq
   exact ⟨p, hp, hor.imp id fun ⟨s, k1, k2⟩ => ⟨s, hl k1, k2⟩⟩
  ·subst e3 e4 e5
   intro q hq
   obtain ⟨p, hp, hor⟩ := (h2 q).1 hq
   exact ⟨p, hp, hor.imp id fun ⟨s, k1, k2⟩ => ⟨s, hl k1, k2⟩⟩
 ·rcases two i ps' r e1 e2 with ⟨e1, e2⟩ | ⟨e3, e4, e5⟩
  ·intro p hp
   obtain ⟨k1, s, k2, k3⟩ := h.down i ps' r e1 e2 p hp
   exact ⟨k1, s, hl k2, k3⟩
  ·subst e3 e4 e5
   intro p hp
   refine ⟨(h2 p).2 ⟨p, hp, .inl rfl⟩, rs[p]'(h1 p hp), hl (by simp [h1 p hp]), fun q hq => (h2 q).2 ⟨p, hp, .inr ⟨_, by simp [h1 p hp], hq⟩⟩⟩
 ·rcases two i ps' r e1 e2 with ⟨e1, e2⟩ | ⟨e3, e4, e5⟩
  ·intro d hd
   obtain ⟨p, hp, s, k1, k2⟩ := h.wr i ps' r e1 e2 d hd
   exact ⟨p, hp, s, hl k1, k2⟩
  ·subst e3 e4 e5
   intro d hd
   obtain ⟨p, hp, s, k1, k2⟩ := h4 d hd
   exact ⟨p, hp, s, hl k1, k2⟩
theorem zlc : ∀ {ios : List Opr} {pres : List (List Nat)} {done : List Opr} {dpres : List (List Nat)} {acc : List OI} {len : Nat} {rs : List OI}, PassOk done dpres acc.reverse → acc.length = len →
  zmw ios pres acc len = some rs → PassOk (done ++ ios) (dpres ++ pres) rs
 | [], [], done, dpres, acc, len, rs, h, hl, hp => by
  simp only [zmw, y00] at hp
  subst hp
  simpa using h
 | io :: ios, ps :: pres, done, dpres, acc, len, rs, h, hl, hp => by
  simp only [zmw] at hp
  split at hp <;> try cases hp
  rename_i a k hak
  obtain ⟨h1, h2, h3, h4⟩ := zov hl hak
  have hlr : acc.reverse.length = len := by simpa using hl
  have := h.snoc (io := io) (ps := ps) (a := a) (k := k) (by rw [hlr]; exact h1) (fun q => by rw [h2 q]; simp [bit_0]) (fun d hd => (h4 d hd).resolve_left (by simp [bit_0]))
  rw [hlr] at this
  have e1 : done ++ io :: ios = (done ++ [io]) ++ ios := by simp
  have e2 : dpres ++ ps :: pres = (dpres ++ [ps]) ++ pres := by simp
  rw [e1, e2]
  exact zlc (by simpa using this) (by simp [hl]) hp
 | [], _ :: _, _, _, _, _, _, _, _, hp => by simp [zmw] at hp
 | _ :: _, [], _, _, _, _, _, _, _, hp => by simp [zmw] at hp
theorem PassOk.alt {ios : List Opr} {pres : List (List Nat)} {rs : List OI} (h : PassOk ios pres rs) : ∀ (i : Nat) (r : OI), rs[i]? = some r → ∀ q, zas r.a q = true → q < i := by
 intro i
 induction i using Nat.strongRecOn with
 | _ i ih =>
  intro r hr q hq
  have hi := (y03.1 hr).1
  have hp : pres[i]? = some (pres[i]'(by rw [h.len2, ← h.len]; exact hi)) := by simp [h.len2, ← h.len, hi]
  obtain ⟨p, hpm, hor⟩ := h.up i _ r hp hr q hq
  have hpi := h.acyc i _ hp p hpm
  rcases hor with rfl | ⟨s, hs, hqs⟩
  ·exact hpi
  ·have := ih p hpi s hs q hqs; omega
theorem PassOk.ofK {ios : List Opr} {pres : List (List Nat)} {rs : List OI} (h : PassOk ios pres rs) : ∀ (i : Nat) (r : OI), rs[i]? = some r → ∀ d, zas r.k d = true → ∃ q s, zas r.a q = true ∧ rs[q]? = some s ∧ s.io.dst = some d := by
 intro i
 induction i using Nat.strongRecOn with
 | _ i ih =>
  intro r hr d hd
  have hi := (y03.1 hr).1
  have hp : pres[i]? = some (pres[i]'(by rw [h.len2, ← h.len]; exact hi)) := by simp [h.len2, ← h.len, hi]
  obtain ⟨p, hpm, s, hs, hor⟩ := h.wr i _ r hp hr d hd
  have hpi := h.acyc i _ hp p hpm
  obtain ⟨k1, s', k2, k3⟩ := h.down i _ r hp hr p hpm
  rw [hs] at k2; injection k2 with k2; subst k2
  rcases hor with hor | hor
  ·exact ⟨p, s, k1, hs, hor⟩
  ·obtain ⟨q, s2, e1, e2, e3⟩ := ih p hpi s hs d hor
   exact ⟨q, s2, k3 q e1, e2, e3⟩
theorem zpy : ∀ {rs : List OI} {m : Nat}, ndM rs m = true → (∀ (i : Nat) (x : OI) (d : Nat), rs[i]? = some x → x.io.dst = some d → zas m d = false) ∧
  ∀ (i j : Nat) (x y : OI) (d : Nat), rs[i]? = some x → rs[j]? = some y → x.io.dst = some d → y.io.dst = some d → i = j
 | [], m, _ => ⟨by simp, by simp⟩
 | x :: l, m, h => by
  simp only [ndM] at h
  cases hd : x.io.dst with
  | none =>
   rw [hd] at h
   obtain ⟨h1, h2⟩ := zpy h
   refine ⟨fun i y d hy he => ?_, fun i j y z d hy hz e1 e2 => ?_⟩
   ·cases i with
    | zero => simp at hy; subst hy; rw [hd] at he; cases he
    | succ i => exact h1 i y d (by simpa using hy) he
   ·cases i with
    | zero => simp at hy; subst hy; rw [hd] at e1; cases e1
    | succ i =>
     cases j with
     | zero => simp at hz; subst hz; rw [hd] at e2; cases e2
     | succ j => rw [h2 i j y z d (by simpa using hy) (by simpa using hz) e1 e2]
  | some d0 =>
   rw [hd] at h
   simp only at h
   split at h <;> try cases h
   rename_i hb
   obtain ⟨h1, h2⟩ := zpy h
   have out : ∀ (i : Nat) (y : OI) (d : Nat), l[i]? = some y → y.io.dst = some d → zas m d = false ∧ d0 ≠ d := by
    intro i y d hy he
    have := h1 i y d hy he
    simp only [zp3, bit_M, y1d, decide_eq_false_iff_not] at this
    exact this
   refine ⟨fun i y d hy he => ?_, fun i j y z d hy hz e1 e2 => ?_⟩
   ·cases i with
    | zero => simp at hy; subst hy; rw [hd] at he; injection he with he; subst he; exact hb
    | succ i => exact (out i y d (by simpa using hy) he).1
   ·cases i with
    | zero =>
     simp at hy; subst hy
     rw [hd] at e1; injection e1 with e1; subst e1
     cases j with
     | zero => rfl
     | succ j => exact absurd rfl (out j z d0 (by simpa using hz) e2).2
    | succ i =>
     cases j with
     | zero => simp at hz; subst hz; rw [hd] at e2; injection e2 with e2; subst e2; exact absurd rfl (out i y d0 (by simpa using hy) e1).2
     | succ j => rw [h2 i j y z d (by simpa using hy) (by simpa using hz) e1 e2]
theorem zj9 : ∀ {rs : List OI} {d : Nat}, zas (wAll rs) d = false → ∀ (i : Nat) (x : OI), rs[i]? = some x → x.io.dst ≠ some d
 | [], d, _, i, x, hx => by simp at hx
 | y :: l, d, h, i, x, hx => by
  simp only [wAll, zp3, y1d] at h
  cases i with
  | zero => simp at hx; subst hx; intro e; have := (zji _ _).2 e; rw [h.1] at this; cases this
  | succ i => exact zj9 h.2 i x (by simpa using hx)
theorem zgx {E : Env} {x : OI} : ∀ {rs : List OI}, x ∈ rs → zoi E x.io.op = false → x ∈ zda E rs
 | [], h, _ => by cases h
 | y :: l, h, hq => by
  simp only [zda]
  rcases y0n.1 h with rfl | h
  ·rw [hq]; exact y08 ..
  ·cases zoi E y.io.op with
   | true => exact zgx h hq
   | false => exact y06 _ (zgx h hq)
def ndB : List Opr → Bool
 | [] => true
 | io :: l => (match io.dst with
  | none => true
  | some d => l.all fun x => match x.dst with
   | some d' => !(d' == d)
   | none => true) && ndB l
theorem ndB_ok : ∀ {l : List Opr}, ndB l = true → ∀ (i j : Nat) (a b : Opr) (d : Nat), l[i]? = some a → l[j]? = some b → a.dst = some d → b.dst = some d → i = j
 | [], _, i, j, a, b, d, h1, _, _, _ => by simp at h1
 | x :: l, h, i, j, a, b, d, h1, h2, h3, h4 => by
  simp only [ndB, y0g] at h
  have out : ∀ (k : Nat) (c : Opr), l[k]? = some c → x.dst = some d → c.dst = some d → False := by
   intro k c hk hx hc
   have := h.1
   rw [hx] at this
   have := y0e.1 this c (y0a hk)
   rw [hc] at this
   simp at this
  cases i with
  | zero =>
   cases j with
   | zero => rfl
   | succ j =>
    simp at h1 h2; subst h1
    exact (out j b h2 h3 h4).elim
  | succ i =>
   cases j with
   | zero =>
    simp at h1 h2; subst h2
    exact (out i a h1 h4 h3).elim
   | succ j => rw [ndB_ok h.2 i j a b d (by simpa using h1) (by simpa using h2) h3 h4]
def zp9 (tr : List Tr) : List Nat → Bool
 | l :: l' :: r => (match tr[l']? with
  | some t => t.anc.contains l
  | none => false) && zp9 tr (l' :: r)
 | _ => true
theorem zi4 {tr : List Tr} : ∀ {ls : List Nat}, zp9 tr ls = true → ∀ (m l l' : Nat), ls[m]? = some l → ls[m + 1]? = some l' → ∃ t : Tr, tr[l']? = some t ∧ l ∈ t.anc
 | [], _, m, l, l', h1, _ => by simp at h1
 | [x], _, m, l, l', h1, h2 => by simp at h2
 | x :: y :: r, h, m, l, l', h1, h2 => by
  simp only [zp9, y0g] at h
  cases m with
  | zero =>
   simp at h1 h2; subst h1 h2
   have := h.1
   split at this
   ·rename_i t ht; exact ⟨t, ht, by simpa using this⟩
   ·cases this
  | succ m => exact zi4 h.2 m l l' (by simpa using h1) (by simpa using h2)
def ztr (tr : List Tr) (i : Nat) (t : Tr) (j : Nat) : Nat → List Nat → Bool
 | _, [] => true
 | m, l :: r => (!t.anc.contains l || decide (m < j)) && (!(l == i) || decide (j ≤ m)) && (match tr[l]? with
  | some tl => !tl.anc.contains i || decide (j ≤ m)
  | none => true) && ztr tr i t j (m + 1) r
theorem zpl {tr : List Tr} {i : Nat} {t : Tr} {j : Nat} : ∀ (ls : List Nat) (k : Nat), (∀ m l, ls[m]? = some l → (l ∈ t.anc → k + m < j) ∧ (l = i → j ≤ k + m) ∧ ∀ tl, tr[l]? = some tl → i ∈ tl.anc → j ≤ k + m) → ztr tr i t j k ls = true
 | [], _, _ => rfl
 | l :: r, k, h => by
  obtain ⟨h1, h2, h3⟩ := h 0 l rfl
  have ih := zpl r (k + 1) fun m l hm => by
   have := h (m + 1) l (by simpa using hm)
   rw [show k + 1 + m = k + (m + 1) from by omega]; exact this
  simp only [ztr, ih, Bool.and_true, y0g]
  refine ⟨⟨?_, ?_⟩, ?_⟩
  ·by_cases hc : l ∈ t.anc
   ·have := h1 hc; simp; right; omega
   ·simp [hc]
  ·by_cases hc : l = i
   ·have := h2 hc; simp; right; omega
   ·simp [hc]
  ·cases ht : tr[l]? with
   | none => rfl
   | some tl =>
    by_cases hc : i ∈ tl.anc
    ·have := h3 tl ht hc; simp; right; omega
    ·simp [hc]
def okAt (E : Env) (R : Rec) (B : AS) (io : Opr) (t : Tr) : Bool :=
 match zaj B io with
 | some false => AV.beq t.v (.tup [])
 | some true => match zba E R B io with
  | some v => AV.beq v t.v
  | none => false
 | none => false
def quietB (E : Env) (R : Rec) (S : AS) (rf : Nat → TM) (D : DR) (ios : List Opr) : Bool :=
 (List.range ios.length).all fun i => match ios[i]?, D.tr[i]? with
  | some io, some t => D.louds.contains i || (List.range D.heaps.length).all fun j => match D.heaps[j]? with
   | some H => !ztr D.tr i t j 0 D.louds || okAt E R (S.base (rf i) D.tr t.anc H) io t
   | none => true
  | _, _ => false
def ancs : List Opr → List (List Nat) → List Tr → List Tr
 | io :: ios, ps :: pres, tr => ancs ios pres (tr ++ [⟨io.dst, .top, zdn tr ps⟩])
 | _, _, tr => tr
def znb (i : Nat) : Nat → List Tr → List Nat
 | _, [] => []
 | k, t :: l => match t.dst with
  | some d => if (k == i || t.anc.contains i) = true then znb i (k + 1) l else d :: znb i (k + 1) l
  | none => znb i (k + 1) l
theorem zhj {i d : Nat} : ∀ {l : List Tr} {k m : Nat} {t : Tr}, l[m]? = some t → t.dst = some d → k + m = i ∨ i ∈ t.anc ∨ d ∈ znb i k l
 | [], k, m, t, h, _ => by simp at h
 | x :: l, k, m, t, h, hd => by
  cases m with
  | zero =>
   simp at h; subst h
   simp only [znb, hd]
   split
   ·rename_i hc
    simp only [y14, beq_iff_eq] at hc
    rcases hc with hc | hc
    ·exact .inl hc
    ·exact .inr (.inl (by simpa using hc))
   ·exact .inr (.inr (y08 ..))
  | succ m =>
   have ih := zhj (i := i) (k := k + 1) (l := l) (m := m) (by simpa using h) hd
   rcases ih with ih | ih | ih
   ·exact .inl (by omega)
   ·exact .inr (.inl ih)
   ·right; right
    simp only [znb]
    split
    ·split
     ·exact ih
     ·exact y06 _ ih
    ·exact ih
def zh1 : List Tr → List Tr → Bool
 | [], [] => true
 | a :: l, b :: m => decide (a.anc = b.anc) && decide (a.dst = b.dst) && zh1 l m
 | _, _ => false
theorem zk6 : ∀ {a b : List Tr}, zh1 a b = true → ∀ (i : Nat) (t : Tr), a[i]? = some t → ∃ t', b[i]? = some t' ∧ t'.anc = t.anc ∧ t'.dst = t.dst
 | [], [], _, i, t, h => by simp at h
 | x :: l, y :: m, h, i, t, ht => by
  simp only [zh1, y0g, decide_eq_true_eq] at h
  cases i with
  | zero => simp at ht; subst ht; exact ⟨y, rfl, h.1.1.symm, h.1.2.symm⟩
  | succ i => simpa using zk6 h.2 i t (by simpa using ht)
 | [], _ :: _, h, _, _, _ => by simp [zh1] at h
 | _ :: _, [], h, _, _, _ => by simp [zh1] at h
def zh0 (P : Program) (E : Env) (R : Rec) (ios : List Opr) (pres : List (List Nat)) (S : AS) : Option AS :=
 let st := ancs ios pres []
 let rf := fun i => zfw (znb i 0 st) S.tmps
 match zkl P E R S rf ios pres [] [] [] S.hs with
 | some D =>
  if ndB ios && ios.all (fun io => zc1 S.size io.dst) && zp9 D.tr D.louds && zh1 D.tr st && quietB E R S rf D ios then
   match D.heaps[D.louds.length]? with
   | some H => some (S.base (zfw (ios.filterMap (·.dst)) S.tmps) D.tr (List.range ios.length) H)
   | none => none
  else none
 | none => none
section
variable {P : Program} {w0 w : World} {N0 : Nat} {S S' S1 : AS} {rd : Option (Nat × Nat)} {Q : Exit → AS → Prop} {E : Env} {R : Rec} {io : Opr} {v : AV} {H : HS}
theorem zk4 (hE : EnvOk P E) (hR : zfn P R) {ios : List Opr} {pres : List (List Nat)} (h : zh0 P E R ios pres S = some S') : T P w0 N0 rd (.region ios (some pres)) S fun e1 S1 => e1 = .normal ∧ S1 = S' := by
 unfold zh0 at h
 simp only at h
 split at h <;> try cases h
 rename_i D hD
 split at h <;> try cases h
 rename_i hc
 simp only [y0g] at hc
 obtain ⟨⟨⟨⟨c1, c2⟩, c3⟩, c5⟩, c4⟩ := hc
 split at h <;> try cases h
 rename_i Hn hHn
 generalize hrest : zfw (ios.filterMap (·.dst)) S.tmps = rest at *
 generalize hrf : (fun i => zfw (znb i 0 (ancs ios pres [])) S.tmps) = rf at *
 have I0 : Inv1 P E R S rf [] [] [] [] [] S.hs := by
  refine ⟨rfl, rfl, rfl, rfl, ?_, ?_, ?_, ?_, ?_, ?_⟩
  ·intro i io t h; simp at h
  ·intro i ps h; simp at h
  ·intro i ps t h; simp at h
  ·intro i t h; simp at h
  ·intro l h; simp at h
  ·intro m l h; simp at h
 obtain ⟨hs, Hn', e1, I1⟩ := zhc I0 hD
 simp only [y2m] at I1
 refine T_draw hE.mix rf rest D.tr D.louds D.heaps ⟨I1.l1, fun i d v hv => ?_, fun d v hv => ?_, I1.l2, fun i io t h1 h2 => ⟨I1.dst i io t h1 h2, ?_⟩, ?_, I1.acyc, I1.anc, ?_, ?_, zi4 c3, I1.lob, ?_⟩ ?_
 ·rw [← hrf] at hv
  obtain ⟨h1, h2⟩ := zd4 hv
  refine ⟨h1, fun k t ht hd => ?_⟩
  obtain ⟨t', e1, e2, e3⟩ := zk6 c5 k t ht
  rcases zhj (i := i) (k := 0) e1 (e3.trans hd) with h3 | h3 | h3
  ·exact .inl (by omega)
  ·exact .inr (e2 ▸ h3)
  ·rw [y21] at h2
   simp [h3] at h2
 ·rw [← hrest] at hv
  obtain ⟨h1, h2⟩ := zd4 hv
  refine ⟨h1, fun i t ht e => ?_⟩
  have hi : i < ios.length := by rw [← I1.l1]; exact (y03.1 ht).1
  have hd := I1.dst i ios[i] t (by simp [hi]) ht
  have : d ∈ ios.filterMap (·.dst) := y2e.2 ⟨ios[i], y0z hi, by rw [← hd]; exact e⟩
  rw [y21] at h2
  simp [this] at h2
 ·exact y0e.1 c2 io (y0a h1)
 ·intro i j t t' d h1 h2 h3 h4
  have hi : i < ios.length := by rw [← I1.l1]; exact (y03.1 h1).1
  have hj : j < ios.length := by rw [← I1.l1]; exact (y03.1 h2).1
  exact ndB_ok c1 i j ios[i] ios[j] d (by simp [hi]) (by simp [hj]) (by rw [← I1.dst i ios[i] t (by simp [hi]) h1]; exact h3) (by rw [← I1.dst j ios[j] t' (by simp [hj]) h2]; exact h4)
 ·rw [e1]; exact I1.h0
 ·rw [e1]; simp [I1.l3]
 ·intro i io t j H hio ht hH hfit
  by_cases hl : i ∈ D.louds
  ·obtain ⟨m, hm, hmi⟩ := y1i.1 hl
   have hml : D.louds[m]? = some i := by rw [y07 hm, hmi]
   obtain ⟨io', t', H1, H2, k1, k2, k3, k4, k5, k6⟩ := I1.loud m i hml
   rw [hio] at k1; injection k1 with k1; subst k1
   rw [ht] at k2; injection k2 with k2; subst k2
   rw [← e1] at k3 k4
   have hj1 : j ≤ m := (hfit m i hml).2.1 rfl
   have hj2 : m ≤ j := by
    cases m with
    | zero => exact y0s _
    | succ m =>
     have hm' : m < D.louds.length := by omega
     obtain ⟨t2, ht2, hin⟩ := zi4 c3 m D.louds[m] i (by simp [hm']) hml
     rw [ht] at ht2; injection ht2 with ht2; subst ht2
     exact (hfit m D.louds[m] (by simp [hm'])).1 hin
   obtain rfl : j = m := by omega
   rw [hH] at k3; injection k3 with k3; subst k3
   exact .inr ⟨k5, .inr ⟨hml, H2, k4, zpw hR k6⟩⟩
  ·have hi : i < ios.length := (y03.1 hio).1
   have := y0e.1 c4 i (y0j.2 hi)
   rw [hio, ht] at this
   simp only [y14] at this
   rcases this with h1 | h1
   ·exact absurd (by simpa using h1) hl
   ·have hj : j < D.heaps.length := (y03.1 hH).1
    have := y0e.1 h1 j (y0j.2 hj)
    rw [hH] at this
    have hf : ztr D.tr i t j 0 D.louds = true := zpl D.louds 0 fun m l hm => by
     have := hfit m l hm
     simpa using this
    simp only [hf, Bool.not_true, Bool.false_or] at this
    unfold okAt at this
    split at this
    ·rename_i hw; exact .inl ⟨hl, hw, AV.eq_of_beq _ _ this⟩
    ·rename_i hw
     split at this
     ·rename_i v hq
      have := AV.eq_of_beq _ _ this
      subst this
      exact .inr ⟨hw, .inl ⟨hl, zde hE hR hq⟩⟩
     ·cases this
    ·cases this
 ·intro H hH
  rw [hHn] at hH; injection hH with hH; subst hH
  exact ⟨rfl, rfl⟩
end
structure StepR (P : Program) (E : Env) (R : Rec) (S : AS) (io : Opr) (q ind : Bool) (v : AV) (run : Bool) (S1 : AS) : Prop where
 ok : (zaj S io = some false ∧ run = false ∧ v = .tup [] ∧ S1 = S.put io.dst v) ∨
  (zaj S io = some true ∧ q = true ∧ run = false ∧ S1 = S.put io.dst v ∧ (ind = true → zfl E R S io = some v) ∧ (ind = false → zba E R S io = some v)) ∨
  (zaj S io = some true ∧ q = false ∧ run = true ∧ ∃ H, zdk P E R S io = some (v, H) ∧ S1 = (S.withH H).put io.dst v)
section
variable {P : Program} {w0 w : World} {N0 : Nat} {S S' S1 : AS} {T : TM} {rd : Option (Nat × Nat)} {E : Env} {R : Rec} {io : Opr} {op : IOp} {v : AV} {H : HS}
theorem zvu : ∀ {ios : List Opr} {fl : List (Bool × Bool)} {S S' : AS}, zd3 P E R ios fl S = some S' → fl.length = ios.length ∧
  ∃ (Ss : Nat → AS) (vs : Nat → AV) (rl : Nat → Bool), Ss 0 = S ∧ Ss ios.length = S' ∧
   ∀ (i : Nat) (io : Opr) (q ind : Bool), ios[i]? = some io → fl[i]? = some (q, ind) → StepR P E R (Ss i) io q ind (vs i) (rl i) (Ss (i + 1))
 | [], [], S, S', h => by
  simp only [zd3, y00] at h
  exact ⟨rfl, fun _ => S, fun _ => .top, fun _ => false, rfl, h, by simp⟩
 | io :: ios, (q, ind) :: fl, S, S', h => by
  have go : ∀ {v : AV} {run : Bool} {S1 : AS}, StepR P E R S io q ind v run S1 → zd3 P E R ios fl S1 = some S' → ((q, ind) :: fl).length = (io :: ios).length ∧
    ∃ (Ss : Nat → AS) (vs : Nat → AV) (rl : Nat → Bool), Ss 0 = S ∧ Ss (io :: ios).length = S' ∧
     ∀ (i : Nat) (io' : Opr) (q' ind' : Bool), (io :: ios)[i]? = some io' → ((q, ind) :: fl)[i]? = some (q', ind') → StepR P E R (Ss i) io' q' ind' (vs i) (rl i) (Ss (i + 1)) := by
   intro v run S1 hs hr
   obtain ⟨h1, Ss, vs, rl, h2, h3, h4⟩ := zvu hr
   refine ⟨by simp [h1], fun i => match i with | 0 => S | i + 1 => Ss i, fun i => match i with | 0 => v | i + 1 => vs i, fun i => match i with | 0 => run | i + 1 => rl i, rfl, h3, fun i io' q' ind' e1 e2 => ?_⟩
   cases i with
   | zero =>
    simp at e1 e2
    obtain ⟨e2, e3⟩ := e2
    subst e1 e2 e3
    show StepR P E R S io q ind v run (Ss 0)
    rw [h2]; exact hs
   | succ i => exact h4 i io' q' ind' (by simpa using e1) (by simpa using e2)
  simp only [zd3] at h
  split at h
  ·rename_i hw
   split at h
   ·rename_i hq
    split at h <;> try cases h
    rename_i v hv
    exact go (run := false) ⟨.inr (.inl ⟨hw, hq, rfl, rfl, fun hi => by rw [if_pos hi] at hv; exact hv, fun hi => by rw [if_neg (by rw [hi]; simp)] at hv; exact hv⟩)⟩ h
   ·rename_i hq
    split at h <;> try cases h
    rename_i v H hv
    exact go (run := true) ⟨.inr (.inr ⟨hw, by simpa using hq, rfl, H, hv, rfl⟩)⟩ h
  ·rename_i hw
   exact go (run := false) ⟨.inl ⟨hw, rfl, rfl, rfl⟩⟩ h
  ·cases h
 | [], _ :: _, _, _, h => by simp [zd3] at h
 | _ :: _, [], _, _, h => by simp [zd3] at h
theorem Stp.more {B B' : AS} {H' : HS} (hs : B'.size = B.size) (hm : B'.marks = B.marks) (hh : B'.hs = B.hs) (hi : ∀ d v, zar d B'.tmps = some v → zar d B.tmps = some v)
  (h : Stp P w0 N0 rd io B' fun S2 v2 => v2 = v ∧ S2 = B'.withH H') : Stp P w0 N0 rd io B fun S2 v2 => v2 = v ∧ S2 = B.withH H' := by
 intro ops o hc n I a w r next Qc hR ho hk
 obtain ⟨size, tmps, heap, nx, clk, marks⟩ := B
 obtain ⟨size', tmps', heap', nx', clk', marks'⟩ := B'
 simp only [AS.hs, HS.mk.injEq] at hs hm hh hi
 obtain ⟨rfl, rfl, rfl⟩ := hh
 subst hs hm
 refine h ops o hc n I a w r next Qc ⟨hR.clk, ⟨hR.tmps.1, fun d v hv => hR.tmps.2 d v (hi d v hv)⟩, hR.hrel, hR.marks⟩ ho fun I' S1 v' u w' ⟨e1, e2⟩ hR' hV hE => ?_
 subst e1 e2
 exact hk I' _ v' u w' ⟨rfl, rfl⟩ ⟨hR'.clk, hR.tmps.evo hE, hR'.hrel, hR'.marks⟩ hV hE
theorem zja {B B' : AS} {b : Bool} (hi : ∀ d v, zar d B'.tmps = some v → zar d B.tmps = some v) (h : zaj B' io = some b) : zaj B io = some b := by
 unfold zaj at h ⊢
 cases hg : io.guard with
 | none => rw [hg] at h; exact h
 | some x =>
  obtain ⟨d, c⟩ := x
  rw [hg] at h
  dsimp only at h ⊢
  split at h
  ·rename_i y hy; rw [show B.get d = some (.bool y) from hi d _ hy]; exact h
  ·rename_i vs hy; rw [show B.get d = some (.tup vs) from hi d _ hy]; exact h
  ·cases h
theorem zfi {tr : List Tr} {rest : TM} {d : Nat} {v : AV} : ∀ {l : List Nat}, (∃ p ∈ l, ∃ t, tr[p]? = some t ∧ t.dst = some d) → (∀ p ∈ l, ∀ t, tr[p]? = some t → t.dst = some d → t.v = v) → zar d (zev tr rest l) = some v
 | [], h, _ => by obtain ⟨p, hp, _⟩ := h; cases hp
 | p :: l, h, hv => by
  simp only [zev]
  cases ht : tr[p]? with
  | none =>
   simp only
   obtain ⟨p', hp', t, h1, h2⟩ := h
   rcases y0n.1 hp' with rfl | hp'
   ·rw [ht] at h1; cases h1
   ·exact zfi ⟨p', hp', t, h1, h2⟩ fun q hq => hv q (y06 _ hq)
  | some t0 =>
   simp only
   have rest' : t0.dst ≠ some d → zar d (zev tr rest l) = some v := by
    intro hne
    obtain ⟨p', hp', t, h1, h2⟩ := h
    rcases y0n.1 hp' with rfl | hp'
    ·rw [ht] at h1; injection h1 with h1; subst h1; exact absurd h2 hne
    ·exact zfi ⟨p', hp', t, h1, h2⟩ fun q hq => hv q (y06 _ hq)
   cases hd : t0.dst with
   | none => exact rest' (by rw [hd]; simp)
   | some d0 =>
    simp only [zc5]
    by_cases e : d0 = d
    ·subst e
     rw [if_pos rfl, hv p (y08 ..) t0 ht hd]
    ·rw [if_neg e]
     exact rest' (by rw [hd]; simp; exact e)
theorem zf6 {tr : List Tr} {rest : TM} {d : Nat} : ∀ {l : List Nat}, (∀ p ∈ l, ∀ t, tr[p]? = some t → t.dst ≠ some d) → zar d (zev tr rest l) = zar d rest
 | [], _ => rfl
 | p :: l, h => by
  have ih := zf6 (tr := tr) (rest := rest) (d := d) (l := l) fun q hq => h q (y06 _ hq)
  simp only [zev]
  split
  ·rename_i t ht
   split
   ·rename_i d0 hd
    rw [zc5, if_neg (fun e => h p (y08 ..) t ht (by rw [hd, e])), ih]
   ·exact ih
  ·exact ih
theorem zf4 {d : Nat} : ∀ {ds : List Nat} {t : TM}, d ∉ ds → zar d (zfw ds t) = zar d t
 | [], _, _ => rfl
 | k :: ds, t, h => by
  simp only [zfw, zea]
  rw [if_neg (fun e => h (by rw [e]; exact y08 ..)), zf4 fun hd => h (y06 _ hd)]
def zck (p : Nat → Bool) (n : Nat) : List Nat := (List.range n).filter p
theorem mem_upTo {p : Nat → Bool} {n x : Nat} : x ∈ zck p n ↔ x < n ∧ p x = true := by simp [zck]
theorem zc2 (p : Nat → Bool) (n : Nat) : zck p (n + 1) = zck p n ++ (if p n = true then [n] else []) := by
 simp only [zck, y2x, List.filter_append]
 congr 1
 by_cases h : p n = true <;> simp [h]
theorem zep (p : Nat → Bool) : ∀ (n i : Nat), i ≤ n → ∃ r, zck p n = zck p i ++ r ∧ ∀ x ∈ r, i ≤ x
 | 0, i, h => ⟨[], by rw [show i = 0 by omega]; simp, by simp⟩
 | n + 1, i, h => by
  by_cases e : i = n + 1
  ·exact ⟨[], by rw [e]; simp, by simp⟩
  ·obtain ⟨r, hr, hx⟩ := zep p n i (by omega)
   refine ⟨r ++ (if p n = true then [n] else []), by rw [zc2, hr, y26], fun x hm => ?_⟩
   rcases y0p.1 hm with hm | hm
   ·exact hx x hm
   ·split at hm
    ·simp at hm; omega
    ·cases hm
theorem zlm {p : Nat → Bool} {n i : Nat} (hi : i < n) (hp : p i = true) : (zck p n)[(zck p i).length]? = some i := by
 obtain ⟨r, hr, _⟩ := zep p n (i + 1) hi
 rw [hr, zc2, if_pos hp]
 simp
theorem zcj {p : Nat → Bool} {n i m l : Nat} (hi : i ≤ n) (hm : (zck p n)[m]? = some l) : m < (zck p i).length ↔ l < i := by
 obtain ⟨r, hr, hx⟩ := zep p n i hi
 rw [hr] at hm
 constructor
 ·intro h
  rw [y12 h] at hm
  exact (mem_upTo.1 (y0a hm)).1
 ·intro h
  rcases y22 m (zck p i).length with h1 | h1
  ·exact h1
  ·rw [y17 h1] at hm
   have := hx l (y0a hm)
   omega
end
section
variable {P : Program} {w0 w : World} {N0 : Nat} {S S' S1 : AS} {rd : Option (Nat × Nat)} {E : Env} {R : Rec} {io : Opr} {op : IOp} {v : AV} {H : HS}
theorem T_less {ic : IC} {Q Q' : Exit → AS → Prop} (h : T P w0 N0 rd ic S Q) (hq : ∀ e S1, Q e S1 → ∃ S2, Q' e S2 ∧ ∀ I a w, Rel w0 N0 I S1 a w → Rel w0 N0 I S2 a w) : T P w0 N0 rd ic S Q' := fun code hc n I a w r hr ho =>
 wpIn_mono (h code hc n I a w r hr ho) fun e a' w' ⟨I', S1, q, k1, k2⟩ => by
  obtain ⟨S2, q2, k3⟩ := hq e S1 q
  exact ⟨I', S2, q2, k3 _ _ _ k1, k2⟩
theorem StepR.kept {q ind run : Bool} (h : StepR P E R S io q ind v run S1) : S1.size = S.size ∧ S1.marks = S.marks ∧ S1.tmps = (S.put io.dst v).tmps ∧ (run = false → S1.hs = S.hs) ∧ (run = true → q = false) := by
 have p1 : ∀ S0 : AS, (S0.put io.dst v).size = S0.size ∧ (S0.put io.dst v).marks = S0.marks ∧ (S0.put io.dst v).hs = S0.hs := fun S0 => by cases io.dst <;> exact ⟨rfl, rfl, rfl⟩
 rcases h.ok with ⟨_, h2, _, rfl⟩ | ⟨_, _, h2, rfl, _⟩ | ⟨_, h1, h2, H, _, rfl⟩
 ·exact ⟨(p1 S).1, (p1 S).2.1, rfl, fun _ => (p1 S).2.2, fun e => by rw [h2] at e; cases e⟩
 ·exact ⟨(p1 S).1, (p1 S).2.1, rfl, fun _ => (p1 S).2.2, fun e => by rw [h2] at e; cases e⟩
 ·refine ⟨(p1 _).1, (p1 _).2.1, ?_, fun e => (by rw [h2] at e; cases e), fun _ => h1⟩
  cases io.dst <;> rfl
theorem zq5 {S : AS} {dst : Option Nat} {v x : AV} {d : Nat} (h : zar d (S.put dst v).tmps = some x) : (dst = some d ∧ x = v) ∨ (dst ≠ some d ∧ zar d S.tmps = some x) := by
 cases dst with
 | none => exact .inr ⟨by simp, h⟩
 | some k =>
  simp only [AS.put, zc5] at h
  by_cases e : k = d
  ·subst e; rw [if_pos rfl] at h; injection h with h; exact .inl ⟨rfl, h.symm⟩
  ·rw [if_neg e] at h; exact .inr ⟨by simp; exact e, h⟩
structure FreshExt (H H' : HS) : Prop where
 next : H.next ≤ H'.next
 clk : H.clk ≤ H'.clk
 look : ∀ id, look id H'.heap = look id H.heap ∨ (H.next ≤ id ∧ ∃ st o, look id H'.heap = some (st, o) ∧ H.clk ≤ st)
theorem FreshExt.refl (H : HS) : FreshExt H H := ⟨y0c _, y0c _, fun _ => .inl rfl⟩
theorem FreshExt.trans {H H' H'' : HS} (h : FreshExt H H') (k : FreshExt H' H'') : FreshExt H H'' := by
 refine ⟨y0w h.next k.next, y0w h.clk k.clk, fun id => ?_⟩
 rcases k.look id with e | ⟨e1, st, o, e2, e3⟩
 ·rw [e]; exact h.look id
 ·exact .inr ⟨y0w h.next e1, st, o, e2, y0w h.clk e3⟩
theorem zkg {f : Nat → HS} {a : Nat} : ∀ {b : Nat}, (∀ k, a ≤ k → k < b → FreshExt (f k) (f (k + 1))) → a ≤ b → FreshExt (f a) (f b)
 | 0, _, h => by rw [show a = 0 by omega]; exact FreshExt.refl _
 | b + 1, hs, h => by
  by_cases e : a = b + 1
  ·subst e; exact FreshExt.refl _
  ·exact (zkg (b := b) (fun k h1 h2 => hs k h1 (by omega)) (by omega)).trans (hs b (by omega) (y0q _))
theorem zmm {op : IOp} (h : zh5 op = true) : ∃ g d, op = .load g (.t d) := by
 unfold zh5 at h
 split at h
 ·exact ⟨_, _, rfl⟩
 ·cases h
theorem newExt (S : AS) (o : AObj) : FreshExt S.hs (S.new o).hs := by
 refine ⟨y2n _, y2n _, fun id => ?_⟩
 show look id ((S.next, S.clk, o) :: S.heap) = look id S.heap ∨ _
 rw [za3]
 by_cases e : S.next = id
 ·rw [if_pos e]
  refine .inr ⟨by rw [← e]; exact y0c _, S.clk, o, ?_, y0c _⟩
  show look id ((S.next, S.clk, o) :: S.heap) = _
  rw [za3, if_pos e]
 ·rw [if_neg e]; exact .inl rfl
theorem zjl (hf : zij io.op = true) (h : zdk P E R S io = some (v, H)) : FreshExt S.hs H := by
 unfold zdk zba zfr at h
 cases hop : io.op <;> rw [hop] at hf <;> simp only [zij, y0u] at hf <;> simp only [hop, zbv, if_true] at h
 all_goals
  split at h
  ·rename_i v' S1 hi
   simp only [y00, y05] at h
   obtain ⟨_, rfl⟩ := h
   simp only [iop] at hi
   repeat' (split at hi)
   all_goals simp only [y00, y05, reduceCtorEq] at hi
   obtain ⟨_, rfl⟩ := hi
   exact newExt ..
  ·cases h
def zl4 (g : Option Nat) (cs : List AV) : Option AV :=
 match g with
 | some n => if n ≤ cs.length then some (.agg (cs.take n)) else none
 | none => cs.head?
theorem zut {g : Option Nat} {d : Nat} {X : AS} {H H' : HS} (hop : io.op = .load g (.t d)) (hx : FreshExt H H' ∨ FreshExt H' H) (hst : ∀ id st off, X.get d = some (.mptr id st off) → st < H.clk) (hfree : ∀ id, H.next ≤ id → look id H.heap = none)
  (h : zba E R (X.withH H') io = some v) : zba E R (X.withH H) io = some v := by
 have key : ∀ G : HS, zba E R (X.withH G) io = (X.get d).bind fun p => ((X.withH G).deref p).bind (zl4 g) := by
  intro G
  have e1 : zba E R (X.withH G) io = (iop (X.withH G) (.load g (.t d))).map (·.1) := by
   unfold zba
   split
   ·rename_i hc; rw [hop] at hc; cases hc
   ·rw [hop]; simp [zbv]
  rw [e1]
  simp only [iop, AS.arg]
  have eg : (X.withH G).get d = X.get d := rfl
  rw [eg]
  cases X.get d with
  | none => rfl
  | some p =>
   simp only [y29]
   cases (X.withH G).deref p with
   | none => rfl
   | some cs =>
    cases g with
    | none => cases cs <;> rfl
    | some n => simp only [y29, zl4]; split <;> rfl
 rw [key] at h ⊢
 cases hg : X.get d with
 | none => rw [hg] at h; cases h
 | some p =>
  rw [hg] at h
  simp only [y29] at h ⊢
  have hd : (X.withH H').deref p ≠ none := by
   intro e; rw [e] at h; cases h
  have : (X.withH H).deref p = (X.withH H').deref p := by
   cases p <;> try (exact absurd rfl hd)
   ·rfl
   ·rename_i id st off
    have hst' := hst id st off hg
    simp only [AS.deref] at hd ⊢
    have e1 : (X.withH H').heap = H'.heap := rfl
    have e2 : (X.withH H).heap = H.heap := rfl
    have e3 : (X.withH H').next = H'.next := rfl
    have e4 : (X.withH H).next = H.next := rfl
    rw [e1, e3] at hd ⊢
    rw [e2, e4]
    cases hl : look id H'.heap with
    | none => rw [hl] at hd; exact absurd rfl hd
    | some x =>
     obtain ⟨st', o⟩ := x
     rw [hl] at hd
     cases o with
     | cells cs =>
      simp only at hd
      split at hd
      ·rename_i hc
       obtain ⟨hc1, hc2⟩ := hc
       have same : look id H.heap = look id H'.heap := by
        rcases hx with hx | hx
        ·rcases hx.look id with e | ⟨_, st2, o2, e, e5⟩
         ·exact e.symm
         ·rw [hl] at e; injection e with e; injection e with e _; omega
        ·rcases hx.look id with e | ⟨e, _⟩
         ·exact e
         ·omega
       have hlt : id < H.next := by
        rcases y22 id H.next with h5 | h5
        ·exact h5
        ·have := hfree id h5; rw [same, hl] at this; cases this
       rw [same, hl]
       simp only [hc1, hc2, hlt, and_self, if_true]
      ·exact absurd rfl hd
     | typed T full cs =>
      simp only at hd
      split at hd
      ·rename_i hc
       obtain ⟨hc1, hc2⟩ := hc
       have same : look id H.heap = look id H'.heap := by
        rcases hx with hx | hx
        ·rcases hx.look id with e | ⟨_, st2, o2, e, e5⟩
         ·exact e.symm
         ·rw [hl] at e; injection e with e; injection e with e _; omega
        ·rcases hx.look id with e | ⟨e, _⟩
         ·exact e
         ·omega
       have hlt : id < H.next := by
        rcases y22 id H.next with h5 | h5
        ·exact h5
        ·have := hfree id h5; rw [same, hl] at this; cases this
       rw [same, hl]
       simp only [hc1, hc2, hlt, and_self, if_true]
      ·exact absurd rfl hd
     | _ => exact absurd rfl hd
  rw [this]; exact h
theorem zid {i d : Nat} : ∀ {l : List Tr} {k : Nat}, d ∈ znb i k l → ∃ (m : Nat) (t : Tr), l[m]? = some t ∧ t.dst = some d ∧ k + m ≠ i ∧ i ∉ t.anc
 | [], k, h => by simp [znb] at h
 | t :: l, k, h => by
  have tail : d ∈ znb i (k + 1) l → ∃ (m : Nat) (t' : Tr), (t :: l)[m]? = some t' ∧ t'.dst = some d ∧ k + m ≠ i ∧ i ∉ t'.anc := fun h => by
   obtain ⟨m, t', h1, h2, h3, h4⟩ := zid h
   exact ⟨m + 1, t', by simpa using h1, h2, by omega, h4⟩
  simp only [znb] at h
  split at h
  ·rename_i d' hd
   split at h
   ·exact tail h
   ·rename_i hn
    rcases y0n.1 h with rfl | h
    ·simp only [y14, beq_iff_eq, y21, decide_eq_true_eq, not_or] at hn
     exact ⟨0, t, rfl, hd, by simpa using hn.1, hn.2⟩
    ·exact tail h
  ·exact tail h
theorem T_stat (hE : EnvOk P E) (hR : zfn P R) {ios : List Opr} {pres : List (List Nat)} {fl : List (Bool × Bool)} (hst : zlk E ios pres S.size = some fl) (h : zd3 P E R ios fl S = some S') :
  T P w0 N0 rd (.region ios (some pres)) S fun e1 S1 => e1 = .normal ∧ S1 = S' := by
 unfold zlk at hst
 split at hst <;> try cases hst
 rename_i rs hrs
 split at hst <;> try cases hst
 rename_i hc
 simp only [y0g] at hc
 obtain ⟨⟨⟨c1, c2⟩, c3⟩, c4⟩ := hc
 have hP : PassOk ios pres rs := by
  have := zlc (ios := ios) (pres := pres) (done := []) (dpres := []) (acc := []) (len := 0) ⟨rfl, rfl, by simp, by simp, by simp, by simp, by simp⟩ rfl hrs
  simpa using this
 obtain ⟨_, hnd⟩ := zpy c1
 obtain ⟨_, Ss, vs, rl, s0, sn, hstep⟩ := zvu h
 generalize hn : ios.length = n at *
 have rsAt : ∀ {i : Nat} {io : Opr}, ios[i]? = some io → ∃ r, rs[i]? = some r ∧ r.io = io ∧ r.idx = i := by
  intro i io hi
  have hlt : i < rs.length := by rw [hP.len]; exact (y03.1 hi).1
  refine ⟨rs[i], by simp [hlt], ?_, (hP.at_ i _ (by simp [hlt])).1⟩
  have := (hP.at_ i rs[i] (by simp [hlt])).2
  rw [hi] at this; injection this with this; exact this.symm
 have step : ∀ {i : Nat} {r : OI}, rs[i]? = some r → StepR P E R (Ss i) r.io (zoi E r.io.op) (!((zda E rs).all fun y => zew r y)) (vs i) (rl i) (Ss (i + 1)) := by
  intro i r hr
  exact hstep i r.io _ _ (hP.at_ i r hr).2 (by simp [flagOf, hr])
 have ltn : ∀ {i : Nat} {r : OI}, rs[i]? = some r → i < n := fun hr => by have := (y03.1 hr).1; rw [hP.len] at this; omega
 have atn : ∀ {i : Nat}, i < n → ∃ r, rs[i]? = some r := by
  intro i hi
  have : i < rs.length := by rw [hP.len]; omega
  exact ⟨rs[i], by simp [this]⟩
 -- what stays, what is known, and the heaps
 have keep : ∀ i, i ≤ n → (Ss i).size = S.size ∧ (Ss i).marks = S.marks := by
  intro i
  induction i with
  | zero => intro _; rw [s0]; exact ⟨rfl, rfl⟩
  | succ i ih =>
   intro hi
   obtain ⟨r, hr⟩ := atn (show i < n by omega)
   obtain ⟨k1, k2, _⟩ := (step hr).kept
   exact ⟨k1.trans (ih (by omega)).1, k2.trans (ih (by omega)).2⟩
 have info : ∀ i, i ≤ n → ∀ d v, zar d (Ss i).tmps = some v → (∃ j r, j < i ∧ rs[j]? = some r ∧ r.io.dst = some d ∧ v = vs j) ∨ ((∀ j r, j < i → rs[j]? = some r → r.io.dst ≠ some d) ∧ zar d S.tmps = some v) := by
  intro i
  induction i with
  | zero => intro _ d v hv; rw [s0] at hv; exact .inr ⟨fun j r hj => by omega, hv⟩
  | succ i ih =>
   intro hi d v hv
   obtain ⟨r, hr⟩ := atn (show i < n by omega)
   obtain ⟨_, _, k3, _⟩ := (step hr).kept
   rw [k3] at hv
   rcases zq5 hv with ⟨e1, e2⟩ | ⟨e1, e2⟩
   ·exact .inl ⟨i, r, by omega, hr, e1, e2⟩
   ·rcases ih (by omega) d v e2 with ⟨j, r', h1, h2, h3, h4⟩ | ⟨h1, h2⟩
    ·exact .inl ⟨j, r', by omega, h2, h3, h4⟩
    ·refine .inr ⟨fun j r' hj hr' => ?_, h2⟩
     rcases y22 j i with hji | hji
     ·exact h1 j r' hji hr'
     ·obtain rfl : j = i := by omega
      rw [hr] at hr'; injection hr' with hr'; subst hr'; exact e1
 obtain ⟨louds, hlouds⟩ : ∃ l, l = zck rl n := ⟨_, rfl⟩
 obtain ⟨heaps, hheaps⟩ : ∃ l : List HS, l = S.hs :: louds.map (fun l => (Ss (l + 1)).hs) := ⟨_, rfl⟩
 have heapAt : ∀ i, i ≤ n → heaps[(zck rl i).length]? = some (Ss i).hs := by
  intro i
  induction i with
  | zero => intro _; rw [hheaps, s0]; rfl
  | succ i ih =>
   intro hi
   obtain ⟨r, hr⟩ := atn (show i < n by omega)
   obtain ⟨_, _, _, k4, _⟩ := (step hr).kept
   rw [zc2]
   by_cases hrl : rl i = true
   ·rw [if_pos hrl, y0l, y11, hheaps, y2i, y0d, hlouds, zlm (show i < n by omega) hrl]
    rfl
   ·rw [if_neg hrl, y18, k4 (by simpa using hrl)]
    exact ih (by omega)
 have ldm : ∀ {l : Nat}, l ∈ louds → ∃ r, rs[l]? = some r ∧ r ∈ zda E rs ∧ r.idx = l := by
  intro l hl
  rw [hlouds] at hl
  obtain ⟨h1, h2⟩ := mem_upTo.1 hl
  obtain ⟨r, hr⟩ := atn h1
  obtain ⟨_, _, _, _, k5⟩ := (step hr).kept
  exact ⟨r, hr, zgx (y0a hr) (k5 h2), (hP.at_ l r hr).1⟩
 -- the record of the run
 obtain ⟨tr, htr⟩ : ∃ l : List Tr, l = rs.map (fun r => (⟨r.io.dst, vs r.idx, zck (zas r.a) n⟩ : Tr)) := ⟨_, rfl⟩
 have trAt : ∀ {i : Nat} {r : OI}, rs[i]? = some r → tr[i]? = some ⟨r.io.dst, vs i, zck (zas r.a) n⟩ := by
  intro i r hr
  rw [htr, y0d, hr, ← (hP.at_ i r hr).1]; rfl
 have trGet : ∀ {i : Nat} {t : Tr}, tr[i]? = some t → ∃ r, rs[i]? = some r ∧ t = ⟨r.io.dst, vs i, zck (zas r.a) n⟩ := by
  intro i t ht
  have hlt : i < rs.length := by have := (y03.1 ht).1; rw [htr, y04] at this; exact this
  refine ⟨rs[i], by simp [hlt], ?_⟩
  have := trAt (i := i) (r := rs[i]) (by simp [hlt])
  rw [ht] at this; injection this
 have ancM : ∀ {i q : Nat} {r : OI}, rs[i]? = some r → (q ∈ zck (zas r.a) n ↔ zas r.a q = true) := by
  intro i q r hr
  refine mem_upTo.trans ⟨fun h => h.2, fun h => ⟨?_, h⟩⟩
  have := hP.alt i r hr q h
  have := ltn hr
  omega
 have cnt : ∀ {i j : Nat} {r : OI}, rs[i]? = some r → j < heaps.length → Fits tr louds i ⟨r.io.dst, vs i, zck (zas r.a) n⟩ j → (∀ y ∈ zda E rs, y.idx ≠ i → zas r.a y.idx = true ∨ zas y.a i = true) → j = (zck rl i).length := by
  intro i j r hr hj hfit hcomp
  have hin := ltn hr
  have hll : heaps.length = louds.length + 1 := by rw [hheaps]; simp
  rcases Nat.lt_trichotomy j (zck rl i).length with h1 | h1 | h1
  ·exfalso
   have hle : (zck rl i).length ≤ louds.length := by
    obtain ⟨x, hx, _⟩ := zep rl n i (by omega)
    rw [hlouds, hx]; simp
   have hm : louds[j]? = some louds[j] := by simp [show j < louds.length by omega]
   have hli : louds[j] < i := (zcj (p := rl) (n := n) (by omega) (by rw [← hlouds]; exact hm)).1 h1
   obtain ⟨y, hy, hyl, hyi⟩ := ldm (y0a hm)
   rcases hcomp y hyl (by rw [hyi]; omega) with h2 | h2
   ·have := (hfit j _ hm).1 ((ancM hr).2 (by rw [← hyi]; exact h2))
    omega
   ·have := hP.alt _ y hy i h2
    omega
  ·exact h1
  ·exfalso
   have hm : louds[(zck rl i).length]? = some louds[(zck rl i).length] := by simp [show (zck rl i).length < louds.length by omega]
   have hge : ¬ louds[(zck rl i).length] < i := fun hlt => by
    have := (zcj (p := rl) (n := n) (by omega) (by rw [← hlouds]; exact hm)).2 hlt
    omega
   obtain ⟨y, hy, hyl, hyi⟩ := ldm (y0a hm)
   by_cases he : louds[(zck rl i).length] = i
   ·have := (hfit _ _ hm).2.1 he; omega
   ·rcases hcomp y hyl (by rw [hyi]; exact he) with h2 | h2
    ·have := hP.alt i r hr _ h2
     omega
    ·have := (hfit _ _ hm).2.2 _ (trAt hy) ((ancM hy).2 h2)
     omega
 generalize hrf : (fun i => zfw (znb i 0 tr) S.tmps) = rf at *
 generalize hrest : zfw (ios.filterMap (·.dst)) S.tmps = rest at *
 have chain : ∀ x ∈ zda E rs, ∀ y ∈ zda E rs, x.idx ≤ y.idx ∨ zas x.a y.idx = true := by
  intro x hx y hy
  have := y0e.1 (y0e.1 c3 x hx) y hy
  simp only [y14] at this
  exact this.imp y1l id
 have hll : heaps.length = louds.length + 1 := by rw [hheaps]; simp
 refine T_less (T_draw hE.mix rf rest tr louds heaps (Q := fun e1 S1 => e1 = .normal ∧ S1 = S.base rest tr (List.range ios.length) S'.hs) ⟨?_, ?_, ?_, ?_, ?_, ?_, hP.acyc, ?_, ?_, hll, ?_, ?_, ?_⟩ ?_) ?_
 ·rw [htr, y04, hP.len]
 ·-- free
  intro i d v hv
  rw [← hrf] at hv
  obtain ⟨h1, h2⟩ := zd4 hv
  refine ⟨h1, fun k t ht hd => ?_⟩
  rcases zhj (i := i) (k := 0) ht hd with h3 | h3 | h3
  ·exact .inl (by omega)
  ·exact .inr h3
  ·rw [y21] at h2
   simp [h3] at h2
 ·-- last
  intro d v hv
  rw [← hrest] at hv
  obtain ⟨h1, h2⟩ := zd4 hv
  refine ⟨h1, fun i t ht e => ?_⟩
  obtain ⟨r, hr, rfl⟩ := trGet ht
  have : d ∈ ios.filterMap (·.dst) := y2e.2 ⟨r.io, y0a (hP.at_ i r hr).2, e⟩
  rw [y21] at h2
  simp [this] at h2
 ·exact hP.len2
 ·intro i io t hi ht
  obtain ⟨r, hr, rfl⟩ := trGet ht
  obtain ⟨r', hr', e1, _⟩ := rsAt hi
  rw [hr] at hr'; injection hr' with hr'; subst hr'
  exact ⟨by rw [← e1], y0e.1 c4 io (y0a hi)⟩
 ·intro i j t t' d h1 h2 h3 h4
  obtain ⟨r, hr, rfl⟩ := trGet h1
  obtain ⟨r', hr', rfl⟩ := trGet h2
  exact hnd i j r r' d hr hr' h3 h4
 ·intro i ps t hp ht q hq
  obtain ⟨r, hr, rfl⟩ := trGet ht
  obtain ⟨p, hpm, hor⟩ := hP.up i ps r hp hr q ((ancM hr).1 hq)
  exact ⟨p, hpm, hor.imp id fun ⟨s, k1, k2⟩ => ⟨_, trAt k1, (ancM k1).2 k2⟩⟩
 ·rw [hheaps]; rfl
 ·-- the heap's steps come one behind the other
  intro m l l' h1 h2
  obtain ⟨x, hx, hxl, hxi⟩ := ldm (y0a h1)
  obtain ⟨y, hy, hyl, hyi⟩ := ldm (y0a h2)
  refine ⟨_, trAt hy, (ancM hy).2 ?_⟩
  have hl' := (mem_upTo.1 (hlouds ▸ y0a h2)).1
  have c1' : m < (zck rl l').length := by
   have h5 := (zcj (p := rl) (n := n) (i := l' + 1) (by omega) (by rw [← hlouds]; exact h2)).2 (by omega)
   rw [zc2] at h5
   simp at h5
   split at h5 <;> simp at h5 <;> omega
  have hlt : l < l' := (zcj (p := rl) (n := n) (by omega) (by rw [← hlouds]; exact h1)).1 c1'
  rcases chain y hyl x hxl with h3 | h3
  ·omega
  ·rw [hxi] at h3; exact h3
 ·intro l hl
  rw [hlouds] at hl
  have := (mem_upTo.1 hl).1
  omega
 ·-- each step
  intro i io t j H hi ht hH hfit
  obtain ⟨r, hr, rfl⟩ := trGet ht
  obtain ⟨r', hr', e1, hidx⟩ := rsAt hi
  rw [hr] at hr'; injection hr' with hr'; subst hr'
  subst e1
  have hin := ltn hr
  have hj : j < heaps.length := (y03.1 hH).1
  obtain ⟨ks, km⟩ := keep i (by omega)
  have eqT : ∀ d ∈ zcl r.io, zar d (zcy (Ss i).tmps (zcl r.io)) = (Ss i).get d := fun d hd => zel hd
  have hinfo : ∀ d v, zar d (zcy (Ss i).tmps (zcl r.io)) = some v → zar d (S.base (rf i) tr (zck (zas r.a) n) H).tmps = some v := by
   intro d v hv
   obtain ⟨hd, hv⟩ := zfx hv
   have hrd := y0e.1 (y0e.1 c2 r (y0a hr)) d hd
   simp only [y14, Bool.not_eq_true'] at hrd
   show zar d (zev tr (rf i) (zck (zas r.a) n)) = some v
   rcases info i (by omega) d v hv with ⟨j', r', h1, h2, h3, h4⟩ | ⟨h1, h2⟩
   ·rcases hrd with (hrd | hrd) | hrd
    ·exact absurd h3 (zj9 hrd j' r' h2)
    rotate_left
    ·exfalso
     have h5 := y0e.1 hrd r' (y0a h2)
     rw [(zji _ _).2 h3, hidx] at h5
     have := hP.alt j' r' h2 i (by simpa using h5)
     omega
    ·obtain ⟨q, s, k1, k2, k3⟩ := hP.ofK i r hr d hrd
     obtain rfl := hnd _ _ _ _ d h2 k2 h3 k3
     refine zfi ⟨j', (ancM hr).2 k1, _, trAt h2, h3⟩ fun p hp t ht hd' => ?_
     obtain ⟨r2, hr2, rfl⟩ := trGet ht
     obtain rfl := hnd _ _ _ _ d h2 hr2 h3 hd'
     exact h4.symm
   ·have later : ∀ (p : Nat) (r2 : OI), rs[p]? = some r2 → r2.io.dst = some d → zas r2.a i = true := by
     intro p r2 hr2 hd2
     rcases hrd with (hrd | hrd) | hrd
     ·exact absurd hd2 (zj9 hrd p r2 hr2)
     ·exfalso
      obtain ⟨q, s, k1, k2, k3⟩ := hP.ofK i r hr d hrd
      exact absurd k3 (h1 q s (hP.alt i r hr q k1) k2)
     ·have h5 := y0e.1 hrd r2 (y0a hr2)
      rw [(zji _ _).2 hd2, hidx] at h5
      simpa using h5
    rw [zf6 fun p hp t ht hd2 => by
     obtain ⟨r2, hr2, rfl⟩ := trGet ht
     have k1 := hP.alt p r2 hr2 i (later p r2 hr2 hd2)
     have k2 := hP.alt i r hr p ((ancM hr).1 hp)
     omega, ← hrf]
    show zar d (zfw (znb i 0 tr) S.tmps) = some v
    rw [zf4 fun hm => by
     obtain ⟨m, t, k1, k2, k3, k4⟩ := zid hm
     obtain ⟨r2, hr2, rfl⟩ := trGet k1
     exact k4 ((ancM hr2).2 (later m r2 hr2 k2))]
    exact h2
  have more : ∀ {B' : AS} {v : AV} {H' : HS}, B' = (((Ss i).withT (zcy (Ss i).tmps (zcl r.io))).withH H) → Stp P w0 N0 rd r.io B' (fun S2 v2 => v2 = v ∧ S2 = B'.withH H') → Stp P w0 N0 rd r.io (S.base (rf i) tr (zck (zas r.a) n) H) fun S2 v2 => v2 = v ∧ S2 = (S.base (rf i) tr (zck (zas r.a) n) H).withH H' := by
   intro B' v H' hB hs
   subst hB
   exact Stp.more (B' := ((Ss i).withT (zcy (Ss i).tmps (zcl r.io))).withH H) ks km rfl hinfo hs
  have wantB : ∀ {b : Bool}, zaj (Ss i) r.io = some b → zaj (S.base (rf i) tr (zck (zas r.a) n) H) r.io = some b := by
   intro b hb
   refine zja (B' := (Ss i).withT (zcy (Ss i).tmps (zcl r.io))) hinfo ?_
   rw [zqu eqT]; exact hb
  rcases (step hr).ok with ⟨h1, h2, h3, _⟩ | ⟨h1, h2, h3, _, h5, h6⟩ | ⟨h1, h2, h3, H1, h4, h5⟩
  ·exact .inl ⟨fun hm => (by rw [hlouds] at hm; have := (mem_upTo.1 hm).2; rw [h2] at this; cases this), wantB h1, h3⟩
  ·refine .inr ⟨wantB h1, .inl ⟨fun hm => (by rw [hlouds] at hm; have := (mem_upTo.1 hm).2; rw [h3] at this; cases this), ?_⟩⟩
   by_cases hall : ((zda E rs).all fun y => zew r y) = true
   ·have e2 := h6 (by rw [hall]; rfl)
    rw [← zld (E := E) (R := R) eqT] at e2
    by_cases hall2 : ((zda E rs).all fun y => zas r.a y.idx || zas y.a r.idx) = true
    ·have hjc := cnt hr hj hfit fun y hy _ => by
      have := y0e.1 hall2 y hy
      rw [hidx] at this
      simpa using this
     have := heapAt i (by omega)
     rw [← hjc, hH] at this; injection this with this
     subst this
     exact more (H' := (Ss i).hs) rfl (zde hE hR e2)
    ·have hld : zh5 r.io.op = true := by
      rcases Bool.eq_false_or_eq_true (zh5 r.io.op) with h | h
      ·exact h
      ·exfalso
       apply hall2
       rw [y0e] at hall ⊢
       intro y hy
       have := hall y hy
       simpa [zew, h] using this
     obtain ⟨g, d, hop⟩ := zmm hld
     have hni : i ∉ louds := fun hm => by rw [hlouds] at hm; have := (mem_upTo.1 hm).2; rw [h3] at this; cases this
     have one : ∀ (m l : Nat), louds[m]? = some l → ¬ (zas r.a l = true) → (∀ y : OI, rs[l]? = some y → ¬ (zas y.a i = true)) → FreshExt (heaps.getD m S.hs) (heaps.getD (m + 1) S.hs) := by
      intro m l hm hn1 hn2
      obtain ⟨y, hy, hyl, hyi⟩ := ldm (y0a hm)
      have hln := ltn hy
      have hsoft := y0e.1 hall y hyl
      have hfr : zij y.io.op = true := by
       simp only [zew, y14, y0g] at hsoft
       rcases hsoft with (hs | hs) | hs
       ·rw [hyi] at hs; exact absurd hs hn1
       ·rw [hidx] at hs; exact absurd hs (hn2 y hy)
       ·exact hs.2
      have hcl : (zck rl l).length = m := by
       have hrl : rl l = true := (mem_upTo.1 (hlouds ▸ y0a hm)).2
       have u1 := (zcj (p := rl) (n := n) (i := l) (by omega) (by rw [← hlouds]; exact hm)).1
       have u2 := (zcj (p := rl) (n := n) (i := l + 1) (by omega) (by rw [← hlouds]; exact hm)).2 (y0q _)
       rw [zc2, if_pos hrl, y0l, y11] at u2
       have u3 : ¬ m < (zck rl l).length := fun h => by have := u1 h; omega
       omega
      have hrl : rl l = true := (mem_upTo.1 (hlouds ▸ y0a hm)).2
      have g1 := heapAt l (by omega)
      have g2 := heapAt (l + 1) (by omega)
      rw [zc2, if_pos hrl, y0l, y11, hcl] at g2
      rw [hcl] at g1
      have g1' : heaps.getD m S.hs = (Ss l).hs := by simp [List.getD, g1]
      have g2' : heaps.getD (m + 1) S.hs = (Ss (l + 1)).hs := by simp [List.getD, g2]
      rw [g1', g2']
      rcases (step hy).ok with ⟨_, k2, _, _⟩ | ⟨_, _, k3, _⟩ | ⟨_, _, _, H1, k4, k5⟩
      ·rw [hrl] at k2; cases k2
      ·rw [hrl] at k3; cases k3
      ·have := zjl (P := P) (E := E) (R := R) hfr k4
       rw [k5]
       cases y.io.dst <;> exact this
     have hconn : FreshExt H (Ss i).hs ∨ FreshExt (Ss i).hs H := by
      have gi : heaps.getD (zck rl i).length S.hs = (Ss i).hs := by simp [List.getD, heapAt i (by omega)]
      have gj : heaps.getD j S.hs = H := by simp [List.getD, hH]
      rcases Nat.le_total j (zck rl i).length with hle | hle
      ·left
       rw [← gi, ← gj]
       refine zkg (f := fun k => heaps.getD k S.hs) (fun k hk1 hk2 => ?_) hle
       have hkl : k < louds.length := by
        obtain ⟨x, hx, _⟩ := zep rl n i (by omega)
        rw [hlouds, hx, y0l]; omega
       have hm : louds[k]? = some louds[k] := by simp [hkl]
       have hlt : louds[k] < i := (zcj (p := rl) (n := n) (by omega) (by rw [← hlouds]; exact hm)).1 hk2
       refine one k _ hm (fun hb => ?_) (fun y hy hb => ?_)
       ·have := (hfit k _ hm).1 ((ancM hr).2 hb); omega
       ·have := hP.alt _ y hy i hb; omega
      ·right
       rw [← gi, ← gj]
       refine zkg (f := fun k => heaps.getD k S.hs) (fun k hk1 hk2 => ?_) hle
       have hkl : k < louds.length := by omega
       have hm : louds[k]? = some louds[k] := by simp [hkl]
       have hge : ¬ louds[k] < i := fun hlt => by
        have := (zcj (p := rl) (n := n) (by omega) (by rw [← hlouds]; exact hm)).2 hlt
        omega
       refine one k _ hm (fun hb => ?_) (fun y hy hb => ?_)
       ·have := hP.alt i r hr _ hb; omega
       ·have := (hfit k _ hm).2.2 _ (trAt hy) ((ancM hy).2 hb); omega
     intro ops o hc n' I a w r' next Qc hR0 ho hk
     have hq : zba E R (((Ss i).withT (zcy (Ss i).tmps (zcl r.io))).withH H) r.io = some (vs i) := by
      refine zut hop hconn (fun id st off hg => ?_) (fun id hid => hR0.hrel.free id hid) e2
      have hv := hR0.tmps.2 d _ (hinfo d _ hg)
      cases hv with
      | mptr _ hx =>
       obtain ⟨J, hJ, c1, _⟩ := hx
       injection hJ with hJ; subst hJ
       have h9 : I.clk = H.clk := hR0.clk
       omega
     exact more (H' := H) rfl (zde hE hR hq) ops o hc n' I a w r' next Qc hR0 ho hk
   ·have e2 := h5 (by simpa using hall)
    rw [← zw6 (E := E) (R := R) eqT] at e2
    exact more (H' := H) rfl (zde hE hR (zj6 e2 H))
  ·have hlm : louds[(zck rl i).length]? = some i := by rw [hlouds]; exact zlm hin h3
   have hjc : j = (zck rl i).length := cnt hr hj hfit fun y hy hne => by
    have hrl : r ∈ zda E rs := zgx (y0a hr) h2
    rcases chain r hrl y hy with k | k
    ·rcases chain y hy r hrl with k' | k'
     ·omega
     ·rw [hidx] at k'; exact .inr k'
    ·exact .inl k
   have h0 := heapAt i (by omega)
   rw [← hjc, hH] at h0; injection h0 with h0
   subst h0
   refine .inr ⟨wantB h1, .inr ⟨by rw [hjc]; exact hlm, H1, ?_, ?_⟩⟩
   ·have := heapAt (i + 1) (by omega)
    rw [zc2, if_pos h3, y0l, y11, ← hjc] at this
    rw [this, h5]
    cases r.io.dst <;> rfl
   ·refine more (H' := H1) rfl ?_
    rw [← zw5 (P := P) (E := E) (R := R) eqT] at h4
    exact zll hE hR h4
 ·intro H hH
  have := heapAt n (y0c _)
  rw [← hlouds, hH, sn] at this
  injection this with this
  exact ⟨rfl, by rw [this]⟩
 ·intro e S1 ⟨he, hS1⟩
  refine ⟨S', ⟨he, rfl⟩, fun I a w hrel => ?_⟩
  subst hS1
  obtain ⟨ks, km⟩ := keep n (y0c _)
  rw [sn] at ks km
  refine ⟨hrel.clk, ⟨by rw [ks]; exact hrel.tmps.1, fun d v hv => hrel.tmps.2 d v ?_⟩, hrel.hrel, by rw [km]; exact hrel.marks⟩
  show zar d (zev tr rest (List.range ios.length)) = some v
  rw [← sn] at hv
  rcases info n (y0c _) d v hv with ⟨j, r, h1, h2, h3, h4⟩ | ⟨h1, h2⟩
  ·refine zfi ⟨j, by rw [hn]; simpa using h1, _, trAt h2, h3⟩ fun p hp t ht hd' => ?_
   obtain ⟨r2, hr2, rfl⟩ := trGet ht
   obtain rfl := hnd _ _ _ _ d h2 hr2 h3 hd'
   exact h4.symm
  ·rw [zf6 fun p _ t ht => by obtain ⟨r2, hr2, rfl⟩ := trGet ht; exact h1 p r2 (ltn hr2) hr2, ← hrest, zf4]
   ·exact h2
   ·intro hm
    obtain ⟨io, hio, hd⟩ := y2e.1 hm
    obtain ⟨i, hi, rfl⟩ := y1i.1 hio
    obtain ⟨r, hr, e1, _⟩ := rsAt (i := i) (io := ios[i]) (by simp [hi])
    exact h1 i r (by omega) hr (by rw [e1]; exact hd)
end
def zl1 : IOp → Bool
 | .store .. => true
 | .append .. => true
 | _ => false
def zof (ld sd : Nat → Prop) (S : AS) : IOp → Prop
 | .load _ a => ∀ id sp off, S.arg a = some (.mptr id sp off) → ld id
 | .store _ p _ => ∀ id sp off, S.arg p = some (.mptr id sp off) → sd id
 | .append _ _ _ s _ => ∀ id sp sz off len cap, S.arg s = some (.ms id sp sz off len cap) → sd id
 | _ => True
def zlw (x y : OI) : Bool := zew x y || (zh5 x.io.op && zl1 y.io.op)
def zts (E : Env) (lds : List OI) (x : OI) : Bool × Bool := (zoi E x.io.op, !(lds.all fun y => zlw x y))
def zw4 (E : Env) (ios : List Opr) (pres : List (List Nat)) (size : Nat) : Option (List (Bool × Bool)) :=
 match zmw ios pres [] 0 with
 | some rs =>
  if ndM rs 0 && rs.all (zvj rs (wAll rs)) && (zda E rs).all (fun x => (zda E rs).all fun y => Nat.ble x.idx y.idx || zas x.a y.idx) && ios.all (fun io => zc1 size io.dst) then some (rs.map (zts E (zda E rs))) else none
 | none => none
section
variable {P : Program} {w0 w : World} {N0 : Nat} {S S' S1 : AS} {rd : Option (Nat × Nat)} {E : Env} {R : Rec} {io : Opr} {op : IOp} {v : AV} {H : HS}
structure ExtAt (id : Nat) (H H' : HS) : Prop where
 next : H.next ≤ H'.next
 clk : H.clk ≤ H'.clk
 look : Am.look id H'.heap = Am.look id H.heap ∨ (H.next ≤ id ∧ ∃ sp o, Am.look id H'.heap = some (sp, o) ∧ H.clk ≤ sp)
theorem FreshExt.at {H H' : HS} (h : FreshExt H H') (id : Nat) : ExtAt id H H' := ⟨h.next, h.clk, h.look id⟩
theorem ExtAt.refl (id : Nat) (H : HS) : ExtAt id H H := ⟨y0c _, y0c _, .inl rfl⟩
theorem ExtAt.trans {id : Nat} {H H' H'' : HS} (h : ExtAt id H H') (k : ExtAt id H' H'') : ExtAt id H H'' := by
 refine ⟨y0w h.next k.next, y0w h.clk k.clk, ?_⟩
 rcases k.look with e | ⟨e1, sp, o, e2, e3⟩
 ·rw [e]; exact h.look
 ·exact .inr ⟨y0w h.next e1, sp, o, e2, y0w h.clk e3⟩
theorem zni {id : Nat} {f : Nat → HS} {a : Nat} : ∀ {b : Nat}, (∀ k, a ≤ k → k < b → ExtAt id (f k) (f (k + 1))) → a ≤ b → ExtAt id (f a) (f b)
 | 0, _, h => by rw [show a = 0 by omega]; exact ExtAt.refl _ _
 | b + 1, hs, h => by
  by_cases e : a = b + 1
  ·subst e; exact ExtAt.refl _ _
  ·exact (zni (b := b) (fun k h1 h2 => hs k h1 (by omega)) (by omega)).trans (hs b (by omega) (y0q _))
theorem zqx {S1 : AS} {id sz b : Nat} {sv : AV} {es : List (List AV)} (hne : ∀ id2 sp2 sz2 off2 len2 cap2, sv = .ms id2 sp2 sz2 off2 len2 cap2 → id2 ≠ id) (h : zbg S sz b sv es = some (v, S1)) : ExtAt id S.hs S1.hs := by
 unfold zbg at h
 repeat' (split at h)
 all_goals simp only [y00, y05, reduceCtorEq] at h
 all_goals obtain ⟨_, rfl⟩ := h
 all_goals first
  | exact ExtAt.refl _ _
  | exact (newExt ..).at id
  | (
    refine ⟨y0c _, by first | exact y0c _ | exact y2n _, .inl ?_⟩
    show Am.look id (zbu _ _ S.heap) = Am.look id S.heap
    rw [za4, if_neg (hne _ _ _ _ _ _ rfl)])
theorem zrq {id : Nat} (hf : zl1 io.op = true) (h : zdk P E R S io = some (v, H)) (hne : ∀ id2 sp2 off2 sz p x, io.op = .store sz p x → S.arg p = some (.mptr id2 sp2 off2) → id2 ≠ id)
  (hna : ∀ id2 sp2 sz2 off2 len2 cap2 sz b z s x, io.op = .append sz b z s x → S.arg s = some (.ms id2 sp2 sz2 off2 len2 cap2) → id2 ≠ id) : ExtAt id S.hs H := by
 unfold zdk zba zfr at h
 cases hop : io.op <;> rw [hop] at hf <;> simp only [zl1, y0u] at hf
 case append sz b z s x =>
  simp only [hop, zbv, if_true] at h
  split at h
  ·rename_i v' S1 hi
   simp only [y00, y05] at h
   obtain ⟨_, rfl⟩ := h
   simp only [iop] at hi
   split at hi
   ·rename_i sv xv hs hx
    split at hi
    ·exact zqx (fun id2 sp2 sz2 off2 len2 cap2 e => hna id2 sp2 sz2 off2 len2 cap2 sz b z s x hop (e ▸ hs)) hi
    ·cases hi
   ·cases hi
  ·cases h
 rename_i sz p x
 simp only [hop, zbv, if_true] at h
 split at h
 ·rename_i v' S1 hi
  simp only [y00, y05] at h
  obtain ⟨_, rfl⟩ := h
  simp only [iop] at hi
  split at hi
  ·rename_i pv xv hp hx
   split at hi
   ·rename_i vs hc
    split at hi
    ·simp only [y01, y05] at hi
     obtain ⟨S2, hs, _, rfl⟩ := hi
     unfold AS.store at hs
     split at hs
     ·rename_i id2 sp2 off2
      split at hs
      ·split at hs
       ·simp only [y00] at hs
        subst hs
        refine ⟨y0c _, y0c _, .inl ?_⟩
        show Am.look id (zbu id2 _ S.heap) = Am.look id S.heap
        rw [za4, if_neg (hne id2 sp2 off2 sz p x hop hp)]
       ·cases hs
      ·split at hs
       ·simp only [y00] at hs
        subst hs
        refine ⟨y0c _, y0c _, .inl ?_⟩
        show Am.look id (zbu id2 _ S.heap) = Am.look id S.heap
        rw [za4, if_neg (hne id2 sp2 off2 sz p x hop hp)]
       ·cases hs
      ·cases hs
     ·cases hs
    ·cases hi
   ·cases hi
  ·cases hi
 ·cases h
theorem zmq {T : TM} {l : List Nat} {d : Nat} (h : d ∈ l) : zar d (zcy T l) = zar d T := zel h
theorem zrc {g : Option Nat} {d : Nat} {X : AS} {H H' : HS} (hop : io.op = .load g (.t d)) (hx : ∀ id sp off, X.get d = some (.mptr id sp off) → ExtAt id H H' ∨ ExtAt id H' H) (hst : ∀ id st off, X.get d = some (.mptr id st off) → st < H.clk) (hfree : ∀ id, H.next ≤ id → look id H.heap = none)
  (h : zba E R (X.withH H') io = some v) : zba E R (X.withH H) io = some v := by
 have key : ∀ G : HS, zba E R (X.withH G) io = (X.get d).bind fun p => ((X.withH G).deref p).bind (zl4 g) := by
  intro G
  have e1 : zba E R (X.withH G) io = (iop (X.withH G) (.load g (.t d))).map (·.1) := by
   unfold zba
   split
   ·rename_i hc; rw [hop] at hc; cases hc
   ·rw [hop]; simp [zbv]
  rw [e1]
  simp only [iop, AS.arg]
  have eg : (X.withH G).get d = X.get d := rfl
  rw [eg]
  cases X.get d with
  | none => rfl
  | some p =>
   simp only [y29]
   cases (X.withH G).deref p with
   | none => rfl
   | some cs =>
    cases g with
    | none => cases cs <;> rfl
    | some n => simp only [y29, zl4]; split <;> rfl
 rw [key] at h ⊢
 cases hg : X.get d with
 | none => rw [hg] at h; cases h
 | some p =>
  rw [hg] at h
  simp only [y29] at h ⊢
  have hd : (X.withH H').deref p ≠ none := by
   intro e; rw [e] at h; cases h
  have : (X.withH H).deref p = (X.withH H').deref p := by
   cases p <;> try (exact absurd rfl hd)
   ·rfl
   ·rename_i id st off
    have hst' := hst id st off hg
    simp only [AS.deref] at hd ⊢
    have e1 : (X.withH H').heap = H'.heap := rfl
    have e2 : (X.withH H).heap = H.heap := rfl
    have e3 : (X.withH H').next = H'.next := rfl
    have e4 : (X.withH H).next = H.next := rfl
    rw [e1, e3] at hd ⊢
    rw [e2, e4]
    cases hl : look id H'.heap with
    | none => rw [hl] at hd; exact absurd rfl hd
    | some x =>
     obtain ⟨st', o⟩ := x
     rw [hl] at hd
     cases o with
     | cells cs =>
      simp only at hd
      split at hd
      ·rename_i hc
       obtain ⟨hc1, hc2⟩ := hc
       have same : look id H.heap = look id H'.heap := by
        rcases hx id st off hg with hx | hx
        ·rcases hx.look with e | ⟨_, st2, o2, e, e5⟩
         ·exact e.symm
         ·rw [hl] at e; injection e with e; injection e with e _; omega
        ·rcases hx.look with e | ⟨e, _⟩
         ·exact e
         ·omega
       have hlt : id < H.next := by
        rcases y22 id H.next with h5 | h5
        ·exact h5
        ·have := hfree id h5; rw [same, hl] at this; cases this
       rw [same, hl]
       simp only [hc1, hc2, hlt, and_self, if_true]
      ·exact absurd rfl hd
     | typed T full cs =>
      simp only at hd
      split at hd
      ·rename_i hc
       obtain ⟨hc1, hc2⟩ := hc
       have same : look id H.heap = look id H'.heap := by
        rcases hx id st off hg with hx | hx
        ·rcases hx.look with e | ⟨_, st2, o2, e, e5⟩
         ·exact e.symm
         ·rw [hl] at e; injection e with e; injection e with e _; omega
        ·rcases hx.look with e | ⟨e, _⟩
         ·exact e
         ·omega
       have hlt : id < H.next := by
        rcases y22 id H.next with h5 | h5
        ·exact h5
        ·have := hfree id h5; rw [same, hl] at this; cases this
       rw [same, hl]
       simp only [hc1, hc2, hlt, and_self, if_true]
      ·exact absurd rfl hd
     | _ => exact absurd rfl hd
  rw [this]; exact h
theorem zqe : ∀ {ios : List Opr} {fl : List (Bool × Bool)} {S S' : AS}, zd3 P E R ios fl S = some S' → fl.length = ios.length ∧
  ∃ (Ss : Nat → AS) (vs : Nat → AV) (rl : Nat → Bool), Ss 0 = S ∧ Ss ios.length = S' ∧
   (∀ (i : Nat) (io : Opr) (q ind : Bool), ios[i]? = some io → fl[i]? = some (q, ind) → StepR P E R (Ss i) io q ind (vs i) (rl i) (Ss (i + 1))) ∧
   ∀ i, i ≤ ios.length → zd3 P E R (ios.take i) (fl.take i) S = some (Ss i)
 | [], [], S, S', h => by
  simp only [zd3, y00] at h
  exact ⟨rfl, fun _ => S, fun _ => .top, fun _ => false, rfl, h, by simp, fun i _ => by simp [zd3]⟩
 | io :: ios, (q, ind) :: fl, S, S', h => by
  have go : ∀ {v : AV} {run : Bool} {S1 : AS}, StepR P E R S io q ind v run S1 → (∀ l r, zd3 P E R (io :: l) ((q, ind) :: r) S = zd3 P E R l r S1) → zd3 P E R ios fl S1 = some S' → ((q, ind) :: fl).length = (io :: ios).length ∧
    ∃ (Ss : Nat → AS) (vs : Nat → AV) (rl : Nat → Bool), Ss 0 = S ∧ Ss (io :: ios).length = S' ∧
     (∀ (i : Nat) (io' : Opr) (q' ind' : Bool), (io :: ios)[i]? = some io' → ((q, ind) :: fl)[i]? = some (q', ind') → StepR P E R (Ss i) io' q' ind' (vs i) (rl i) (Ss (i + 1))) ∧
     ∀ i, i ≤ (io :: ios).length → zd3 P E R ((io :: ios).take i) (((q, ind) :: fl).take i) S = some (Ss i) := by
   intro v run S1 hs hrun hr
   obtain ⟨h1, Ss, vs, rl, h2, h3, h4, h5⟩ := zqe hr
   refine ⟨by simp [h1], fun i => match i with | 0 => S | i + 1 => Ss i, fun i => match i with | 0 => v | i + 1 => vs i, fun i => match i with | 0 => run | i + 1 => rl i, rfl, h3, fun i io' q' ind' e1 e2 => ?_, fun i hi => ?_⟩
   ·cases i with
    | zero =>
     simp at e1 e2
     obtain ⟨e2, e3⟩ := e2
     subst e1 e2 e3
     show StepR P E R S io q ind v run (Ss 0)
     rw [h2]; exact hs
    | succ i => exact h4 i io' q' ind' (by simpa using e1) (by simpa using e2)
   ·cases i with
    | zero => simp [zd3]
    | succ i =>
     rw [y1p, y1p, hrun]
     exact h5 i (by simpa using hi)
  simp only [zd3] at h
  split at h
  ·rename_i hw
   split at h
   ·rename_i hq
    split at h <;> try cases h
    rename_i v hv
    exact go (run := false) ⟨.inr (.inl ⟨hw, hq, rfl, rfl, fun hi => by rw [if_pos hi] at hv; exact hv, fun hi => by rw [if_neg (by rw [hi]; simp)] at hv; exact hv⟩)⟩ (fun l r => by simp only [zd3, hw, hq, if_true, hv]) h
   ·rename_i hq
    split at h <;> try cases h
    rename_i v H hv
    exact go (run := true) ⟨.inr (.inr ⟨hw, by simpa using hq, rfl, H, hv, rfl⟩)⟩ (fun l r => by simp only [zd3, hw, if_neg hq, hv]) h
  ·rename_i hw
   exact go (run := false) ⟨.inl ⟨hw, rfl, rfl, rfl⟩⟩ (fun l r => by simp only [zd3, hw]) h
  ·cases h
 | [], _ :: _, _, _, h => by simp [zd3] at h
 | _ :: _, [], _, _, h => by simp [zd3] at h
theorem TA_stat2 (hE : EnvOk P E) (hR : zfn P R) {ios : List Opr} {pres : List (List Nat)} {fl : List (Bool × Bool)} (hst : zw4 E ios pres S.size = some fl) (h : zd3 P E R ios fl S = some S') {ld sd : Nat → Prop} (hdis : ∀ id, ld id → sd id → False)
  (hops : ∀ (i : Nat) (io : Opr) (Si : AS), ios[i]? = some io → zd3 P E R (ios.take i) (fl.take i) S = some Si → zaj Si io = some true → zof ld sd Si io.op) :
  TA P w0 N0 rd ios pres S fun S1 => S1 = S' := by
 unfold zw4 at hst
 split at hst <;> try cases hst
 rename_i rs hrs
 split at hst <;> try cases hst
 rename_i hc
 simp only [y0g] at hc
 obtain ⟨⟨⟨c1, c2⟩, c3⟩, c4⟩ := hc
 have hP : PassOk ios pres rs := by
  have := zlc (ios := ios) (pres := pres) (done := []) (dpres := []) (acc := []) (len := 0) ⟨rfl, rfl, by simp, by simp, by simp, by simp, by simp⟩ rfl hrs
  simpa using this
 obtain ⟨_, hnd⟩ := zpy c1
 obtain ⟨_, Ss, vs, rl, s0, sn, hstep, hpre⟩ := zqe h
 generalize hn : ios.length = n at *
 have rsAt : ∀ {i : Nat} {io : Opr}, ios[i]? = some io → ∃ r, rs[i]? = some r ∧ r.io = io ∧ r.idx = i := by
  intro i io hi
  have hlt : i < rs.length := by rw [hP.len]; exact (y03.1 hi).1
  refine ⟨rs[i], by simp [hlt], ?_, (hP.at_ i _ (by simp [hlt])).1⟩
  have := (hP.at_ i rs[i] (by simp [hlt])).2
  rw [hi] at this; injection this with this; exact this.symm
 have step : ∀ {i : Nat} {r : OI}, rs[i]? = some r → StepR P E R (Ss i) r.io (zoi E r.io.op) (!((zda E rs).all fun y => zlw r y)) (vs i) (rl i) (Ss (i + 1)) := by
  intro i r hr
  exact hstep i r.io _ _ (hP.at_ i r hr).2 (by simp [zts, hr])
 have ltn : ∀ {i : Nat} {r : OI}, rs[i]? = some r → i < n := fun hr => by have := (y03.1 hr).1; rw [hP.len] at this; omega
 have atn : ∀ {i : Nat}, i < n → ∃ r, rs[i]? = some r := by
  intro i hi
  have : i < rs.length := by rw [hP.len]; omega
  exact ⟨rs[i], by simp [this]⟩
 -- what stays, what is known, and the heaps
 have keep : ∀ i, i ≤ n → (Ss i).size = S.size ∧ (Ss i).marks = S.marks := by
  intro i
  induction i with
  | zero => intro _; rw [s0]; exact ⟨rfl, rfl⟩
  | succ i ih =>
   intro hi
   obtain ⟨r, hr⟩ := atn (show i < n by omega)
   obtain ⟨k1, k2, _⟩ := (step hr).kept
   exact ⟨k1.trans (ih (by omega)).1, k2.trans (ih (by omega)).2⟩
 have info : ∀ i, i ≤ n → ∀ d v, zar d (Ss i).tmps = some v → (∃ j r, j < i ∧ rs[j]? = some r ∧ r.io.dst = some d ∧ v = vs j) ∨ ((∀ j r, j < i → rs[j]? = some r → r.io.dst ≠ some d) ∧ zar d S.tmps = some v) := by
  intro i
  induction i with
  | zero => intro _ d v hv; rw [s0] at hv; exact .inr ⟨fun j r hj => by omega, hv⟩
  | succ i ih =>
   intro hi d v hv
   obtain ⟨r, hr⟩ := atn (show i < n by omega)
   obtain ⟨_, _, k3, _⟩ := (step hr).kept
   rw [k3] at hv
   rcases zq5 hv with ⟨e1, e2⟩ | ⟨e1, e2⟩
   ·exact .inl ⟨i, r, by omega, hr, e1, e2⟩
   ·rcases ih (by omega) d v e2 with ⟨j, r', h1, h2, h3, h4⟩ | ⟨h1, h2⟩
    ·exact .inl ⟨j, r', by omega, h2, h3, h4⟩
    ·refine .inr ⟨fun j r' hj hr' => ?_, h2⟩
     rcases y22 j i with hji | hji
     ·exact h1 j r' hji hr'
     ·obtain rfl : j = i := by omega
      rw [hr] at hr'; injection hr' with hr'; subst hr'; exact e1
 obtain ⟨louds, hlouds⟩ : ∃ l, l = zck rl n := ⟨_, rfl⟩
 obtain ⟨heaps, hheaps⟩ : ∃ l : List HS, l = S.hs :: louds.map (fun l => (Ss (l + 1)).hs) := ⟨_, rfl⟩
 have heapAt : ∀ i, i ≤ n → heaps[(zck rl i).length]? = some (Ss i).hs := by
  intro i
  induction i with
  | zero => intro _; rw [hheaps, s0]; rfl
  | succ i ih =>
   intro hi
   obtain ⟨r, hr⟩ := atn (show i < n by omega)
   obtain ⟨_, _, _, k4, _⟩ := (step hr).kept
   rw [zc2]
   by_cases hrl : rl i = true
   ·rw [if_pos hrl, y0l, y11, hheaps, y2i, y0d, hlouds, zlm (show i < n by omega) hrl]
    rfl
   ·rw [if_neg hrl, y18, k4 (by simpa using hrl)]
    exact ih (by omega)
 have ldm : ∀ {l : Nat}, l ∈ louds → ∃ r, rs[l]? = some r ∧ r ∈ zda E rs ∧ r.idx = l := by
  intro l hl
  rw [hlouds] at hl
  obtain ⟨h1, h2⟩ := mem_upTo.1 hl
  obtain ⟨r, hr⟩ := atn h1
  obtain ⟨_, _, _, _, k5⟩ := (step hr).kept
  exact ⟨r, hr, zgx (y0a hr) (k5 h2), (hP.at_ l r hr).1⟩
 -- the record of the run
 obtain ⟨tr, htr⟩ : ∃ l : List Tr, l = rs.map (fun r => (⟨r.io.dst, vs r.idx, zck (zas r.a) n⟩ : Tr)) := ⟨_, rfl⟩
 have trAt : ∀ {i : Nat} {r : OI}, rs[i]? = some r → tr[i]? = some ⟨r.io.dst, vs i, zck (zas r.a) n⟩ := by
  intro i r hr
  rw [htr, y0d, hr, ← (hP.at_ i r hr).1]; rfl
 have trGet : ∀ {i : Nat} {t : Tr}, tr[i]? = some t → ∃ r, rs[i]? = some r ∧ t = ⟨r.io.dst, vs i, zck (zas r.a) n⟩ := by
  intro i t ht
  have hlt : i < rs.length := by have := (y03.1 ht).1; rw [htr, y04] at this; exact this
  refine ⟨rs[i], by simp [hlt], ?_⟩
  have := trAt (i := i) (r := rs[i]) (by simp [hlt])
  rw [ht] at this; injection this
 have ancM : ∀ {i q : Nat} {r : OI}, rs[i]? = some r → (q ∈ zck (zas r.a) n ↔ zas r.a q = true) := by
  intro i q r hr
  refine mem_upTo.trans ⟨fun h => h.2, fun h => ⟨?_, h⟩⟩
  have := hP.alt i r hr q h
  have := ltn hr
  omega
 have cnt : ∀ {i j : Nat} {r : OI}, rs[i]? = some r → j < heaps.length → Fits tr louds i ⟨r.io.dst, vs i, zck (zas r.a) n⟩ j → (∀ y ∈ zda E rs, y.idx ≠ i → zas r.a y.idx = true ∨ zas y.a i = true) → j = (zck rl i).length := by
  intro i j r hr hj hfit hcomp
  have hin := ltn hr
  have hll : heaps.length = louds.length + 1 := by rw [hheaps]; simp
  rcases Nat.lt_trichotomy j (zck rl i).length with h1 | h1 | h1
  ·exfalso
   have hle : (zck rl i).length ≤ louds.length := by
    obtain ⟨x, hx, _⟩ := zep rl n i (by omega)
    rw [hlouds, hx]; simp
   have hm : louds[j]? = some louds[j] := by simp [show j < louds.length by omega]
   have hli : louds[j] < i := (zcj (p := rl) (n := n) (by omega) (by rw [← hlouds]; exact hm)).1 h1
   obtain ⟨y, hy, hyl, hyi⟩ := ldm (y0a hm)
   rcases hcomp y hyl (by rw [hyi]; omega) with h2 | h2
   ·have := (hfit j _ hm).1 ((ancM hr).2 (by rw [← hyi]; exact h2))
    omega
   ·have := hP.alt _ y hy i h2
    omega
  ·exact h1
  ·exfalso
   have hm : louds[(zck rl i).length]? = some louds[(zck rl i).length] := by simp [show (zck rl i).length < louds.length by omega]
   have hge : ¬ louds[(zck rl i).length] < i := fun hlt => by
    have := (zcj (p := rl) (n := n) (by omega) (by rw [← hlouds]; exact hm)).2 hlt
    omega
   obtain ⟨y, hy, hyl, hyi⟩ := ldm (y0a hm)
   by_cases he : louds[(zck rl i).length] = i
   ·have := (hfit _ _ hm).2.1 he; omega
   ·rcases hcomp y hyl (by rw [hyi]; exact he) with h2 | h2
    ·have := hP.alt i r hr _ h2
     omega
    ·have := (hfit _ _ hm).2.2 _ (trAt hy) ((ancM hy).2 h2)
     omega
 generalize hrf : (fun i => zfw (znb i 0 tr) S.tmps) = rf at *
 generalize hrest : zfw (ios.filterMap (·.dst)) S.tmps = rest at *
 have chain : ∀ x ∈ zda E rs, ∀ y ∈ zda E rs, x.idx ≤ y.idx ∨ zas x.a y.idx = true := by
  intro x hx y hy
  have := y0e.1 (y0e.1 c3 x hx) y hy
  simp only [y14] at this
  exact this.imp y1l id
 have hll : heaps.length = louds.length + 1 := by rw [hheaps]; simp
 refine TA_less (TA_draw rf rest tr louds heaps (K := fun S1 => S1 = S.base rest tr (List.range ios.length) S'.hs) ⟨?_, ?_, ?_, ?_, ?_, ?_, hP.acyc, ?_, ?_, hll, ?_, ?_, ?_⟩ ?_) ?_
 ·rw [htr, y04, hP.len]
 ·-- free
  intro i d v hv
  rw [← hrf] at hv
  obtain ⟨h1, h2⟩ := zd4 hv
  refine ⟨h1, fun k t ht hd => ?_⟩
  rcases zhj (i := i) (k := 0) ht hd with h3 | h3 | h3
  ·exact .inl (by omega)
  ·exact .inr h3
  ·rw [y21] at h2
   simp [h3] at h2
 ·-- last
  intro d v hv
  rw [← hrest] at hv
  obtain ⟨h1, h2⟩ := zd4 hv
  refine ⟨h1, fun i t ht e => ?_⟩
  obtain ⟨r, hr, rfl⟩ := trGet ht
  have : d ∈ ios.filterMap (·.dst) := y2e.2 ⟨r.io, y0a (hP.at_ i r hr).2, e⟩
  rw [y21] at h2
  simp [this] at h2
 ·exact hP.len2
 ·intro i io t hi ht
  obtain ⟨r, hr, rfl⟩ := trGet ht
  obtain ⟨r', hr', e1, _⟩ := rsAt hi
  rw [hr] at hr'; injection hr' with hr'; subst hr'
  exact ⟨by rw [← e1], y0e.1 c4 io (y0a hi)⟩
 ·intro i j t t' d h1 h2 h3 h4
  obtain ⟨r, hr, rfl⟩ := trGet h1
  obtain ⟨r', hr', rfl⟩ := trGet h2
  exact hnd i j r r' d hr hr' h3 h4
 ·intro i ps t hp ht q hq
  obtain ⟨r, hr, rfl⟩ := trGet ht
  obtain ⟨p, hpm, hor⟩ := hP.up i ps r hp hr q ((ancM hr).1 hq)
  exact ⟨p, hpm, hor.imp id fun ⟨s, k1, k2⟩ => ⟨_, trAt k1, (ancM k1).2 k2⟩⟩
 ·rw [hheaps]; rfl
 ·-- the heap's steps come one behind the other
  intro m l l' h1 h2
  obtain ⟨x, hx, hxl, hxi⟩ := ldm (y0a h1)
  obtain ⟨y, hy, hyl, hyi⟩ := ldm (y0a h2)
  refine ⟨_, trAt hy, (ancM hy).2 ?_⟩
  have hl' := (mem_upTo.1 (hlouds ▸ y0a h2)).1
  have c1' : m < (zck rl l').length := by
   have h5 := (zcj (p := rl) (n := n) (i := l' + 1) (by omega) (by rw [← hlouds]; exact h2)).2 (by omega)
   rw [zc2] at h5
   simp at h5
   split at h5 <;> simp at h5 <;> omega
  have hlt : l < l' := (zcj (p := rl) (n := n) (by omega) (by rw [← hlouds]; exact h1)).1 c1'
  rcases chain y hyl x hxl with h3 | h3
  ·omega
  ·rw [hxi] at h3; exact h3
 ·intro l hl
  rw [hlouds] at hl
  have := (mem_upTo.1 hl).1
  omega
 ·-- each step
  intro i io t j H hi ht hH hfit
  obtain ⟨r, hr, rfl⟩ := trGet ht
  obtain ⟨r', hr', e1, hidx⟩ := rsAt hi
  rw [hr] at hr'; injection hr' with hr'; subst hr'
  subst e1
  have hin := ltn hr
  have hj : j < heaps.length := (y03.1 hH).1
  obtain ⟨ks, km⟩ := keep i (by omega)
  have eqT : ∀ d ∈ zcl r.io, zar d (zcy (Ss i).tmps (zcl r.io)) = (Ss i).get d := fun d hd => zel hd
  have hinfo : ∀ d v, zar d (zcy (Ss i).tmps (zcl r.io)) = some v → zar d (S.base (rf i) tr (zck (zas r.a) n) H).tmps = some v := by
   intro d v hv
   obtain ⟨hd, hv⟩ := zfx hv
   have hrd := y0e.1 (y0e.1 c2 r (y0a hr)) d hd
   simp only [y14, Bool.not_eq_true'] at hrd
   show zar d (zev tr (rf i) (zck (zas r.a) n)) = some v
   rcases info i (by omega) d v hv with ⟨j', r', h1, h2, h3, h4⟩ | ⟨h1, h2⟩
   ·rcases hrd with (hrd | hrd) | hrd
    ·exact absurd h3 (zj9 hrd j' r' h2)
    rotate_left
    ·exfalso
     have h5 := y0e.1 hrd r' (y0a h2)
     rw [(zji _ _).2 h3, hidx] at h5
     have := hP.alt j' r' h2 i (by simpa using h5)
     omega
    ·obtain ⟨q, s, k1, k2, k3⟩ := hP.ofK i r hr d hrd
     obtain rfl := hnd _ _ _ _ d h2 k2 h3 k3
     refine zfi ⟨j', (ancM hr).2 k1, _, trAt h2, h3⟩ fun p hp t ht hd' => ?_
     obtain ⟨r2, hr2, rfl⟩ := trGet ht
     obtain rfl := hnd _ _ _ _ d h2 hr2 h3 hd'
     exact h4.symm
   ·have later : ∀ (p : Nat) (r2 : OI), rs[p]? = some r2 → r2.io.dst = some d → zas r2.a i = true := by
     intro p r2 hr2 hd2
     rcases hrd with (hrd | hrd) | hrd
     ·exact absurd hd2 (zj9 hrd p r2 hr2)
     ·exfalso
      obtain ⟨q, s, k1, k2, k3⟩ := hP.ofK i r hr d hrd
      exact absurd k3 (h1 q s (hP.alt i r hr q k1) k2)
     ·have h5 := y0e.1 hrd r2 (y0a hr2)
      rw [(zji _ _).2 hd2, hidx] at h5
      simpa using h5
    rw [zf6 fun p hp t ht hd2 => by
     obtain ⟨r2, hr2, rfl⟩ := trGet ht
     have k1 := hP.alt p r2 hr2 i (later p r2 hr2 hd2)
     have k2 := hP.alt i r hr p ((ancM hr).1 hp)
     omega, ← hrf]
    show zar d (zfw (znb i 0 tr) S.tmps) = some v
    rw [zf4 fun hm => by
     obtain ⟨m, t, k1, k2, k3, k4⟩ := zid hm
     obtain ⟨r2, hr2, rfl⟩ := trGet k1
     exact k4 ((ancM hr2).2 (later m r2 hr2 k2))]
    exact h2
  have more : ∀ {B' : AS} {v : AV} {H' : HS}, B' = (((Ss i).withT (zcy (Ss i).tmps (zcl r.io))).withH H) → Stp P w0 N0 rd r.io B' (fun S2 v2 => v2 = v ∧ S2 = B'.withH H') → Stp P w0 N0 rd r.io (S.base (rf i) tr (zck (zas r.a) n) H) fun S2 v2 => v2 = v ∧ S2 = (S.base (rf i) tr (zck (zas r.a) n) H).withH H' := by
   intro B' v H' hB hs
   subst hB
   exact Stp.more (B' := ((Ss i).withT (zcy (Ss i).tmps (zcl r.io))).withH H) ks km rfl hinfo hs
  have wantB : ∀ {b : Bool}, zaj (Ss i) r.io = some b → zaj (S.base (rf i) tr (zck (zas r.a) n) H) r.io = some b := by
   intro b hb
   refine zja (B' := (Ss i).withT (zcy (Ss i).tmps (zcl r.io))) hinfo ?_
   rw [zqu eqT]; exact hb
  rcases (step hr).ok with ⟨h1, h2, h3, _⟩ | ⟨h1, h2, h3, _, h5, h6⟩ | ⟨h1, h2, h3, H1, h4, h5⟩
  ·exact .inl ⟨fun hm => (by rw [hlouds] at hm; have := (mem_upTo.1 hm).2; rw [h2] at this; cases this), wantB h1, h3⟩
  ·refine .inr ⟨wantB h1, .inl ⟨fun hm => (by rw [hlouds] at hm; have := (mem_upTo.1 hm).2; rw [h3] at this; cases this), ?_⟩⟩
   by_cases hall : ((zda E rs).all fun y => zlw r y) = true
   ·have e2 := h6 (by rw [hall]; rfl)
    rw [← zld (E := E) (R := R) eqT] at e2
    by_cases hall2 : ((zda E rs).all fun y => zas r.a y.idx || zas y.a r.idx) = true
    ·have hjc := cnt hr hj hfit fun y hy _ => by
      have := y0e.1 hall2 y hy
      rw [hidx] at this
      simpa using this
     have := heapAt i (by omega)
     rw [← hjc, hH] at this; injection this with this
     subst this
     exact more (H' := (Ss i).hs) rfl (zde hE hR e2)
    ·have hld : zh5 r.io.op = true := by
      rcases Bool.eq_false_or_eq_true (zh5 r.io.op) with h | h
      ·exact h
      ·exfalso
       apply hall2
       rw [y0e] at hall ⊢
       intro y hy
       have := hall y hy
       simpa [zlw, zew, h] using this
     obtain ⟨g, d, hop⟩ := zmm hld
     have hni : i ∉ louds := fun hm => by rw [hlouds] at hm; have := (mem_upTo.1 hm).2; rw [h3] at this; cases this
     have one : ∀ id sp off, (Ss i).get d = some (.mptr id sp off) → ∀ (m l : Nat), louds[m]? = some l → ¬ (zas r.a l = true) → (∀ y : OI, rs[l]? = some y → ¬ (zas y.a i = true)) → ExtAt id (heaps.getD m S.hs) (heaps.getD (m + 1) S.hs) := by
      intro id sp off hgd m l hm hn1 hn2
      obtain ⟨y, hy, hyl, hyi⟩ := ldm (y0a hm)
      have hln := ltn hy
      have hsoft := y0e.1 hall y hyl
      have hfr : zij y.io.op = true ∨ zl1 y.io.op = true := by
       simp only [zlw, zew, y14, y0g] at hsoft
       rcases hsoft with ((hs | hs) | hs) | hs
       ·rw [hyi] at hs; exact absurd hs hn1
       ·rw [hidx] at hs; exact absurd hs (hn2 y hy)
       ·exact .inl hs.2
       ·exact .inr hs.2
      have hcl : (zck rl l).length = m := by
       have hrl : rl l = true := (mem_upTo.1 (hlouds ▸ y0a hm)).2
       have u1 := (zcj (p := rl) (n := n) (i := l) (by omega) (by rw [← hlouds]; exact hm)).1
       have u2 := (zcj (p := rl) (n := n) (i := l + 1) (by omega) (by rw [← hlouds]; exact hm)).2 (y0q _)
       rw [zc2, if_pos hrl, y0l, y11] at u2
       have u3 : ¬ m < (zck rl l).length := fun h => by have := u1 h; omega
       omega
      have hrl : rl l = true := (mem_upTo.1 (hlouds ▸ y0a hm)).2
      have g1 := heapAt l (by omega)
      have g2 := heapAt (l + 1) (by omega)
      rw [zc2, if_pos hrl, y0l, y11, hcl] at g2
      rw [hcl] at g1
      have g1' : heaps.getD m S.hs = (Ss l).hs := by simp [List.getD, g1]
      have g2' : heaps.getD (m + 1) S.hs = (Ss (l + 1)).hs := by simp [List.getD, g2]
      rw [g1', g2']
      rcases (step hy).ok with ⟨_, k2, _, _⟩ | ⟨_, _, k3, _⟩ | ⟨k0, _, _, H1, k4, k5⟩
      ·rw [hrl] at k2; cases k2
      ·rw [hrl] at k3; cases k3
      ·have key : ExtAt id (Ss l).hs H1 := by
        rcases hfr with hfr | hfr
        ·exact (zjl (P := P) (E := E) (R := R) hfr k4).at id
        ·have hl1 : ld id := by
          have := hops i r.io (Ss i) hi (hpre i (by omega)) h1
          rw [hop] at this
          exact this id sp off hgd
         refine zrq (P := P) (E := E) (R := R) hfr k4 (fun id2 sp2 off2 sz p v hop2 hp2 e => ?_) fun id2 sp2 sz2 off2 len2 cap2 sz b z s x hop2 hp2 e => ?_
         ·have := hops l y.io (Ss l) (hP.at_ l y hy).2 (hpre l (by omega)) k0
          rw [hop2] at this
          exact hdis id hl1 (e ▸ this id2 sp2 off2 hp2)
         ·have := hops l y.io (Ss l) (hP.at_ l y hy).2 (hpre l (by omega)) k0
          rw [hop2] at this
          exact hdis id hl1 (e ▸ this id2 sp2 sz2 off2 len2 cap2 hp2)
       rw [k5]
       cases y.io.dst <;> exact key
     have hconn : ∀ id sp off, (Ss i).get d = some (.mptr id sp off) → ExtAt id H (Ss i).hs ∨ ExtAt id (Ss i).hs H := by
      intro id sp off hgd
      have gi : heaps.getD (zck rl i).length S.hs = (Ss i).hs := by simp [List.getD, heapAt i (by omega)]
      have gj : heaps.getD j S.hs = H := by simp [List.getD, hH]
      rcases Nat.le_total j (zck rl i).length with hle | hle
      ·left
       rw [← gi, ← gj]
       refine zni (f := fun k => heaps.getD k S.hs) (fun k hk1 hk2 => ?_) hle
       have hkl : k < louds.length := by
        obtain ⟨x, hx, _⟩ := zep rl n i (by omega)
        rw [hlouds, hx, y0l]; omega
       have hm : louds[k]? = some louds[k] := by simp [hkl]
       have hlt : louds[k] < i := (zcj (p := rl) (n := n) (by omega) (by rw [← hlouds]; exact hm)).1 hk2
       refine one id sp off hgd k _ hm (fun hb => ?_) (fun y hy hb => ?_)
       ·have := (hfit k _ hm).1 ((ancM hr).2 hb); omega
       ·have := hP.alt _ y hy i hb; omega
      ·right
       rw [← gi, ← gj]
       refine zni (f := fun k => heaps.getD k S.hs) (fun k hk1 hk2 => ?_) hle
       have hkl : k < louds.length := by omega
       have hm : louds[k]? = some louds[k] := by simp [hkl]
       have hge : ¬ louds[k] < i := fun hlt => by
        have := (zcj (p := rl) (n := n) (by omega) (by rw [← hlouds]; exact hm)).2 hlt
        omega
       refine one id sp off hgd k _ hm (fun hb => ?_) (fun y hy hb => ?_)
       ·have := hP.alt i r hr _ hb; omega
       ·have := (hfit k _ hm).2.2 _ (trAt hy) ((ancM hy).2 hb); omega
     intro ops o hc n' I a w r' next Qc hR0 ho hk
     have hq : zba E R (((Ss i).withT (zcy (Ss i).tmps (zcl r.io))).withH H) r.io = some (vs i) := by
      refine zrc hop (fun id st off hg => hconn id st off ((zmq (y1b _ (by rw [hop]; simp [zb5, zco]))).symm.trans hg)) (fun id st off hg => ?_) (fun id hid => hR0.hrel.free id hid) e2
      have hv := hR0.tmps.2 d _ (hinfo d _ hg)
      cases hv with
      | mptr _ hx =>
       obtain ⟨J, hJ, c1, _⟩ := hx
       injection hJ with hJ; subst hJ
       have h9 : I.clk = H.clk := hR0.clk
       omega
     exact more (H' := H) rfl (zde hE hR hq) ops o hc n' I a w r' next Qc hR0 ho hk
   ·have e2 := h5 (by simpa using hall)
    rw [← zw6 (E := E) (R := R) eqT] at e2
    exact more (H' := H) rfl (zde hE hR (zj6 e2 H))
  ·have hlm : louds[(zck rl i).length]? = some i := by rw [hlouds]; exact zlm hin h3
   have hjc : j = (zck rl i).length := cnt hr hj hfit fun y hy hne => by
    have hrl : r ∈ zda E rs := zgx (y0a hr) h2
    rcases chain r hrl y hy with k | k
    ·rcases chain y hy r hrl with k' | k'
     ·omega
     ·rw [hidx] at k'; exact .inr k'
    ·exact .inl k
   have h0 := heapAt i (by omega)
   rw [← hjc, hH] at h0; injection h0 with h0
   subst h0
   refine .inr ⟨wantB h1, .inr ⟨by rw [hjc]; exact hlm, H1, ?_, ?_⟩⟩
   ·have := heapAt (i + 1) (by omega)
    rw [zc2, if_pos h3, y0l, y11, ← hjc] at this
    rw [this, h5]
    cases r.io.dst <;> rfl
   ·refine more (H' := H1) rfl ?_
    rw [← zw5 (P := P) (E := E) (R := R) eqT] at h4
    exact zll hE hR h4
 ·intro H hH
  have := heapAt n (y0c _)
  rw [← hlouds, hH, sn] at this
  injection this with this
  rw [this]
 ·intro S1 hS1
  refine ⟨S', rfl, fun I a w hrel => ?_⟩
  subst hS1
  obtain ⟨ks, km⟩ := keep n (y0c _)
  rw [sn] at ks km
  refine ⟨hrel.clk, ⟨by rw [ks]; exact hrel.tmps.1, fun d v hv => hrel.tmps.2 d v ?_⟩, hrel.hrel, by rw [km]; exact hrel.marks⟩
  show zar d (zev tr rest (List.range ios.length)) = some v
  rw [← sn] at hv
  rcases info n (y0c _) d v hv with ⟨j, r, h1, h2, h3, h4⟩ | ⟨h1, h2⟩
  ·refine zfi ⟨j, by rw [hn]; simpa using h1, _, trAt h2, h3⟩ fun p hp t ht hd' => ?_
   obtain ⟨r2, hr2, rfl⟩ := trGet ht
   obtain rfl := hnd _ _ _ _ d h2 hr2 h3 hd'
   exact h4.symm
  ·rw [zf6 fun p _ t ht => by obtain ⟨r2, hr2, rfl⟩ := trGet ht; exact h1 p r2 (ltn hr2) hr2, ← hrest, zf4]
   ·exact h2
   ·intro hm
    obtain ⟨io, hio, hd⟩ := y2e.1 hm
    obtain ⟨i, hi, rfl⟩ := y1i.1 hio
    obtain ⟨r, hr, e1, _⟩ := rsAt (i := i) (io := ios[i]) (by simp [hi])
    exact h1 i r (by omega) hr (by rw [e1]; exact hd)
end
structure Fz where
 d : Nat → Bool
 f : FuncId → Bool
 o : FuncId → List AV → Option AV
def isFz (fz : Fz) (io : Opr) : Bool := match io.op with
 | .bslice .. => (match io.dst with
  | some d => fz.d d
  | none => false)
 | .call (.c (.fn f [] [])) _ => fz.f f
 | _ => false
def PFn (P : Program) (f : FuncId) (args : List AV) (v : AV) : Prop :=
 Ent P f ∧ ∀ (ro : Nat → Prop) (w : World) (us : Array Value), GOk ro w → CRel w ro none args us → Calls P f us w fun e w' => ∃ u, e = .returned u ∧ Below w.heap.size w w' ∧ VRel w' (fun b => w.heap.size ≤ b) none v u
def fsl (S : AS) : IOp → Option AV
 | .bslice sz len z ps => match S.parts ps with
  | some l => match zbr z l with
   | some cs => if hasM.hasML cs = false then some (.vs (zd1 sz len cs)) else none
   | none => none
  | none => none
 | _ => none
def fslQ (fz : Fz) (S : AS) : IOp → Option AV
 | .call (.c (.fn f [] [])) args => match S.args args with
  | some vs => fz.o f (vs.map (S.view VD))
  | none => none
 | op => fsl S op
def fslI (fz : Fz) (S : AS) : IOp → Option AV
 | .call (.c (.fn f [] [])) args => match S.args args with
  | some vs => if hasM.hasML vs = true then none else fz.o f (vs.map (S.view VD))
  | none => none
 | op => fsl S op
def quietZ (fz : Fz) (E : Env) (R : Rec) (S : AS) (io : Opr) : Option AV := if isFz fz io = true then fslQ fz S io.op else zba E R S io
def stepZ (fz : Fz) (E : Env) (R : Rec) (S : AS) (io : Opr) : Option AV := if isFz fz io = true then fslI fz S io.op else zfl E R S io
structure StepZ (fz : Fz) (P : Program) (E : Env) (R : Rec) (S : AS) (io : Opr) (q ind : Bool) (v : AV) (run : Bool) (S1 : AS) : Prop where
 ok : (zaj S io = some false ∧ run = false ∧ v = .tup [] ∧ S1 = S.put io.dst v) ∨
  (zaj S io = some true ∧ q = true ∧ run = false ∧ S1 = S.put io.dst v ∧ (ind = true → stepZ fz E R S io = some v) ∧ (ind = false → quietZ fz E R S io = some v)) ∨
  (zaj S io = some true ∧ q = false ∧ run = true ∧ ∃ H, zdk P E R S io = some (v, H) ∧ S1 = (S.withH H).put io.dst v)
section
variable {P : Program} {w0 w : World} {N0 : Nat} {I : LI} {S S' S1 : AS} {TT : TM} {a : Act} {rd : Option (Nat × Nat)} {E : Env} {R : Rec} {io : Opr} {op : IOp} {v : AV} {H : HS} {fz : Fz}
theorem ro_new (hR : Rel w0 N0 I S a w) : I.ro w.heap.size := by
 refine ⟨hR.hrel.okN _ (y0w hR.hrel.base hR.hrel.below.size), fun id st base n hl => ?_⟩
 obtain ⟨oo, hoo⟩ := hR.hrel.locs _ _ _ hl
 obtain ⟨_, l, hl', hol⟩ := hR.hrel.heap _ _ _ hoo
 rw [hl] at hl'; injection hl' with hl'; subst hl'
 have hlt : w.heap.size < w.heap.size := by
  cases oo with
  | cells cs => obtain ⟨c, elem, h1, _⟩ := hol; exact (y09.1 h1).1
  | loop => obtain ⟨c, h1, _⟩ := hol; exact (y09.1 h1).1
  | deferred => exact (y09.1 hol).1
  | map es => obtain ⟨c, elem, h1, _⟩ := hol; exact (y09.1 h1).1
  | typed T full cs => obtain ⟨_, _, c, h1, _⟩ := hol; exact (y09.1 h1).1
 omega
theorem zwj {w : World} {ro : Nat → Prop} {L : Option LI} {v : AV} {u : Value} (h : VRel w ro L v u) : hasM v = false → VRel w ro none v u := by
 induction h with
 | mptr => intro hm; simp [hasM] at hm
 | ms => intro hm; simp [hasM] at hm
 | yield => intro hm; simp [hasM] at hm
 | mapv => intro hm; simp [hasM] at hm
 | agg h1 _ ih => intro hm; exact .agg h1 fun i x hx => ih i x hx (zbc hm i x hx)
 | tup h1 _ ih => intro hm; exact .tup h1 fun i x hx => ih i x hx (zbc hm i x hx)
 | fn h1 h2 _ _ ihf ihc =>
  intro hm
  simp only [hasM, y1d] at hm
  exact .fn h1 h2 (fun i x hx => ihf i x hx (zbc hm.1 i x hx)) fun i x hx => ihc i x hx (zbc hm.2 i x hx)
 | top => intro _; exact .top
 | bool => intro _; exact .bool
 | int => intro _; exact .int
 | str => intro _; exact .str
 | nilp => intro _; exact .nilp
 | nil0 => intro _; exact .nil0
 | vptr us hc hv _ => intro _; exact .vptr us hc hv
 | nils => intro _; exact .nils
 | vs us a b c d e f _ => intro _; exact .vs us a b c d e f
 | nilf => intro _; exact .nilf
 | rng a b => intro _; exact .rng a b
 | ints a => intro _; exact .ints a
 | strA a b c => intro _; exact .strA a b c
theorem s_fslice (h : Rel w0 N0 I S a w) {t e : TypeId} {s len : Nat} {z : List AV} {parts : Array (Nat × Operand)} {ps : List (Nat × Nat × Arg)} (hu : P.underlying t = some (.slice e)) (hs : sizeOf? P e = some s) (hz : zd0 P e = some z)
  (h0 : s ≠ 0) (h1 : len * s ≤ 16777216) (h2 : z.length = s) (hp : zcu (fun i => some (i * s, s)) parts.toList = some ps) (hr : fsl S (.bslice s len (zed len z) ps) = some v) :
  ∃ u w' I', (Instr.buildSlice t len (parts.map fun (i, x) => (i, a.eval x))).run P w = .ok u w' ∧ VRel w' I'.ro (some I') v u ∧ Rel w0 N0 I' S a w' ∧ Evo I w I' w' := by
 simp only [fsl] at hr
 split at hr
 ·rename_i l hl
  split at hr
  ·rename_i cs hcs
   split at hr <;> try cases hr
   rename_i hM
   obtain ⟨inf, u, hi, hzz, hcr⟩ := zdf hz
   have hcr0 := hcr w I.ro (some I)
   have rc := zec hcr0 (by omega) len
   rw [h2] at rc
   obtain ⟨us, f1, f2⟩ := zhd h _ parts.toList ps l _ cs _ hp hl hcs rc
   have f1' : Instr.fill (fun i => some (i * s, s)) ((Array.range (len * s)).map fun i => u.cells[i % u.cells.size]!) ((parts.map fun (i, x) => (i, a.eval x)).toList) = some us := by
    rw [← f1]; simp
   have hB : Below w.heap.size w (w.alloc (.cells us e)) := (Below.refl _ _).alloc (y0c _) _
   obtain ⟨k1, k2⟩ := h.hrel.below' hB
   have hcl : cs.length = len * s := by
    rw [← f2.1]
    have : ∀ (xs : List (Nat × Value)) (c r : Array Value), Instr.fill (fun i => some (i * s, s)) c xs = some r → r.size = c.size := by
     intro xs
     induction xs with
     | nil => intro c r hh; simp [Instr.fill] at hh; rw [hh]
     | cons x xs ih =>
      intro c r hh
      simp only [Instr.fill] at hh
      split at hh
      ·cases hh
      ·rw [ih _ _ hh, ze3]
    rw [this _ _ _ f1']; simp
   refine ⟨.slice (some ⟨w.heap.size, 0, none⟩) len len, w.alloc (.cells us e), I, ?_, ?_, ⟨h.clk, h.tmps.evo k2, k1, h.marks⟩, k2⟩
   ·by_cases hl0 : len = 0
    ·subst hl0
     have er : Array.range (0 * s) = #[] := by rw [y2u]; rfl
     rw [er] at f1'
     simp only [Instr.buildSlice, Sem.run_bind, za6 hu, Result.andThen_ok, zbo hs, y2u, y28, gt_iff_lt, if_false, if_true, Sem.run_pure]
     rw [y2u] at er
     simp only [er, Array.map_empty] at f1' ⊢
     simp only [f1', newRow, Sem.run_bind, run_newObj, Result.andThen_ok, Sem.run_pure]
     rfl
    ·have n1 : ¬ (len * s = 0) := by rw [Nat.mul_eq_zero]; omega
     have n2 : ¬ (len * s > 2 ^ 24) := by omega
     simp only [Instr.buildSlice, Sem.run_bind, za6 hu, Result.andThen_ok, zbo hs, n2, if_false, Sem.run_pure, n1, zeroValue, typeInfo, run_program, hi, hzz, f1', newRow, run_newObj]
     rfl
   ·have hsz : us.size = len * s := by rw [f2.1, hcl]
    have hget : ∀ i j x y, (zd1 s len cs)[i]? = some x → x[j]? = some y → cs[i * s + j]? = some y := by
     intro i j x y hi hj
     rw [zi5 _ _ _ _ _ hi] at hj
     have hjl : j < s := by have := (y03.1 hj).1; simp at this; omega
     rw [y10 hjl, y19] at hj
     exact hj
    refine .vs (sz := s) (b := w.heap.size) (off := 0) (fun i j => us.getD (i * s + j) undef) (zcq _ _ _).symm (y0c _) (fun _ => rfl) (zfa s len _ (by omega)) (fun i j x y hi hj => ?_) fun i j x y hi hj => ?_
    ·have hc := hget i j x y hi hj
     have hlt : i * s + j < us.size := by rw [f2.1]; exact (y03.1 hc).1
     refine ⟨ro_new h, ?_⟩
     rw [y1h]
     have hh : (w.alloc (.cells us e)).heap[w.heap.size]? = some (.cells us e (0, 0)) := World.alloc_heap_new _ _
     simp only [World.cell?, hh]
     simp [hlt, y02]
    ·have hc := hget i j x y hi hj
     exact (zwj (f2.2 _ _ hc) (zbc hM _ _ hc)).mono (fun b i x hb hc => k2.ro b i x hb hc) trivial
  ·cases hr
 ·cases hr
theorem zr9 {o : Op} {sz len : Nat} {z : List AV} {ps : List (Nat × Nat × Arg)} (hc : zbk P o = some (.bslice sz len z ps)) : ∃ t e z0 parts, o = .buildSlice t len parts ∧ P.underlying t = some (.slice e) ∧ sizeOf? P e = some sz ∧ zd0 P e = some z0 ∧ sz ≠ 0 ∧ len * sz ≤ 16777216 ∧ z0.length = sz ∧ z = zed len z0 ∧ zcu (fun i => some (i * sz, sz)) parts.toList = some ps := by
 unfold zbk at hc
 repeat' (split at hc)
 all_goals first
  | (simp only [reduceCtorEq] at hc; done)
  | (simp only [y01, reduceCtorEq, and_false, exists_false] at hc; done)
  | (simp only [y00, reduceCtorEq] at hc; done)
  | (simp at hc; done)
  | skip
 rename_i t len' parts _ e hu _ _ s z0 hs hz hcond
 simp only [y01, IOp.bslice.injEq] at hc
 obtain ⟨ps', h1, rfl, rfl, rfl, rfl⟩ := hc
 exact ⟨t, e, z0, parts, rfl, hu, hs, hz, by omega, by omega, by omega, rfl, h1⟩
theorem StepZ.kept {q ind run : Bool} (h : StepZ fz P E R S io q ind v run S1) : S1.size = S.size ∧ S1.marks = S.marks ∧ S1.tmps = (S.put io.dst v).tmps ∧ (run = false → S1.hs = S.hs) ∧ (run = true → q = false) := by
 have p1 : ∀ S0 : AS, (S0.put io.dst v).size = S0.size ∧ (S0.put io.dst v).marks = S0.marks ∧ (S0.put io.dst v).hs = S0.hs := fun S0 => by cases io.dst <;> exact ⟨rfl, rfl, rfl⟩
 rcases h.ok with ⟨_, h2, _, rfl⟩ | ⟨_, _, h2, rfl, _⟩ | ⟨_, h1, h2, H, _, rfl⟩
 ·exact ⟨(p1 S).1, (p1 S).2.1, rfl, fun _ => (p1 S).2.2, fun e => by rw [h2] at e; cases e⟩
 ·exact ⟨(p1 S).1, (p1 S).2.1, rfl, fun _ => (p1 S).2.2, fun e => by rw [h2] at e; cases e⟩
 ·refine ⟨(p1 _).1, (p1 _).2.1, ?_, fun e => (by rw [h2] at e; cases e), fun _ => h1⟩
  cases io.dst <;> rfl
end
def runD (P : Program) (E : Env) (R : Rec) (ios : List Opr) (pres : List (List Nat)) (S : AS) : Option AS :=
 match zlk E ios pres S.size with
 | some fl => match zd3 P E R ios fl S with
  | some S1 => some S1
  | none => zh0 P E R ios pres S
 | none => zh0 P E R ios pres S
def iter (body : AS → Option (Exit × AS)) : Nat → AS → Option (Exit × AS)
 | 0, _ => none
 | n + 1, S => match body S with
  | some (.normal, S1) => iter body n S1
  | r => r
def zv1 : LoopState → Bool
 | .busy => false
 | _ => true
def zho (r : Option (AV × HS)) (S : AS) (lid lst : Nat) (marks : List (Nat × Nat)) : Option (Exit × AS) :=
 match r with
 | some (_, H2) => match look lid H2.heap with
  | some (lst', .loop stt pe _ _ _ _ _ _) =>
   if (lst' == lst && zv1 stt && zgd marks (ze7 lid H2.heap)) = true then
    match zpi pe with
    | some e => some (e, ⟨S.size, S.tmps, ze7 lid H2.heap, H2.next, H2.clk, marks⟩)
    | none => none
   else none
  | _ => none
 | none => none
def zfg (P : Program) (E : Env) (R : Rec) (rd : Option (Nat × Nat)) : IC → AS → Option (Exit × AS)
 | .skip, S => some (.normal, S)
 | .region ios none, S => match zrz P E R ios S with
  | some S' => some (.normal, S')
  | none => none
 | .region ios (some pres), S => match runD P E R ios pres S with
  | some S' => some (.normal, S')
  | none => none
 | .seq a b, S => match zfg P E R rd a S with
  | some (.normal, S') => zfg P E R rd b S'
  | r => r
 | .cond c a b, S => match S.arg c with
  | some (.bool true) => zfg P E R rd a S
  | some (.bool false) => zfg P E R rd b S
  | _ => none
 | .block id b, S => match zfg P E R rd b S with
  | some (.exit i, S') => if i = id then some (.normal, S') else some (.exit i, S')
  | r => r
 | .loop b, S => iter (zfg P E R rd b) E.fuel S
 | .rangeFunc g ps ca cb _ _, S => match S.arg g with
  | some (.fn fid first cap) => match rd with
   | none => zho (R.f fid (first ++ [.yield (S.next + 1) (S.clk + 1)] ++ cap) (S.rangeOuter ps ca cb)) S (S.next + 1) (S.clk + 1) ((S.next, S.clk) :: S.marks)
   | some (idr, str) => match look idr S.heap with
    | some (str', .loop _ _ _ _ _ _ _ df) => if str' = str then zho (R.f fid (first ++ [.yield S.next S.clk] ++ cap) (S.rangeInner ps ca cb df)) S S.next S.clk S.marks else none
    | _ => none
  | _ => none
 | .exit id, S => some (.exit id, S)
 | .ret, S => some (.ret, S)
 | .refuse, _ => none
section
variable {P : Program} {w0 w : World} {N0 : Nat} {S S' S1 : AS} {rd : Option (Nat × Nat)} {Q : Exit → AS → Prop} {E : Env} {R : Rec} {io : Opr} {v : AV} {H : HS}
theorem runD_ok (hE : EnvOk P E) (hR : zfn P R) {ios : List Opr} {pres : List (List Nat)} (h : runD P E R ios pres S = some S') : T P w0 N0 rd (.region ios (some pres)) S fun e1 S1 => e1 = .normal ∧ S1 = S' := by
 unfold runD at h
 split at h
 ·rename_i fl hs
  split at h
  ·rename_i S1 hr
   injection h with h; subst h
   exact T_stat hE hR hs hr
  ·exact zk4 hE hR h
 ·exact zk4 hE hR h
theorem iter_ok {body : AS → Option (Exit × AS)} {ic : IC} (hb : ∀ S e S', body S = some (e, S') → T P w0 N0 rd ic S fun e1 S1 => e1 = e ∧ S1 = S') {n : Nat} {e : Exit} (h : iter body n S = some (e, S')) :
  T P w0 N0 rd (.loop ic) S fun e1 S1 => e1 = e ∧ S1 = S' := by
 refine T_loop (fun m S => iter body m S = some (e, S')) h fun m S hS => ?_
 cases m with
 | zero => simp [iter] at hS
 | succ m =>
  simp only [iter] at hS
  split at hS
  ·rename_i S1 h1
   exact zeq (hb _ _ _ h1) fun e2 S2 ⟨k1, k2⟩ => by subst k1 k2; exact ⟨m, _, y0q _, fun I _ w h => ⟨I, h, Evo.refl I w⟩, hS⟩
  ·rename_i r hr
   refine zeq (hb _ _ _ hS) fun e2 S2 ⟨k1, k2⟩ => ?_
   subst k1 k2
   cases e2 with
   | normal => exact absurd hS (hr S2)
   | _ => exact ⟨rfl, rfl⟩
theorem zrh {s : LoopState} (h : zv1 s = true) : s ≠ .busy := by intro e; subst e; cases h
theorem zj2 {r : Option (AV × HS)} {lid lst : Nat} {marks : List (Nat × Nat)} {e : Exit} (h : zho r S lid lst marks = some (e, S')) : ∃ v H2, r = some (v, H2) ∧ zs4 S lid lst marks (fun e1 S1 => e1 = e ∧ S1 = S') H2 := by
 unfold zho at h
 split at h <;> try cases h
 rename_i v H2
 split at h <;> try cases h
 rename_i lst' stt pe size tmps ps ca cb df hl
 split at h <;> try cases h
 rename_i hc
 simp only [y0g, beq_iff_eq] at hc
 obtain ⟨⟨rfl, h2⟩, h3⟩ := hc
 split at h <;> try cases h
 rename_i e1 he
 exact ⟨v, H2, rfl, stt, pe, _, _, _, _, _, _, _, hl, zrh h2, he, zjs h3, rfl, rfl⟩
theorem zvs (hE : EnvOk P E) (hR : zfn P R) : ∀ {ic : IC} {S : AS} {e : Exit} {S' : AS}, zfg P E R rd ic S = some (e, S') → T P w0 N0 rd ic S fun e1 S1 => e1 = e ∧ S1 = S' := by
 intro ic
 induction ic with
 | skip => intro S e S' h; simp only [zfg, y00, y05] at h; obtain ⟨rfl, rfl⟩ := h; exact T_skip ⟨rfl, rfl⟩
 | region ios draw =>
  intro S e S' h
  cases draw with
  | none =>
   simp only [zfg] at h
   split at h <;> try cases h
   rename_i hr
   exact zos (fun ops l hm n I a w r Qc hR' ho hk => zoj hE hR hr ops l hm n I a w r Qc hR' ho fun I' S' a' w' hS => hk I' S' a' w' ⟨rfl, hS⟩)
  | some pres =>
   simp only [zfg] at h
   split at h <;> try cases h
   rename_i hr
   exact runD_ok hE hR hr
 | seq a b iha ihb =>
  intro S e S' h
  simp only [zfg] at h
  split at h
  ·rename_i S1 h1
   exact T_seq (zeq (iha h1) fun e2 S2 ⟨k1, k2⟩ => by subst k1 k2; exact ihb h)
  ·rename_i r hr
   refine T_seq (zeq (iha h) fun e2 S2 ⟨k1, k2⟩ => ?_)
   subst k1 k2
   cases e2 with
   | normal => exact absurd h (hr S2)
   | _ => exact ⟨rfl, rfl⟩
 | cond c a b iha ihb =>
  intro S e S' h
  simp only [zfg] at h
  split at h
  ·rename_i hc; exact zs9 hc (iha h)
  ·rename_i hc; exact zs9 hc (ihb h)
  ·cases h
 | block id b ih =>
  intro S e S' h
  simp only [zfg] at h
  split at h
  ·rename_i i S1 h1
   refine znc (zeq (ih h1) fun e2 S2 ⟨k1, k2⟩ => ?_)
   subst k1 k2
   simp only [zhu]
   split at h
   ·rename_i hi; rw [if_pos hi]; simp only [y00, y05] at h; exact ⟨h.1, h.2⟩
   ·rename_i hi; rw [if_neg hi]; simp only [y00, y05] at h; exact ⟨h.1, h.2⟩
  ·rename_i r hr
   refine znc (zeq (ih h) fun e2 S2 ⟨k1, k2⟩ => ?_)
   subst k1 k2
   cases e2 with
   | exit i => exact absurd h (hr i S2)
   | _ => exact ⟨rfl, rfl⟩
 | loop b ih =>
  intro S e S' h
  simp only [zfg] at h
  exact iter_ok (fun S e S' => ih) h
 | rangeFunc g ps ca cb ia ib _ _ =>
  intro S e S' h
  simp only [zfg] at h
  split at h <;> try cases h
  rename_i fid first cap hg
  cases rd with
  | none =>
   simp only at h
   obtain ⟨v, H2, h1, h2⟩ := zj2 h
   exact zkb hg fun _ _ => (hR.1 _ _ _ _ _ h1 w0 N0).mono fun v' H' ⟨_, e2⟩ => by subst e2; exact h2
  | some x =>
   obtain ⟨idr, str⟩ := x
   simp only at h
   split at h <;> try cases h
   rename_i str' s0 p0 size0 tmps0 ps0 ca0 cb0 df hl
   split at h <;> try cases h
   rename_i e1; subst e1
   obtain ⟨v, H2, h1, h2⟩ := zj2 h
   exact zka hl hg fun _ _ => (hR.1 _ _ _ _ _ h1 w0 N0).mono fun v' H' ⟨_, e2⟩ => by subst e2; exact h2
 | exit id => intro S e S' h; simp only [zfg, y00, y05] at h; obtain ⟨rfl, rfl⟩ := h; exact T_exit ⟨rfl, rfl⟩
 | ret => intro S e S' h; simp only [zfg, y00, y05] at h; obtain ⟨rfl, rfl⟩ := h; exact T_ret ⟨rfl, rfl⟩
 | refuse => intro S e S' h; simp [zfg] at h
def isOut : Exit → Bool
 | .normal | .ret => true
 | _ => false
def runF (P : Program) (E : Env) (R : Rec) (f : FuncId) (args : List AV) (H : HS) : Option (AV × HS) :=
 match E.sum f args H with
 | some r => some r
 | none => match E.fn f with
 | some i =>
  if args.length ≤ i.size then
   match zfg P E R none i.ic (AS.enter i.size args H) with
   | some (e, S') => if isOut e then
     match S'.leave.res i.res with
     | some v => some (v, S'.leave.hs)
     | none => none
    else none
   | none => none
  else none
 | none => none
theorem runF_ok (hE : EnvOk P E) (hR : zfn P R) {f : FuncId} {args : List AV} {H' : HS} (h : runF P E R f args H = some (v, H')) : FT P w0 N0 f args H fun v1 H1 => v1 = v ∧ H1 = H' := by
 unfold runF at h
 split at h
 ·rename_i r hs
  simp only [y00] at h; subst h
  exact hE.sum _ _ _ _ _ hs w0 N0
 split at h <;> try cases h
 rename_i i hi
 split at h <;> try cases h
 rename_i hn
 split at h <;> try cases h
 rename_i e S' hr
 split at h <;> try cases h
 rename_i hout
 split at h <;> try cases h
 rename_i v1 hv
 obtain ⟨fn, code, k1, k2, k3, k4, k5, k6⟩ := hE.fn f i hi
 refine zs1 k1 k2 k3 k6 (by rw [k4]; exact hn) k5 ?_
 rw [k4]
 refine zeq (zvs hE hR hr) fun e2 S2 ⟨e1, e3⟩ => ?_
 subst e1 e3
 refine ⟨by cases e2 <;> simp [isOut] at hout <;> simp, v, hv, rfl, rfl⟩
def lvl (P : Program) (E : Env) (n : Nat) : Rec :=
 Nat.rec ⟨fun _ _ _ => none, fun _ _ _ => none⟩ (fun _ R => ⟨runF P E R, zfg P E R⟩) n
theorem lvl_ok (hE : EnvOk P E) (n : Nat) : zfn P (lvl P E n) := by
 induction n with
 | zero =>
  refine ⟨?_, ?_⟩
  ·intro f args H v H' h; cases h
  ·intro rd ic S e S' h; cases h
 | succ n ih => exact ⟨fun _ _ _ _ _ h _ _ => runF_ok hE ih h, fun _ _ _ _ _ h _ _ => zvs hE ih h⟩
end
end Go.Am
