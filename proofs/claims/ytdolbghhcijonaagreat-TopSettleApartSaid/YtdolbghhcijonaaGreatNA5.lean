/-
  AN ABSTRACT MACHINE FOR PROOFS, PART 5. A general base for proofs: no program is named here.
-/
import Derived.Test.YtdolbghhcijonaaGreatNA4
namespace Go.Am
open Go Go.RowKit
def AS.withT (S : AS) (T : TM) : AS := { S with tmps := T }
def zcy : Arg -> List Nat
 | .t n => [n]
 | .c _ => []
def zil : List Arg -> List Nat
 | [] => []
 | a :: l => zcy a ++ zil l
def zm3 : Option Arg -> List Nat
 | none => []
 | some a => zcy a
def zkk : List (Nat × Nat × Arg) -> List Nat
 | [] => []
 | x :: l => zcy x.2.2 ++ zkk l
def zb1 : IOp -> List Nat
 | .mov a | .box a | .load _ a | .nilchk a | .un _ a | .conv _ a | .rstr a | .faddr _ a | .field _ _ a | .extract a _ | .len _ a | .capo a | .nilq _ a | .boxT _ a | .uptr _ a | .sdata a => zcy a
 | .pick c a b => zcy c ++ (zcy a ++ zcy b)
 | .alloc _ | .lenc _ | .mkmap | .bad => []
 | .build _ ps | .bslice _ _ _ ps => zkk ps
 | .store _ a v => zcy a ++ zcy v
 | .bin _ x y | .eqb _ x y | .eqs _ _ x y => zcy x ++ zcy y
 | .mkfn _ a b => zil a ++ zil b
 | .mkslice _ _ _ l c => zcy l ++ zcy c
 | .slsl _ x lo hi mx => zcy x ++ (zm3 lo ++ (zm3 hi ++ zm3 mx))
 | .slarr _ _ x lo hi | .slstr x lo hi => zcy x ++ (zm3 lo ++ zm3 hi)
 | .idxs _ x i | .idxarr _ _ x i | .idxagg _ _ _ x i | .idxstr x i => zcy x ++ zcy i
 | .append _ _ _ s x | .appendz _ _ _ s x | .appendT _ _ s x | .peq _ s x | .ustr _ s x => zcy s ++ zcy x
 | .copy _ d s => zcy d ++ zcy s
 | .clear _ _ x => zcy x
 | .mapset _ m k v => zcy m ++ (zcy k ++ zcy v)
 | .mapget _ _ _ m k => zcy m ++ zcy k
 | .minmax _ l => zil l
 | .call f l => zcy f ++ zil l
def zcr (io : Opr) : List Nat := (match io.guard with | some (d, _) => [d] | none => []) ++ zb1 io.op
def zdd (T : TM) : List Nat -> TM
 | [] => .nil
 | d :: l => setT d (zao d T) (zdd T l)
theorem zfa {T : TM} {d : Nat} : ∀ {l : List Nat}, d ∈ l -> zao d (zdd T l) = zao d T
 | [], h => by cases h
 | k :: l, h => by
  simp only [zdd, zew];by_cases e : k = d
  ·subst e; rw [if_pos rfl]
  ·rw [if_neg e];rcases y0f.1 h with h | h
   ·exact absurd h.symm e
   ·exact zfa h
theorem zgv {T : TM} {d : Nat} {v : AV} : ∀ {l : List Nat}, zao d (zdd T l) = some v -> d ∈ l /\ zao d T = some v
 | [], h => by simp [zdd, zdq] at h
 | k :: l, h => by
  simp only [zdd, zew] at h;by_cases e : k = d
  ·subst e; rw [if_pos rfl] at h; exact ⟨y01 .., h⟩
  ·rw [if_neg e] at h;obtain ⟨h1, h2⟩ := zgv h;exact ⟨y0a _ h1, h2⟩
section
variable {S : AS} {T : TM}
theorem zaz {a : Arg} (h : ∀ d ∈ zcy a, zao d T = S.get d) : (S.withT T).arg a = S.arg a := by
 cases a with
 | c v => rfl
 | t n => exact h n (by simp [zcy])
theorem zje : ∀ {l : List Arg}, (∀ d ∈ zil l, zao d T = S.get d) -> (S.withT T).args l = S.args l
 | [], _ => rfl
 | a :: l, h => by
  rw [AS.args, AS.args, zaz (a := a) fun d hd => h d (by simp [zil, hd]), zje (l := l) fun d hd => h d (by simp [zil, hd])]
theorem zki {o : Option Arg} (h : ∀ d ∈ zm3 o, zao d T = S.get d) : (S.withT T).oarg o = S.oarg o := by
 cases o with
 | none => rfl
 | some a => simp only [AS.oarg, zaz h]
theorem zq7 : ∀ {l : List (Nat × Nat × Arg)}, (∀ d ∈ zkk l, zao d T = S.get d) -> (S.withT T).parts l = S.parts l
 | [], _ => rfl
 | (o, s, a) :: l, h => by
  rw [AS.parts, AS.parts, zaz (a := a) fun d hd => h d (by simp [zkk, hd]), zq7 (l := l) fun d hd => h d (by simp [zkk, hd])]
theorem zv0 (p : AV) : (S.withT T).deref p = S.deref p := by cases p <;> rfl
theorem zps (sz : Nat) (p : AV) : (S.withT T).elems sz p = S.elems sz p := by cases p <;> rfl
theorem store_T (p : AV) (vs : List AV) : (S.withT T).store p vs = (S.store p vs).map (·.withT T) := by
 cases p <;> try rfl
 rename_i id st off;have e : (S.withT T).heap = S.heap := rfl;simp only [AS.store, e];split
 ·split <;> rfl
 ·split <;> rfl
 ·rfl
theorem peq_T (p q : AV) : (S.withT T).peq p q = S.peq p q := by cases p <;> cases q <;> rfl
theorem zuk (p : AV) : (S.withT T).bytesIn p = S.bytesIn p := by cases p <;> rfl
abbrev mapT (T : TM) (x : AV × AS) : AV × AS := (x.1, x.2.withT T)
theorem zu6 (e : TypeId) (bytes : Nat) (sv : AV) (es : List (List AV)) : appendT (S.withT T) e bytes sv es = (appendT S e bytes sv es).map (mapT T) := by
 unfold appendT;have eh : (S.withT T).heap = S.heap := rfl;rw [eh];repeat' (first | rfl | split)
theorem zu5 (sz bytes : Nat) (sv : AV) (es : List (List AV)) : zbv (S.withT T) sz bytes sv es = (zbv S sz bytes sv es).map (mapT T) := by
 unfold zbv;split
 ·cases sv <;> rfl
 ·split
  ·cases sv <;> try rfl
   ·dsimp only;split <;> rfl
   ·rename_i id st sz' off len cap;have e : (S.withT T).heap = S.heap := rfl;dsimp only;rw [e];split
    ·split
     ·cases cap with
      | none => rfl
      | some k =>
       dsimp only;split
       ·split <;> rfl
       ·rfl
     ·rfl
    ·rfl
  ·rfl
theorem zu7 (sz bytes : Nat) (z : List AV) (sv : AV) (n : Int) : zf3 (S.withT T) sz bytes z sv n = (zf3 S sz bytes z sv n).map (mapT T) := by
 unfold zf3;cases sv <;> try rfl
 dsimp only;split <;> rfl
theorem mapset_T (kd : EqK) (m k v : AV) : (S.withT T).mapset kd m k v = (S.mapset kd m k v).map (·.withT T) := by
 cases m <;> try rfl
 have e : (S.withT T).heap = S.heap := rfl;simp only [AS.mapset, e];split
 ·split
  ·simp only [y2i]; rfl
  ·rfl
 ·rfl
theorem mapget_T (kd : EqK) (z : AV) (ok : Bool) (m k : AV) : (S.withT T).mapget kd z ok m k = S.mapget kd z ok m k := by cases m <;> rfl
theorem iop_T {op : IOp} (h : ∀ d ∈ zb1 op, zao d T = S.get d) : iop (S.withT T) op = (iop S op).map (mapT T) := by
 have sub : ∀ {l : List Nat}, (∀ d ∈ l, d ∈ zb1 op) -> ∀ d ∈ l, zao d T = S.get d := fun hl d hd => h d (hl d hd);cases op <;> simp only [iop]
 case mov a => rw [zaz h]; cases S.arg a <;> rfl
 case pick c a b =>
  rw [zaz (sub fun d hd => by simp [zb1, hd]), zaz (sub fun d hd => by simp [zb1, hd]), zaz (sub fun d hd => by simp [zb1, hd])];split
  ·rename_i t _; cases t <;> simp only [if_true, y0t, if_false]
   ·cases S.arg b <;> rfl
   ·cases S.arg a <;> rfl
  ·rfl
 case alloc z => rfl
 case box a =>
  rw [zaz h];split
  ·split <;> rfl
  ·rfl
 case build z ps =>
  rw [zq7 h];split
  ·split <;> rfl
  ·rfl
 case bslice a b z ps =>
  rw [zq7 h];split
  ·split <;> rfl
  ·rfl
 case load g a =>
  rw [zaz h];split
  ·rw [zv0];split
   ·cases g with
    | some n => simp only; split <;> rfl
    | none => simp only; split <;> rfl
   ·rfl
  ·rfl
 case store n a v =>
  rw [zaz (sub fun d hd => by simp [zb1, hd]), zaz (sub fun d hd => by simp [zb1, hd])];split
  ·split
   ·split
    ·rw [store_T]; cases S.store _ _ <;> rfl
    ·rfl
   ·rfl
  ·rfl
 case nilchk a => rw [zaz h]; split <;> rfl
 case bin op x y =>
  rw [zaz (sub fun d hd => by simp [zb1, hd]), zaz (sub fun d hd => by simp [zb1, hd])];split
  ·cases binOp op _ _ <;> rfl
  ·rfl
 case eqb n x y =>
  rw [zaz (sub fun d hd => by simp [zb1, hd]), zaz (sub fun d hd => by simp [zb1, hd])];split <;> rfl
 case eqs n fs x y =>
  rw [zaz (sub fun d hd => by simp [zb1, hd]), zaz (sub fun d hd => by simp [zb1, hd])];split
  ·split <;> rfl
  ·rfl
 case un op a =>
  rw [zaz h];split
  ·cases unOp op _ <;> rfl
  ·rfl
 case conv k a =>
  rw [zaz h];split
  ·cases zsu k _ <;> rfl
  ·rfl
 case rstr a =>
  rw [zaz h];split
  ·split <;> rfl
  ·rfl
 case mkfn f a b =>
  rw [zje (sub fun d hd => by simp [zb1, hd]), zje (sub fun d hd => by simp [zb1, hd])];split <;> rfl
 case mkslice sz b z l c =>
  rw [zaz (sub fun d hd => by simp [zb1, hd]), zaz (sub fun d hd => by simp [zb1, hd])];split
  ·split <;> rfl
  ·rfl
 case slsl sz x lo hi mx =>
  rw [zaz (sub fun d hd => by simp [zb1, hd]), zki (sub fun d hd => by simp [zb1, hd]), zki (sub fun d hd => by simp [zb1, hd]), zki (sub fun d hd => by simp [zb1, hd])];split
  ·cases zx0 sz _ _ _ _ <;> rfl
  ·rfl
 case slarr n sz x lo hi =>
  rw [zaz (sub fun d hd => by simp [zb1, hd]), zki (sub fun d hd => by simp [zb1, hd]), zki (sub fun d hd => by simp [zb1, hd])];split
  ·split
   ·split <;> rfl
   ·rfl
  ·rfl
 case slstr x lo hi =>
  rw [zaz (sub fun d hd => by simp [zb1, hd]), zki (sub fun d hd => by simp [zb1, hd]), zki (sub fun d hd => by simp [zb1, hd])];split
  ·split
   ·split <;> rfl
   ·rfl
  ·rfl
 case faddr o x =>
  rw [zaz h];split
  ·split <;> rfl
  ·rfl
  ·rfl
 case field o g x =>
  rw [zaz h];split
  ·cases g with
   | some n => simp only; split <;> rfl
   | none => simp only [y2i]; rfl
  ·rfl
 case idxs sz x i =>
  rw [zaz (sub fun d hd => by simp [zb1, hd]), zaz (sub fun d hd => by simp [zb1, hd])];split
  ·split
   ·split
    ·split <;> rfl
    ·rfl
   ·rfl
  ·split <;> rfl
  ·rfl
 case idxarr n sz x i =>
  rw [zaz (sub fun d hd => by simp [zb1, hd]), zaz (sub fun d hd => by simp [zb1, hd])];split
  ·split <;> rfl
  ·split <;> rfl
  ·rfl
 case idxagg n sz g x i =>
  rw [zaz (sub fun d hd => by simp [zb1, hd]), zaz (sub fun d hd => by simp [zb1, hd])];split
  ·split
   ·split
    ·rfl
    ·simp only [y2i]; rfl
   ·rfl
  ·rfl
 case idxstr x i =>
  rw [zaz (sub fun d hd => by simp [zb1, hd]), zaz (sub fun d hd => by simp [zb1, hd])];split
  ·split
   ·split <;> rfl
   ·rfl
  ·rfl
 case extract x i =>
  rw [zaz h];split
  ·simp only [y2i]; rfl
  ·rfl
 case len b a =>
  rw [zaz h];split
  ·cases lenA b _ <;> rfl
  ·rfl
 case lenc n => rfl
 case append sz b z s x =>
  rw [zaz (sub fun d hd => by simp [zb1, hd]), zaz (sub fun d hd => by simp [zb1, hd])];split
  ·rw [zps];split
   ·exact zu5 ..
   ·rfl
  ·rfl
 case appendz sz b z s x =>
  rw [zaz (sub fun d hd => by simp [zb1, hd]), zaz (sub fun d hd => by simp [zb1, hd])];split
  ·exact zu7 ..
  ·rfl
 case mkmap => rfl
 case mapset kd m k v =>
  rw [zaz (sub fun d hd => by simp [zb1, hd]), zaz (sub fun d hd => by simp [zb1, hd]), zaz (sub fun d hd => by simp [zb1, hd])];split
  ·rw [mapset_T]; cases S.mapset kd _ _ _ <;> rfl
  ·rfl
 case mapget kd z ok m k =>
  rw [zaz (sub fun d hd => by simp [zb1, hd]), zaz (sub fun d hd => by simp [zb1, hd])];split
  ·rw [mapget_T]; cases S.mapget kd z ok _ _ <;> rfl
  ·rfl
 case capo a =>
  rw [zaz h];split
  ·split <;> rfl
  ·rfl
 case nilq n a =>
  rw [zaz h];split <;> rfl
 case clear sz z x =>
  rw [zaz h];split
  ·have e : (S.withT T).heap = S.heap := rfl;rw [e];split
   ·split <;> rfl
   ·rfl
  ·rfl
 case copy sz d s =>
  rw [zaz (sub fun d hd => by simp [zb1, hd]), zaz (sub fun d hd => by simp [zb1, hd])];split
  ·rw [zps];have e : (S.withT T).heap = S.heap := rfl;rw [e];split
   ·split <;> rfl
   ·rfl
  ·rfl
 case minmax mx l =>
  rw [zje h];split
  ·simp only [y2i]; rfl
  ·rfl
 case boxT e a =>
  rw [zaz h];split
  ·split <;> rfl
  ·rfl
 case peq n x y =>
  rw [zaz (sub fun d hd => by simp [zb1, hd]), zaz (sub fun d hd => by simp [zb1, hd])];split
  ·rw [peq_T]; split <;> rfl
  ·rfl
 case uptr ok a =>
  rw [zaz h];have e : (S.withT T).heap = S.heap := rfl;rw [e];split
  ·split
   ·split <;> rfl
   ·rfl
  ·rfl
 case sdata a => rw [zaz h]; split <;> rfl
 case ustr e a n =>
  rw [zaz (sub fun d hd => by simp [zb1, hd]), zaz (sub fun d hd => by simp [zb1, hd])];have e : (S.withT T).heap = S.heap := rfl;rw [e];split
  ·split
   ·split
    ·split <;> rfl
    ·rfl
   ·rfl
  ·rfl
 case appendT e b s x =>
  rw [zaz (sub fun d hd => by simp [zb1, hd]), zaz (sub fun d hd => by simp [zb1, hd])];split
  ·rw [zuk];split
   ·exact zu6 ..
   ·rfl
  ·rfl
 case call f l => rfl
 case bad => rfl
theorem view_T : ∀ (d : Nat) (v : AV), (S.withT T).view d v = S.view d v
 | 0, v => rfl
 | d + 1, v => by
  have ih : (S.withT T).view d = S.view d := funext fun v => view_T d v;cases v <;> simp only [AS.view, ih, zps, zv0]
end
section
variable {P : Program} {w0 w : World} {N0 : Nat} {S S' S1 : AS} {T : TM} {rd : Option (Nat × Nat)} {E : Env} {R : Rec} {io : Opr} {v : AV} {H : HS}
theorem zrz (fv : AV) (vs : List AV) : zdu E R (S.withT T) fv vs = zdu E R S fv vs := by
 have : (S.withT T).view VD = S.view VD := funext fun v => view_T VD v;simp only [zdu, this]
theorem zsg (h : ∀ d ∈ zcr io, zao d T = S.get d) : zaf (S.withT T) io = zaf S io := by
 unfold zaf;split
 ·rfl
 ·rename_i d b hg;have : (S.withT T).get d = S.get d := h d (by simp [zcr, hg]);rw [this]
theorem znc (h : ∀ d ∈ zcr io, zao d T = S.get d) : zb2 E R (S.withT T) io = zb2 E R S io := by
 have h2 : ∀ d ∈ zb1 io.op, zao d T = S.get d := fun d hd => h d (y1a _ hd);unfold zb2;split
 ·rename_i fa args hop;rw [hop] at h2;rw [zaz fun d hd => h2 d (by simp [zb1, hd]), zje fun d hd => h2 d (by simp [zb1, hd])];simp only [zrz]
 ·split
  ·rfl
  ·rw [iop_T h2]; cases iop S io.op <;> rfl
theorem loud1_T (h : ∀ d ∈ zcr io, zao d T = S.get d) : zgp P R (S.withT T) io = zgp P R S io := by
 have h2 : ∀ d ∈ zb1 io.op, zao d T = S.get d := fun d hd => h d (y1a _ hd);unfold zgp;split
 ·rename_i fa args hop;rw [hop] at h2;rw [zaz fun d hd => h2 d (by simp [zb1, hd]), zje fun d hd => h2 d (by simp [zb1, hd])];rfl
 ·rw [iop_T h2];cases iop S io.op with
  | none => rfl
  | some r => rfl
theorem zx2 (h : ∀ d ∈ zcr io, zao d T = S.get d) : zdr P E R (S.withT T) io = zdr P E R S io := by
 unfold zdr;rw [znc h, loud1_T h];rfl
end
section
variable {P : Program} {w0 w : World} {N0 : Nat} {S S' S1 : AS} {T : TM} {rd : Option (Nat × Nat)} {E : Env} {R : Rec} {io : Opr} {op : IOp} {v : AV} {H : HS}
theorem zmk (a : Arg) : (S.withH H).arg a = S.arg a := by cases a <;> rfl
theorem zu9 : ∀ l : List Arg, (S.withH H).args l = S.args l
 | [] => rfl
 | a :: l => by rw [AS.args, AS.args, zmk, zu9 l]
theorem oarg_H (a : Option Arg) : (S.withH H).oarg a = S.oarg a := by cases a <;> simp [AS.oarg, zmk]
theorem zq6 : ∀ l : List (Nat × Nat × Arg), (S.withH H).parts l = S.parts l
 | [] => rfl
 | (o, s, a) :: l => by rw [AS.parts, AS.parts, zmk, zq6 l]
def zm1 : HS := ⟨[], 0, 0⟩
abbrev mapH (S : AS) (H : HS) (x : AV × AS) : AV × AS := (x.1, S.withH H)
theorem iop_H (hl : zda op = false) (hn : ∀ g a, op ≠ .load g a) (hn2 : ∀ kd z ok m k, op ≠ .mapget kd z ok m k) : iop (S.withH H) op = (iop (S.withH zm1) op).map (mapH S H) := by
 cases op <;> simp only [zda, Bool.true_eq_false] at hl <;> simp only [iop, zmk, zu9, oarg_H, zq6]
 case load g a => exact absurd rfl (hn g a)
 case mapget kd z ok m k => exact absurd rfl (hn2 kd z ok m k)
 case mov a => cases S.arg a <;> rfl
 case pick c a b =>
  split
  ·rename_i t _; cases t <;> simp only [if_true, y0t, if_false]
   ·cases S.arg b <;> rfl
   ·cases S.arg a <;> rfl
  ·rfl
 case build z ps =>
  split
  ·split <;> rfl
  ·rfl
 case nilchk a => split <;> rfl
 case bin op x y =>
  split
  ·cases binOp op _ _ <;> rfl
  ·rfl
 case eqb n x y => split <;> rfl
 case eqs n fs x y =>
  split
  ·split <;> rfl
  ·rfl
 case un op a =>
  split
  ·cases unOp op _ <;> rfl
  ·rfl
 case conv k a =>
  split
  ·cases zsu k _ <;> rfl
  ·rfl
 case rstr a =>
  split
  ·split <;> rfl
  ·rfl
 case mkfn f a b => split <;> rfl
 case slsl sz x lo hi mx =>
  split
  ·cases zx0 sz _ _ _ _ <;> rfl
  ·rfl
 case slarr n sz x lo hi =>
  split
  ·split
   ·split <;> rfl
   ·rfl
  ·rfl
 case slstr x lo hi =>
  split
  ·split
   ·split <;> rfl
   ·rfl
  ·rfl
 case faddr o x =>
  split
  ·split <;> rfl
  ·rfl
  ·rfl
 case field o g x =>
  split
  ·cases g with
   | some n => simp only; split <;> rfl
   | none => simp only [y2i]; rfl
  ·rfl
 case idxs sz x i =>
  split
  ·split
   ·split
    ·split <;> rfl
    ·rfl
   ·rfl
  ·split <;> rfl
  ·rfl
 case idxarr n sz x i =>
  split
  ·split <;> rfl
  ·split <;> rfl
  ·rfl
 case idxagg n sz g x i =>
  split
  ·split
   ·split
    ·rfl
    ·simp only [y2i]; rfl
   ·rfl
  ·rfl
 case idxstr x i =>
  split
  ·split
   ·split <;> rfl
   ·rfl
  ·rfl
 case extract x i =>
  split
  ·simp only [y2i]; rfl
  ·rfl
 case len b a =>
  split
  ·cases lenA b _ <;> rfl
  ·rfl
 case lenc n => rfl
 case capo a =>
  split
  ·split <;> rfl
  ·rfl
 case nilq n a =>
  split <;> rfl
 case sdata a =>
  split <;> rfl
 case minmax mx l =>
  split
  ·simp only [y2i]; rfl
  ·rfl
 case bad => rfl
theorem zsy {g : Option Nat} {a : Arg} (h : iop (S.withH zm1) (.load g a) = some (v, S1)) : iop (S.withH H) (.load g a) = some (v, S.withH H) := by
 simp only [iop, zmk] at h ⊢;cases hp : S.arg a with
 | none => rw [hp] at h; cases h
 | some p =>
  rw [hp] at h;cases p <;> try (simp only [AS.deref, reduceCtorEq] at h)
  case vptr cs =>
   simp only [AS.deref];cases g with
   | some n =>
    simp only at h ⊢;split at h
    ·rename_i hc; simp only [y00, y0b] at h; rw [if_pos hc]; simp only [h.1]
    ·cases h
   | none =>
    simp only at h ⊢;split at h
    ·simp only [y00, y0b] at h; simp only [h.1]
    ·cases h
  case mptr id st off => exact absurd h (by rw [show (S.withH zm1).heap = [] from rfl]; simp [zeg])
theorem iop_E (hl : zda op = false) (h : iop (S.withH zm1) op = some (v, S1)) (H : HS) : ∃ S2, iop (S.withH H) op = some (v, S2) := by
 by_cases hn : ∃ g a, op = .load g a
 ·obtain ⟨g, a, rfl⟩ := hn;exact ⟨_, zsy h⟩
 ·by_cases hn2 : ∃ kd z ok m k, op = .mapget kd z ok m k
  ·obtain ⟨kd, z, ok, m, k, rfl⟩ := hn2;exfalso;simp only [iop, zmk] at h;split at h <;> try cases h
   rename_i mv kv _ _;have : (S.withH zm1).mapget kd z ok mv kv = none := by cases mv <;> rfl
   rw [this] at h; cases h
  ·rw [iop_H hl (fun g a e => hn ⟨g, a, e⟩) (fun kd z ok m k e => hn2 ⟨kd, z, ok, m, k, e⟩), h];exact ⟨_, rfl⟩
theorem znk {S S' : AS} {d : Nat} (ih : ∀ v, hasM v = false -> S.view d v = S'.view d v) : ∀ l : List AV, hasM.hasML l = false -> l.map (S.view d) = l.map (S'.view d)
 | [], _ => rfl
 | v :: l, h => by
  simp only [hasM.hasML, y1x] at h;simp only [y1d, ih v h.1, znk ih l h.2]
theorem zsf {S S' : AS} : ∀ (d : Nat) (v : AV), hasM v = false -> S.view d v = S'.view d v
 | 0, v, _ => rfl
 | d + 1, v, h => by
  have ih := znk (S := S) (S' := S') (d := d) (fun v => zsf d v);cases v <;> simp only [hasM, Bool.true_eq_false, y1x] at h <;> simp only [AS.view]
  ·rename_i f a b; rw [ih a h.1, ih b h.2]
  ·rename_i cs; rw [ih cs h]
  ·rename_i cs; rw [ih cs h]
def zg2 (E : Env) (R : Rec) (S : AS) (io : Opr) : Option AV :=
 match io.op with
 | .call fa args => match S.arg fa, S.args args with
  | some (.fn fid first cap), some vs => if hasM.hasML (first ++ vs ++ cap) = true then none else zdu E R (S.withH zm1) (.fn fid first cap) vs
  | _, _ => none
 | op => if zda op then none else (iop (S.withH zm1) op).map (·.1)
theorem pureOf_H {fid : FuncId} {first cap vs : List AV} (h : hasM.hasML (first ++ vs ++ cap) = false) : zdu E R S (.fn fid first cap) vs = zdu E R S' (.fn fid first cap) vs := by
 have : (first ++ vs ++ cap).map (S.view VD) = (first ++ vs ++ cap).map (S'.view VD) := znk (fun v => zsf VD v) _ h;simp only [zdu, this]
theorem zkt (h : zg2 E R S io = some v) (H : HS) : zb2 E R (S.withH H) io = some v := by
 unfold zg2 at h;unfold zb2;split at h
 ·rename_i fa args hop;simp only [hop, zmk, zu9];split at h
  ·rename_i fid first cap vs hf ha
   split at h
   ·cases h
   ·rename_i hm;simp only [hf, ha];rw [<- h];exact pureOf_H (by simpa using hm)
  ·cases h
 ·rename_i hop;split at h
  ·cases h
  ·rename_i hl;simp only [y03, Prod.exists, exists_and_right, exists_eq_right] at h;obtain ⟨S1, h⟩ := h;obtain ⟨S2, h2⟩ := iop_E (by simpa using hl) h H;split
   ·rename_i hop2; exact absurd hop2 (hop _ _)
   ·rw [if_neg hl, h2]; rfl
theorem zx3 (h : ∀ d ∈ zcr io, zao d T = S.get d) : zg2 E R (S.withT T) io = zg2 E R S io := by
 have h2 : ∀ d ∈ zb1 io.op, zao d T = S.get d := fun d hd => h d (y1a _ hd);unfold zg2;split
 ·rename_i fa args hop;rw [hop] at h2;rw [zaz fun d hd => h2 d (by simp [zb1, hd]), zje fun d hd => h2 d (by simp [zb1, hd])];split
  ·have : ((S.withT T).withH zm1) = ((S.withH zm1).withT T) := rfl;rw [this, zrz]
  ·rfl
 ·split
  ·rfl
  ·have : ((S.withT T).withH zm1) = ((S.withH zm1).withT T) := rfl;rw [this, iop_T (S := S.withH zm1) h2]; cases iop (S.withH zm1) io.op <;> rfl
end
def zaq (m i : Nat) : Bool := Nat.beq (Nat.land (Nat.shiftRight m i) 1) 1
theorem zh1 (m i : Nat) : zaq m i = m.testBit i := by
 have h : Nat.land (Nat.shiftRight m i) 1 = (m >>> i) % 2 := Nat.and_one_is_mod _;unfold zaq;rw [h, Nat.testBit_eq_decide_div_mod_eq, Nat.shiftRight_eq_div_pow];rw [Bool.eq_iff_iff, decide_eq_true_iff];exact ⟨y14, fun e => by rw [e]; rfl⟩
def bitM (d : Nat) : Nat := Nat.shiftLeft 1 d
theorem zqv (a b i : Nat) : zaq (Nat.lor a b) i = (zaq a i || zaq b i) := by
 rw [zh1, zh1, zh1]; exact Nat.testBit_or a b i
theorem bit_M (d i : Nat) : zaq (bitM d) i = decide (d = i) := by
 rw [zh1];show (1 <<< d).testBit i = _;rw [Nat.one_shiftLeft, Nat.testBit_two_pow]
theorem bit_0 (i : Nat) : zaq 0 i = false := by rw [zh1]; exact Nat.zero_testBit i
def dM : Option Nat -> Nat
 | some d => bitM d
 | none => 0
theorem zlf (o : Option Nat) (i : Nat) : zaq (dM o) i = true ↔ o = some i := by
 cases o with
 | none => simp [dM, bit_0]
 | some d => simp [dM, bit_M]
structure OI where
 idx : Nat
 io : Opr
 a : Nat
 k : Nat
def nth {α : Type} : List α -> Nat -> Option α
 | [], _ => none
 | x :: l, n => match n with
  | 0 => some x
  | m + 1 => nth l m
theorem nth_eq {α : Type} : ∀ (l : List α) (n : Nat), nth l n = l[n]?
 | [], _ => rfl
 | x :: l, 0 => rfl
 | x :: l, n + 1 => by rw [nth]; simpa using nth_eq l n
def zu0 (acc : List OI) (len : Nat) : List Nat -> Nat -> Nat -> Option (Nat × Nat)
 | [], a, k => some (a, k)
 | p :: ps, a, k => match Nat.ble (p + 1) len with
  | true => match nth acc (len - 1 - p) with
   | some s => zu0 acc len ps (Nat.lor a (Nat.lor s.a (bitM p))) (Nat.lor k (Nat.lor s.k (dM s.io.dst)))
   | none => none
  | false => none
def zow : List Opr -> List (List Nat) -> List OI -> Nat -> Option (List OI)
 | [], [], acc, _ => some acc.reverse
 | io :: ios, ps :: pres, acc, len => match zu0 acc len ps 0 0 with
  | some (a, k) => zow ios pres (⟨len, io, a, k⟩ :: acc) (len + 1)
  | none => none
 | _, _, _, _ => none
def zq9 (E : Env) (op : IOp) : Bool :=
 match op with
 | .call (.c (.fn f _ _)) _ => E.known f
 | .call _ _ => false
 | op => !zda op
def ndM : List OI -> Nat -> Bool
 | [], _ => true
 | x :: l, m => match x.io.dst with
  | some d => match zaq m d with
   | true => false
   | false => ndM l (Nat.lor m (bitM d))
  | none => ndM l m
def wAll : List OI -> Nat
 | [] => 0
 | x :: l => Nat.lor (dM x.io.dst) (wAll l)
def zwl (rs : List OI) (W : Nat) (x : OI) : Bool := (zcr x.io).all fun d => !zaq W d || zaq x.k d || rs.all fun y => !zaq (dM y.io.dst) d || zaq y.a x.idx
def zdo (E : Env) : List OI -> List OI
 | [] => []
 | x :: l => match zq9 E x.io.op with
  | true => zdo E l
  | false => x :: zdo E l
def zk2 : IOp -> Bool
 | .alloc _ | .box _ | .bslice .. => true
 | _ => false
def zgl : IOp -> Bool
 | .load _ (.t _) => true
 | _ => false
def zfr (x y : OI) : Bool := zaq x.a y.idx || zaq y.a x.idx || (zgl x.io.op && zk2 y.io.op)
def flagOf (E : Env) (lds : List OI) (x : OI) : Bool × Bool := (zq9 E x.io.op, !(lds.all fun y => zfr x y))
def statD (E : Env) (ios : List Opr) (pres : List (List Nat)) (size : Nat) : Option (List (Bool × Bool)) :=
 match zow ios pres [] 0 with
 | some rs =>
  if ndM rs 0 && rs.all (zwl rs (wAll rs)) && (zdo E rs).all (fun x => (zdo E rs).all fun y => Nat.ble x.idx y.idx || zaq x.a y.idx) && ios.all (fun io => zc6 size io.dst) then some (rs.map (flagOf E (zdo E rs))) else none
 | none => none
def zca (P : Program) (E : Env) (R : Rec) : List Opr -> List (Bool × Bool) -> AS -> Option AS
 | [], [], S => some S
 | io :: ios, (q, ind) :: fl, S => match zaf S io with
  | some true =>
   if q then match (if ind then zg2 E R S io else zb2 E R S io) with
    | some v => zca P E R ios fl (S.put io.dst v)
    | none => none
   else match zdr P E R S io with
    | some (v, H) => zca P E R ios fl ((S.withH H).put io.dst v)
    | none => none
  | some false => zca P E R ios fl (S.put io.dst (.tup []))
  | none => none
 | _, _, _ => none
structure PassOk (ios : List Opr) (pres : List (List Nat)) (rs : List OI) : Prop where
 len : rs.length = ios.length
 len2 : pres.length = ios.length
 at_ : ∀ (i : Nat) (r : OI), rs[i]? = some r -> r.idx = i /\ ios[i]? = some r.io
 acyc : ∀ (i : Nat) (ps : List Nat), pres[i]? = some ps -> ∀ p ∈ ps, p < i
 up : ∀ (i : Nat) (ps : List Nat) (r : OI), pres[i]? = some ps -> rs[i]? = some r -> ∀ q, zaq r.a q = true -> ∃ p ∈ ps, q = p \/ ∃ s, rs[p]? = some s /\ zaq s.a q = true
 down : ∀ (i : Nat) (ps : List Nat) (r : OI), pres[i]? = some ps -> rs[i]? = some r -> ∀ p ∈ ps, zaq r.a p = true /\ ∃ s, rs[p]? = some s /\ ∀ q, zaq s.a q = true -> zaq r.a q = true
 wr : ∀ (i : Nat) (ps : List Nat) (r : OI), pres[i]? = some ps -> rs[i]? = some r -> ∀ d, zaq r.k d = true -> ∃ p ∈ ps, ∃ s, rs[p]? = some s /\ (s.io.dst = some d \/ zaq s.k d = true)
theorem zqo {acc : List OI} {len : Nat} (hacc : acc.length = len) : ∀ {ps : List Nat} {a k a' k' : Nat}, zu0 acc len ps a k = some (a', k') ->
  (∀ p ∈ ps, p < len) /\ (∀ q, zaq a' q = true ↔ zaq a q = true \/ ∃ p ∈ ps, q = p \/ ∃ s, acc.reverse[p]? = some s /\ zaq s.a q = true) /\
  (∀ p ∈ ps, ∃ s, acc.reverse[p]? = some s) /\
  (∀ d, zaq k' d = true -> zaq k d = true \/ ∃ p ∈ ps, ∃ s, acc.reverse[p]? = some s /\ (s.io.dst = some d \/ zaq s.k d = true))
 | [], a, k, a', k', h => by
  simp only [zu0, y00, y0b] at h;obtain ⟨rfl, rfl⟩ := h;exact ⟨by simp, fun q => by simp, by simp, fun d hd => .inl hd⟩
 | p :: ps, a, k, a', k', h => by
  simp only [zu0] at h;split at h <;> try cases h
  rename_i hlt;have hp : p < len := y04 hlt;split at h <;> try cases h
  rename_i s hs;rw [nth_eq] at hs;have hrev : acc.reverse[p]? = some s := by
   rw [List.getElem?_reverse (by omega), hacc]; exact hs
  obtain ⟨h1, h2, h3, h4⟩ := zqo hacc h;refine ⟨fun q hq => ?_, fun q => ?_, fun q hq => ?_, fun d hd => ?_⟩
  ·rcases y0f.1 hq with rfl | hq
   ·exact hp
   ·exact h1 q hq
  ·rw [h2];simp only [zqv, bit_M, y0v, decide_eq_true_eq, y0f, exists_eq_or_imp];constructor
   ·rintro ((h | h | h) | h)
    ·exact .inl h
    ·exact .inr (.inl (.inr ⟨s, hrev, h⟩))
    ·exact .inr (.inl (.inl h.symm))
    ·exact .inr (.inr h)
   ·rintro (h | (h | ⟨s', e, h⟩) | h)
    ·exact .inl (.inl h)
    ·exact .inl (.inr (.inr h.symm))
    ·rw [hrev] at e; injection e with e; subst e; exact .inl (.inr (.inl h))
    ·exact .inr h
  ·rcases y0f.1 hq with rfl | hq
   ·exact ⟨s, hrev⟩
   ·exact h3 q hq
  ·rcases h4 d hd with h | ⟨p', hp', h⟩
   ·simp only [zqv, y0v] at h;rcases h with h | h | h
    ·exact .inl h
    ·exact .inr ⟨p, y01 .., s, hrev, .inr h⟩
    ·exact .inr ⟨p, y01 .., s, hrev, .inl ((zlf _ _).1 h)⟩
   ·exact .inr ⟨p', y0a _ hp', h⟩
theorem zja {α : Type} {l : List α} {x y : α} {i : Nat} (h : (l ++ [x])[i]? = some y) : l[i]? = some y \/ (i = l.length /\ y = x) := zef h
theorem PassOk.snoc {ios : List Opr} {pres : List (List Nat)} {rs : List OI} (h : PassOk ios pres rs) {io : Opr} {ps : List Nat} {a k : Nat}
  (h1 : ∀ p ∈ ps, p < rs.length) (h2 : ∀ q, zaq a q = true ↔ ∃ p ∈ ps, q = p \/ ∃ s, rs[p]? = some s /\ zaq s.a q = true)
  (h4 : ∀ d, zaq k d = true -> ∃ p ∈ ps, ∃ s, rs[p]? = some s /\ (s.io.dst = some d \/ zaq s.k d = true)) :
  PassOk (ios ++ [io]) (pres ++ [ps]) (rs ++ [⟨rs.length, io, a, k⟩]) := by
 have hl : ∀ {p : Nat} {s : OI}, rs[p]? = some s -> (rs ++ [(⟨rs.length, io, a, k⟩ : OI)])[p]? = some s := fun h => zee h;have two : ∀ (i : Nat) (ps' : List Nat) (r : OI), (pres ++ [ps])[i]? = some ps' -> (rs ++ [(⟨rs.length, io, a, k⟩ : OI)])[i]? = some r -> (pres[i]? = some ps' /\ rs[i]? = some r) \/ (i = rs.length /\ ps' = ps /\ r = ⟨rs.length, io, a, k⟩) := by
  intro i ps' r e1 e2;rcases zja e1 with e1 | ⟨e1, e3⟩ <;> rcases zja e2 with e2 | ⟨e2, e4⟩
  ·exact .inl ⟨e1, e2⟩
  ·have := (y05.1 e1).1; rw [h.len2, <- h.len] at this; omega
  ·have := (y05.1 e2).1; rw [h.len, <- h.len2] at this; omega
  ·exact .inr ⟨e2, e3, e4⟩
 refine ⟨by simp [h.len], by simp [h.len2], fun i r hr => ?_, fun i ps' hp => ?_, fun i ps' r e1 e2 => ?_, fun i ps' r e1 e2 => ?_, fun i ps' r e1 e2 => ?_⟩
 ·rcases zja hr with hr | ⟨e1, e2⟩
  ·exact ⟨(h.at_ i r hr).1, zee (h.at_ i r hr).2⟩
  ·subst e1 e2; exact ⟨rfl, by rw [h.len]; simp⟩
 ·rcases zja hp with hp | ⟨e1, e2⟩
  ·exact h.acyc i ps' hp
  ·subst e1 e2; rw [h.len2, <- h.len]; exact h1
 ·rcases two i ps' r e1 e2 with ⟨e1, e2⟩ | ⟨e3, e4, e5⟩
  ·intro q hq;obtain ⟨p, hp, hor⟩ := h.up i ps' r e1 e2 q hq;exact ⟨p, hp, hor.imp id fun ⟨s, k1, k2⟩ => ⟨s, hl k1, k2⟩⟩
  ·subst e3 e4 e5;intro q hq;obtain ⟨p, hp, hor⟩ := (h2 q).1 hq;exact ⟨p, hp, hor.imp id fun ⟨s, k1, k2⟩ => ⟨s, hl k1, k2⟩⟩
 ·rcases two i ps' r e1 e2 with ⟨e1, e2⟩ | ⟨e3, e4, e5⟩
  ·intro p hp;obtain ⟨k1, s, k2, k3⟩ := h.down i ps' r e1 e2 p hp;exact ⟨k1, s, hl k2, k3⟩
  ·subst e3 e4 e5;intro p hp;refine ⟨(h2 p).2 ⟨p, hp, .inl rfl⟩, rs[p]'(h1 p hp), hl (by simp [h1 p hp]), fun q hq => (h2 q).2 ⟨p, hp, .inr ⟨_, by simp [h1 p hp], hq⟩⟩⟩
 ·rcases two i ps' r e1 e2 with ⟨e1, e2⟩ | ⟨e3, e4, e5⟩
  ·intro d hd;obtain ⟨p, hp, s, k1, k2⟩ := h.wr i ps' r e1 e2 d hd;exact ⟨p, hp, s, hl k1, k2⟩
  ·subst e3 e4 e5;intro d hd;obtain ⟨p, hp, s, k1, k2⟩ := h4 d hd;exact ⟨p, hp, s, hl k1, k2⟩
theorem znb : ∀ {ios : List Opr} {pres : List (List Nat)} {done : List Opr} {dpres : List (List Nat)} {acc : List OI} {len : Nat} {rs : List OI}, PassOk done dpres acc.reverse -> acc.length = len ->
  zow ios pres acc len = some rs -> PassOk (done ++ ios) (dpres ++ pres) rs
 | [], [], done, dpres, acc, len, rs, h, hl, hp => by
  simp only [zow, y00] at hp;subst hp;simpa using h
 | io :: ios, ps :: pres, done, dpres, acc, len, rs, h, hl, hp => by
  simp only [zow] at hp;split at hp <;> try cases hp
  rename_i a k hak;obtain ⟨h1, h2, h3, h4⟩ := zqo hl hak;have hlr : acc.reverse.length = len := by simpa using hl
  have := h.snoc (io := io) (ps := ps) (a := a) (k := k) (by rw [hlr]; exact h1) (fun q => by rw [h2 q]; simp [bit_0]) (fun d hd => (h4 d hd).resolve_left (by simp [bit_0]));rw [hlr] at this;have e1 : done ++ io :: ios = (done ++ [io]) ++ ios := by simp
  have e2 : dpres ++ ps :: pres = (dpres ++ [ps]) ++ pres := by simp
  rw [e1, e2];exact znb (by simpa using this) (by simp [hl]) hp
 | [], _ :: _, _, _, _, _, _, _, _, hp => by simp [zow] at hp
 | _ :: _, [], _, _, _, _, _, _, _, hp => by simp [zow] at hp
theorem PassOk.alt {ios : List Opr} {pres : List (List Nat)} {rs : List OI} (h : PassOk ios pres rs) : ∀ (i : Nat) (r : OI), rs[i]? = some r -> ∀ q, zaq r.a q = true -> q < i := by
 intro i
 induction i using Nat.strongRecOn with
 | _ i ih =>
  intro r hr q hq;have hi := (y05.1 hr).1;have hp : pres[i]? = some (pres[i]'(by rw [h.len2, <- h.len]; exact hi)) := by simp [h.len2, <- h.len, hi]
  obtain ⟨p, hpm, hor⟩ := h.up i _ r hp hr q hq;have hpi := h.acyc i _ hp p hpm;rcases hor with rfl | ⟨s, hs, hqs⟩
  ·exact hpi
  ·have := ih p hpi s hs q hqs; omega
theorem PassOk.ofK {ios : List Opr} {pres : List (List Nat)} {rs : List OI} (h : PassOk ios pres rs) : ∀ (i : Nat) (r : OI), rs[i]? = some r -> ∀ d, zaq r.k d = true -> ∃ q s, zaq r.a q = true /\ rs[q]? = some s /\ s.io.dst = some d := by
 intro i
 induction i using Nat.strongRecOn with
 | _ i ih =>
  intro r hr d hd;have hi := (y05.1 hr).1;have hp : pres[i]? = some (pres[i]'(by rw [h.len2, <- h.len]; exact hi)) := by simp [h.len2, <- h.len, hi]
  obtain ⟨p, hpm, s, hs, hor⟩ := h.wr i _ r hp hr d hd;have hpi := h.acyc i _ hp p hpm;obtain ⟨k1, s', k2, k3⟩ := h.down i _ r hp hr p hpm;rw [hs] at k2; injection k2 with k2; subst k2;rcases hor with hor | hor
  ·exact ⟨p, s, k1, hs, hor⟩
  ·obtain ⟨q, s2, e1, e2, e3⟩ := ih p hpi s hs d hor;exact ⟨q, s2, k3 q e1, e2, e3⟩
theorem zrn : ∀ {rs : List OI} {m : Nat}, ndM rs m = true -> (∀ (i : Nat) (x : OI) (d : Nat), rs[i]? = some x -> x.io.dst = some d -> zaq m d = false) /\
  ∀ (i j : Nat) (x y : OI) (d : Nat), rs[i]? = some x -> rs[j]? = some y -> x.io.dst = some d -> y.io.dst = some d -> i = j
 | [], m, _ => ⟨by simp, by simp⟩
 | x :: l, m, h => by
  simp only [ndM] at h;cases hd : x.io.dst with
  | none =>
   rw [hd] at h;obtain ⟨h1, h2⟩ := zrn h;refine ⟨fun i y d hy he => ?_, fun i j y z d hy hz e1 e2 => ?_⟩
   ·cases i with
    | zero => simp at hy; subst hy; rw [hd] at he; cases he
    | succ i => exact h1 i y d (by simpa using hy) he
   ·cases i with
    | zero => simp at hy; subst hy; rw [hd] at e1; cases e1
    | succ i =>
     cases j with
     | zero => simp at hz; subst hz; rw [hd] at e2; cases e2
     | succ j => rw [h2 i j y z d (by simpa using hy) (by simpa using hz) e1 e2]
  | some d0 =>
   rw [hd] at h;simp only at h;split at h <;> try cases h
   rename_i hb;obtain ⟨h1, h2⟩ := zrn h;have out : ∀ (i : Nat) (y : OI) (d : Nat), l[i]? = some y -> y.io.dst = some d -> zaq m d = false /\ d0 ≠ d := by
    intro i y d hy he;have := h1 i y d hy he;simp only [zqv, bit_M, y1x, decide_eq_false_iff_not] at this;exact this
   refine ⟨fun i y d hy he => ?_, fun i j y z d hy hz e1 e2 => ?_⟩
   ·cases i with
    | zero => simp at hy; subst hy; rw [hd] at he; injection he with he; subst he; exact hb
    | succ i => exact (out i y d (by simpa using hy) he).1
   ·cases i with
    | zero =>
     simp at hy; subst hy;rw [hd] at e1; injection e1 with e1; subst e1;cases j with
     | zero => rfl
     | succ j => exact absurd rfl (out j z d0 (by simpa using hz) e2).2
    | succ i =>
     cases j with
     | zero => simp at hz; subst hz; rw [hd] at e2; injection e2 with e2; subst e2; exact absurd rfl (out i y d0 (by simpa using hy) e1).2
     | succ j => rw [h2 i j y z d (by simpa using hy) (by simpa using hz) e1 e2]
theorem zl0 : ∀ {rs : List OI} {d : Nat}, zaq (wAll rs) d = false -> ∀ (i : Nat) (x : OI), rs[i]? = some x -> x.io.dst ≠ some d
 | [], d, _, i, x, hx => by simp at hx
 | y :: l, d, h, i, x, hx => by
  simp only [wAll, zqv, y1x] at h;cases i with
  | zero => simp at hx; subst hx; intro e; have := (zlf _ _).2 e; rw [h.1] at this; cases this
  | succ i => exact zl0 h.2 i x (by simpa using hx)
theorem zi7 {E : Env} {x : OI} : ∀ {rs : List OI}, x ∈ rs -> zq9 E x.io.op = false -> x ∈ zdo E rs
 | [], h, _ => by cases h
 | y :: l, h, hq => by
  simp only [zdo];rcases y0f.1 h with rfl | h
  ·rw [hq]; exact y01 ..
  ·cases zq9 E y.io.op with
   | true => exact zi7 h hq
   | false => exact y0a _ (zi7 h hq)
def zra (i : Nat) : Nat -> List Tr -> List Nat
 | _, [] => []
 | k, t :: l => match t.dst with
  | some d => if (k == i || t.anc.contains i) = true then zra i (k + 1) l else d :: zra i (k + 1) l
  | none => zra i (k + 1) l
theorem zn7 {i d : Nat} : ∀ {l : List Tr} {k m : Nat} {t : Tr}, l[m]? = some t -> t.dst = some d -> k + m = i \/ i ∈ t.anc \/ d ∈ zra i k l
 | [], k, m, t, h, _ => by simp at h
 | x :: l, k, m, t, h, hd => by
  cases m with
  | zero =>
   simp at h; subst h;simp only [zra, hd];split
   ·rename_i hc;simp only [y0v, beq_iff_eq] at hc;rcases hc with hc | hc
    ·exact .inl hc
    ·exact .inr (.inl (by simpa using hc))
   ·exact .inr (.inr (y01 ..))
  | succ m =>
   have ih := zn7 (i := i) (k := k + 1) (l := l) (m := m) (by simpa using h) hd;rcases ih with ih | ih | ih
   ·exact .inl (by omega)
   ·exact .inr (.inl ih)
   ·right; right;simp only [zra];split
    ·split
     ·exact ih
     ·exact y0a _ ih
    ·exact ih
section
variable {P : Program} {w0 w : World} {N0 : Nat} {S S' S1 : AS} {rd : Option (Nat × Nat)} {Q : Exit -> AS -> Prop} {E : Env} {R : Rec} {io : Opr} {v : AV} {H : HS}
end
structure StepR (P : Program) (E : Env) (R : Rec) (S : AS) (io : Opr) (q ind : Bool) (v : AV) (run : Bool) (S1 : AS) : Prop where
 ok : (zaf S io = some false /\ run = false /\ v = .tup [] /\ S1 = S.put io.dst v) \/
  (zaf S io = some true /\ q = true /\ run = false /\ S1 = S.put io.dst v /\ (ind = true -> zg2 E R S io = some v) /\ (ind = false -> zb2 E R S io = some v)) \/
  (zaf S io = some true /\ q = false /\ run = true /\ ∃ H, zdr P E R S io = some (v, H) /\ S1 = (S.withH H).put io.dst v)
section
variable {P : Program} {w0 w : World} {N0 : Nat} {S S' S1 : AS} {T : TM} {rd : Option (Nat × Nat)} {E : Env} {R : Rec} {io : Opr} {op : IOp} {v : AV} {H : HS}
theorem zwr : ∀ {ios : List Opr} {fl : List (Bool × Bool)} {S S' : AS}, zca P E R ios fl S = some S' -> fl.length = ios.length /\
  ∃ (Ss : Nat -> AS) (vs : Nat -> AV) (rl : Nat -> Bool), Ss 0 = S /\ Ss ios.length = S' /\
   ∀ (i : Nat) (io : Opr) (q ind : Bool), ios[i]? = some io -> fl[i]? = some (q, ind) -> StepR P E R (Ss i) io q ind (vs i) (rl i) (Ss (i + 1))
 | [], [], S, S', h => by
  simp only [zca, y00] at h;exact ⟨rfl, fun _ => S, fun _ => .top, fun _ => false, rfl, h, by simp⟩
 | io :: ios, (q, ind) :: fl, S, S', h => by
  have go : ∀ {v : AV} {run : Bool} {S1 : AS}, StepR P E R S io q ind v run S1 -> zca P E R ios fl S1 = some S' -> ((q, ind) :: fl).length = (io :: ios).length /\
    ∃ (Ss : Nat -> AS) (vs : Nat -> AV) (rl : Nat -> Bool), Ss 0 = S /\ Ss (io :: ios).length = S' /\
     ∀ (i : Nat) (io' : Opr) (q' ind' : Bool), (io :: ios)[i]? = some io' -> ((q, ind) :: fl)[i]? = some (q', ind') -> StepR P E R (Ss i) io' q' ind' (vs i) (rl i) (Ss (i + 1)) := by
   intro v run S1 hs hr;obtain ⟨h1, Ss, vs, rl, h2, h3, h4⟩ := zwr hr;refine ⟨by simp [h1], fun i => match i with | 0 => S | i + 1 => Ss i, fun i => match i with | 0 => v | i + 1 => vs i, fun i => match i with | 0 => run | i + 1 => rl i, rfl, h3, fun i io' q' ind' e1 e2 => ?_⟩;cases i with
   | zero =>
    simp at e1 e2;obtain ⟨e2, e3⟩ := e2;subst e1 e2 e3;show StepR P E R S io q ind v run (Ss 0);rw [h2]; exact hs
   | succ i => exact h4 i io' q' ind' (by simpa using e1) (by simpa using e2)
  simp only [zca] at h;split at h
  ·rename_i hw;split at h
   ·rename_i hq;split at h <;> try cases h
    rename_i v hv;exact go (run := false) ⟨.inr (.inl ⟨hw, hq, rfl, rfl, fun hi => by rw [if_pos hi] at hv; exact hv, fun hi => by rw [if_neg (by rw [hi]; simp)] at hv; exact hv⟩)⟩ h
   ·rename_i hq;split at h <;> try cases h
    rename_i v H hv;exact go (run := true) ⟨.inr (.inr ⟨hw, by simpa using hq, rfl, H, hv, rfl⟩)⟩ h
  ·rename_i hw;exact go (run := false) ⟨.inl ⟨hw, rfl, rfl, rfl⟩⟩ h
  ·cases h
 | [], _ :: _, _, _, h => by simp [zca] at h
 | _ :: _, [], _, _, h => by simp [zca] at h
theorem Stp.more {B B' : AS} {H' : HS} (hs : B'.size = B.size) (hm : B'.marks = B.marks) (hh : B'.hs = B.hs) (hi : ∀ d v, zao d B'.tmps = some v -> zao d B.tmps = some v)
  (h : Stp P w0 N0 rd io B' fun S2 v2 => v2 = v /\ S2 = B'.withH H') : Stp P w0 N0 rd io B fun S2 v2 => v2 = v /\ S2 = B.withH H' := by
 intro ops o hc n I a w r next Qc hR ho hk;obtain ⟨size, tmps, heap, nx, clk, marks⟩ := B;obtain ⟨size', tmps', heap', nx', clk', marks'⟩ := B';simp only [AS.hs, HS.mk.injEq] at hs hm hh hi;obtain ⟨rfl, rfl, rfl⟩ := hh;subst hs hm;refine h ops o hc n I a w r next Qc ⟨hR.clk, ⟨hR.tmps.1, fun d v hv => hR.tmps.2 d v (hi d v hv)⟩, hR.hrel, hR.marks⟩ ho fun I' S1 v' u w' ⟨e1, e2⟩ hR' hV hE => ?_;subst e1 e2;exact hk I' _ v' u w' ⟨rfl, rfl⟩ ⟨hR'.clk, hR.tmps.evo hE, hR'.hrel, hR'.marks⟩ hV hE
theorem zl1 {B B' : AS} {b : Bool} (hi : ∀ d v, zao d B'.tmps = some v -> zao d B.tmps = some v) (h : zaf B' io = some b) : zaf B io = some b := by
 unfold zaf at h ⊢;cases hg : io.guard with
 | none => rw [hg] at h; exact h
 | some x =>
  obtain ⟨d, c⟩ := x;rw [hg] at h;dsimp only at h ⊢;split at h
  ·rename_i y hy; rw [show B.get d = some (.bool y) from hi d _ hy]; exact h
  ·rename_i vs hy; rw [show B.get d = some (.tup vs) from hi d _ hy]; exact h
  ·cases h
theorem zgf {tr : List Tr} {rest : TM} {d : Nat} {v : AV} : ∀ {l : List Nat}, (∃ p ∈ l, ∃ t, tr[p]? = some t /\ t.dst = some d) -> (∀ p ∈ l, ∀ t, tr[p]? = some t -> t.dst = some d -> t.v = v) -> zao d (zfp tr rest l) = some v
 | [], h, _ => by obtain ⟨p, hp, _⟩ := h; cases hp
 | p :: l, h, hv => by
  simp only [zfp];cases ht : tr[p]? with
  | none =>
   simp only;obtain ⟨p', hp', t, h1, h2⟩ := h;rcases y0f.1 hp' with rfl | hp'
   ·rw [ht] at h1; cases h1
   ·exact zgf ⟨p', hp', t, h1, h2⟩ fun q hq => hv q (y0a _ hq)
  | some t0 =>
   simp only;have rest' : t0.dst ≠ some d -> zao d (zfp tr rest l) = some v := by
    intro hne;obtain ⟨p', hp', t, h1, h2⟩ := h;rcases y0f.1 hp' with rfl | hp'
    ·rw [ht] at h1; injection h1 with h1; subst h1; exact absurd h2 hne
    ·exact zgf ⟨p', hp', t, h1, h2⟩ fun q hq => hv q (y0a _ hq)
   cases hd : t0.dst with
   | none => exact rest' (by rw [hd]; simp)
   | some d0 =>
    simp only [zcc];by_cases e : d0 = d
    ·subst e;rw [if_pos rfl, hv p (y01 ..) t0 ht hd]
    ·rw [if_neg e];exact rest' (by rw [hd]; simp; exact e)
theorem zg1 {tr : List Tr} {rest : TM} {d : Nat} : ∀ {l : List Nat}, (∀ p ∈ l, ∀ t, tr[p]? = some t -> t.dst ≠ some d) -> zao d (zfp tr rest l) = zao d rest
 | [], _ => rfl
 | p :: l, h => by
  have ih := zg1 (tr := tr) (rest := rest) (d := d) (l := l) fun q hq => h q (y0a _ hq);simp only [zfp];split
  ·rename_i t ht;split
   ·rename_i d0 hd;rw [zcc, if_neg (fun e => h p (y01 ..) t ht (by rw [hd, e])), ih]
   ·exact ih
  ·exact ih
theorem zg0 {d : Nat} : ∀ {ds : List Nat} {t : TM}, d ∉ ds -> zao d (zkn ds t) = zao d t
 | [], _, _ => rfl
 | k :: ds, t, h => by
  simp only [zkn, zew];rw [if_neg (fun e => h (by rw [e]; exact y01 ..)), zg0 fun hd => h (y0a _ hd)]
def zcq (p : Nat -> Bool) (n : Nat) : List Nat := (List.range n).filter p
theorem mem_upTo {p : Nat -> Bool} {n x : Nat} : x ∈ zcq p n ↔ x < n /\ p x = true := by simp [zcq]
theorem zcb (p : Nat -> Bool) (n : Nat) : zcq p (n + 1) = zcq p n ++ (if p n = true then [n] else []) := by
 simp only [zcq, List.range_succ, List.filter_append];congr 1;by_cases h : p n = true <;> simp [h]
theorem zfd (p : Nat -> Bool) : ∀ (n i : Nat), i <= n -> ∃ r, zcq p n = zcq p i ++ r /\ ∀ x ∈ r, i <= x
 | 0, i, h => ⟨[], by rw [show i = 0 by omega]; simp, by simp⟩
 | n + 1, i, h => by
  by_cases e : i = n + 1
  ·exact ⟨[], by rw [e]; simp, by simp⟩
  ·obtain ⟨r, hr, hx⟩ := zfd p n i (by omega);refine ⟨r ++ (if p n = true then [n] else []), by rw [zcb, hr, y1w], fun x hm => ?_⟩;rcases y1n.1 hm with hm | hm
   ·exact hx x hm
   ·split at hm
    ·simp at hm; omega
    ·cases hm
theorem znj {p : Nat -> Bool} {n i : Nat} (hi : i < n) (hp : p i = true) : (zcq p n)[(zcq p i).length]? = some i := by
 obtain ⟨r, hr, _⟩ := zfd p n (i + 1) hi;rw [hr, zcb, if_pos hp];simp
theorem zcp {p : Nat -> Bool} {n i m l : Nat} (hi : i <= n) (hm : (zcq p n)[m]? = some l) : m < (zcq p i).length ↔ l < i := by
 obtain ⟨r, hr, hx⟩ := zfd p n i hi;rw [hr] at hm;constructor
 ·intro h;rw [y0z h] at hm;exact (mem_upTo.1 (y0i hm)).1
 ·intro h;rcases y20 m (zcq p i).length with h1 | h1
  ·exact h1
  ·rw [y12 h1] at hm;have := hx l (y0i hm);omega
end
section
variable {P : Program} {w0 w : World} {N0 : Nat} {S S' S1 : AS} {rd : Option (Nat × Nat)} {E : Env} {R : Rec} {io : Opr} {op : IOp} {v : AV} {H : HS}
theorem T_less {ic : IC} {Q Q' : Exit -> AS -> Prop} (h : T P w0 N0 rd ic S Q) (hq : ∀ e S1, Q e S1 -> ∃ S2, Q' e S2 /\ ∀ I a w, Rel w0 N0 I S1 a w -> Rel w0 N0 I S2 a w) : T P w0 N0 rd ic S Q' := fun code hc n I a w r hr ho =>
 wpIn_mono (h code hc n I a w r hr ho) fun e a' w' ⟨I', S1, q, k1, k2⟩ => by
  obtain ⟨S2, q2, k3⟩ := hq e S1 q;exact ⟨I', S2, q2, k3 _ _ _ k1, k2⟩
theorem StepR.kept {q ind run : Bool} (h : StepR P E R S io q ind v run S1) : S1.size = S.size /\ S1.marks = S.marks /\ S1.tmps = (S.put io.dst v).tmps /\ (run = false -> S1.hs = S.hs) /\ (run = true -> q = false) := by
 have p1 : ∀ S0 : AS, (S0.put io.dst v).size = S0.size /\ (S0.put io.dst v).marks = S0.marks /\ (S0.put io.dst v).hs = S0.hs := fun S0 => by cases io.dst <;> exact ⟨rfl, rfl, rfl⟩
 rcases h.ok with ⟨_, h2, _, rfl⟩ | ⟨_, _, h2, rfl, _⟩ | ⟨_, h1, h2, H, _, rfl⟩
 ·exact ⟨(p1 S).1, (p1 S).2.1, rfl, fun _ => (p1 S).2.2, fun e => by rw [h2] at e; cases e⟩
 ·exact ⟨(p1 S).1, (p1 S).2.1, rfl, fun _ => (p1 S).2.2, fun e => by rw [h2] at e; cases e⟩
 ·refine ⟨(p1 _).1, (p1 _).2.1, ?_, fun e => (by rw [h2] at e; cases e), fun _ => h1⟩;cases io.dst <;> rfl
theorem zs0 {S : AS} {dst : Option Nat} {v x : AV} {d : Nat} (h : zao d (S.put dst v).tmps = some x) : (dst = some d /\ x = v) \/ (dst ≠ some d /\ zao d S.tmps = some x) := by
 cases dst with
 | none => exact .inr ⟨by simp, h⟩
 | some k =>
  simp only [AS.put, zcc] at h;by_cases e : k = d
  ·subst e; rw [if_pos rfl] at h; injection h with h; exact .inl ⟨rfl, h.symm⟩
  ·rw [if_neg e] at h; exact .inr ⟨by simp; exact e, h⟩
structure FreshExt (H H' : HS) : Prop where
 next : H.next <= H'.next
 clk : H.clk <= H'.clk
 look : ∀ id, look id H'.heap = look id H.heap \/ (H.next <= id /\ ∃ st o, look id H'.heap = some (st, o) /\ H.clk <= st)
theorem FreshExt.refl (H : HS) : FreshExt H H := ⟨y08 _, y08 _, fun _ => .inl rfl⟩
theorem FreshExt.trans {H H' H'' : HS} (h : FreshExt H H') (k : FreshExt H' H'') : FreshExt H H'' := by
 refine ⟨y0u h.next k.next, y0u h.clk k.clk, fun id => ?_⟩;rcases k.look id with e | ⟨e1, st, o, e2, e3⟩
 ·rw [e]; exact h.look id
 ·exact .inr ⟨y0u h.next e1, st, o, e2, y0u h.clk e3⟩
theorem zmn {f : Nat -> HS} {a : Nat} : ∀ {b : Nat}, (∀ k, a <= k -> k < b -> FreshExt (f k) (f (k + 1))) -> a <= b -> FreshExt (f a) (f b)
 | 0, _, h => by rw [show a = 0 by omega]; exact FreshExt.refl _
 | b + 1, hs, h => by
  by_cases e : a = b + 1
  ·subst e; exact FreshExt.refl _
  ·exact (zmn (b := b) (fun k h1 h2 => hs k h1 (by omega)) (by omega)).trans (hs b (by omega) (y07 _))
theorem zk9 {op : IOp} (h : zgl op = true) : ∃ g d, op = .load g (.t d) := by
 unfold zgl at h;split at h
 ·exact ⟨_, _, rfl⟩
 ·cases h
theorem newExt (S : AS) (o : AObj) : FreshExt S.hs (S.new o).hs := by
 refine ⟨y0y _, y0y _, fun id => ?_⟩;show look id ((S.next, S.clk, o) :: S.heap) = look id S.heap \/ _;rw [zak];by_cases e : S.next = id
 ·rw [if_pos e];refine .inr ⟨by rw [<- e]; exact y08 _, S.clk, o, ?_, y08 _⟩;show look id ((S.next, S.clk, o) :: S.heap) = _;rw [zak, if_pos e]
 ·rw [if_neg e]; exact .inl rfl
theorem zln (hf : zk2 io.op = true) (h : zdr P E R S io = some (v, H)) : FreshExt S.hs H := by
 unfold zdr zb2 zgp at h;cases hop : io.op <;> rw [hop] at hf <;> simp only [zk2, y0t] at hf <;> simp only [hop, zda, if_true] at h
 all_goals
  split at h
  ·rename_i v' S1 hi;simp only [y00, y0b] at h;obtain ⟨_, rfl⟩ := h;simp only [iop] at hi;repeat' (split at hi)
   all_goals simp only [y00, y0b, reduceCtorEq] at hi
   obtain ⟨_, rfl⟩ := hi;exact newExt ..
  ·cases h
def zn5 (g : Option Nat) (cs : List AV) : Option AV :=
 match g with
 | some n => if n <= cs.length then some (.agg (cs.take n)) else none
 | none => cs.head?
theorem zvz {g : Option Nat} {d : Nat} {X : AS} {H H' : HS} (hop : io.op = .load g (.t d)) (hx : FreshExt H H' \/ FreshExt H' H) (hst : ∀ id st off, X.get d = some (.mptr id st off) -> st < H.clk) (hfree : ∀ id, H.next <= id -> look id H.heap = none)
  (h : zb2 E R (X.withH H') io = some v) : zb2 E R (X.withH H) io = some v := by
 have key : ∀ G : HS, zb2 E R (X.withH G) io = (X.get d).bind fun p => ((X.withH G).deref p).bind (zn5 g) := by
  intro G;have e1 : zb2 E R (X.withH G) io = (iop (X.withH G) (.load g (.t d))).map (·.1) := by
   unfold zb2;split
   ·rename_i hc; rw [hop] at hc; cases hc
   ·rw [hop]; simp [zda]
  rw [e1];simp only [iop, AS.arg];have eg : (X.withH G).get d = X.get d := rfl;rw [eg];cases X.get d with
  | none => rfl
  | some p =>
   simp only [y2c];cases (X.withH G).deref p with
   | none => rfl
   | some cs =>
    cases g with
    | none => cases cs <;> rfl
    | some n => simp only [y2c, zn5]; split <;> rfl
 rw [key] at h ⊢;cases hg : X.get d with
 | none => rw [hg] at h; cases h
 | some p =>
  rw [hg] at h;simp only [y2c] at h ⊢;have hd : (X.withH H').deref p ≠ none := by
   intro e; rw [e] at h; cases h
  have : (X.withH H).deref p = (X.withH H').deref p := by
   cases p <;> try (exact absurd rfl hd)
   ·rfl
   ·rename_i id st off;have hst' := hst id st off hg;simp only [AS.deref] at hd ⊢;have e1 : (X.withH H').heap = H'.heap := rfl;have e2 : (X.withH H).heap = H.heap := rfl;have e3 : (X.withH H').next = H'.next := rfl;have e4 : (X.withH H).next = H.next := rfl;rw [e1, e3] at hd ⊢;rw [e2, e4];cases hl : look id H'.heap with
    | none => rw [hl] at hd; exact absurd rfl hd
    | some x =>
     obtain ⟨st', o⟩ := x;rw [hl] at hd;cases o with
     | cells cs =>
      simp only at hd;split at hd
      ·rename_i hc;obtain ⟨hc1, hc2⟩ := hc;have same : look id H.heap = look id H'.heap := by
        rcases hx with hx | hx
        ·rcases hx.look id with e | ⟨_, st2, o2, e, e5⟩
         ·exact e.symm
         ·rw [hl] at e; injection e with e; injection e with e _; omega
        ·rcases hx.look id with e | ⟨e, _⟩
         ·exact e
         ·omega
       have hlt : id < H.next := by
        rcases y20 id H.next with h5 | h5
        ·exact h5
        ·have := hfree id h5; rw [same, hl] at this; cases this
       rw [same, hl];simp only [hc1, hc2, hlt, and_self, if_true]
      ·exact absurd rfl hd
     | typed T full cs =>
      simp only at hd;split at hd
      ·rename_i hc;obtain ⟨hc1, hc2⟩ := hc;have same : look id H.heap = look id H'.heap := by
        rcases hx with hx | hx
        ·rcases hx.look id with e | ⟨_, st2, o2, e, e5⟩
         ·exact e.symm
         ·rw [hl] at e; injection e with e; injection e with e _; omega
        ·rcases hx.look id with e | ⟨e, _⟩
         ·exact e
         ·omega
       have hlt : id < H.next := by
        rcases y20 id H.next with h5 | h5
        ·exact h5
        ·have := hfree id h5; rw [same, hl] at this; cases this
       rw [same, hl];simp only [hc1, hc2, hlt, and_self, if_true]
      ·exact absurd rfl hd
     | _ => exact absurd rfl hd
  rw [this]; exact h
theorem zjt {i d : Nat} : ∀ {l : List Tr} {k : Nat}, d ∈ zra i k l -> ∃ (m : Nat) (t : Tr), l[m]? = some t /\ t.dst = some d /\ k + m ≠ i /\ i ∉ t.anc
 | [], k, h => by simp [zra] at h
 | t :: l, k, h => by
  have tail : d ∈ zra i (k + 1) l -> ∃ (m : Nat) (t' : Tr), (t :: l)[m]? = some t' /\ t'.dst = some d /\ k + m ≠ i /\ i ∉ t'.anc := fun h => by
   obtain ⟨m, t', h1, h2, h3, h4⟩ := zjt h;exact ⟨m + 1, t', by simpa using h1, h2, by omega, h4⟩
  simp only [zra] at h;split at h
  ·rename_i d' hd;split at h
   ·exact tail h
   ·rename_i hn;rcases y0f.1 h with rfl | h
    ·simp only [y0v, beq_iff_eq, y2g, decide_eq_true_eq, not_or] at hn;exact ⟨0, t, rfl, hd, by simpa using hn.1, hn.2⟩
    ·exact tail h
  ·exact tail h
theorem T_stat (hE : EnvOk P E) (hR : zjd P R) {ios : List Opr} {pres : List (List Nat)} {fl : List (Bool × Bool)} (hst : statD E ios pres S.size = some fl) (h : zca P E R ios fl S = some S') :
  T P w0 N0 rd (.region ios (some pres)) S fun e1 S1 => e1 = .normal /\ S1 = S' := by
 unfold statD at hst;split at hst <;> try cases hst
 rename_i rs hrs;split at hst <;> try cases hst
 rename_i hc;simp only [y0g] at hc;obtain ⟨⟨⟨c1, c2⟩, c3⟩, c4⟩ := hc;have hP : PassOk ios pres rs := by
  have := znb (ios := ios) (pres := pres) (done := []) (dpres := []) (acc := []) (len := 0) ⟨rfl, rfl, by simp, by simp, by simp, by simp, by simp⟩ rfl hrs;simpa using this
 obtain ⟨_, hnd⟩ := zrn c1;obtain ⟨_, Ss, vs, rl, s0, sn, hstep⟩ := zwr h;generalize hn : ios.length = n at *;have rsAt : ∀ {i : Nat} {io : Opr}, ios[i]? = some io -> ∃ r, rs[i]? = some r /\ r.io = io /\ r.idx = i := by
  intro i io hi;have hlt : i < rs.length := by rw [hP.len]; exact (y05.1 hi).1
  refine ⟨rs[i], by simp [hlt], ?_, (hP.at_ i _ (by simp [hlt])).1⟩;have := (hP.at_ i rs[i] (by simp [hlt])).2;rw [hi] at this; injection this with this; exact this.symm
 have step : ∀ {i : Nat} {r : OI}, rs[i]? = some r -> StepR P E R (Ss i) r.io (zq9 E r.io.op) (!((zdo E rs).all fun y => zfr r y)) (vs i) (rl i) (Ss (i + 1)) := by
  intro i r hr;exact hstep i r.io _ _ (hP.at_ i r hr).2 (by simp [flagOf, hr])
 have ltn : ∀ {i : Nat} {r : OI}, rs[i]? = some r -> i < n := fun hr => by have := (y05.1 hr).1; rw [hP.len] at this; omega
 have atn : ∀ {i : Nat}, i < n -> ∃ r, rs[i]? = some r := by
  intro i hi;have : i < rs.length := by rw [hP.len]; omega
  exact ⟨rs[i], by simp [this]⟩
 -- what stays, what is known, and the heaps
 have keep : ∀ i, i <= n -> (Ss i).size = S.size /\ (Ss i).marks = S.marks := by
  intro i
  induction i with
  | zero => intro _; rw [s0]; exact ⟨rfl, rfl⟩
  | succ i ih =>
   intro hi;obtain ⟨r, hr⟩ := atn (show i < n by omega)
   obtain ⟨k1, k2, _⟩ := (step hr).kept;exact ⟨k1.trans (ih (by omega)).1, k2.trans (ih (by omega)).2⟩
 have info : ∀ i, i <= n -> ∀ d v, zao d (Ss i).tmps = some v -> (∃ j r, j < i /\ rs[j]? = some r /\ r.io.dst = some d /\ v = vs j) \/ ((∀ j r, j < i -> rs[j]? = some r -> r.io.dst ≠ some d) /\ zao d S.tmps = some v) := by
  intro i
  induction i with
  | zero => intro _ d v hv; rw [s0] at hv; exact .inr ⟨fun j r hj => by omega, hv⟩
  | succ i ih =>
   intro hi d v hv;obtain ⟨r, hr⟩ := atn (show i < n by omega)
   obtain ⟨_, _, k3, _⟩ := (step hr).kept;rw [k3] at hv;rcases zs0 hv with ⟨e1, e2⟩ | ⟨e1, e2⟩
   ·exact .inl ⟨i, r, by omega, hr, e1, e2⟩
   ·rcases ih (by omega) d v e2 with ⟨j, r', h1, h2, h3, h4⟩ | ⟨h1, h2⟩
    ·exact .inl ⟨j, r', by omega, h2, h3, h4⟩
    ·refine .inr ⟨fun j r' hj hr' => ?_, h2⟩;rcases y20 j i with hji | hji
     ·exact h1 j r' hji hr'
     ·obtain rfl : j = i := by omega
      rw [hr] at hr'; injection hr' with hr'; subst hr'; exact e1
 obtain ⟨louds, hlouds⟩ : ∃ l, l = zcq rl n := ⟨_, rfl⟩
 obtain ⟨heaps, hheaps⟩ : ∃ l : List HS, l = S.hs :: louds.map (fun l => (Ss (l + 1)).hs) := ⟨_, rfl⟩
 have heapAt : ∀ i, i <= n -> heaps[(zcq rl i).length]? = some (Ss i).hs := by
  intro i
  induction i with
  | zero => intro _; rw [hheaps, s0]; rfl
  | succ i ih =>
   intro hi;obtain ⟨r, hr⟩ := atn (show i < n by omega)
   obtain ⟨_, _, _, k4, _⟩ := (step hr).kept;rw [zcb];by_cases hrl : rl i = true
   ·rw [if_pos hrl, y0l, y1z, hheaps, List.getElem?_cons_succ, y0n, hlouds, znj (show i < n by omega) hrl]
    rfl
   ·rw [if_neg hrl, y0s, k4 (by simpa using hrl)];exact ih (by omega)
 have ldm : ∀ {l : Nat}, l ∈ louds -> ∃ r, rs[l]? = some r /\ r ∈ zdo E rs /\ r.idx = l := by
  intro l hl;rw [hlouds] at hl;obtain ⟨h1, h2⟩ := mem_upTo.1 hl;obtain ⟨r, hr⟩ := atn h1;obtain ⟨_, _, _, _, k5⟩ := (step hr).kept;exact ⟨r, hr, zi7 (y0i hr) (k5 h2), (hP.at_ l r hr).1⟩
 -- the record of the run
 obtain ⟨tr, htr⟩ : ∃ l : List Tr, l = rs.map (fun r => (⟨r.io.dst, vs r.idx, zcq (zaq r.a) n⟩ : Tr)) := ⟨_, rfl⟩
 have trAt : ∀ {i : Nat} {r : OI}, rs[i]? = some r -> tr[i]? = some ⟨r.io.dst, vs i, zcq (zaq r.a) n⟩ := by
  intro i r hr;rw [htr, y0n, hr, <- (hP.at_ i r hr).1]; rfl
 have trGet : ∀ {i : Nat} {t : Tr}, tr[i]? = some t -> ∃ r, rs[i]? = some r /\ t = ⟨r.io.dst, vs i, zcq (zaq r.a) n⟩ := by
  intro i t ht;have hlt : i < rs.length := by have := (y05.1 ht).1; rw [htr, y06] at this; exact this
  refine ⟨rs[i], by simp [hlt], ?_⟩;have := trAt (i := i) (r := rs[i]) (by simp [hlt]);rw [ht] at this; injection this
 have ancM : ∀ {i q : Nat} {r : OI}, rs[i]? = some r -> (q ∈ zcq (zaq r.a) n ↔ zaq r.a q = true) := by
  intro i q r hr;refine mem_upTo.trans ⟨fun h => h.2, fun h => ⟨?_, h⟩⟩;have := hP.alt i r hr q h;have := ltn hr;omega
 have cnt : ∀ {i j : Nat} {r : OI}, rs[i]? = some r -> j < heaps.length -> Fits tr louds i ⟨r.io.dst, vs i, zcq (zaq r.a) n⟩ j -> (∀ y ∈ zdo E rs, y.idx ≠ i -> zaq r.a y.idx = true \/ zaq y.a i = true) -> j = (zcq rl i).length := by
  intro i j r hr hj hfit hcomp;have hin := ltn hr;have hll : heaps.length = louds.length + 1 := by rw [hheaps]; simp
  rcases Nat.lt_trichotomy j (zcq rl i).length with h1 | h1 | h1
  ·exfalso;have hle : (zcq rl i).length <= louds.length := by
    obtain ⟨x, hx, _⟩ := zfd rl n i (by omega);rw [hlouds, hx]; simp
   have hm : louds[j]? = some louds[j] := by simp [show j < louds.length by omega]
   have hli : louds[j] < i := (zcp (p := rl) (n := n) (by omega) (by rw [<- hlouds]; exact hm)).1 h1;obtain ⟨y, hy, hyl, hyi⟩ := ldm (y0i hm);rcases hcomp y hyl (by rw [hyi]; omega) with h2 | h2
   ·have := (hfit j _ hm).1 ((ancM hr).2 (by rw [<- hyi]; exact h2));omega
   ·have := hP.alt _ y hy i h2;omega
  ·exact h1
  ·exfalso;have hm : louds[(zcq rl i).length]? = some louds[(zcq rl i).length] := by simp [show (zcq rl i).length < louds.length by omega]
   have hge : ¬ louds[(zcq rl i).length] < i := fun hlt => by
    have := (zcp (p := rl) (n := n) (by omega) (by rw [<- hlouds]; exact hm)).2 hlt;omega
   obtain ⟨y, hy, hyl, hyi⟩ := ldm (y0i hm);by_cases he : louds[(zcq rl i).length] = i
   ·have := (hfit _ _ hm).2.1 he; omega
   ·rcases hcomp y hyl (by rw [hyi]; exact he) with h2 | h2
    ·have := hP.alt i r hr _ h2;omega
    ·have := (hfit _ _ hm).2.2 _ (trAt hy) ((ancM hy).2 h2);omega
 generalize hrf : (fun i => zkn (zra i 0 tr) S.tmps) = rf at *;generalize hrest : zkn (ios.filterMap (·.dst)) S.tmps = rest at *;have chain : ∀ x ∈ zdo E rs, ∀ y ∈ zdo E rs, x.idx <= y.idx \/ zaq x.a y.idx = true := by
  intro x hx y hy;have := y0h.1 (y0h.1 c3 x hx) y hy;simp only [y0v] at this;exact this.imp y04 id
 have hll : heaps.length = louds.length + 1 := by rw [hheaps]; simp
 refine T_less (T_draw hE.mix rf rest tr louds heaps (Q := fun e1 S1 => e1 = .normal /\ S1 = S.base rest tr (List.range ios.length) S'.hs) ⟨?_, ?_, ?_, ?_, ?_, ?_, hP.acyc, ?_, ?_, hll, ?_, ?_, ?_⟩ ?_) ?_
 ·rw [htr, y06, hP.len]
 ·-- free
  intro i d v hv;rw [<- hrf] at hv;obtain ⟨h1, h2⟩ := zex hv;refine ⟨h1, fun k t ht hd => ?_⟩;rcases zn7 (i := i) (k := 0) ht hd with h3 | h3 | h3
  ·exact .inl (by omega)
  ·exact .inr h3
  ·rw [y2g] at h2;simp [h3] at h2
 ·-- last
  intro d v hv;rw [<- hrest] at hv;obtain ⟨h1, h2⟩ := zex hv;refine ⟨h1, fun i t ht e => ?_⟩;obtain ⟨r, hr, rfl⟩ := trGet ht;have : d ∈ ios.filterMap (·.dst) := y2m.2 ⟨r.io, y0i (hP.at_ i r hr).2, e⟩;rw [y2g] at h2;simp [this] at h2
 ·exact hP.len2
 ·intro i io t hi ht;obtain ⟨r, hr, rfl⟩ := trGet ht;obtain ⟨r', hr', e1, _⟩ := rsAt hi;rw [hr] at hr'; injection hr' with hr'; subst hr';exact ⟨by rw [<- e1], y0h.1 c4 io (y0i hi)⟩
 ·intro i j t t' d h1 h2 h3 h4;obtain ⟨r, hr, rfl⟩ := trGet h1;obtain ⟨r', hr', rfl⟩ := trGet h2;exact hnd i j r r' d hr hr' h3 h4
 ·intro i ps t hp ht q hq;obtain ⟨r, hr, rfl⟩ := trGet ht;obtain ⟨p, hpm, hor⟩ := hP.up i ps r hp hr q ((ancM hr).1 hq);exact ⟨p, hpm, hor.imp id fun ⟨s, k1, k2⟩ => ⟨_, trAt k1, (ancM k1).2 k2⟩⟩
 ·rw [hheaps]; rfl
 ·-- the heap's steps come one behind the other
  intro m l l' h1 h2;obtain ⟨x, hx, hxl, hxi⟩ := ldm (y0i h1);obtain ⟨y, hy, hyl, hyi⟩ := ldm (y0i h2);refine ⟨_, trAt hy, (ancM hy).2 ?_⟩;have hl' := (mem_upTo.1 (hlouds ▸ y0i h2)).1;have c1' : m < (zcq rl l').length := by
   have h5 := (zcp (p := rl) (n := n) (i := l' + 1) (by omega) (by rw [<- hlouds]; exact h2)).2 (by omega);rw [zcb] at h5;simp at h5;split at h5 <;> simp at h5 <;> omega
  have hlt : l < l' := (zcp (p := rl) (n := n) (by omega) (by rw [<- hlouds]; exact h1)).1 c1';rcases chain y hyl x hxl with h3 | h3
  ·omega
  ·rw [hxi] at h3; exact h3
 ·intro l hl;rw [hlouds] at hl;have := (mem_upTo.1 hl).1;omega
 ·-- each step
  intro i io t j H hi ht hH hfit;obtain ⟨r, hr, rfl⟩ := trGet ht;obtain ⟨r', hr', e1, hidx⟩ := rsAt hi;rw [hr] at hr'; injection hr' with hr'; subst hr';subst e1;have hin := ltn hr;have hj : j < heaps.length := (y05.1 hH).1;obtain ⟨ks, km⟩ := keep i (by omega);have eqT : ∀ d ∈ zcr r.io, zao d (zdd (Ss i).tmps (zcr r.io)) = (Ss i).get d := fun d hd => zfa hd;have hinfo : ∀ d v, zao d (zdd (Ss i).tmps (zcr r.io)) = some v -> zao d (S.base (rf i) tr (zcq (zaq r.a) n) H).tmps = some v := by
   intro d v hv;obtain ⟨hd, hv⟩ := zgv hv;have hrd := y0h.1 (y0h.1 c2 r (y0i hr)) d hd;simp only [y0v, y1u] at hrd;show zao d (zfp tr (rf i) (zcq (zaq r.a) n)) = some v;rcases info i (by omega) d v hv with ⟨j', r', h1, h2, h3, h4⟩ | ⟨h1, h2⟩
   ·rcases hrd with (hrd | hrd) | hrd
    ·exact absurd h3 (zl0 hrd j' r' h2)
    rotate_left
    ·exfalso;have h5 := y0h.1 hrd r' (y0i h2);rw [(zlf _ _).2 h3, hidx] at h5;have := hP.alt j' r' h2 i (by simpa using h5);omega
    ·obtain ⟨q, s, k1, k2, k3⟩ := hP.ofK i r hr d hrd;obtain rfl := hnd _ _ _ _ d h2 k2 h3 k3;refine zgf ⟨j', (ancM hr).2 k1, _, trAt h2, h3⟩ fun p hp t ht hd' => ?_;obtain ⟨r2, hr2, rfl⟩ := trGet ht;obtain rfl := hnd _ _ _ _ d h2 hr2 h3 hd';exact h4.symm
   ·have later : ∀ (p : Nat) (r2 : OI), rs[p]? = some r2 -> r2.io.dst = some d -> zaq r2.a i = true := by
     intro p r2 hr2 hd2;rcases hrd with (hrd | hrd) | hrd
     ·exact absurd hd2 (zl0 hrd p r2 hr2)
     ·exfalso;obtain ⟨q, s, k1, k2, k3⟩ := hP.ofK i r hr d hrd;exact absurd k3 (h1 q s (hP.alt i r hr q k1) k2)
     ·have h5 := y0h.1 hrd r2 (y0i hr2);rw [(zlf _ _).2 hd2, hidx] at h5;simpa using h5
    rw [zg1 fun p hp t ht hd2 => by
     obtain ⟨r2, hr2, rfl⟩ := trGet ht;have k1 := hP.alt p r2 hr2 i (later p r2 hr2 hd2);have k2 := hP.alt i r hr p ((ancM hr).1 hp);omega, <- hrf]
    show zao d (zkn (zra i 0 tr) S.tmps) = some v;rw [zg0 fun hm => by
     obtain ⟨m, t, k1, k2, k3, k4⟩ := zjt hm;obtain ⟨r2, hr2, rfl⟩ := trGet k1;exact k4 ((ancM hr2).2 (later m r2 hr2 k2))]
    exact h2
  have more : ∀ {B' : AS} {v : AV} {H' : HS}, B' = (((Ss i).withT (zdd (Ss i).tmps (zcr r.io))).withH H) -> Stp P w0 N0 rd r.io B' (fun S2 v2 => v2 = v /\ S2 = B'.withH H') -> Stp P w0 N0 rd r.io (S.base (rf i) tr (zcq (zaq r.a) n) H) fun S2 v2 => v2 = v /\ S2 = (S.base (rf i) tr (zcq (zaq r.a) n) H).withH H' := by
   intro B' v H' hB hs;subst hB;exact Stp.more (B' := ((Ss i).withT (zdd (Ss i).tmps (zcr r.io))).withH H) ks km rfl hinfo hs
  have wantB : ∀ {b : Bool}, zaf (Ss i) r.io = some b -> zaf (S.base (rf i) tr (zcq (zaq r.a) n) H) r.io = some b := by
   intro b hb;refine zl1 (B' := (Ss i).withT (zdd (Ss i).tmps (zcr r.io))) hinfo ?_;rw [zsg eqT]; exact hb
  rcases (step hr).ok with ⟨h1, h2, h3, _⟩ | ⟨h1, h2, h3, _, h5, h6⟩ | ⟨h1, h2, h3, H1, h4, h5⟩
  ·exact .inl ⟨fun hm => (by rw [hlouds] at hm; have := (mem_upTo.1 hm).2; rw [h2] at this; cases this), wantB h1, h3⟩
  ·refine .inr ⟨wantB h1, .inl ⟨fun hm => (by rw [hlouds] at hm; have := (mem_upTo.1 hm).2; rw [h3] at this; cases this), ?_⟩⟩
   by_cases hall : ((zdo E rs).all fun y => zfr r y) = true
   ·have e2 := h6 (by rw [hall]; rfl);rw [<- znc (E := E) (R := R) eqT] at e2;by_cases hall2 : ((zdo E rs).all fun y => zaq r.a y.idx || zaq y.a r.idx) = true
    ·have hjc := cnt hr hj hfit fun y hy _ => by
      have := y0h.1 hall2 y hy;rw [hidx] at this;simpa using this
     have := heapAt i (by omega);rw [<- hjc, hH] at this; injection this with this;subst this;exact more (H' := (Ss i).hs) rfl (zeb hE hR e2)
    ·have hld : zgl r.io.op = true := by
      rcases Bool.eq_false_or_eq_true (zgl r.io.op) with h | h
      ·exact h
      ·exfalso;apply hall2;rw [y0h] at hall ⊢;intro y hy;have := hall y hy;simpa [zfr, h] using this
     obtain ⟨g, d, hop⟩ := zk9 hld;have hni : i ∉ louds := fun hm => by rw [hlouds] at hm; have := (mem_upTo.1 hm).2; rw [h3] at this; cases this
     have one : ∀ (m l : Nat), louds[m]? = some l -> ¬ (zaq r.a l = true) -> (∀ y : OI, rs[l]? = some y -> ¬ (zaq y.a i = true)) -> FreshExt (heaps.getD m S.hs) (heaps.getD (m + 1) S.hs) := by
      intro m l hm hn1 hn2;obtain ⟨y, hy, hyl, hyi⟩ := ldm (y0i hm);have hln := ltn hy;have hsoft := y0h.1 hall y hyl;have hfr : zk2 y.io.op = true := by
       simp only [zfr, y0v, y0g] at hsoft;rcases hsoft with (hs | hs) | hs
       ·rw [hyi] at hs; exact absurd hs hn1
       ·rw [hidx] at hs; exact absurd hs (hn2 y hy)
       ·exact hs.2
      have hcl : (zcq rl l).length = m := by
       have hrl : rl l = true := (mem_upTo.1 (hlouds ▸ y0i hm)).2;have u1 := (zcp (p := rl) (n := n) (i := l) (by omega) (by rw [<- hlouds]; exact hm)).1;have u2 := (zcp (p := rl) (n := n) (i := l + 1) (by omega) (by rw [<- hlouds]; exact hm)).2 (y07 _);rw [zcb, if_pos hrl, y0l, y1z] at u2;have u3 : ¬ m < (zcq rl l).length := fun h => by have := u1 h; omega
       omega
      have hrl : rl l = true := (mem_upTo.1 (hlouds ▸ y0i hm)).2;have g1 := heapAt l (by omega);have g2 := heapAt (l + 1) (by omega);rw [zcb, if_pos hrl, y0l, y1z, hcl] at g2;rw [hcl] at g1;have g1' : heaps.getD m S.hs = (Ss l).hs := by simp [List.getD, g1]
      have g2' : heaps.getD (m + 1) S.hs = (Ss (l + 1)).hs := by simp [List.getD, g2]
      rw [g1', g2'];rcases (step hy).ok with ⟨_, k2, _, _⟩ | ⟨_, _, k3, _⟩ | ⟨_, _, _, H1, k4, k5⟩
      ·rw [hrl] at k2; cases k2
      ·rw [hrl] at k3; cases k3
      ·have := zln (P := P) (E := E) (R := R) hfr k4;rw [k5];cases y.io.dst <;> exact this
     have hconn : FreshExt H (Ss i).hs \/ FreshExt (Ss i).hs H := by
      have gi : heaps.getD (zcq rl i).length S.hs = (Ss i).hs := by simp [List.getD, heapAt i (by omega)]
      have gj : heaps.getD j S.hs = H := by simp [List.getD, hH]
      rcases Nat.le_total j (zcq rl i).length with hle | hle
      ·left;rw [<- gi, <- gj];refine zmn (f := fun k => heaps.getD k S.hs) (fun k hk1 hk2 => ?_) hle;have hkl : k < louds.length := by
        obtain ⟨x, hx, _⟩ := zfd rl n i (by omega);rw [hlouds, hx, y0l]; omega
       have hm : louds[k]? = some louds[k] := by simp [hkl]
       have hlt : louds[k] < i := (zcp (p := rl) (n := n) (by omega) (by rw [<- hlouds]; exact hm)).1 hk2;refine one k _ hm (fun hb => ?_) (fun y hy hb => ?_)
       ·have := (hfit k _ hm).1 ((ancM hr).2 hb); omega
       ·have := hP.alt _ y hy i hb; omega
      ·right;rw [<- gi, <- gj];refine zmn (f := fun k => heaps.getD k S.hs) (fun k hk1 hk2 => ?_) hle;have hkl : k < louds.length := by omega
       have hm : louds[k]? = some louds[k] := by simp [hkl]
       have hge : ¬ louds[k] < i := fun hlt => by
        have := (zcp (p := rl) (n := n) (by omega) (by rw [<- hlouds]; exact hm)).2 hlt;omega
       refine one k _ hm (fun hb => ?_) (fun y hy hb => ?_)
       ·have := hP.alt i r hr _ hb; omega
       ·have := (hfit k _ hm).2.2 _ (trAt hy) ((ancM hy).2 hb); omega
     intro ops o hc n' I a w r' next Qc hR0 ho hk;have hq : zb2 E R (((Ss i).withT (zdd (Ss i).tmps (zcr r.io))).withH H) r.io = some (vs i) := by
      refine zvz hop hconn (fun id st off hg => ?_) (fun id hid => hR0.hrel.free id hid) e2;have hv := hR0.tmps.2 d _ (hinfo d _ hg);cases hv with
      | mptr _ hx =>
       obtain ⟨J, hJ, c1, _⟩ := hx;injection hJ with hJ; subst hJ;have h9 : I.clk = H.clk := hR0.clk;omega
     exact more (H' := H) rfl (zeb hE hR hq) ops o hc n' I a w r' next Qc hR0 ho hk
   ·have e2 := h5 (by simpa using hall);rw [<- zx3 (E := E) (R := R) eqT] at e2;exact more (H' := H) rfl (zeb hE hR (zkt e2 H))
  ·have hlm : louds[(zcq rl i).length]? = some i := by rw [hlouds]; exact znj hin h3
   have hjc : j = (zcq rl i).length := cnt hr hj hfit fun y hy hne => by
    have hrl : r ∈ zdo E rs := zi7 (y0i hr) h2;rcases chain r hrl y hy with k | k
    ·rcases chain y hy r hrl with k' | k'
     ·omega
     ·rw [hidx] at k'; exact .inr k'
    ·exact .inl k
   have h0 := heapAt i (by omega);rw [<- hjc, hH] at h0; injection h0 with h0;subst h0;refine .inr ⟨wantB h1, .inr ⟨by rw [hjc]; exact hlm, H1, ?_, ?_⟩⟩
   ·have := heapAt (i + 1) (by omega);rw [zcb, if_pos h3, y0l, y1z, <- hjc] at this;rw [this, h5];cases r.io.dst <;> rfl
   ·refine more (H' := H1) rfl ?_;rw [<- zx2 (P := P) (E := E) (R := R) eqT] at h4;exact zsa hE hR h4
 ·intro H hH;have := heapAt n (y08 _);rw [<- hlouds, hH, sn] at this;injection this with this;exact ⟨rfl, by rw [this]⟩
 ·intro e S1 ⟨he, hS1⟩;refine ⟨S', ⟨he, rfl⟩, fun I a w hrel => ?_⟩;subst hS1;obtain ⟨ks, km⟩ := keep n (y08 _);rw [sn] at ks km;refine ⟨hrel.clk, ⟨by rw [ks]; exact hrel.tmps.1, fun d v hv => hrel.tmps.2 d v ?_⟩, hrel.hrel, by rw [km]; exact hrel.marks⟩;show zao d (zfp tr rest (List.range ios.length)) = some v;rw [<- sn] at hv;rcases info n (y08 _) d v hv with ⟨j, r, h1, h2, h3, h4⟩ | ⟨h1, h2⟩
  ·refine zgf ⟨j, by rw [hn]; simpa using h1, _, trAt h2, h3⟩ fun p hp t ht hd' => ?_;obtain ⟨r2, hr2, rfl⟩ := trGet ht;obtain rfl := hnd _ _ _ _ d h2 hr2 h3 hd';exact h4.symm
  ·rw [zg1 fun p _ t ht => by obtain ⟨r2, hr2, rfl⟩ := trGet ht; exact h1 p r2 (ltn hr2) hr2, <- hrest, zg0]
   ·exact h2
   ·intro hm;obtain ⟨io, hio, hd⟩ := y2m.1 hm;obtain ⟨i, hi, rfl⟩ := y1g.1 hio;obtain ⟨r, hr, e1, _⟩ := rsAt (i := i) (io := ios[i]) (by simp [hi]);exact h1 i r (by omega) hr (by rw [e1]; exact hd)
end
def zn3 : IOp -> Bool
 | .store .. => true
 | .append .. => true
 | _ => false
def ziv (ld sd : Nat -> Prop) (S : AS) : IOp -> Prop
 | .load _ a => ∀ id sp off, S.arg a = some (.mptr id sp off) -> ld id
 | .store _ p _ => ∀ id sp off, S.arg p = some (.mptr id sp off) -> sd id
 | .append _ _ _ s _ => ∀ id sp sz off len cap, S.arg s = some (.ms id sp sz off len cap) -> sd id
 | _ => True
def zny (x y : OI) : Bool := zfr x y || (zgl x.io.op && zn3 y.io.op)
def zv8 (E : Env) (lds : List OI) (x : OI) : Bool × Bool := (zq9 E x.io.op, !(lds.all fun y => zny x y))
def zmc (E : Env) (ios : List Opr) (pres : List (List Nat)) (size : Nat) : Option (List (Bool × Bool)) :=
 match zow ios pres [] 0 with
 | some rs =>
  if ndM rs 0 && rs.all (zwl rs (wAll rs)) && (zdo E rs).all (fun x => (zdo E rs).all fun y => Nat.ble x.idx y.idx || zaq x.a y.idx) && ios.all (fun io => zc6 size io.dst) then some (rs.map (zv8 E (zdo E rs))) else none
 | none => none
section
variable {P : Program} {w0 w : World} {N0 : Nat} {S S' S1 : AS} {rd : Option (Nat × Nat)} {E : Env} {R : Rec} {io : Opr} {op : IOp} {v : AV} {H : HS}
structure ExtAt (id : Nat) (H H' : HS) : Prop where
 next : H.next <= H'.next
 clk : H.clk <= H'.clk
 look : Am.look id H'.heap = Am.look id H.heap \/ (H.next <= id /\ ∃ sp o, Am.look id H'.heap = some (sp, o) /\ H.clk <= sp)
theorem FreshExt.at {H H' : HS} (h : FreshExt H H') (id : Nat) : ExtAt id H H' := ⟨h.next, h.clk, h.look id⟩
theorem ExtAt.refl (id : Nat) (H : HS) : ExtAt id H H := ⟨y08 _, y08 _, .inl rfl⟩
theorem ExtAt.trans {id : Nat} {H H' H'' : HS} (h : ExtAt id H H') (k : ExtAt id H' H'') : ExtAt id H H'' := by
 refine ⟨y0u h.next k.next, y0u h.clk k.clk, ?_⟩;rcases k.look with e | ⟨e1, sp, o, e2, e3⟩
 ·rw [e]; exact h.look
 ·exact .inr ⟨y0u h.next e1, sp, o, e2, y0u h.clk e3⟩
theorem zpj {id : Nat} {f : Nat -> HS} {a : Nat} : ∀ {b : Nat}, (∀ k, a <= k -> k < b -> ExtAt id (f k) (f (k + 1))) -> a <= b -> ExtAt id (f a) (f b)
 | 0, _, h => by rw [show a = 0 by omega]; exact ExtAt.refl _ _
 | b + 1, hs, h => by
  by_cases e : a = b + 1
  ·subst e; exact ExtAt.refl _ _
  ·exact (zpj (b := b) (fun k h1 h2 => hs k h1 (by omega)) (by omega)).trans (hs b (by omega) (y07 _))
theorem zsm {S1 : AS} {id sz b : Nat} {sv : AV} {es : List (List AV)} (hne : ∀ id2 sp2 sz2 off2 len2 cap2, sv = .ms id2 sp2 sz2 off2 len2 cap2 -> id2 ≠ id) (h : zbv S sz b sv es = some (v, S1)) : ExtAt id S.hs S1.hs := by
 unfold zbv at h;repeat' (split at h)
 all_goals simp only [y00, y0b, reduceCtorEq] at h
 all_goals obtain ⟨_, rfl⟩ := h
 all_goals first
  | exact ExtAt.refl _ _
  | exact (newExt ..).at id
  | (
    refine ⟨y08 _, by first | exact y08 _ | exact y0y _, .inl ?_⟩;show Am.look id (zap _ _ S.heap) = Am.look id S.heap;rw [za0, if_neg (hne _ _ _ _ _ _ rfl)])
theorem zte {id : Nat} (hf : zn3 io.op = true) (h : zdr P E R S io = some (v, H)) (hne : ∀ id2 sp2 off2 sz p x, io.op = .store sz p x -> S.arg p = some (.mptr id2 sp2 off2) -> id2 ≠ id)
  (hna : ∀ id2 sp2 sz2 off2 len2 cap2 sz b z s x, io.op = .append sz b z s x -> S.arg s = some (.ms id2 sp2 sz2 off2 len2 cap2) -> id2 ≠ id) : ExtAt id S.hs H := by
 unfold zdr zb2 zgp at h;cases hop : io.op <;> rw [hop] at hf <;> simp only [zn3, y0t] at hf
 case append sz b z s x =>
  simp only [hop, zda, if_true] at h;split at h
  ·rename_i v' S1 hi;simp only [y00, y0b] at h;obtain ⟨_, rfl⟩ := h;simp only [iop] at hi;split at hi
   ·rename_i sv xv hs hx;split at hi
    ·exact zsm (fun id2 sp2 sz2 off2 len2 cap2 e => hna id2 sp2 sz2 off2 len2 cap2 sz b z s x hop (e ▸ hs)) hi
    ·cases hi
   ·cases hi
  ·cases h
 rename_i sz p x;simp only [hop, zda, if_true] at h;split at h
 ·rename_i v' S1 hi;simp only [y00, y0b] at h;obtain ⟨_, rfl⟩ := h;simp only [iop] at hi;split at hi
  ·rename_i pv xv hp hx;split at hi
   ·rename_i vs hc;split at hi
    ·simp only [y03, y0b] at hi;obtain ⟨S2, hs, _, rfl⟩ := hi;unfold AS.store at hs;split at hs
     ·rename_i id2 sp2 off2;split at hs
      ·split at hs
       ·simp only [y00] at hs;subst hs;refine ⟨y08 _, y08 _, .inl ?_⟩;show Am.look id (zap id2 _ S.heap) = Am.look id S.heap;rw [za0, if_neg (hne id2 sp2 off2 sz p x hop hp)]
       ·cases hs
      ·split at hs
       ·simp only [y00] at hs;subst hs;refine ⟨y08 _, y08 _, .inl ?_⟩;show Am.look id (zap id2 _ S.heap) = Am.look id S.heap;rw [za0, if_neg (hne id2 sp2 off2 sz p x hop hp)]
       ·cases hs
      ·cases hs
     ·cases hs
    ·cases hi
   ·cases hi
  ·cases hi
 ·cases h
theorem zom {T : TM} {l : List Nat} {d : Nat} (h : d ∈ l) : zao d (zdd T l) = zao d T := zfa h
theorem zt0 {g : Option Nat} {d : Nat} {X : AS} {H H' : HS} (hop : io.op = .load g (.t d)) (hx : ∀ id sp off, X.get d = some (.mptr id sp off) -> ExtAt id H H' \/ ExtAt id H' H) (hst : ∀ id st off, X.get d = some (.mptr id st off) -> st < H.clk) (hfree : ∀ id, H.next <= id -> look id H.heap = none)
  (h : zb2 E R (X.withH H') io = some v) : zb2 E R (X.withH H) io = some v := by
 have key : ∀ G : HS, zb2 E R (X.withH G) io = (X.get d).bind fun p => ((X.withH G).deref p).bind (zn5 g) := by
  intro G;have e1 : zb2 E R (X.withH G) io = (iop (X.withH G) (.load g (.t d))).map (·.1) := by
   unfold zb2;split
   ·rename_i hc; rw [hop] at hc; cases hc
   ·rw [hop]; simp [zda]
  rw [e1];simp only [iop, AS.arg];have eg : (X.withH G).get d = X.get d := rfl;rw [eg];cases X.get d with
  | none => rfl
  | some p =>
   simp only [y2c];cases (X.withH G).deref p with
   | none => rfl
   | some cs =>
    cases g with
    | none => cases cs <;> rfl
    | some n => simp only [y2c, zn5]; split <;> rfl
 rw [key] at h ⊢;cases hg : X.get d with
 | none => rw [hg] at h; cases h
 | some p =>
  rw [hg] at h;simp only [y2c] at h ⊢;have hd : (X.withH H').deref p ≠ none := by
   intro e; rw [e] at h; cases h
  have : (X.withH H).deref p = (X.withH H').deref p := by
   cases p <;> try (exact absurd rfl hd)
   ·rfl
   ·rename_i id st off;have hst' := hst id st off hg;simp only [AS.deref] at hd ⊢;have e1 : (X.withH H').heap = H'.heap := rfl;have e2 : (X.withH H).heap = H.heap := rfl;have e3 : (X.withH H').next = H'.next := rfl;have e4 : (X.withH H).next = H.next := rfl;rw [e1, e3] at hd ⊢;rw [e2, e4];cases hl : look id H'.heap with
    | none => rw [hl] at hd; exact absurd rfl hd
    | some x =>
     obtain ⟨st', o⟩ := x;rw [hl] at hd;cases o with
     | cells cs =>
      simp only at hd;split at hd
      ·rename_i hc;obtain ⟨hc1, hc2⟩ := hc;have same : look id H.heap = look id H'.heap := by
        rcases hx id st off hg with hx | hx
        ·rcases hx.look with e | ⟨_, st2, o2, e, e5⟩
         ·exact e.symm
         ·rw [hl] at e; injection e with e; injection e with e _; omega
        ·rcases hx.look with e | ⟨e, _⟩
         ·exact e
         ·omega
       have hlt : id < H.next := by
        rcases y20 id H.next with h5 | h5
        ·exact h5
        ·have := hfree id h5; rw [same, hl] at this; cases this
       rw [same, hl];simp only [hc1, hc2, hlt, and_self, if_true]
      ·exact absurd rfl hd
     | typed T full cs =>
      simp only at hd;split at hd
      ·rename_i hc;obtain ⟨hc1, hc2⟩ := hc;have same : look id H.heap = look id H'.heap := by
        rcases hx id st off hg with hx | hx
        ·rcases hx.look with e | ⟨_, st2, o2, e, e5⟩
         ·exact e.symm
         ·rw [hl] at e; injection e with e; injection e with e _; omega
        ·rcases hx.look with e | ⟨e, _⟩
         ·exact e
         ·omega
       have hlt : id < H.next := by
        rcases y20 id H.next with h5 | h5
        ·exact h5
        ·have := hfree id h5; rw [same, hl] at this; cases this
       rw [same, hl];simp only [hc1, hc2, hlt, and_self, if_true]
      ·exact absurd rfl hd
     | _ => exact absurd rfl hd
  rw [this]; exact h
theorem zs6 : ∀ {ios : List Opr} {fl : List (Bool × Bool)} {S S' : AS}, zca P E R ios fl S = some S' -> fl.length = ios.length /\
  ∃ (Ss : Nat -> AS) (vs : Nat -> AV) (rl : Nat -> Bool), Ss 0 = S /\ Ss ios.length = S' /\
   (∀ (i : Nat) (io : Opr) (q ind : Bool), ios[i]? = some io -> fl[i]? = some (q, ind) -> StepR P E R (Ss i) io q ind (vs i) (rl i) (Ss (i + 1))) /\
   ∀ i, i <= ios.length -> zca P E R (ios.take i) (fl.take i) S = some (Ss i)
 | [], [], S, S', h => by
  simp only [zca, y00] at h;exact ⟨rfl, fun _ => S, fun _ => .top, fun _ => false, rfl, h, by simp, fun i _ => by simp [zca]⟩
 | io :: ios, (q, ind) :: fl, S, S', h => by
  have go : ∀ {v : AV} {run : Bool} {S1 : AS}, StepR P E R S io q ind v run S1 -> (∀ l r, zca P E R (io :: l) ((q, ind) :: r) S = zca P E R l r S1) -> zca P E R ios fl S1 = some S' -> ((q, ind) :: fl).length = (io :: ios).length /\
    ∃ (Ss : Nat -> AS) (vs : Nat -> AV) (rl : Nat -> Bool), Ss 0 = S /\ Ss (io :: ios).length = S' /\
     (∀ (i : Nat) (io' : Opr) (q' ind' : Bool), (io :: ios)[i]? = some io' -> ((q, ind) :: fl)[i]? = some (q', ind') -> StepR P E R (Ss i) io' q' ind' (vs i) (rl i) (Ss (i + 1))) /\
     ∀ i, i <= (io :: ios).length -> zca P E R ((io :: ios).take i) (((q, ind) :: fl).take i) S = some (Ss i) := by
   intro v run S1 hs hrun hr;obtain ⟨h1, Ss, vs, rl, h2, h3, h4, h5⟩ := zs6 hr;refine ⟨by simp [h1], fun i => match i with | 0 => S | i + 1 => Ss i, fun i => match i with | 0 => v | i + 1 => vs i, fun i => match i with | 0 => run | i + 1 => rl i, rfl, h3, fun i io' q' ind' e1 e2 => ?_, fun i hi => ?_⟩
   ·cases i with
    | zero =>
     simp at e1 e2;obtain ⟨e2, e3⟩ := e2;subst e1 e2 e3;show StepR P E R S io q ind v run (Ss 0);rw [h2]; exact hs
    | succ i => exact h4 i io' q' ind' (by simpa using e1) (by simpa using e2)
   ·cases i with
    | zero => simp [zca]
    | succ i =>
     rw [y10, y10, hrun];exact h5 i (by simpa using hi)
  simp only [zca] at h;split at h
  ·rename_i hw;split at h
   ·rename_i hq;split at h <;> try cases h
    rename_i v hv;exact go (run := false) ⟨.inr (.inl ⟨hw, hq, rfl, rfl, fun hi => by rw [if_pos hi] at hv; exact hv, fun hi => by rw [if_neg (by rw [hi]; simp)] at hv; exact hv⟩)⟩ (fun l r => by simp only [zca, hw, hq, if_true, hv]) h
   ·rename_i hq;split at h <;> try cases h
    rename_i v H hv;exact go (run := true) ⟨.inr (.inr ⟨hw, by simpa using hq, rfl, H, hv, rfl⟩)⟩ (fun l r => by simp only [zca, hw, if_neg hq, hv]) h
  ·rename_i hw;exact go (run := false) ⟨.inl ⟨hw, rfl, rfl, rfl⟩⟩ (fun l r => by simp only [zca, hw]) h
  ·cases h
 | [], _ :: _, _, _, h => by simp [zca] at h
 | _ :: _, [], _, _, h => by simp [zca] at h
theorem zql (hE : EnvOk P E) (hR : zjd P R) {ios : List Opr} {pres : List (List Nat)} {fl : List (Bool × Bool)} (hst : zmc E ios pres S.size = some fl) (h : zca P E R ios fl S = some S') {ld sd : Nat -> Prop} (hdis : ∀ id, ld id -> sd id -> False)
  (hops : ∀ (i : Nat) (io : Opr) (Si : AS), ios[i]? = some io -> zca P E R (ios.take i) (fl.take i) S = some Si -> zaf Si io = some true -> ziv ld sd Si io.op) :
  TA P w0 N0 rd ios pres S fun S1 => S1 = S' := by
 unfold zmc at hst;split at hst <;> try cases hst
 rename_i rs hrs;split at hst <;> try cases hst
 rename_i hc;simp only [y0g] at hc;obtain ⟨⟨⟨c1, c2⟩, c3⟩, c4⟩ := hc;have hP : PassOk ios pres rs := by
  have := znb (ios := ios) (pres := pres) (done := []) (dpres := []) (acc := []) (len := 0) ⟨rfl, rfl, by simp, by simp, by simp, by simp, by simp⟩ rfl hrs;simpa using this
 obtain ⟨_, hnd⟩ := zrn c1;obtain ⟨_, Ss, vs, rl, s0, sn, hstep, hpre⟩ := zs6 h;generalize hn : ios.length = n at *;have rsAt : ∀ {i : Nat} {io : Opr}, ios[i]? = some io -> ∃ r, rs[i]? = some r /\ r.io = io /\ r.idx = i := by
  intro i io hi;have hlt : i < rs.length := by rw [hP.len]; exact (y05.1 hi).1
  refine ⟨rs[i], by simp [hlt], ?_, (hP.at_ i _ (by simp [hlt])).1⟩;have := (hP.at_ i rs[i] (by simp [hlt])).2;rw [hi] at this; injection this with this; exact this.symm
 have step : ∀ {i : Nat} {r : OI}, rs[i]? = some r -> StepR P E R (Ss i) r.io (zq9 E r.io.op) (!((zdo E rs).all fun y => zny r y)) (vs i) (rl i) (Ss (i + 1)) := by
  intro i r hr;exact hstep i r.io _ _ (hP.at_ i r hr).2 (by simp [zv8, hr])
 have ltn : ∀ {i : Nat} {r : OI}, rs[i]? = some r -> i < n := fun hr => by have := (y05.1 hr).1; rw [hP.len] at this; omega
 have atn : ∀ {i : Nat}, i < n -> ∃ r, rs[i]? = some r := by
  intro i hi;have : i < rs.length := by rw [hP.len]; omega
  exact ⟨rs[i], by simp [this]⟩
 -- what stays, what is known, and the heaps
 have keep : ∀ i, i <= n -> (Ss i).size = S.size /\ (Ss i).marks = S.marks := by
  intro i
  induction i with
  | zero => intro _; rw [s0]; exact ⟨rfl, rfl⟩
  | succ i ih =>
   intro hi;obtain ⟨r, hr⟩ := atn (show i < n by omega)
   obtain ⟨k1, k2, _⟩ := (step hr).kept;exact ⟨k1.trans (ih (by omega)).1, k2.trans (ih (by omega)).2⟩
 have info : ∀ i, i <= n -> ∀ d v, zao d (Ss i).tmps = some v -> (∃ j r, j < i /\ rs[j]? = some r /\ r.io.dst = some d /\ v = vs j) \/ ((∀ j r, j < i -> rs[j]? = some r -> r.io.dst ≠ some d) /\ zao d S.tmps = some v) := by
  intro i
  induction i with
  | zero => intro _ d v hv; rw [s0] at hv; exact .inr ⟨fun j r hj => by omega, hv⟩
  | succ i ih =>
   intro hi d v hv;obtain ⟨r, hr⟩ := atn (show i < n by omega)
   obtain ⟨_, _, k3, _⟩ := (step hr).kept;rw [k3] at hv;rcases zs0 hv with ⟨e1, e2⟩ | ⟨e1, e2⟩
   ·exact .inl ⟨i, r, by omega, hr, e1, e2⟩
   ·rcases ih (by omega) d v e2 with ⟨j, r', h1, h2, h3, h4⟩ | ⟨h1, h2⟩
    ·exact .inl ⟨j, r', by omega, h2, h3, h4⟩
    ·refine .inr ⟨fun j r' hj hr' => ?_, h2⟩;rcases y20 j i with hji | hji
     ·exact h1 j r' hji hr'
     ·obtain rfl : j = i := by omega
      rw [hr] at hr'; injection hr' with hr'; subst hr'; exact e1
 obtain ⟨louds, hlouds⟩ : ∃ l, l = zcq rl n := ⟨_, rfl⟩
 obtain ⟨heaps, hheaps⟩ : ∃ l : List HS, l = S.hs :: louds.map (fun l => (Ss (l + 1)).hs) := ⟨_, rfl⟩
 have heapAt : ∀ i, i <= n -> heaps[(zcq rl i).length]? = some (Ss i).hs := by
  intro i
  induction i with
  | zero => intro _; rw [hheaps, s0]; rfl
  | succ i ih =>
   intro hi;obtain ⟨r, hr⟩ := atn (show i < n by omega)
   obtain ⟨_, _, _, k4, _⟩ := (step hr).kept;rw [zcb];by_cases hrl : rl i = true
   ·rw [if_pos hrl, y0l, y1z, hheaps, List.getElem?_cons_succ, y0n, hlouds, znj (show i < n by omega) hrl]
    rfl
   ·rw [if_neg hrl, y0s, k4 (by simpa using hrl)];exact ih (by omega)
 have ldm : ∀ {l : Nat}, l ∈ louds -> ∃ r, rs[l]? = some r /\ r ∈ zdo E rs /\ r.idx = l := by
  intro l hl;rw [hlouds] at hl;obtain ⟨h1, h2⟩ := mem_upTo.1 hl;obtain ⟨r, hr⟩ := atn h1;obtain ⟨_, _, _, _, k5⟩ := (step hr).kept;exact ⟨r, hr, zi7 (y0i hr) (k5 h2), (hP.at_ l r hr).1⟩
 -- the record of the run
 obtain ⟨tr, htr⟩ : ∃ l : List Tr, l = rs.map (fun r => (⟨r.io.dst, vs r.idx, zcq (zaq r.a) n⟩ : Tr)) := ⟨_, rfl⟩
 have trAt : ∀ {i : Nat} {r : OI}, rs[i]? = some r -> tr[i]? = some ⟨r.io.dst, vs i, zcq (zaq r.a) n⟩ := by
  intro i r hr;rw [htr, y0n, hr, <- (hP.at_ i r hr).1]; rfl
 have trGet : ∀ {i : Nat} {t : Tr}, tr[i]? = some t -> ∃ r, rs[i]? = some r /\ t = ⟨r.io.dst, vs i, zcq (zaq r.a) n⟩ := by
  intro i t ht;have hlt : i < rs.length := by have := (y05.1 ht).1; rw [htr, y06] at this; exact this
  refine ⟨rs[i], by simp [hlt], ?_⟩;have := trAt (i := i) (r := rs[i]) (by simp [hlt]);rw [ht] at this; injection this
 have ancM : ∀ {i q : Nat} {r : OI}, rs[i]? = some r -> (q ∈ zcq (zaq r.a) n ↔ zaq r.a q = true) := by
  intro i q r hr;refine mem_upTo.trans ⟨fun h => h.2, fun h => ⟨?_, h⟩⟩;have := hP.alt i r hr q h;have := ltn hr;omega
 have cnt : ∀ {i j : Nat} {r : OI}, rs[i]? = some r -> j < heaps.length -> Fits tr louds i ⟨r.io.dst, vs i, zcq (zaq r.a) n⟩ j -> (∀ y ∈ zdo E rs, y.idx ≠ i -> zaq r.a y.idx = true \/ zaq y.a i = true) -> j = (zcq rl i).length := by
  intro i j r hr hj hfit hcomp;have hin := ltn hr;have hll : heaps.length = louds.length + 1 := by rw [hheaps]; simp
  rcases Nat.lt_trichotomy j (zcq rl i).length with h1 | h1 | h1
  ·exfalso;have hle : (zcq rl i).length <= louds.length := by
    obtain ⟨x, hx, _⟩ := zfd rl n i (by omega);rw [hlouds, hx]; simp
   have hm : louds[j]? = some louds[j] := by simp [show j < louds.length by omega]
   have hli : louds[j] < i := (zcp (p := rl) (n := n) (by omega) (by rw [<- hlouds]; exact hm)).1 h1;obtain ⟨y, hy, hyl, hyi⟩ := ldm (y0i hm);rcases hcomp y hyl (by rw [hyi]; omega) with h2 | h2
   ·have := (hfit j _ hm).1 ((ancM hr).2 (by rw [<- hyi]; exact h2));omega
   ·have := hP.alt _ y hy i h2;omega
  ·exact h1
  ·exfalso;have hm : louds[(zcq rl i).length]? = some louds[(zcq rl i).length] := by simp [show (zcq rl i).length < louds.length by omega]
   have hge : ¬ louds[(zcq rl i).length] < i := fun hlt => by
    have := (zcp (p := rl) (n := n) (by omega) (by rw [<- hlouds]; exact hm)).2 hlt;omega
   obtain ⟨y, hy, hyl, hyi⟩ := ldm (y0i hm);by_cases he : louds[(zcq rl i).length] = i
   ·have := (hfit _ _ hm).2.1 he; omega
   ·rcases hcomp y hyl (by rw [hyi]; exact he) with h2 | h2
    ·have := hP.alt i r hr _ h2;omega
    ·have := (hfit _ _ hm).2.2 _ (trAt hy) ((ancM hy).2 h2);omega
 generalize hrf : (fun i => zkn (zra i 0 tr) S.tmps) = rf at *;generalize hrest : zkn (ios.filterMap (·.dst)) S.tmps = rest at *;have chain : ∀ x ∈ zdo E rs, ∀ y ∈ zdo E rs, x.idx <= y.idx \/ zaq x.a y.idx = true := by
  intro x hx y hy;have := y0h.1 (y0h.1 c3 x hx) y hy;simp only [y0v] at this;exact this.imp y04 id
 have hll : heaps.length = louds.length + 1 := by rw [hheaps]; simp
 refine ztu (TA_draw rf rest tr louds heaps (K := fun S1 => S1 = S.base rest tr (List.range ios.length) S'.hs) ⟨?_, ?_, ?_, ?_, ?_, ?_, hP.acyc, ?_, ?_, hll, ?_, ?_, ?_⟩ ?_) ?_
 ·rw [htr, y06, hP.len]
 ·-- free
  intro i d v hv;rw [<- hrf] at hv;obtain ⟨h1, h2⟩ := zex hv;refine ⟨h1, fun k t ht hd => ?_⟩;rcases zn7 (i := i) (k := 0) ht hd with h3 | h3 | h3
  ·exact .inl (by omega)
  ·exact .inr h3
  ·rw [y2g] at h2;simp [h3] at h2
 ·-- last
  intro d v hv;rw [<- hrest] at hv;obtain ⟨h1, h2⟩ := zex hv;refine ⟨h1, fun i t ht e => ?_⟩;obtain ⟨r, hr, rfl⟩ := trGet ht;have : d ∈ ios.filterMap (·.dst) := y2m.2 ⟨r.io, y0i (hP.at_ i r hr).2, e⟩;rw [y2g] at h2;simp [this] at h2
 ·exact hP.len2
 ·intro i io t hi ht;obtain ⟨r, hr, rfl⟩ := trGet ht;obtain ⟨r', hr', e1, _⟩ := rsAt hi;rw [hr] at hr'; injection hr' with hr'; subst hr';exact ⟨by rw [<- e1], y0h.1 c4 io (y0i hi)⟩
 ·intro i j t t' d h1 h2 h3 h4;obtain ⟨r, hr, rfl⟩ := trGet h1;obtain ⟨r', hr', rfl⟩ := trGet h2;exact hnd i j r r' d hr hr' h3 h4
 ·intro i ps t hp ht q hq;obtain ⟨r, hr, rfl⟩ := trGet ht;obtain ⟨p, hpm, hor⟩ := hP.up i ps r hp hr q ((ancM hr).1 hq);exact ⟨p, hpm, hor.imp id fun ⟨s, k1, k2⟩ => ⟨_, trAt k1, (ancM k1).2 k2⟩⟩
 ·rw [hheaps]; rfl
 ·-- the heap's steps come one behind the other
  intro m l l' h1 h2;obtain ⟨x, hx, hxl, hxi⟩ := ldm (y0i h1);obtain ⟨y, hy, hyl, hyi⟩ := ldm (y0i h2);refine ⟨_, trAt hy, (ancM hy).2 ?_⟩;have hl' := (mem_upTo.1 (hlouds ▸ y0i h2)).1;have c1' : m < (zcq rl l').length := by
   have h5 := (zcp (p := rl) (n := n) (i := l' + 1) (by omega) (by rw [<- hlouds]; exact h2)).2 (by omega);rw [zcb] at h5;simp at h5;split at h5 <;> simp at h5 <;> omega
  have hlt : l < l' := (zcp (p := rl) (n := n) (by omega) (by rw [<- hlouds]; exact h1)).1 c1';rcases chain y hyl x hxl with h3 | h3
  ·omega
  ·rw [hxi] at h3; exact h3
 ·intro l hl;rw [hlouds] at hl;have := (mem_upTo.1 hl).1;omega
 ·-- each step
  intro i io t j H hi ht hH hfit;obtain ⟨r, hr, rfl⟩ := trGet ht;obtain ⟨r', hr', e1, hidx⟩ := rsAt hi;rw [hr] at hr'; injection hr' with hr'; subst hr';subst e1;have hin := ltn hr;have hj : j < heaps.length := (y05.1 hH).1;obtain ⟨ks, km⟩ := keep i (by omega);have eqT : ∀ d ∈ zcr r.io, zao d (zdd (Ss i).tmps (zcr r.io)) = (Ss i).get d := fun d hd => zfa hd;have hinfo : ∀ d v, zao d (zdd (Ss i).tmps (zcr r.io)) = some v -> zao d (S.base (rf i) tr (zcq (zaq r.a) n) H).tmps = some v := by
   intro d v hv;obtain ⟨hd, hv⟩ := zgv hv;have hrd := y0h.1 (y0h.1 c2 r (y0i hr)) d hd;simp only [y0v, y1u] at hrd;show zao d (zfp tr (rf i) (zcq (zaq r.a) n)) = some v;rcases info i (by omega) d v hv with ⟨j', r', h1, h2, h3, h4⟩ | ⟨h1, h2⟩
   ·rcases hrd with (hrd | hrd) | hrd
    ·exact absurd h3 (zl0 hrd j' r' h2)
    rotate_left
    ·exfalso;have h5 := y0h.1 hrd r' (y0i h2);rw [(zlf _ _).2 h3, hidx] at h5;have := hP.alt j' r' h2 i (by simpa using h5);omega
    ·obtain ⟨q, s, k1, k2, k3⟩ := hP.ofK i r hr d hrd;obtain rfl := hnd _ _ _ _ d h2 k2 h3 k3;refine zgf ⟨j', (ancM hr).2 k1, _, trAt h2, h3⟩ fun p hp t ht hd' => ?_;obtain ⟨r2, hr2, rfl⟩ := trGet ht;obtain rfl := hnd _ _ _ _ d h2 hr2 h3 hd';exact h4.symm
   ·have later : ∀ (p : Nat) (r2 : OI), rs[p]? = some r2 -> r2.io.dst = some d -> zaq r2.a i = true := by
     intro p r2 hr2 hd2;rcases hrd with (hrd | hrd) | hrd
     ·exact absurd hd2 (zl0 hrd p r2 hr2)
     ·exfalso;obtain ⟨q, s, k1, k2, k3⟩ := hP.ofK i r hr d hrd;exact absurd k3 (h1 q s (hP.alt i r hr q k1) k2)
     ·have h5 := y0h.1 hrd r2 (y0i hr2);rw [(zlf _ _).2 hd2, hidx] at h5;simpa using h5
    rw [zg1 fun p hp t ht hd2 => by
     obtain ⟨r2, hr2, rfl⟩ := trGet ht;have k1 := hP.alt p r2 hr2 i (later p r2 hr2 hd2);have k2 := hP.alt i r hr p ((ancM hr).1 hp);omega, <- hrf]
    show zao d (zkn (zra i 0 tr) S.tmps) = some v;rw [zg0 fun hm => by
     obtain ⟨m, t, k1, k2, k3, k4⟩ := zjt hm;obtain ⟨r2, hr2, rfl⟩ := trGet k1;exact k4 ((ancM hr2).2 (later m r2 hr2 k2))]
    exact h2
  have more : ∀ {B' : AS} {v : AV} {H' : HS}, B' = (((Ss i).withT (zdd (Ss i).tmps (zcr r.io))).withH H) -> Stp P w0 N0 rd r.io B' (fun S2 v2 => v2 = v /\ S2 = B'.withH H') -> Stp P w0 N0 rd r.io (S.base (rf i) tr (zcq (zaq r.a) n) H) fun S2 v2 => v2 = v /\ S2 = (S.base (rf i) tr (zcq (zaq r.a) n) H).withH H' := by
   intro B' v H' hB hs;subst hB;exact Stp.more (B' := ((Ss i).withT (zdd (Ss i).tmps (zcr r.io))).withH H) ks km rfl hinfo hs
  have wantB : ∀ {b : Bool}, zaf (Ss i) r.io = some b -> zaf (S.base (rf i) tr (zcq (zaq r.a) n) H) r.io = some b := by
   intro b hb;refine zl1 (B' := (Ss i).withT (zdd (Ss i).tmps (zcr r.io))) hinfo ?_;rw [zsg eqT]; exact hb
  rcases (step hr).ok with ⟨h1, h2, h3, _⟩ | ⟨h1, h2, h3, _, h5, h6⟩ | ⟨h1, h2, h3, H1, h4, h5⟩
  ·exact .inl ⟨fun hm => (by rw [hlouds] at hm; have := (mem_upTo.1 hm).2; rw [h2] at this; cases this), wantB h1, h3⟩
  ·refine .inr ⟨wantB h1, .inl ⟨fun hm => (by rw [hlouds] at hm; have := (mem_upTo.1 hm).2; rw [h3] at this; cases this), ?_⟩⟩
   by_cases hall : ((zdo E rs).all fun y => zny r y) = true
   ·have e2 := h6 (by rw [hall]; rfl);rw [<- znc (E := E) (R := R) eqT] at e2;by_cases hall2 : ((zdo E rs).all fun y => zaq r.a y.idx || zaq y.a r.idx) = true
    ·have hjc := cnt hr hj hfit fun y hy _ => by
      have := y0h.1 hall2 y hy;rw [hidx] at this;simpa using this
     have := heapAt i (by omega);rw [<- hjc, hH] at this; injection this with this;subst this;exact more (H' := (Ss i).hs) rfl (zeb hE hR e2)
    ·have hld : zgl r.io.op = true := by
      rcases Bool.eq_false_or_eq_true (zgl r.io.op) with h | h
      ·exact h
      ·exfalso;apply hall2;rw [y0h] at hall ⊢;intro y hy;have := hall y hy;simpa [zny, zfr, h] using this
     obtain ⟨g, d, hop⟩ := zk9 hld;have hni : i ∉ louds := fun hm => by rw [hlouds] at hm; have := (mem_upTo.1 hm).2; rw [h3] at this; cases this
     have one : ∀ id sp off, (Ss i).get d = some (.mptr id sp off) -> ∀ (m l : Nat), louds[m]? = some l -> ¬ (zaq r.a l = true) -> (∀ y : OI, rs[l]? = some y -> ¬ (zaq y.a i = true)) -> ExtAt id (heaps.getD m S.hs) (heaps.getD (m + 1) S.hs) := by
      intro id sp off hgd m l hm hn1 hn2;obtain ⟨y, hy, hyl, hyi⟩ := ldm (y0i hm);have hln := ltn hy;have hsoft := y0h.1 hall y hyl;have hfr : zk2 y.io.op = true \/ zn3 y.io.op = true := by
       simp only [zny, zfr, y0v, y0g] at hsoft;rcases hsoft with ((hs | hs) | hs) | hs
       ·rw [hyi] at hs; exact absurd hs hn1
       ·rw [hidx] at hs; exact absurd hs (hn2 y hy)
       ·exact .inl hs.2
       ·exact .inr hs.2
      have hcl : (zcq rl l).length = m := by
       have hrl : rl l = true := (mem_upTo.1 (hlouds ▸ y0i hm)).2;have u1 := (zcp (p := rl) (n := n) (i := l) (by omega) (by rw [<- hlouds]; exact hm)).1;have u2 := (zcp (p := rl) (n := n) (i := l + 1) (by omega) (by rw [<- hlouds]; exact hm)).2 (y07 _);rw [zcb, if_pos hrl, y0l, y1z] at u2;have u3 : ¬ m < (zcq rl l).length := fun h => by have := u1 h; omega
       omega
      have hrl : rl l = true := (mem_upTo.1 (hlouds ▸ y0i hm)).2;have g1 := heapAt l (by omega);have g2 := heapAt (l + 1) (by omega);rw [zcb, if_pos hrl, y0l, y1z, hcl] at g2;rw [hcl] at g1;have g1' : heaps.getD m S.hs = (Ss l).hs := by simp [List.getD, g1]
      have g2' : heaps.getD (m + 1) S.hs = (Ss (l + 1)).hs := by simp [List.getD, g2]
      rw [g1', g2'];rcases (step hy).ok with ⟨_, k2, _, _⟩ | ⟨_, _, k3, _⟩ | ⟨k0, _, _, H1, k4, k5⟩
      ·rw [hrl] at k2; cases k2
      ·rw [hrl] at k3; cases k3
      ·have key : ExtAt id (Ss l).hs H1 := by
        rcases hfr with hfr | hfr
        ·exact (zln (P := P) (E := E) (R := R) hfr k4).at id
        ·have hl1 : ld id := by
          have := hops i r.io (Ss i) hi (hpre i (by omega)) h1;rw [hop] at this;exact this id sp off hgd
         refine zte (P := P) (E := E) (R := R) hfr k4 (fun id2 sp2 off2 sz p v hop2 hp2 e => ?_) fun id2 sp2 sz2 off2 len2 cap2 sz b z s x hop2 hp2 e => ?_
         ·have := hops l y.io (Ss l) (hP.at_ l y hy).2 (hpre l (by omega)) k0;rw [hop2] at this;exact hdis id hl1 (e ▸ this id2 sp2 off2 hp2)
         ·have := hops l y.io (Ss l) (hP.at_ l y hy).2 (hpre l (by omega)) k0;rw [hop2] at this;exact hdis id hl1 (e ▸ this id2 sp2 sz2 off2 len2 cap2 hp2)
       rw [k5];cases y.io.dst <;> exact key
     have hconn : ∀ id sp off, (Ss i).get d = some (.mptr id sp off) -> ExtAt id H (Ss i).hs \/ ExtAt id (Ss i).hs H := by
      intro id sp off hgd;have gi : heaps.getD (zcq rl i).length S.hs = (Ss i).hs := by simp [List.getD, heapAt i (by omega)]
      have gj : heaps.getD j S.hs = H := by simp [List.getD, hH]
      rcases Nat.le_total j (zcq rl i).length with hle | hle
      ·left;rw [<- gi, <- gj];refine zpj (f := fun k => heaps.getD k S.hs) (fun k hk1 hk2 => ?_) hle;have hkl : k < louds.length := by
        obtain ⟨x, hx, _⟩ := zfd rl n i (by omega);rw [hlouds, hx, y0l]; omega
       have hm : louds[k]? = some louds[k] := by simp [hkl]
       have hlt : louds[k] < i := (zcp (p := rl) (n := n) (by omega) (by rw [<- hlouds]; exact hm)).1 hk2;refine one id sp off hgd k _ hm (fun hb => ?_) (fun y hy hb => ?_)
       ·have := (hfit k _ hm).1 ((ancM hr).2 hb); omega
       ·have := hP.alt _ y hy i hb; omega
      ·right;rw [<- gi, <- gj];refine zpj (f := fun k => heaps.getD k S.hs) (fun k hk1 hk2 => ?_) hle;have hkl : k < louds.length := by omega
       have hm : louds[k]? = some louds[k] := by simp [hkl]
       have hge : ¬ louds[k] < i := fun hlt => by
        have := (zcp (p := rl) (n := n) (by omega) (by rw [<- hlouds]; exact hm)).2 hlt;omega
       refine one id sp off hgd k _ hm (fun hb => ?_) (fun y hy hb => ?_)
       ·have := hP.alt i r hr _ hb; omega
       ·have := (hfit k _ hm).2.2 _ (trAt hy) ((ancM hy).2 hb); omega
     intro ops o hc n' I a w r' next Qc hR0 ho hk;have hq : zb2 E R (((Ss i).withT (zdd (Ss i).tmps (zcr r.io))).withH H) r.io = some (vs i) := by
      refine zt0 hop (fun id st off hg => hconn id st off ((zom (y1a _ (by rw [hop]; simp [zb1, zcy]))).symm.trans hg)) (fun id st off hg => ?_) (fun id hid => hR0.hrel.free id hid) e2;have hv := hR0.tmps.2 d _ (hinfo d _ hg);cases hv with
      | mptr _ hx =>
       obtain ⟨J, hJ, c1, _⟩ := hx;injection hJ with hJ; subst hJ;have h9 : I.clk = H.clk := hR0.clk;omega
     exact more (H' := H) rfl (zeb hE hR hq) ops o hc n' I a w r' next Qc hR0 ho hk
   ·have e2 := h5 (by simpa using hall);rw [<- zx3 (E := E) (R := R) eqT] at e2;exact more (H' := H) rfl (zeb hE hR (zkt e2 H))
  ·have hlm : louds[(zcq rl i).length]? = some i := by rw [hlouds]; exact znj hin h3
   have hjc : j = (zcq rl i).length := cnt hr hj hfit fun y hy hne => by
    have hrl : r ∈ zdo E rs := zi7 (y0i hr) h2;rcases chain r hrl y hy with k | k
    ·rcases chain y hy r hrl with k' | k'
     ·omega
     ·rw [hidx] at k'; exact .inr k'
    ·exact .inl k
   have h0 := heapAt i (by omega);rw [<- hjc, hH] at h0; injection h0 with h0;subst h0;refine .inr ⟨wantB h1, .inr ⟨by rw [hjc]; exact hlm, H1, ?_, ?_⟩⟩
   ·have := heapAt (i + 1) (by omega);rw [zcb, if_pos h3, y0l, y1z, <- hjc] at this;rw [this, h5];cases r.io.dst <;> rfl
   ·refine more (H' := H1) rfl ?_;rw [<- zx2 (P := P) (E := E) (R := R) eqT] at h4;exact zsa hE hR h4
 ·intro H hH;have := heapAt n (y08 _);rw [<- hlouds, hH, sn] at this;injection this with this;rw [this]
 ·intro S1 hS1;refine ⟨S', rfl, fun I a w hrel => ?_⟩;subst hS1;obtain ⟨ks, km⟩ := keep n (y08 _);rw [sn] at ks km;refine ⟨hrel.clk, ⟨by rw [ks]; exact hrel.tmps.1, fun d v hv => hrel.tmps.2 d v ?_⟩, hrel.hrel, by rw [km]; exact hrel.marks⟩;show zao d (zfp tr rest (List.range ios.length)) = some v;rw [<- sn] at hv;rcases info n (y08 _) d v hv with ⟨j, r, h1, h2, h3, h4⟩ | ⟨h1, h2⟩
  ·refine zgf ⟨j, by rw [hn]; simpa using h1, _, trAt h2, h3⟩ fun p hp t ht hd' => ?_;obtain ⟨r2, hr2, rfl⟩ := trGet ht;obtain rfl := hnd _ _ _ _ d h2 hr2 h3 hd';exact h4.symm
  ·rw [zg1 fun p _ t ht => by obtain ⟨r2, hr2, rfl⟩ := trGet ht; exact h1 p r2 (ltn hr2) hr2, <- hrest, zg0]
   ·exact h2
   ·intro hm;obtain ⟨io, hio, hd⟩ := y2m.1 hm;obtain ⟨i, hi, rfl⟩ := y1g.1 hio;obtain ⟨r, hr, e1, _⟩ := rsAt (i := i) (io := ios[i]) (by simp [hi]);exact h1 i r (by omega) hr (by rw [e1]; exact hd)
theorem ztw (hE : EnvOk P E) (hR : zjd P R) {ios : List Opr} {pres : List (List Nat)} {fl : List (Bool × Bool)} (hst : zmc E ios pres S.size = some fl) (h : zca P E R ios fl S = some S') {ld sd : Nat -> Prop} (hdis : ∀ id, ld id -> sd id -> False)
  (hops : ∀ (i : Nat) (io : Opr) (Si : AS), ios[i]? = some io -> zca P E R (ios.take i) (fl.take i) S = some Si -> zaf Si io = some true -> ziv ld sd Si io.op) :
  T P w0 N0 rd (.region ios (some pres)) S fun e1 S1 => e1 = .normal /\ S1 = S' :=
 ztv hE.mix (Q := fun e1 S1 => e1 = .normal /\ S1 = S') (ztu (zql hE hR hst h hdis hops) fun S1 h1 => ⟨S1, ⟨rfl, h1⟩, fun _ _ _ hr => hr⟩)
end
structure Fz where
 d : Nat -> Bool
 f : FuncId -> Bool
 o : FuncId -> List AV -> Option AV
def isFz (fz : Fz) (io : Opr) : Bool := match io.op with
 | .bslice .. => (match io.dst with
  | some d => fz.d d
  | none => false)
 | .call (.c (.fn f [] [])) _ => fz.f f
 | _ => false
def PFn (P : Program) (f : FuncId) (args : List AV) (v : AV) : Prop :=
 Ent P f /\ ∀ (ro : Nat -> Prop) (w : World) (us : Array Value), GOk ro w -> CRel w ro none args us -> Calls P f us w fun e w' => ∃ u, e = .returned u /\ Below w.heap.size w w' /\ VRel w' (fun b => w.heap.size <= b) none v u
def fsl (S : AS) : IOp -> Option AV
 | .bslice sz len z ps => match S.parts ps with
  | some l => match zbe z l with
   | some cs => if hasM.hasML cs = false then some (.vs (zdg sz len cs)) else none
   | none => none
  | none => none
 | _ => none
def fslQ (fz : Fz) (S : AS) : IOp -> Option AV
 | .call (.c (.fn f [] [])) args => match S.args args with
  | some vs => fz.o f (vs.map (S.view VD))
  | none => none
 | op => fsl S op
def fslI (fz : Fz) (S : AS) : IOp -> Option AV
 | .call (.c (.fn f [] [])) args => match S.args args with
  | some vs => if hasM.hasML vs = true then none else fz.o f (vs.map (S.view VD))
  | none => none
 | op => fsl S op
def quietZ (fz : Fz) (E : Env) (R : Rec) (S : AS) (io : Opr) : Option AV := if isFz fz io = true then fslQ fz S io.op else zb2 E R S io
def stepZ (fz : Fz) (E : Env) (R : Rec) (S : AS) (io : Opr) : Option AV := if isFz fz io = true then fslI fz S io.op else zg2 E R S io
structure StepZ (fz : Fz) (P : Program) (E : Env) (R : Rec) (S : AS) (io : Opr) (q ind : Bool) (v : AV) (run : Bool) (S1 : AS) : Prop where
 ok : (zaf S io = some false /\ run = false /\ v = .tup [] /\ S1 = S.put io.dst v) \/
  (zaf S io = some true /\ q = true /\ run = false /\ S1 = S.put io.dst v /\ (ind = true -> stepZ fz E R S io = some v) /\ (ind = false -> quietZ fz E R S io = some v)) \/
  (zaf S io = some true /\ q = false /\ run = true /\ ∃ H, zdr P E R S io = some (v, H) /\ S1 = (S.withH H).put io.dst v)
section
variable {P : Program} {w0 w : World} {N0 : Nat} {I : LI} {S S' S1 : AS} {TT : TM} {a : Act} {rd : Option (Nat × Nat)} {E : Env} {R : Rec} {io : Opr} {op : IOp} {v : AV} {H : HS} {fz : Fz}
theorem StepZ.kept {q ind run : Bool} (h : StepZ fz P E R S io q ind v run S1) : S1.size = S.size /\ S1.marks = S.marks /\ S1.tmps = (S.put io.dst v).tmps /\ (run = false -> S1.hs = S.hs) /\ (run = true -> q = false) := by
 have p1 : ∀ S0 : AS, (S0.put io.dst v).size = S0.size /\ (S0.put io.dst v).marks = S0.marks /\ (S0.put io.dst v).hs = S0.hs := fun S0 => by cases io.dst <;> exact ⟨rfl, rfl, rfl⟩
 rcases h.ok with ⟨_, h2, _, rfl⟩ | ⟨_, _, h2, rfl, _⟩ | ⟨_, h1, h2, H, _, rfl⟩
 ·exact ⟨(p1 S).1, (p1 S).2.1, rfl, fun _ => (p1 S).2.2, fun e => by rw [h2] at e; cases e⟩
 ·exact ⟨(p1 S).1, (p1 S).2.1, rfl, fun _ => (p1 S).2.2, fun e => by rw [h2] at e; cases e⟩
 ·refine ⟨(p1 _).1, (p1 _).2.1, ?_, fun e => (by rw [h2] at e; cases e), fun _ => h1⟩;cases io.dst <;> rfl
end
section
variable {P : Program} {w0 w : World} {N0 : Nat} {S S' S1 : AS} {rd : Option (Nat × Nat)} {Q : Exit -> AS -> Prop} {E : Env} {R : Rec} {io : Opr} {v : AV} {H : HS}
end
end Go.Am
