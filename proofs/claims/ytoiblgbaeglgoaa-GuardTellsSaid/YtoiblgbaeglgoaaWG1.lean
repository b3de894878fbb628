/-
  A WALK THROUGH A DRAWN REGION AS IN AmGoF, IN WHICH SOME LOADS ARE FROM OWN MEMORY: those that are in order with all that changes it. A general base for proofs: no program is named here.
-/
import Derived.Test.YtoiblgbaeglgoaaWS0
namespace Go.Am
open Go Go.RowKit
def atD (la : Nat → Bool) : Option Nat → Bool
 | some d => la d
 | none => false
abbrev KnG (fz : Fz) (la : Nat → Bool) (lk : FuncId → List AV → Option AV) : Kn := ⟨fun f gs v => fz.f f = false ∧ lk f gs = some v, fun _ _ _ _ => False, fun _ => false, fun _ => true,
 fun d op S Fk => ∃ v, (zq9 fz ⟨d, op, none⟩ = true ∧ fslQ fz S op = some v ∧ Fk = fun S1 v1 => S1 = S ∧ v1 = v) ∨ (zq9 fz ⟨d, op, none⟩ = false ∧ isBs op = true ∧ ∃ S2, iop S op = some (v, S2) ∧ Fk = fun S1 v1 => S1 = S2 ∧ v1 = v) ∨ (atD la d = true ∧ zfd op = true ∧ iop S op = some (v, S) ∧ Fk = fun S1 v1 => S1 = S ∧ v1 = v), true⟩
def zcs (fz : Fz) (la : Nat → Bool) : List Opr → List (Bool × Bool) → Bool
 | [], [] => true
 | io :: ios, (q, ind) :: fl => (if zq9 fz io = true then q && (!ind || isBs io.op) else (match io.op with
  | .call fa args => !q || !ind || zkm fa args
  | op => (q == !zbm op) && (!q || !ind || (zex op || (zfd op && !atD la io.dst))))) && zcs fz la ios fl
 | _, _ => false
section
variable {P : Program} {w0 : World} {N0 : Nat} {S : AS} {K : AS → Prop} {E : Env} {fz : Fz} {la : Nat → Bool}
theorem X_runG {lk : FuncId → List AV → Option AV} {kn : FuncId → Bool} {ios : List Opr} (h : X (KnG fz la lk) ios S K) : ∀ {fl : List (Bool × Bool)}, zcs fz la ios fl = true → ∃ S', zf5 fz P (E.ask lk kn) R0 ios fl S = some S' ∧ K S' := by
 induction h with
 | nil h =>
  intro fl hf
  cases fl with
  | nil => exact ⟨_, rfl, h⟩
  | cons => simp [zcs] at hf
 | @op io ios S S1 v K hw hi hx hd _ ih =>
  intro fl hf
  cases fl with
  | nil => simp [zcs] at hf
  | cons x fl =>
   obtain ⟨q, ind⟩ := x
   simp only [zcs, Bool.and_eq_true] at hf
   obtain ⟨S', h1, h2⟩ := ih hf.2
   have fin : (∀ l r, zf5 fz P (E.ask lk kn) R0 (io :: l) ((q, ind) :: r) S = zf5 fz P (E.ask lk kn) R0 l r (S1.put io.dst v)) → ∃ S', zf5 fz P (E.ask lk kn) R0 (io :: ios) ((q, ind) :: fl) S = some S' ∧ K S' := fun hrun => ⟨S', by rw [hrun]; exact h1, h2⟩
   have hnz : zq9 fz io = false := by
    unfold zq9
    split
    ·rename_i hb
     rw [hb] at hx
     exact Bool.noConfusion (show true = false from hx)
    ·rename_i hb
     rw [hb] at hi
     simp [iop] at hi
    ·rfl
   have qe : ∀ S, zde fz (E.ask lk kn) R0 S io = zau (E.ask lk kn) R0 S io := fun S => by unfold zde; rw [if_neg (by rw [hnz]; simp)]
   have se : ∀ S, zhs fz (E.ask lk kn) R0 S io = zdy (E.ask lk kn) R0 S io := fun S => by unfold zhs; rw [if_neg (by rw [hnz]; simp)]
   rw [hnz] at hf
   have hnc : ∀ a b, io.op ≠ .call a b := fun a b e => by rw [e] at hi; simp [iop] at hi
   have hf1 : q = !zbm io.op ∧ (q = true → ind = false ∨ zex io.op = true ∨ (zfd io.op && !atD la io.dst) = true) := by
    have := hf.1
    simp only [Bool.false_eq_true, if_false] at this
    rw [Bool.and_eq_true, beq_iff_eq, Bool.or_eq_true, Bool.or_eq_true, Bool.or_eq_true, Bool.not_eq_true', Bool.not_eq_true'] at this
    exact ⟨this.1, fun e => (this.2.imp_left fun h => h.resolve_left (by rw [e]; simp))⟩
   refine fin fun l r => ?_
   simp only [zf5, hw, qe, se]
   cases hl : zbm io.op with
   | false =>
    have hq : q = true := by rw [hf1.1, hl]; rfl
    have hi2 := hf1.2 hq
    subst hq
    have e1 : zau (E.ask lk kn) R0 S io = some v := by
     unfold zau
     split
     ·rename_i hc; exact absurd hc (hnc _ _)
     ·rw [if_neg (by rw [hl]; simp), hi]; rfl
    have e3 : (if ind = true then zdy (E.ask lk kn) R0 S io else zau (E.ask lk kn) R0 S io) = some v := by
     rcases hi2 with hi2 | hi2 | hi2
     ·rw [hi2, if_neg (by simp)]; exact e1
     ·cases ind with
      | false => exact e1
      | true =>
       rw [if_pos rfl]
       have h2 := zkd hi2 hi zjm
       unfold zdy
       split
       ·rename_i hc; exact absurd hc (hnc _ _)
       ·rw [if_neg (by rw [hl]; simp), h2]; rfl
     ·cases ind with
      | false => exact e1
      | true =>
       rw [if_pos rfl]
       rw [Bool.and_eq_true, Bool.not_eq_true'] at hi2
       obtain ⟨hi2, _⟩ := hi2
       obtain ⟨g, d, hop⟩ := zgn hi2
       have h2 : ∃ S2, iop (S.withH zjm) io.op = some (v, S2) := by
        rw [hop] at hi hx ⊢
        simp only [iop, zl4] at hi ⊢
        cases hp : S.arg (.t d) with
        | none => rw [hp] at hi; cases hi
        | some p =>
         rw [hp] at hi
         have hd : (S.withH zjm).deref p = S.deref p := by
          cases p <;> first
           | rfl
           | exact Bool.noConfusion (show false = true from hx _ _ _ hp)
         dsimp only at hi ⊢
         rw [hd]
         cases hc : S.deref p with
         | none => rw [hc] at hi; cases hi
         | some cs =>
          rw [hc] at hi
          dsimp only at hi ⊢
          cases g with
          | none =>
           cases cs with
           | nil => cases hi
           | cons x xs => injection hi with hi; injection hi with e _; exact ⟨_, by rw [e]⟩
          | some n =>
           dsimp only at hi ⊢
           split at hi
           ·rename_i hle
            injection hi with hi; injection hi with e _
            exact ⟨_, by rw [if_pos hle, e]⟩
           ·cases hi
       obtain ⟨S2, h2⟩ := h2
       unfold zdy
       split
       ·rename_i hc; exact absurd hc (hnc _ _)
       ·rw [if_neg (by rw [hl]; simp), h2]; rfl
    have e2 := zfc hl hi
    subst e2
    simp only [if_true, e3]
   | true =>
    have hq : q = false := by rw [hf1.1, hl]; rfl
    subst hq
    have e1 : zco P (E.ask lk kn) R0 S io = some (v, S1.hs) := by
     unfold zco zau zfe
     split
     ·rename_i v' hq
      split at hq
      ·rename_i hc; exact absurd hc (hnc _ _)
      ·rw [if_pos hl] at hq; cases hq
     ·split
      ·rename_i hc; exact absurd hc (hnc _ _)
      ·rw [hi]
    simp only [Bool.false_eq_true, if_false, e1]
    rw [← zfp hi]
 | @skip io ios S K hw hd _ ih =>
  intro fl hf
  cases fl with
  | nil => simp [zcs] at hf
  | cons x fl =>
   obtain ⟨q, ind⟩ := x
   simp only [zcs, Bool.and_eq_true] at hf
   obtain ⟨S', h1, h2⟩ := ih hf.2
   have fin : (∀ l r, zf5 fz P (E.ask lk kn) R0 (io :: l) ((q, ind) :: r) S = zf5 fz P (E.ask lk kn) R0 l r (S.put io.dst (.tup []))) → ∃ S', zf5 fz P (E.ask lk kn) R0 (io :: ios) ((q, ind) :: fl) S = some S' ∧ K S' := fun hrun => ⟨S', by rw [hrun]; exact h1, h2⟩
   exact fin fun l r => by simp only [zf5, hw]
 | @call io ios S v K fa args fid first cap vs hw hop hf0 ha hp hfl hm hd _ ih =>
  intro fl hf
  cases fl with
  | nil => simp [zcs] at hf
  | cons x fl =>
   obtain ⟨q, ind⟩ := x
   simp only [zcs, Bool.and_eq_true] at hf
   obtain ⟨S', h1, h2⟩ := ih hf.2
   have fin : (∀ l r, zf5 fz P (E.ask lk kn) R0 (io :: l) ((q, ind) :: r) S = zf5 fz P (E.ask lk kn) R0 l r (S.put io.dst v)) → ∃ S', zf5 fz P (E.ask lk kn) R0 (io :: ios) ((q, ind) :: fl) S = some S' ∧ K S' := fun hrun => ⟨S', by rw [hrun]; exact h1, h2⟩
   have hnz : zq9 fz io = false := by
    unfold zq9
    rw [hop]
    cases fa with
    | t d => rfl
    | c u =>
     cases u with
     | fn f a b =>
      cases a with
      | nil =>
       cases b with
       | nil =>
        injection hf0 with hf0
        injection hf0 with hf0
        subst hf0
        exact hp.1
       | cons => rfl
      | cons => rfl
     | _ => rfl
   have qe : ∀ S, zde fz (E.ask lk kn) R0 S io = zau (E.ask lk kn) R0 S io := fun S => by unfold zde; rw [if_neg (by rw [hnz]; simp)]
   have se : ∀ S, zhs fz (E.ask lk kn) R0 S io = zdy (E.ask lk kn) R0 S io := fun S => by unfold zhs; rw [if_neg (by rw [hnz]; simp)]
   rw [hnz] at hf
   have hf1 : q = false ∨ (ind = false ∨ zkm fa args = true) := by
    have := hf.1
    simp only [Bool.false_eq_true, if_false] at this
    rw [hop] at this
    simpa [or_assoc] using this
   refine fin fun l r => ?_
   have e1 : zau (E.ask lk kn) R0 S io = some v := by
    unfold zau
    split
    ·rename_i fa' args' hop'
     rw [hop] at hop'
     injection hop' with e1 e2
     subst e1 e2
     simp only [hf0, ha, zcz]
     rw [show (E.ask lk kn).orc fid ((first ++ vs ++ cap).map (S.view VD)) = some v from hp.2]
     simp only
     cases hmm : hasM.hasML (first ++ vs ++ cap) with
     | false => simp
     | true => simp [hfl hmm]
    ·rename_i hn; exact absurd hop (hn _ _)
   rcases hf1 with rfl | hind
   ·have e4 : zco P (E.ask lk kn) R0 S io = some (v, S.hs) := by
     unfold zco
     rw [e1]
    simp only [zf5, hw, qe, se, Bool.false_eq_true, if_false, e4]
    rfl
   have e3 : (if ind = true then zdy (E.ask lk kn) R0 S io else zau (E.ask lk kn) R0 S io) = some v := by
    rcases hind with hind | hind
    ·rw [hind, if_neg (by simp)]; exact e1
    ·cases ind with
     | false => exact e1
     | true =>
      rw [if_pos rfl]
      unfold zkm at hind
      split at hind
      ·injection hf0 with hf0
       injection hf0 with a1 a2 a3
       subst a2 a3
       replace a1 := a1.symm
       subst a1
       injection ha with ha
       subst ha
       unfold zdy
       split
       ·rename_i fa' args' hop'
        rw [hop] at hop'
        injection hop' with b1 b2
        subst b1 b2
        have hp2 : (E.ask lk kn).orc fid [] = some v := hp.2
        simp [AS.arg, AS.args, zcz, hp2, hasM.hasML]
       ·rename_i hn; exact absurd hop (hn _ _)
      ·cases hind
   cases q with
   | true => simp only [zf5, hw, qe, se, if_true, e3]
   | false =>
    have e4 : zco P (E.ask lk kn) R0 S io = some (v, S.hs) := by
     unfold zco
     rw [e1]
    simp only [zf5, hw, qe, se, Bool.false_eq_true, if_false, e4]
    rfl
 | ct hw hop hf ha hc hm hd _ ih => exact hc.elim
 | @ext io ios S K Fk hw hs hd hk ih =>
  intro fl hf
  cases fl with
  | nil => simp [zcs] at hf
  | cons x fl =>
   obtain ⟨q, ind⟩ := x
   simp only [zcs, Bool.and_eq_true] at hf
   have hgz : zq9 fz ⟨io.dst, io.op, none⟩ = zq9 fz io := rfl
   obtain ⟨v, ⟨e1, e2, rfl⟩ | ⟨e1, e2, S2, e3, rfl⟩ | ⟨e1, e2, e3, rfl⟩⟩ := hs
   ·obtain ⟨S', h1, h2⟩ := ih S v ⟨rfl, rfl⟩ hf.2
    refine ⟨S', ?_, h2⟩
    rw [hgz] at e1
    have hq := hf.1
    rw [if_pos e1, Bool.and_eq_true] at hq
    obtain ⟨hq, hq2⟩ := hq
    subst hq
    have q1 : zde fz (E.ask lk kn) R0 S io = some v := by unfold zde; rw [if_pos e1]; exact e2
    cases ind with
    | false =>
     simp only [zf5, hw, q1, Bool.false_eq_true, if_false, if_true]
     exact h1
    | true =>
     have q2 : zhs fz (E.ask lk kn) R0 S io = some v := by
      unfold zhs
      rw [if_pos e1]
      have hb : isBs io.op = true := by simpa using hq2
      cases hop : io.op <;> rw [hop] at hb e2 <;> first
       | exact e2
       | cases hb
     simp only [zf5, hw, q2, if_true]
     exact h1
   ·obtain ⟨S', h1, h2⟩ := ih S2 v ⟨rfl, rfl⟩ hf.2
    refine ⟨S', ?_, h2⟩
    rw [hgz] at e1
    have hq := hf.1
    have hl : zbm io.op = true := by
     cases hop : io.op <;> rw [hop] at e2 <;> first
      | rfl
      | cases e2
    have hnc : ∀ a b, io.op ≠ .call a b := fun a b e => by rw [e] at e2; cases e2
    rw [if_neg (by rw [e1]; simp)] at hq
    split at hq
    ·rename_i hc; exact absurd hc (hnc _ _)
    ·simp only [Bool.and_eq_true, beq_iff_eq] at hq
     obtain ⟨hq, _⟩ := hq
     rw [hl] at hq
     have hq : q = false := hq
     subst hq
     have e4 : zco P (E.ask lk kn) R0 S io = some (v, S2.hs) := by
      unfold zco zau zfe
      split
      ·rename_i v' hq
       split at hq
       ·rename_i hc; exact absurd hc (hnc _ _)
       ·rw [if_pos hl] at hq; cases hq
      ·split
       ·rename_i hc; exact absurd hc (hnc _ _)
       ·rw [e3]
     simp only [zf5, hw, Bool.false_eq_true, if_false, e4]
     rw [← zfp e3]
     exact h1
   ·obtain ⟨S', h1, h2⟩ := ih S v ⟨rfl, rfl⟩ hf.2
    refine ⟨S', ?_, h2⟩
    obtain ⟨g, d, hop⟩ := zgn e2
    have hnz : zq9 fz io = false := by unfold zq9; rw [hop]
    have hq := hf.1
    rw [hnz, if_neg (by simp)] at hq
    have hnc : ∀ a b, io.op ≠ .call a b := fun a b e => by rw [hop] at e; cases e
    have hl : zbm io.op = false := by rw [hop]; rfl
    split at hq
    ·rename_i hc; exact absurd hc (hnc _ _)
    ·have hh : zex io.op = false := by rw [hop]; rfl
     rw [hh, hl, e1] at hq
     simp only [Bool.and_eq_true, beq_iff_eq, Bool.or_eq_true, Bool.not_eq_true', Bool.not_true, Bool.and_false, Bool.false_or, Bool.or_self, Bool.false_eq_true, or_false, Bool.not_false] at hq
     obtain ⟨rfl, hind⟩ := hq
     have hind : ind = false := by simpa using hind
     subst hind
     have q1 : zde fz (E.ask lk kn) R0 S io = some v := by
      unfold zde
      rw [if_neg (by rw [hnz]; simp)]
      unfold zau
      split
      ·rename_i hc; exact absurd hc (hnc _ _)
      ·rw [if_neg (by rw [hl]; simp), e3]; rfl
     simp only [zf5, hw, q1, Bool.false_eq_true, if_false, if_true]
     exact h1
end
section
variable {P : Program} {w0 : World} {N0 : Nat} {S : AS} {k : List Fr} {Q : Exit → AS → Prop} {ios : List Opr} {n nx ck : Nat} {mk : List (Nat × Nat)} {md : Md} {l : List (Nat × AV)} {hp : List (Nat × Nat × AObj)} {fz : Fz} {la : Nat → Bool} {lk : FuncId → List AV → Option AV}
theorem zdb {E : Env} (hE : EnvOk P E) (fd : Nat → Bool) (la : Nat → Bool) (Lf : List (FuncId × List AV × AV)) (hLf : ∀ x ∈ Lf, PFn P x.1 x.2.1 x.2.2) (ff : FuncId → Bool) (L : List (FuncId × List AV × AV)) (hL : ∀ x ∈ L, PF P x.1 x.2.1 x.2.2) (kn : FuncId → Bool) {pres : List (List Nat)} {fl : List (Bool × Bool)} (hs : statZ ⟨fd, ff, zei Lf⟩ (E.ask (zei L) kn) ios pres S.size = some fl) (hf : zcs ⟨fd, ff, zei Lf⟩ la ios fl = true)
  (hd : (ios.all fun io => zc9 S.size io.dst) = true) (h : Om P w0 N0 md (KnG ⟨fd, ff, zei Lf⟩ la (zei L)) ios S k Q) : Zm P w0 N0 md (.region ios (some pres)) S k Q := by
 obtain ⟨S', h1, h2⟩ := X_runG (P := P) (E := E) (kn := kn) (h.ok hd) hf
 exact ⟨zfa fun _ => zdl (T_statZ (hE.ask (zi8 hL)) R0_ok (zn9 hLf) hs h1) fun e S1 ⟨e1, e2⟩ => by subst e1 e2; exact h2⟩
theorem zcr {d sz len : Nat} {z cs : List AV} {ps : List (Nat × Nat × Arg)} {pl : List (Nat × AV)} {es : List (List AV)} (hz : fz.d d = true) (h : zgv ps l = some pl) (hf : zbo z pl = some cs) (hM : hasM.hasML cs = false) (he : zcp sz len cs = es)
  (go : Om P w0 N0 md (KnG fz la lk) ios (st n ((d, .vs es) :: l) hp nx ck mk) k Q) : Om P w0 N0 md (KnG fz la lk) (⟨some d, (.bslice sz len z ps), none⟩ :: ios) (st n l hp nx ck mk) k Q :=
 ⟨fun ha => .ext rfl ⟨.vs es, .inl ⟨hz, by simp only [fslQ, fsl, zgw, h, hf, hM, if_true, he], rfl⟩⟩ (fun S1 v hF => by rw [hF.1]; exact (all_cons ha).1) fun S1 v hF => by
  obtain ⟨rfl, rfl⟩ := hF
  exact go.ok (all_cons ha).2⟩
theorem o_lo {d d0 : Nat} {g : Option Nat} {v : AV} (hz : la d = true) (hi : iop (st n l hp nx ck mk) (.load g (.t d0)) = some (v, st n l hp nx ck mk))
  (go : Om P w0 N0 md (KnG fz la lk) ios (st n ((d, v) :: l) hp nx ck mk) k Q) : Om P w0 N0 md (KnG fz la lk) (⟨some d, .load g (.t d0), none⟩ :: ios) (st n l hp nx ck mk) k Q :=
 ⟨fun hall => .ext rfl ⟨v, .inr (.inr ⟨hz, rfl, hi, rfl⟩)⟩ (fun S1 v hF => by rw [hF.1]; exact (all_cons hall).1) fun S1 v hF => by
  obtain ⟨rfl, rfl⟩ := hF
  exact go.ok (all_cons hall).2⟩
end
end Go.Am
