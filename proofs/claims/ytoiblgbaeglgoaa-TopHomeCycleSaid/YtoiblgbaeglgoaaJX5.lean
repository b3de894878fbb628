/-
  A WALK THROUGH A DRAWN REGION AS IN AmGoF, IN WHICH SOME LOADS ARE FROM OWN MEMORY: those that are in order with all that changes it. A general base for proofs: no program is named here.; THE CHOICES OF A STEP: the loops of guard.Danger.
-/
import Derived.Test.YtoiblgbaeglgoaaJX4
namespace Go.Am
open Go Go.RowKit
def atD (la : Nat → Bool) : Option Nat → Bool
 | some d => la d
 | none => false
abbrev KnG (fz : Fz) (la : Nat → Bool) (lk : FuncId → List AV → Option AV) : Kn := ⟨fun f gs v => fz.f f = false ∧ lk f gs = some v, fun _ _ _ _ => False, fun _ => false, fun _ => true,
 fun d op S Fk => ∃ v, (ztq fz ⟨d, op, none⟩ = true ∧ fslQ fz S op = some v ∧ Fk = fun S1 v1 => S1 = S ∧ v1 = v) ∨ (ztq fz ⟨d, op, none⟩ = false ∧ isBs op = true ∧ ∃ S2, iop S op = some (v, S2) ∧ Fk = fun S1 v1 => S1 = S2 ∧ v1 = v) ∨ (atD la d = true ∧ zgm op = true ∧ iop S op = some (v, S) ∧ Fk = fun S1 v1 => S1 = S ∧ v1 = v), true⟩
def zdj (fz : Fz) (la : Nat → Bool) : List Opr → List (Bool × Bool) → Bool
 | [], [] => true
 | io :: ios, (q, ind) :: fl => (if ztq fz io = true then q && (!ind || isBs io.op) else (match io.op with
  | .call fa args => !q || !ind || zmy fa args
  | op => (q == !zc6 op) && (!q || !ind || (zfw op || (zgm op && !atD la io.dst))))) && zdj fz la ios fl
 | _, _ => false
section
variable {P : Program} {w0 : World} {N0 : Nat} {S : AS} {K : AS → Prop} {E : Env} {fz : Fz} {la : Nat → Bool}
theorem X_runG {lk : FuncId → List AV → Option AV} {kn : FuncId → Bool} {ios : List Opr} (h : X (KnG fz la lk) ios S K) : ∀ {fl : List (Bool × Bool)}, zdj fz la ios fl = true → ∃ S', zg7 fz P (E.ask lk kn) R0 ios fl S = some S' ∧ K S' := by
 induction h with
 | nil h =>
  intro fl hf
  cases fl with
  | nil => exact ⟨_, rfl, h⟩
  | cons => simp [zdj] at hf
 | @op io ios S S1 v K hw hi hx hd _ ih =>
  intro fl hf
  cases fl with
  | nil => simp [zdj] at hf
  | cons x fl =>
   obtain ⟨q, ind⟩ := x
   simp only [zdj, y0h] at hf
   obtain ⟨S', h1, h2⟩ := ih hf.2
   have fin : (∀ l r, zg7 fz P (E.ask lk kn) R0 (io :: l) ((q, ind) :: r) S = zg7 fz P (E.ask lk kn) R0 l r (S1.put io.dst v)) → ∃ S', zg7 fz P (E.ask lk kn) R0 (io :: ios) ((q, ind) :: fl) S = some S' ∧ K S' := fun hrun => ⟨S', by rw [hrun]; exact h1, h2⟩
   have hnz : ztq fz io = false := by
    unfold ztq
    split
    ·rename_i hb
     rw [hb] at hx
     exact Bool.noConfusion (show true = false from hx)
    ·rename_i hb
     rw [hb] at hi
     simp [iop] at hi
    ·rfl
   have qe : ∀ S, ze9 fz (E.ask lk kn) R0 S io = zba (E.ask lk kn) R0 S io := fun S => by unfold ze9; rw [if_neg (by rw [hnz]; simp)]
   have se : ∀ S, zjk fz (E.ask lk kn) R0 S io = zey (E.ask lk kn) R0 S io := fun S => by unfold zjk; rw [if_neg (by rw [hnz]; simp)]
   rw [hnz] at hf
   have hnc : ∀ a b, io.op ≠ .call a b := fun a b e => by rw [e] at hi; simp [iop] at hi
   have hf1 : q = !zc6 io.op ∧ (q = true → ind = false ∨ zfw io.op = true ∨ (zgm io.op && !atD la io.dst) = true) := by
    have := hf.1
    simp only [y0l, if_false] at this
    rw [y0h, beq_iff_eq, y0z, y0z, y0z, y21, y21] at this
    exact ⟨this.1, fun e => (this.2.imp_left fun h => h.resolve_left (by rw [e]; simp))⟩
   refine fin fun l r => ?_
   simp only [zg7, hw, qe, se]
   cases hl : zc6 io.op with
   | false =>
    have hq : q = true := by rw [hf1.1, hl]; rfl
    have hi2 := hf1.2 hq
    subst hq
    have e1 : zba (E.ask lk kn) R0 S io = some v := by
     unfold zba
     split
     ·rename_i hc; exact absurd hc (hnc _ _)
     ·rw [if_neg (by rw [hl]; simp), hi]; rfl
    have e3 : (if ind = true then zey (E.ask lk kn) R0 S io else zba (E.ask lk kn) R0 S io) = some v := by
     rcases hi2 with hi2 | hi2 | hi2
     ·rw [hi2, if_neg (by simp)]; exact e1
     ·cases ind with
      | false => exact e1
      | true =>
       rw [if_pos rfl]
       have h2 := zmp hi2 hi zlj
       unfold zey
       split
       ·rename_i hc; exact absurd hc (hnc _ _)
       ·rw [if_neg (by rw [hl]; simp), h2]; rfl
     ·cases ind with
      | false => exact e1
      | true =>
       rw [if_pos rfl]
       rw [y0h, y21] at hi2
       obtain ⟨hi2, _⟩ := hi2
       obtain ⟨g, d, hop⟩ := zi7 hi2
       have h2 : ∃ S2, iop (S.withH zlj) io.op = some (v, S2) := by
        rw [hop] at hi hx ⊢
        simp only [iop, znl] at hi ⊢
        cases hp : S.arg (.t d) with
        | none => rw [hp] at hi; cases hi
        | some p =>
         rw [hp] at hi
         have hd : (S.withH zlj).deref p = S.deref p := by
          cases p <;> first
           | rfl
           | exact Bool.noConfusion (show false = true from hx _ _ _ hp)
         dsimp only at hi ⊢
         rw [hd]
         cases hc : S.deref p with
         | none => rw [hc] at hi; cases hi
         | some cs =>
          rw [hc] at hi
          dsimp only at hi ⊢
          cases g with
          | none =>
           cases cs with
           | nil => cases hi
           | cons x xs => injection hi with hi; injection hi with e _; exact ⟨_, by rw [e]⟩
          | some n =>
           dsimp only at hi ⊢
           split at hi
           ·rename_i hle
            injection hi with hi; injection hi with e _
            exact ⟨_, by rw [if_pos hle, e]⟩
           ·cases hi
       obtain ⟨S2, h2⟩ := h2
       unfold zey
       split
       ·rename_i hc; exact absurd hc (hnc _ _)
       ·rw [if_neg (by rw [hl]; simp), h2]; rfl
    have e2 := zgl hl hi
    subst e2
    simp only [if_true, e3]
   | true =>
    have hq : q = false := by rw [hf1.1, hl]; rfl
    subst hq
    have e1 : zde P (E.ask lk kn) R0 S io = some (v, S1.hs) := by
     unfold zde zba zgn
     split
     ·rename_i v' hq
      split at hq
      ·rename_i hc; exact absurd hc (hnc _ _)
      ·rw [if_pos hl] at hq; cases hq
     ·split
      ·rename_i hc; exact absurd hc (hnc _ _)
      ·rw [hi]
    simp only [y0l, if_false, e1]
    rw [← zh2 hi]
 | @skip io ios S K hw hd _ ih =>
  intro fl hf
  cases fl with
  | nil => simp [zdj] at hf
  | cons x fl =>
   obtain ⟨q, ind⟩ := x
   simp only [zdj, y0h] at hf
   obtain ⟨S', h1, h2⟩ := ih hf.2
   have fin : (∀ l r, zg7 fz P (E.ask lk kn) R0 (io :: l) ((q, ind) :: r) S = zg7 fz P (E.ask lk kn) R0 l r (S.put io.dst (.tup []))) → ∃ S', zg7 fz P (E.ask lk kn) R0 (io :: ios) ((q, ind) :: fl) S = some S' ∧ K S' := fun hrun => ⟨S', by rw [hrun]; exact h1, h2⟩
   exact fin fun l r => by simp only [zg7, hw]
 | @call io ios S v K fa args fid first cap vs hw hop hf0 ha hp hfl hm hd _ ih =>
  intro fl hf
  cases fl with
  | nil => simp [zdj] at hf
  | cons x fl =>
   obtain ⟨q, ind⟩ := x
   simp only [zdj, y0h] at hf
   obtain ⟨S', h1, h2⟩ := ih hf.2
   have fin : (∀ l r, zg7 fz P (E.ask lk kn) R0 (io :: l) ((q, ind) :: r) S = zg7 fz P (E.ask lk kn) R0 l r (S.put io.dst v)) → ∃ S', zg7 fz P (E.ask lk kn) R0 (io :: ios) ((q, ind) :: fl) S = some S' ∧ K S' := fun hrun => ⟨S', by rw [hrun]; exact h1, h2⟩
   have hnz : ztq fz io = false := by
    unfold ztq
    rw [hop]
    cases fa with
    | t d => rfl
    | c u =>
     cases u with
     | fn f a b =>
      cases a with
      | nil =>
       cases b with
       | nil =>
        injection hf0 with hf0
        injection hf0 with hf0
        subst hf0
        exact hp.1
       | cons => rfl
      | cons => rfl
     | _ => rfl
   have qe : ∀ S, ze9 fz (E.ask lk kn) R0 S io = zba (E.ask lk kn) R0 S io := fun S => by unfold ze9; rw [if_neg (by rw [hnz]; simp)]
   have se : ∀ S, zjk fz (E.ask lk kn) R0 S io = zey (E.ask lk kn) R0 S io := fun S => by unfold zjk; rw [if_neg (by rw [hnz]; simp)]
   rw [hnz] at hf
   have hf1 : q = false ∨ (ind = false ∨ zmy fa args = true) := by
    have := hf.1
    simp only [y0l, if_false] at this
    rw [hop] at this
    simpa [or_assoc] using this
   refine fin fun l r => ?_
   have e1 : zba (E.ask lk kn) R0 S io = some v := by
    unfold zba
    split
    ·rename_i fa' args' hop'
     rw [hop] at hop'
     injection hop' with e1 e2
     subst e1 e2
     simp only [hf0, ha, zdr]
     rw [show (E.ask lk kn).orc fid ((first ++ vs ++ cap).map (S.view VD)) = some v from hp.2]
     simp only
     cases hmm : hasM.hasML (first ++ vs ++ cap) with
     | false => simp
     | true => simp [hfl hmm]
    ·rename_i hn; exact absurd hop (hn _ _)
   rcases hf1 with rfl | hind
   ·have e4 : zde P (E.ask lk kn) R0 S io = some (v, S.hs) := by
     unfold zde
     rw [e1]
    simp only [zg7, hw, qe, se, y0l, if_false, e4]
    rfl
   have e3 : (if ind = true then zey (E.ask lk kn) R0 S io else zba (E.ask lk kn) R0 S io) = some v := by
    rcases hind with hind | hind
    ·rw [hind, if_neg (by simp)]; exact e1
    ·cases ind with
     | false => exact e1
     | true =>
      rw [if_pos rfl]
      unfold zmy at hind
      split at hind
      ·injection hf0 with hf0
       injection hf0 with a1 a2 a3
       subst a2 a3
       replace a1 := a1.symm
       subst a1
       injection ha with ha
       subst ha
       unfold zey
       split
       ·rename_i fa' args' hop'
        rw [hop] at hop'
        injection hop' with b1 b2
        subst b1 b2
        have hp2 : (E.ask lk kn).orc fid [] = some v := hp.2
        simp [AS.arg, AS.args, zdr, hp2, hasM.hasML]
       ·rename_i hn; exact absurd hop (hn _ _)
      ·cases hind
   cases q with
   | true => simp only [zg7, hw, qe, se, if_true, e3]
   | false =>
    have e4 : zde P (E.ask lk kn) R0 S io = some (v, S.hs) := by
     unfold zde
     rw [e1]
    simp only [zg7, hw, qe, se, y0l, if_false, e4]
    rfl
 | ct hw hop hf ha hc hm hd _ ih => exact hc.elim
 | @ext io ios S K Fk hw hs hd hk ih =>
  intro fl hf
  cases fl with
  | nil => simp [zdj] at hf
  | cons x fl =>
   obtain ⟨q, ind⟩ := x
   simp only [zdj, y0h] at hf
   have hgz : ztq fz ⟨io.dst, io.op, none⟩ = ztq fz io := rfl
   obtain ⟨v, ⟨e1, e2, rfl⟩ | ⟨e1, e2, S2, e3, rfl⟩ | ⟨e1, e2, e3, rfl⟩⟩ := hs
   ·obtain ⟨S', h1, h2⟩ := ih S v ⟨rfl, rfl⟩ hf.2
    refine ⟨S', ?_, h2⟩
    rw [hgz] at e1
    have hq := hf.1
    rw [if_pos e1, y0h] at hq
    obtain ⟨hq, hq2⟩ := hq
    subst hq
    have q1 : ze9 fz (E.ask lk kn) R0 S io = some v := by unfold ze9; rw [if_pos e1]; exact e2
    cases ind with
    | false =>
     simp only [zg7, hw, q1, y0l, if_false, if_true]
     exact h1
    | true =>
     have q2 : zjk fz (E.ask lk kn) R0 S io = some v := by
      unfold zjk
      rw [if_pos e1]
      have hb : isBs io.op = true := by simpa using hq2
      cases hop : io.op <;> rw [hop] at hb e2 <;> first
       | exact e2
       | cases hb
     simp only [zg7, hw, q2, if_true]
     exact h1
   ·obtain ⟨S', h1, h2⟩ := ih S2 v ⟨rfl, rfl⟩ hf.2
    refine ⟨S', ?_, h2⟩
    rw [hgz] at e1
    have hq := hf.1
    have hl : zc6 io.op = true := by
     cases hop : io.op <;> rw [hop] at e2 <;> first
      | rfl
      | cases e2
    have hnc : ∀ a b, io.op ≠ .call a b := fun a b e => by rw [e] at e2; cases e2
    rw [if_neg (by rw [e1]; simp)] at hq
    split at hq
    ·rename_i hc; exact absurd hc (hnc _ _)
    ·simp only [y0h, beq_iff_eq] at hq
     obtain ⟨hq, _⟩ := hq
     rw [hl] at hq
     have hq : q = false := hq
     subst hq
     have e4 : zde P (E.ask lk kn) R0 S io = some (v, S2.hs) := by
      unfold zde zba zgn
      split
      ·rename_i v' hq
       split at hq
       ·rename_i hc; exact absurd hc (hnc _ _)
       ·rw [if_pos hl] at hq; cases hq
      ·split
       ·rename_i hc; exact absurd hc (hnc _ _)
       ·rw [e3]
     simp only [zg7, hw, y0l, if_false, e4]
     rw [← zh2 e3]
     exact h1
   ·obtain ⟨S', h1, h2⟩ := ih S v ⟨rfl, rfl⟩ hf.2
    refine ⟨S', ?_, h2⟩
    obtain ⟨g, d, hop⟩ := zi7 e2
    have hnz : ztq fz io = false := by unfold ztq; rw [hop]
    have hq := hf.1
    rw [hnz, if_neg (by simp)] at hq
    have hnc : ∀ a b, io.op ≠ .call a b := fun a b e => by rw [hop] at e; cases e
    have hl : zc6 io.op = false := by rw [hop]; rfl
    split at hq
    ·rename_i hc; exact absurd hc (hnc _ _)
    ·have hh : zfw io.op = false := by rw [hop]; rfl
     rw [hh, hl, e1] at hq
     simp only [y0h, beq_iff_eq, y0z, y21, Bool.not_true, Bool.and_false, Bool.false_or, Bool.or_self, y0l, or_false, Bool.not_false] at hq
     obtain ⟨rfl, hind⟩ := hq
     have hind : ind = false := by simpa using hind
     subst hind
     have q1 : ze9 fz (E.ask lk kn) R0 S io = some v := by
      unfold ze9
      rw [if_neg (by rw [hnz]; simp)]
      unfold zba
      split
      ·rename_i hc; exact absurd hc (hnc _ _)
      ·rw [if_neg (by rw [hl]; simp), e3]; rfl
     simp only [zg7, hw, q1, y0l, if_false, if_true]
     exact h1
end
section
variable {P : Program} {w0 : World} {N0 : Nat} {S : AS} {k : List Fr} {Q : Exit → AS → Prop} {ios : List Opr} {n nx ck : Nat} {mk : List (Nat × Nat)} {md : Md} {l : List (Nat × AV)} {hp : List (Nat × Nat × AObj)} {fz : Fz} {la : Nat → Bool} {lk : FuncId → List AV → Option AV}
theorem ze4 {E : Env} (hE : EnvOk P E) (fd : Nat → Bool) (la : Nat → Bool) (Lf : List (FuncId × List AV × AV)) (hLf : ∀ x ∈ Lf, PFn P x.1 x.2.1 x.2.2) (ff : FuncId → Bool) (L : List (FuncId × List AV × AV)) (hL : ∀ x ∈ L, PF P x.1 x.2.1 x.2.2) (kn : FuncId → Bool) {pres : List (List Nat)} {fl : List (Bool × Bool)} (hs : statZ ⟨fd, ff, zdx Lf⟩ (E.ask (zdx L) kn) ios pres S.size = some fl) (hf : zdj ⟨fd, ff, zdx Lf⟩ la ios fl = true)
  (hd : (ios.all fun io => zcj S.size io.dst) = true) (h : Om P w0 N0 md (KnG ⟨fd, ff, zdx Lf⟩ la (zdx L)) ios S k Q) : Zm P w0 N0 md (.region ios (some pres)) S k Q := by
 obtain ⟨S', h1, h2⟩ := X_runG (P := P) (E := E) (kn := kn) (h.ok hd) hf
 exact ⟨zgd fun _ => zed (T_statZ (hE.ask (zk2 hL)) R0_ok (zq9 hLf) hs h1) fun e S1 ⟨e1, e2⟩ => by subst e1 e2; exact h2⟩
theorem zdh {d sz len : Nat} {z cs : List AV} {ps : List (Nat × Nat × Arg)} {pl : List (Nat × AV)} {es : List (List AV)} (hz : fz.d d = true) (h : zfl ps l = some pl) (hf : zcb z pl = some cs) (hM : hasM.hasML cs = false) (he : zdf sz len cs = es)
  (go : Om P w0 N0 md (KnG fz la lk) ios (st n ((d, .vs es) :: l) hp nx ck mk) k Q) : Om P w0 N0 md (KnG fz la lk) (⟨some d, (.bslice sz len z ps), none⟩ :: ios) (st n l hp nx ck mk) k Q :=
 ⟨fun ha => .ext rfl ⟨.vs es, .inl ⟨hz, by simp only [fslQ, fsl, zig, h, hf, hM, if_true, he], rfl⟩⟩ (fun S1 v hF => by rw [hF.1]; exact (all_cons ha).1) fun S1 v hF => by
  obtain ⟨rfl, rfl⟩ := hF
  exact go.ok (all_cons ha).2⟩
theorem o_lo {d d0 : Nat} {g : Option Nat} {v : AV} (hz : la d = true) (hi : iop (st n l hp nx ck mk) (.load g (.t d0)) = some (v, st n l hp nx ck mk))
  (go : Om P w0 N0 md (KnG fz la lk) ios (st n ((d, v) :: l) hp nx ck mk) k Q) : Om P w0 N0 md (KnG fz la lk) (⟨some d, .load g (.t d0), none⟩ :: ios) (st n l hp nx ck mk) k Q :=
 ⟨fun hall => .ext rfl ⟨v, .inr (.inr ⟨hz, rfl, hi, rfl⟩)⟩ (fun S1 v hF => by rw [hF.1]; exact (all_cons hall).1) fun S1 v hF => by
  obtain ⟨rfl, rfl⟩ := hF
  exact go.ok (all_cons hall).2⟩
end
end Go.Am
namespace Go.Proofs.Ytoiblgbaeglgoaa
open Go Go.Am
theorem zc0 {P : Program} {w0 : World} {N0 n nx ck : Nat} {mk : List (Nat × Nat)} {md : Md} {l : List (Nat × AV)} {hp : List (Nat × Nat × AObj)} {k : List Fr} {Q : Exit → AS → Prop} {ios : List Opr} {pf : Kn} {d sz bytes : Nat} {z : List AV} {s x : Arg} {xv : AV} (es : List (List AV)) {id sp len c : Nat} {cs : List AV} (hs : zbt s l = some (.ms id sp sz 0 len (some c))) (hx : zbt x l = some xv) (he : (st n l hp nx ck mk).elems sz xv = some es) (hne : es.length ≠ 0) (hc : es.flatten.all AV.isCell = true) (hb : bytes ≤ 16777216) (hlk : Am.look id hp = some (sp, .cells cs))
  (h0 : len * sz ≤ cs.length) (h2 : len + es.length ≤ 1048576) (h3 : c < len + es.length) (go : Om P w0 N0 md pf ios (st n ((d, .ms nx ck sz 0 (len + es.length) none) :: l) ((nx, ck, .cells (cs.take (len * sz) ++ es.flatten)) :: hp) (nx + 1) (ck + 1) mk) k Q) :
  Om P w0 N0 md pf (⟨some d, .append sz bytes z s x, none⟩ :: ios) (st n l hp nx ck mk) k Q := by
 have hi : iop (st n l hp nx ck mk) (.append sz bytes z s x) = some (.ms nx ck sz 0 (len + es.length) none, st n l ((nx, ck, .cells (cs.take (len * sz) ++ es.flatten)) :: hp) (nx + 1) (ck + 1) mk) := by
  simp only [iop, zbi, hs, hx, he]
  unfold zd2
  rw [if_neg hne, if_pos ⟨hc, hb⟩]
  simp only [show (st n l hp nx ck mk).heap = hp from rfl, hlk]
  rw [if_pos ⟨trivial, trivial, by omega, h2⟩]
  rw [if_neg (by omega), y14]
  rfl
 exact zg6 hi go
def chM : Nat → List (List Int) → List (Option Nat) → List AV
 | b, c :: cs, k :: ks => .ms b 0 1 0 c.length k :: chM (b + 1) cs ks
 | _, _, _ => []
def inL (C : List (List Int)) : zgv := C.map fun c => (none, c.map (AV.int .i64))
def zk3 (E : List Bool) (C : List (List Int)) (ks : List (Option Nat)) : zgv :=
 (none, [.int .i64 0]) :: (none, [.nils]) :: (none, [.bool false]) :: (none, [.int .i64 0]) :: (none, (enE E).map (AV.int .i64)) :: (none, chM 6 C ks) :: inL C
def lvF (E : List Bool) (r : zgv) : zgv :=
 (some (0, 0), [.int .i64 0]) :: (some (1, 0), [.nils]) :: (some (2, 0), [.bool false]) :: (some (3, 0), [.int .i64 0]) :: (some (4, 0), (enE E).map (AV.int .i64)) :: r
def b18 (f : List Ex) (n : Int) (l : List Sp) (i : Nat) (sk : List Sk) (w : Int) (m : Nat) (r : List (Nat × AV)) : List (Nat × AV) :=
 (2, .vptr [.vs (cXs f)]) :: (3, .vptr [.int .i64 n, .vs (cPs l)]) :: (4, .mptr 0 0 0) :: (5, .mptr 1 0 0) :: (6, .mptr 2 0 0) :: (7, .mptr 3 0 0) :: (10, .ms 4 0 1 0 m (some m)) :: (38, .vs (cPs l)) :: (39, .int .i64 (cPs l).length) :: (40, .int .i64 (i : Nat)) :: (11, .vptr [.int .i64 (i : Nat)]) :: (12, .vptr [.vs (cSs sk), .int .i64 w]) :: r
theorem zh7 {live : zgv} {fz : List (Nat × Nat × List AV)} {la r : List (Nat × AV)} {f : List Ex} {n : Int} {l : List Sp} {i : Nat} {sk : List Sk} {w : Int} {m : Nat} {c0 c1 c2 c3 c4 : List AV}
  (h2 : zbn 2 la = some (.vptr [.vs (cXs f)])) (h3 : zbn 3 la = some (.vptr [.int .i64 n, .vs (cPs l)])) (h4 : zbn 4 la = some (.mptr 0 0 0)) (h5 : zbn 5 la = some (.mptr 1 0 0)) (h6 : zbn 6 la = some (.mptr 2 0 0)) (h7 : zbn 7 la = some (.mptr 3 0 0)) (h10 : zbn 10 la = some (.ms 4 0 1 0 m (some m))) (h38 : zbn 38 la = some (.vs (cPs l))) (h39 : zbn 39 la = some (.int .i64 (cPs l).length)) (h40 : zbn 40 la = some (.int .i64 (i : Nat))) (h11 : zbn 11 la = some (.vptr [.int .i64 (i : Nat)])) (h12 : zbn 12 la = some (.vptr [.vs (cSs sk), .int .i64 w]))
  (l0 : live[0]? = some (some (0, 0), c0)) (l1 : live[1]? = some (some (1, 0), c1)) (l2 : live[2]? = some (some (2, 0), c2)) (l3 : live[3]? = some (some (3, 0), c3)) (l4 : live[4]? = some (some (4, 0), c4)) (hr : RnA live fz la r) : RnA live fz la (b18 f n l i sk w m r) :=
 .cons h2 (.same rfl) (.cons h3 (.same rfl) (.cons h4 (.mptr l0) (.cons h5 (.mptr l1) (.cons h6 (.mptr l2) (.cons h7 (.mptr l3) (.cons h10 (.ms l4) (.cons h38 (.same rfl) (.cons h39 (.same rfl) (.cons h40 (.same rfl) (.cons h11 (.same rfl) (.cons h12 (.same rfl) hr)))))))))))
theorem zfg {live r : zgv} {fz : List (Nat × Nat × List AV)} {hp : List (Nat × Nat × AObj)} {E : List Bool}
  (h0 : Am.look 0 hp = some (0, .cells [.int .i64 0])) (h1 : Am.look 1 hp = some (0, .cells [.nils])) (h2 : Am.look 2 hp = some (0, .cells [.bool false])) (h3 : Am.look 3 hp = some (0, .cells [.int .i64 0])) (h4 : Am.look 4 hp = some (0, .cells ((enE E).map (AV.int .i64)))) (hr : RnH live fz hp r) : RnH live fz hp (lvF E r) :=
 .cons h0 (.keep rfl) (.cons h1 (.keep rfl) (.cons h2 (.keep rfl) (.cons h3 (.keep rfl) (.cons h4 (.keep (zah _)) hr))))
noncomputable def zmb : Code := match env0.fn 18 with
 | some i => ((zbs i.ic)[0]?.getD (.skip, .skip)).1
 | none => .skip
noncomputable def zmd : Code := match env0.fn 18 with
 | some i => ((zbs i.ic)[0]?.getD (.skip, .skip)).2
 | none => .skip
def zr9 : IC := .region [oT 20 87] none
def zzs : IC := .block 7 (.seq (.region [oF 88 0 2,
  oN 89 88,
  oT 90 20,
  oM 91 (.call (.c (.fn 83 [] [])) [(.t 89), (.t 90)]),
  oM 92 (.len false (.t 91)),
  oM 93 (.bin .gtr (.t 92) (.c (.int .i64 0)))] none)
 (.cond (.t 93) (.seq (.region [oN 94 11,
  oT 95 20,
  ⟨none, .store 1 (.t 4) (.t 94), none⟩,
  ⟨none, .store 1 (.t 5) (.t 95), none⟩,
  ⟨none, .store 1 (.t 6) (.c (.bool true)), none⟩,
  ⟨none, .store 1 (.t 7) (.c (.int .i64 0)), none⟩] none)
 (.ret))
 (.skip)))
def zlx : IC := .seq (.region [oM 48 (.bin .lss (.t 47) (.t 46))] none)
 (.seq (.cond (.t 48) (.skip)
 (.exit 2))
 (.seq (.block 3 (.seq (.region [oM 49 (.idxs 1 (.t 45) (.t 47)),
  oN 50 49,
  oT 15 50] none)
 (.region [oT 51 13,
  oT 52 15,
  oM 53 (.bslice 1 1 [.int .i64 0] [(0, 1, (.t 52))]),
  oM 54 (.bslice 1 1 [.nils] [(0, 1, (.t 53))]),
  oM 55 (.append 1 24 [.nils] (.t 51) (.t 54)),
  oT 13 55] none)))
 (.region [oM 56 (.bin .add (.t 47) (.c (.int .i64 1))),
  oT 47 56] none)))
def zly : IC := .seq (.region [oM 61 (.bin .lss (.t 60) (.t 59))] none)
 (.seq (.cond (.t 61) (.skip)
 (.exit 4))
 (.seq (.block 5 (.seq (.region [oM 62 (.idxs 2 (.t 58) (.t 60)),
  oL 63 2 62,
  oM 17 (.alloc [.int .i64 0, .bool false]),
  ⟨none, .store 2 (.t 17) (.t 63), none⟩] none)
 (.seq (.region [oM 18 (.mov (.c (.int .i64 3))),
  oM 19 (.mov (.c (.int .i64 0)))] none)
 (.seq (.seq (.region [oF 64 1 17,
  oN 65 64] none)
 (.cond (.t 65) (.region [oM 18 (.mov (.c (.int .i64 1))),
  oM 19 (.mov (.c (.int .i64 2)))] none)
 (.skip)))
 (.seq (.region [oT 66 13,
  oF 67 0 17,
  oN 68 67,
  oT 69 13,
  oF 70 0 17,
  oN 71 70,
  oM 72 (.idxs 1 (.t 69) (.t 71)),
  oN 73 72,
  oT 74 18,
  oT 75 19,
  oM 76 (.bslice 1 2 [.int .i64 0, .int .i64 0] [(0, 1, (.t 74)), (1, 1, (.t 75))]),
  oM 77 (.append 1 8 [.int .i64 0] (.t 73) (.t 76)),
  oM 78 (.idxs 1 (.t 66) (.t 68)),
  ⟨none, .store 1 (.t 78) (.t 77), none⟩] (some [[], [], [1], [], [], [4], [3, 5], [6], [], [], [8, 9], [7, 10], [0, 2, 0, 1, 2, 3, 4, 5, 6, 7, 8, 9, 10, 11], [12, 11, 11, 0, 1, 2, 3, 4, 5, 6, 7, 8, 9, 10, 11]]))
 (.region [oT 79 10,
  oF 80 0 17,
  oN 81 80,
  oT 82 19,
  oM 83 (.idxs 1 (.t 79) (.t 81)),
  ⟨none, .store 1 (.t 83) (.t 82), none⟩] none))))))
 (.region [oM 84 (.bin .add (.t 60) (.c (.int .i64 1))),
  oT 60 84] none)))
noncomputable def b18_0 : IC := .seq (.region [oM 41 (.bin .lss (.t 40) (.t 39))] none)
 (.seq (.cond (.t 41) (.skip)
 (.exit 0))
 (.seq (.block 1 (.seq (.region [oT 42 40,
  oM 43 (.idxs 2 (.t 38) (.t 40)),
  oL 44 2 43,
  oM 11 (.alloc [.int .i64 0]),
  oM 12 (.alloc [.nils, .int .i64 0]),
  ⟨none, .store 1 (.t 11) (.t 42), none⟩,
  ⟨none, .store 2 (.t 12) (.t 44), none⟩] none)
 (.seq (.region [oM 13 (.mov (.c (.nils)))] none)
 (.seq (.seq (.region [oT 45 10,
  oM 46 (.len false (.t 45)),
  oM 47 (.mov (.c (.int .i64 0)))] none)
 (.block 2 (.loop zlx)))
 (.seq (.seq (.region [oF 57 0 12,
  oN 58 57,
  oM 59 (.len false (.t 58)),
  oM 60 (.mov (.c (.int .i64 0)))] none)
 (.block 4 (.loop zly)))
 (.seq (.region [oT 85 13,
  oM 86 (.call (.c (.fn 82 [] [])) [(.t 85)])] none)
 (.block 6 (.rangeFunc (.t 86) [87] zmb zmd zr9 zzs))))))))
 (.region [oM 96 (.bin .add (.t 40) (.c (.int .i64 1))),
  oT 40 96] none)))
-- pneumatic/guard.Danger
noncomputable def ic18 : IC := .seq (.region [oM 2 (.box (.t 0)),
  oM 3 (.box (.t 1)),
  oM 4 (.alloc [.int .i64 0]),
  oM 5 (.alloc [.nils]),
  oM 6 (.alloc [.bool false]),
  oM 7 (.alloc [.int .i64 0])] none)
 (.seq (.seq (.region [oL 21 2 3,
  oM 22 (.call (.c (.fn 72 [] [])) [(.t 21)]),
  oT 8 22] none)
 (.seq (.region [oT 23 8,
  oM 24 (.bin .neq (.t 23) (.c (.int .i64 0)))] none)
 (.cond (.t 24) (.seq (.region [oT 25 8,
  ⟨none, .store 1 (.t 4) (.c (.int .i64 0)), none⟩,
  ⟨none, .store 1 (.t 5) (.c (.nils)), none⟩,
  ⟨none, .store 1 (.t 6) (.c (.bool false)), none⟩,
  ⟨none, .store 1 (.t 7) (.t 25), none⟩] none)
 (.ret))
 (.skip))))
 (.seq (.seq (.region [oL 26 1 2,
  oF 27 0 3,
  oN 28 27,
  oM 29 (.call (.c (.fn 80 [] [])) [(.t 26), (.t 28)]),
  oT 9 29] none)
 (.seq (.region [oT 30 9,
  oM 31 (.bin .neq (.t 30) (.c (.int .i64 0)))] none)
 (.cond (.t 31) (.seq (.region [oT 32 9,
  ⟨none, .store 1 (.t 4) (.c (.int .i64 0)), none⟩,
  ⟨none, .store 1 (.t 5) (.c (.nils)), none⟩,
  ⟨none, .store 1 (.t 6) (.c (.bool false)), none⟩,
  ⟨none, .store 1 (.t 7) (.t 32), none⟩] none)
 (.ret))
 (.skip))))
 (.seq (.region [oM 33 (.bslice 1 1 [.int .i64 0] [(0, 1, (.c (.int .i64 0)))]),
  oF 34 0 3,
  oN 35 34,
  oM 36 (.call (.c (.fn 81 [] [])) [(.t 33), (.t 35)]),
  oT 10 36] none)
 (.seq (.seq (.region [oF 37 1 3,
  oN 38 37,
  oM 39 (.len false (.t 38)),
  oM 40 (.mov (.c (.int .i64 0)))] none)
 (.block 0 (.loop b18_0)))
 (.seq (.region [⟨none, .store 1 (.t 4) (.c (.int .i64 0)), none⟩,
  ⟨none, .store 1 (.t 5) (.c (.nils)), none⟩,
  ⟨none, .store 1 (.t 6) (.c (.bool false)), none⟩,
  ⟨none, .store 1 (.t 7) (.c (.int .i64 0)), none⟩] none)
 (.ret))))))
theorem fn18 : env0.fn 18 = some ⟨97, ic18, [.cell 4 none, .cell 5 none, .cell 6 none, .cell 7 none]⟩ := by kernel_rfl
section
variable {w0 : World} {N0 : Nat} {k : List Fr} {Q : Exit → AS → Prop}
set_option maxHeartbeats 4000000 in
theorem loopA1 (f : List Ex) (n : Int) (l : List Sp) (i : Nat) (sk : List Sk) (w : Int) (b0 : Bool) (q : Nat) {y : IC}
  (fin : Zm Try.prog w0 N0 none y (st 97 (b18 f n l i sk w 1 [(13, .ms 5 0 1 0 1 none)]) (zc5 0 (zk3 [b0] (chA [b0]) (List.replicate 1 (some 1))) ++ zc8 (6 + 1) q) (q + (6 + 1)) 1 (zdz (6 + 1) q)) k Q) :
  Zm Try.prog w0 N0 none (.loop zlx) (st 97 (b18 f n l i sk w 1 [(13, .ms 5 0 1 0 0 none), (45, .ms 4 0 1 0 1 (some 1)), (46, .int .i64 1), (47, .int .i64 ((0 : Nat) : Int))]) (zc5 0 (zk3 [b0] ((chA [b0]).take 0) (List.replicate 0 (some 1))) ++ zc8 (6 + 0) q) (q + (6 + 0)) 1 (zdz (6 + 0) q)) (.blk 2 :: .seq y :: k) Q := by
 refine zbu (fun mm S => ∃ j, mm = 1 - j ∧ j ≤ 1 ∧ S = st 97 (b18 f n l i sk w 1 [(13, .ms 5 0 1 0 j none), (45, .ms 4 0 1 0 1 (some 1)), (46, .int .i64 1), (47, .int .i64 ((j : Nat) : Int))]) (zc5 0 (zk3 [b0] ((chA [b0]).take j) (List.replicate j (some 1))) ++ zc8 (6 + j) q) (q + (6 + j)) 1 (zdz (6 + j) q)) 1
  (zan (.cons rfl (.cons rfl (.cons rfl (.cons rfl (.cons rfl (.cons rfl (.cons rfl (.cons rfl (.cons rfl (.cons rfl (.cons rfl (.cons rfl (.cons rfl (.cons rfl (.cons rfl (.cons rfl .nil))))))))))))))))) ⟨0, rfl, y0t _, rfl⟩ ?_
 rintro mm S ⟨j, rfl, hj, rfl⟩
 unfold zlx
 rcases (show j = 0 ∨ j = 1 by omega) with rfl | rfl
 ·repeat (first | refine za8 ?_ | refine za5 rfl ?_ | refine zai ?_ | refine zaa ?_ | refine zac ?_ | refine zab ?_ | refine zb4 rfl ?_ | refine za1 rfl ?_ | refine za7 rfl rfl ?_ | refine zch rfl rfl ?_ | refine zby rfl rfl rfl ?_ | refine zb3 rfl rfl (by omega) (by omega) ?_)
  refine zbf [[.ms (q + 6) 1 1 0 1 (some 1)]] rfl rfl (zd7 (ys := []) zar rfl (fun x hx => by obtain rfl := y0e.1 hx; rfl)) (fun h => Nat.noConfusion h) rfl (by decide) (by (repeat (first | rw [za0, if_neg (by omega)] | rw [za0, if_pos rfl] | rw [za2, if_neg (by omega)] | rw [za2, if_pos rfl])); try rfl) rfl (by show _ + 1 ≤ _; omega) ?_
  refine za1 rfl (zai (zb7 (zaa (za5 rfl (zb6 (op := .add) rfl rfl rfl (za1 rfl (zai ?_)))))))
  exact zav (show 1 - (0 + 1) < 1 - 0 by decide) (sq (zaj q (6 + 0)) (lvF [b0] [(some (5, 3), [.ms 6 0 1 0 1 (some 1)]), (some (q + (6 + 0), 1), [.int .i64 (zj1 b0)])]) [] rfl rfl rfl rfl .nil (zfg rfl rfl rfl rfl rfl (.cons rfl (.cons (.ms rfl) .nil) (.cons (by (repeat (first | rw [za0, if_neg (by omega)] | rw [za0, if_pos rfl] | rw [za2, if_neg (by omega)] | rw [za2, if_pos rfl])); try rfl) (.keep rfl) .nil)))
   (l' := (b18 f n l i sk w 1 [(13, .ms 5 0 1 0 (0 + 1) none), (45, .ms 4 0 1 0 1 (some 1)), (46, .int .i64 1), (47, .int .i64 ((0 + 1 : Nat) : Int))])) (zh7 rfl rfl rfl rfl rfl rfl rfl rfl rfl rfl rfl rfl rfl rfl rfl rfl rfl (.cons rfl (.ms rfl) (.cons rfl (.ms rfl) (.cons rfl (.same rfl) (.cons rfl (.same rfl) .nil)))))) ⟨0 + 1, rfl, by decide, rfl⟩
 ·refine zsr rfl (zci rfl rfl rfl (onu (za8 (zb8 rfl (zbm (zao ?_))))))
  refine zcn (zbl (zaa ?_))
  exact zf0 (zan (.cons rfl (.cons rfl (.cons rfl (.cons rfl (.cons rfl (.cons rfl (.cons rfl (.cons rfl (.cons rfl (.cons rfl (.cons rfl (.cons rfl (.cons rfl .nil)))))))))))))) fin
set_option maxHeartbeats 4000000 in
theorem loopA2 (f : List Ex) (n : Int) (l : List Sp) (i : Nat) (sk : List Sk) (w : Int) (b0 b1 : Bool) (q : Nat) {y : IC}
  (fin : Zm Try.prog w0 N0 none y (st 97 (b18 f n l i sk w 2 [(13, .ms 5 0 1 0 2 none)]) (zc5 0 (zk3 [b0, b1] (chA [b0, b1]) (List.replicate 2 (some 1))) ++ zc8 (6 + 2) q) (q + (6 + 2)) 1 (zdz (6 + 2) q)) k Q) :
  Zm Try.prog w0 N0 none (.loop zlx) (st 97 (b18 f n l i sk w 2 [(13, .ms 5 0 1 0 0 none), (45, .ms 4 0 1 0 2 (some 2)), (46, .int .i64 2), (47, .int .i64 ((0 : Nat) : Int))]) (zc5 0 (zk3 [b0, b1] ((chA [b0, b1]).take 0) (List.replicate 0 (some 1))) ++ zc8 (6 + 0) q) (q + (6 + 0)) 1 (zdz (6 + 0) q)) (.blk 2 :: .seq y :: k) Q := by
 refine zbu (fun mm S => ∃ j, mm = 2 - j ∧ j ≤ 2 ∧ S = st 97 (b18 f n l i sk w 2 [(13, .ms 5 0 1 0 j none), (45, .ms 4 0 1 0 2 (some 2)), (46, .int .i64 2), (47, .int .i64 ((j : Nat) : Int))]) (zc5 0 (zk3 [b0, b1] ((chA [b0, b1]).take j) (List.replicate j (some 1))) ++ zc8 (6 + j) q) (q + (6 + j)) 1 (zdz (6 + j) q)) 2
  (zan (.cons rfl (.cons rfl (.cons rfl (.cons rfl (.cons rfl (.cons rfl (.cons rfl (.cons rfl (.cons rfl (.cons rfl (.cons rfl (.cons rfl (.cons rfl (.cons rfl (.cons rfl (.cons rfl .nil))))))))))))))))) ⟨0, rfl, y0t _, rfl⟩ ?_
 rintro mm S ⟨j, rfl, hj, rfl⟩
 unfold zlx
 rcases (show j = 0 ∨ j = 1 ∨ j = 2 by omega) with rfl | rfl | rfl
 ·repeat (first | refine za8 ?_ | refine za5 rfl ?_ | refine zai ?_ | refine zaa ?_ | refine zac ?_ | refine zab ?_ | refine zb4 rfl ?_ | refine za1 rfl ?_ | refine za7 rfl rfl ?_ | refine zch rfl rfl ?_ | refine zby rfl rfl rfl ?_ | refine zb3 rfl rfl (by omega) (by omega) ?_)
  refine zbf [[.ms (q + 6) 1 1 0 1 (some 1)]] rfl rfl (zd7 (ys := []) zar rfl (fun x hx => by obtain rfl := y0e.1 hx; rfl)) (fun h => Nat.noConfusion h) rfl (by decide) (by (repeat (first | rw [za0, if_neg (by omega)] | rw [za0, if_pos rfl] | rw [za2, if_neg (by omega)] | rw [za2, if_pos rfl])); try rfl) rfl (by show _ + 1 ≤ _; omega) ?_
  refine za1 rfl (zai (zb7 (zaa (za5 rfl (zb6 (op := .add) rfl rfl rfl (za1 rfl (zai ?_)))))))
  exact zav (show 2 - (0 + 1) < 2 - 0 by decide) (sq (zaj q (6 + 0)) (lvF [b0, b1] [(some (5, 3), [.ms 6 0 1 0 1 (some 1)]), (some (q + (6 + 0), 1), [.int .i64 (zj1 b0)])]) [] rfl rfl rfl rfl .nil (zfg rfl rfl rfl rfl rfl (.cons rfl (.cons (.ms rfl) .nil) (.cons (by (repeat (first | rw [za0, if_neg (by omega)] | rw [za0, if_pos rfl] | rw [za2, if_neg (by omega)] | rw [za2, if_pos rfl])); try rfl) (.keep rfl) .nil)))
   (l' := (b18 f n l i sk w 2 [(13, .ms 5 0 1 0 (0 + 1) none), (45, .ms 4 0 1 0 2 (some 2)), (46, .int .i64 2), (47, .int .i64 ((0 + 1 : Nat) : Int))])) (zh7 rfl rfl rfl rfl rfl rfl rfl rfl rfl rfl rfl rfl rfl rfl rfl rfl rfl (.cons rfl (.ms rfl) (.cons rfl (.ms rfl) (.cons rfl (.same rfl) (.cons rfl (.same rfl) .nil)))))) ⟨0 + 1, rfl, by decide, rfl⟩
 ·repeat (first | refine za8 ?_ | refine za5 rfl ?_ | refine zai ?_ | refine zaa ?_ | refine zac ?_ | refine zab ?_ | refine zb4 rfl ?_ | refine za1 rfl ?_ | refine za7 rfl rfl ?_ | refine zch rfl rfl ?_ | refine zby rfl rfl rfl ?_ | refine zb3 rfl rfl (by omega) (by omega) ?_)
  refine zbf [[.ms (q + 7) 1 1 0 1 (some 1)]] rfl rfl (zd7 (ys := []) zar rfl (fun x hx => by obtain rfl := y0e.1 hx; rfl)) (fun h => Nat.noConfusion h) rfl (by decide) (by (repeat (first | rw [za0, if_neg (by omega)] | rw [za0, if_pos rfl] | rw [za2, if_neg (by omega)] | rw [za2, if_pos rfl])); try rfl) rfl (by show _ + 1 ≤ _; omega) ?_
  refine za1 rfl (zai (zb7 (zaa (za5 rfl (zb6 (op := .add) rfl rfl rfl (za1 rfl (zai ?_)))))))
  exact zav (show 2 - (1 + 1) < 2 - 1 by decide) (sq (zaj q (6 + 1)) (lvF [b0, b1] [(some (5, 3), [.ms 6 0 1 0 1 (some 1), .ms 7 0 1 0 1 (some 1)]), (some (6, 0), [.int .i64 (zj1 b0)]), (some (q + (6 + 1), 1), [.int .i64 (zj1 b1)])]) [] rfl rfl rfl rfl .nil (zfg rfl rfl rfl rfl rfl (.cons rfl (.cons (.ms rfl) (.cons (.ms rfl) .nil)) (.cons rfl (.keep rfl) (.cons (by (repeat (first | rw [za0, if_neg (by omega)] | rw [za0, if_pos rfl] | rw [za2, if_neg (by omega)] | rw [za2, if_pos rfl])); try rfl) (.keep rfl) .nil))))
   (l' := (b18 f n l i sk w 2 [(13, .ms 5 0 1 0 (1 + 1) none), (45, .ms 4 0 1 0 2 (some 2)), (46, .int .i64 2), (47, .int .i64 ((1 + 1 : Nat) : Int))])) (zh7 rfl rfl rfl rfl rfl rfl rfl rfl rfl rfl rfl rfl rfl rfl rfl rfl rfl (.cons rfl (.ms rfl) (.cons rfl (.ms rfl) (.cons rfl (.same rfl) (.cons rfl (.same rfl) .nil)))))) ⟨1 + 1, rfl, by decide, rfl⟩
 ·refine zsr rfl (zci rfl rfl rfl (onu (za8 (zb8 rfl (zbm (zao ?_))))))
  refine zcn (zbl (zaa ?_))
  exact zf0 (zan (.cons rfl (.cons rfl (.cons rfl (.cons rfl (.cons rfl (.cons rfl (.cons rfl (.cons rfl (.cons rfl (.cons rfl (.cons rfl (.cons rfl (.cons rfl .nil)))))))))))))) fin
set_option maxHeartbeats 4000000 in
theorem loopA3 (f : List Ex) (n : Int) (l : List Sp) (i : Nat) (sk : List Sk) (w : Int) (b0 b1 b2 : Bool) (q : Nat) {y : IC}
  (fin : Zm Try.prog w0 N0 none y (st 97 (b18 f n l i sk w 3 [(13, .ms 5 0 1 0 3 none)]) (zc5 0 (zk3 [b0, b1, b2] (chA [b0, b1, b2]) (List.replicate 3 (some 1))) ++ zc8 (6 + 3) q) (q + (6 + 3)) 1 (zdz (6 + 3) q)) k Q) :
  Zm Try.prog w0 N0 none (.loop zlx) (st 97 (b18 f n l i sk w 3 [(13, .ms 5 0 1 0 0 none), (45, .ms 4 0 1 0 3 (some 3)), (46, .int .i64 3), (47, .int .i64 ((0 : Nat) : Int))]) (zc5 0 (zk3 [b0, b1, b2] ((chA [b0, b1, b2]).take 0) (List.replicate 0 (some 1))) ++ zc8 (6 + 0) q) (q + (6 + 0)) 1 (zdz (6 + 0) q)) (.blk 2 :: .seq y :: k) Q := by
 refine zbu (fun mm S => ∃ j, mm = 3 - j ∧ j ≤ 3 ∧ S = st 97 (b18 f n l i sk w 3 [(13, .ms 5 0 1 0 j none), (45, .ms 4 0 1 0 3 (some 3)), (46, .int .i64 3), (47, .int .i64 ((j : Nat) : Int))]) (zc5 0 (zk3 [b0, b1, b2] ((chA [b0, b1, b2]).take j) (List.replicate j (some 1))) ++ zc8 (6 + j) q) (q + (6 + j)) 1 (zdz (6 + j) q)) 3
  (zan (.cons rfl (.cons rfl (.cons rfl (.cons rfl (.cons rfl (.cons rfl (.cons rfl (.cons rfl (.cons rfl (.cons rfl (.cons rfl (.cons rfl (.cons rfl (.cons rfl (.cons rfl (.cons rfl .nil))))))))))))))))) ⟨0, rfl, y0t _, rfl⟩ ?_
 rintro mm S ⟨j, rfl, hj, rfl⟩
 unfold zlx
 rcases (show j = 0 ∨ j = 1 ∨ j = 2 ∨ j = 3 by omega) with rfl | rfl | rfl | rfl
 ·repeat (first | refine za8 ?_ | refine za5 rfl ?_ | refine zai ?_ | refine zaa ?_ | refine zac ?_ | refine zab ?_ | refine zb4 rfl ?_ | refine za1 rfl ?_ | refine za7 rfl rfl ?_ | refine zch rfl rfl ?_ | refine zby rfl rfl rfl ?_ | refine zb3 rfl rfl (by omega) (by omega) ?_)
  refine zbf [[.ms (q + 6) 1 1 0 1 (some 1)]] rfl rfl (zd7 (ys := []) zar rfl (fun x hx => by obtain rfl := y0e.1 hx; rfl)) (fun h => Nat.noConfusion h) rfl (by decide) (by (repeat (first | rw [za0, if_neg (by omega)] | rw [za0, if_pos rfl] | rw [za2, if_neg (by omega)] | rw [za2, if_pos rfl])); try rfl) rfl (by show _ + 1 ≤ _; omega) ?_
  refine za1 rfl (zai (zb7 (zaa (za5 rfl (zb6 (op := .add) rfl rfl rfl (za1 rfl (zai ?_)))))))
  exact zav (show 3 - (0 + 1) < 3 - 0 by decide) (sq (zaj q (6 + 0)) (lvF [b0, b1, b2] [(some (5, 3), [.ms 6 0 1 0 1 (some 1)]), (some (q + (6 + 0), 1), [.int .i64 (zj1 b0)])]) [] rfl rfl rfl rfl .nil (zfg rfl rfl rfl rfl rfl (.cons rfl (.cons (.ms rfl) .nil) (.cons (by (repeat (first | rw [za0, if_neg (by omega)] | rw [za0, if_pos rfl] | rw [za2, if_neg (by omega)] | rw [za2, if_pos rfl])); try rfl) (.keep rfl) .nil)))
   (l' := (b18 f n l i sk w 3 [(13, .ms 5 0 1 0 (0 + 1) none), (45, .ms 4 0 1 0 3 (some 3)), (46, .int .i64 3), (47, .int .i64 ((0 + 1 : Nat) : Int))])) (zh7 rfl rfl rfl rfl rfl rfl rfl rfl rfl rfl rfl rfl rfl rfl rfl rfl rfl (.cons rfl (.ms rfl) (.cons rfl (.ms rfl) (.cons rfl (.same rfl) (.cons rfl (.same rfl) .nil)))))) ⟨0 + 1, rfl, by decide, rfl⟩
 ·repeat (first | refine za8 ?_ | refine za5 rfl ?_ | refine zai ?_ | refine zaa ?_ | refine zac ?_ | refine zab ?_ | refine zb4 rfl ?_ | refine za1 rfl ?_ | refine za7 rfl rfl ?_ | refine zch rfl rfl ?_ | refine zby rfl rfl rfl ?_ | refine zb3 rfl rfl (by omega) (by omega) ?_)
  refine zbf [[.ms (q + 7) 1 1 0 1 (some 1)]] rfl rfl (zd7 (ys := []) zar rfl (fun x hx => by obtain rfl := y0e.1 hx; rfl)) (fun h => Nat.noConfusion h) rfl (by decide) (by (repeat (first | rw [za0, if_neg (by omega)] | rw [za0, if_pos rfl] | rw [za2, if_neg (by omega)] | rw [za2, if_pos rfl])); try rfl) rfl (by show _ + 1 ≤ _; omega) ?_
  refine za1 rfl (zai (zb7 (zaa (za5 rfl (zb6 (op := .add) rfl rfl rfl (za1 rfl (zai ?_)))))))
  exact zav (show 3 - (1 + 1) < 3 - 1 by decide) (sq (zaj q (6 + 1)) (lvF [b0, b1, b2] [(some (5, 3), [.ms 6 0 1 0 1 (some 1), .ms 7 0 1 0 1 (some 1)]), (some (6, 0), [.int .i64 (zj1 b0)]), (some (q + (6 + 1), 1), [.int .i64 (zj1 b1)])]) [] rfl rfl rfl rfl .nil (zfg rfl rfl rfl rfl rfl (.cons rfl (.cons (.ms rfl) (.cons (.ms rfl) .nil)) (.cons rfl (.keep rfl) (.cons (by (repeat (first | rw [za0, if_neg (by omega)] | rw [za0, if_pos rfl] | rw [za2, if_neg (by omega)] | rw [za2, if_pos rfl])); try rfl) (.keep rfl) .nil))))
   (l' := (b18 f n l i sk w 3 [(13, .ms 5 0 1 0 (1 + 1) none), (45, .ms 4 0 1 0 3 (some 3)), (46, .int .i64 3), (47, .int .i64 ((1 + 1 : Nat) : Int))])) (zh7 rfl rfl rfl rfl rfl rfl rfl rfl rfl rfl rfl rfl rfl rfl rfl rfl rfl (.cons rfl (.ms rfl) (.cons rfl (.ms rfl) (.cons rfl (.same rfl) (.cons rfl (.same rfl) .nil)))))) ⟨1 + 1, rfl, by decide, rfl⟩
 ·repeat (first | refine za8 ?_ | refine za5 rfl ?_ | refine zai ?_ | refine zaa ?_ | refine zac ?_ | refine zab ?_ | refine zb4 rfl ?_ | refine za1 rfl ?_ | refine za7 rfl rfl ?_ | refine zch rfl rfl ?_ | refine zby rfl rfl rfl ?_ | refine zb3 rfl rfl (by omega) (by omega) ?_)
  refine zbf [[.ms (q + 8) 1 1 0 1 (some 1)]] rfl rfl (zd7 (ys := []) zar rfl (fun x hx => by obtain rfl := y0e.1 hx; rfl)) (fun h => Nat.noConfusion h) rfl (by decide) (by (repeat (first | rw [za0, if_neg (by omega)] | rw [za0, if_pos rfl] | rw [za2, if_neg (by omega)] | rw [za2, if_pos rfl])); try rfl) rfl (by show _ + 1 ≤ _; omega) ?_
  refine za1 rfl (zai (zb7 (zaa (za5 rfl (zb6 (op := .add) rfl rfl rfl (za1 rfl (zai ?_)))))))
  exact zav (show 3 - (2 + 1) < 3 - 2 by decide) (sq (zaj q (6 + 2)) (lvF [b0, b1, b2] [(some (5, 3), [.ms 6 0 1 0 1 (some 1), .ms 7 0 1 0 1 (some 1), .ms 8 0 1 0 1 (some 1)]), (some (6, 0), [.int .i64 (zj1 b0)]), (some (7, 0), [.int .i64 (zj1 b1)]), (some (q + (6 + 2), 1), [.int .i64 (zj1 b2)])]) [] rfl rfl rfl rfl .nil (zfg rfl rfl rfl rfl rfl (.cons rfl (.cons (.ms rfl) (.cons (.ms rfl) (.cons (.ms rfl) .nil))) (.cons rfl (.keep rfl) (.cons rfl (.keep rfl) (.cons (by (repeat (first | rw [za0, if_neg (by omega)] | rw [za0, if_pos rfl] | rw [za2, if_neg (by omega)] | rw [za2, if_pos rfl])); try rfl) (.keep rfl) .nil)))))
   (l' := (b18 f n l i sk w 3 [(13, .ms 5 0 1 0 (2 + 1) none), (45, .ms 4 0 1 0 3 (some 3)), (46, .int .i64 3), (47, .int .i64 ((2 + 1 : Nat) : Int))])) (zh7 rfl rfl rfl rfl rfl rfl rfl rfl rfl rfl rfl rfl rfl rfl rfl rfl rfl (.cons rfl (.ms rfl) (.cons rfl (.ms rfl) (.cons rfl (.same rfl) (.cons rfl (.same rfl) .nil)))))) ⟨2 + 1, rfl, by decide, rfl⟩
 ·refine zsr rfl (zci rfl rfl rfl (onu (za8 (zb8 rfl (zbm (zao ?_))))))
  refine zcn (zbl (zaa ?_))
  exact zf0 (zan (.cons rfl (.cons rfl (.cons rfl (.cons rfl (.cons rfl (.cons rfl (.cons rfl (.cons rfl (.cons rfl (.cons rfl (.cons rfl (.cons rfl (.cons rfl .nil)))))))))))))) fin
set_option maxHeartbeats 4000000 in
theorem loopA4 (f : List Ex) (n : Int) (l : List Sp) (i : Nat) (sk : List Sk) (w : Int) (b0 b1 b2 b3 : Bool) (q : Nat) {y : IC}
  (fin : Zm Try.prog w0 N0 none y (st 97 (b18 f n l i sk w 4 [(13, .ms 5 0 1 0 4 none)]) (zc5 0 (zk3 [b0, b1, b2, b3] (chA [b0, b1, b2, b3]) (List.replicate 4 (some 1))) ++ zc8 (6 + 4) q) (q + (6 + 4)) 1 (zdz (6 + 4) q)) k Q) :
  Zm Try.prog w0 N0 none (.loop zlx) (st 97 (b18 f n l i sk w 4 [(13, .ms 5 0 1 0 0 none), (45, .ms 4 0 1 0 4 (some 4)), (46, .int .i64 4), (47, .int .i64 ((0 : Nat) : Int))]) (zc5 0 (zk3 [b0, b1, b2, b3] ((chA [b0, b1, b2, b3]).take 0) (List.replicate 0 (some 1))) ++ zc8 (6 + 0) q) (q + (6 + 0)) 1 (zdz (6 + 0) q)) (.blk 2 :: .seq y :: k) Q := by
 refine zbu (fun mm S => ∃ j, mm = 4 - j ∧ j ≤ 4 ∧ S = st 97 (b18 f n l i sk w 4 [(13, .ms 5 0 1 0 j none), (45, .ms 4 0 1 0 4 (some 4)), (46, .int .i64 4), (47, .int .i64 ((j : Nat) : Int))]) (zc5 0 (zk3 [b0, b1, b2, b3] ((chA [b0, b1, b2, b3]).take j) (List.replicate j (some 1))) ++ zc8 (6 + j) q) (q + (6 + j)) 1 (zdz (6 + j) q)) 4
  (zan (.cons rfl (.cons rfl (.cons rfl (.cons rfl (.cons rfl (.cons rfl (.cons rfl (.cons rfl (.cons rfl (.cons rfl (.cons rfl (.cons rfl (.cons rfl (.cons rfl (.cons rfl (.cons rfl .nil))))))))))))))))) ⟨0, rfl, y0t _, rfl⟩ ?_
 rintro mm S ⟨j, rfl, hj, rfl⟩
 unfold zlx
 rcases (show j = 0 ∨ j = 1 ∨ j = 2 ∨ j = 3 ∨ j = 4 by omega) with rfl | rfl | rfl | rfl | rfl
 ·repeat (first | refine za8 ?_ | refine za5 rfl ?_ | refine zai ?_ | refine zaa ?_ | refine zac ?_ | refine zab ?_ | refine zb4 rfl ?_ | refine za1 rfl ?_ | refine za7 rfl rfl ?_ | refine zch rfl rfl ?_ | refine zby rfl rfl rfl ?_ | refine zb3 rfl rfl (by omega) (by omega) ?_)
  refine zbf [[.ms (q + 6) 1 1 0 1 (some 1)]] rfl rfl (zd7 (ys := []) zar rfl (fun x hx => by obtain rfl := y0e.1 hx; rfl)) (fun h => Nat.noConfusion h) rfl (by decide) (by (repeat (first | rw [za0, if_neg (by omega)] | rw [za0, if_pos rfl] | rw [za2, if_neg (by omega)] | rw [za2, if_pos rfl])); try rfl) rfl (by show _ + 1 ≤ _; omega) ?_
  refine za1 rfl (zai (zb7 (zaa (za5 rfl (zb6 (op := .add) rfl rfl rfl (za1 rfl (zai ?_)))))))
  exact zav (show 4 - (0 + 1) < 4 - 0 by decide) (sq (zaj q (6 + 0)) (lvF [b0, b1, b2, b3] [(some (5, 3), [.ms 6 0 1 0 1 (some 1)]), (some (q + (6 + 0), 1), [.int .i64 (zj1 b0)])]) [] rfl rfl rfl rfl .nil (zfg rfl rfl rfl rfl rfl (.cons rfl (.cons (.ms rfl) .nil) (.cons (by (repeat (first | rw [za0, if_neg (by omega)] | rw [za0, if_pos rfl] | rw [za2, if_neg (by omega)] | rw [za2, if_pos rfl])); try rfl) (.keep rfl) .nil)))
   (l' := (b18 f n l i sk w 4 [(13, .ms 5 0 1 0 (0 + 1) none), (45, .ms 4 0 1 0 4 (some 4)), (46, .int .i64 4), (47, .int .i64 ((0 + 1 : Nat) : Int))])) (zh7 rfl rfl rfl rfl rfl rfl rfl rfl rfl rfl rfl rfl rfl rfl rfl rfl rfl (.cons rfl (.ms rfl) (.cons rfl (.ms rfl) (.cons rfl (.same rfl) (.cons rfl (.same rfl) .nil)))))) ⟨0 + 1, rfl, by decide, rfl⟩
 ·repeat (first | refine za8 ?_ | refine za5 rfl ?_ | refine zai ?_ | refine zaa ?_ | refine zac ?_ | refine zab ?_ | refine zb4 rfl ?_ | refine za1 rfl ?_ | refine za7 rfl rfl ?_ | refine zch rfl rfl ?_ | refine zby rfl rfl rfl ?_ | refine zb3 rfl rfl (by omega) (by omega) ?_)
  refine zbf [[.ms (q + 7) 1 1 0 1 (some 1)]] rfl rfl (zd7 (ys := []) zar rfl (fun x hx => by obtain rfl := y0e.1 hx; rfl)) (fun h => Nat.noConfusion h) rfl (by decide) (by (repeat (first | rw [za0, if_neg (by omega)] | rw [za0, if_pos rfl] | rw [za2, if_neg (by omega)] | rw [za2, if_pos rfl])); try rfl) rfl (by show _ + 1 ≤ _; omega) ?_
  refine za1 rfl (zai (zb7 (zaa (za5 rfl (zb6 (op := .add) rfl rfl rfl (za1 rfl (zai ?_)))))))
  exact zav (show 4 - (1 + 1) < 4 - 1 by decide) (sq (zaj q (6 + 1)) (lvF [b0, b1, b2, b3] [(some (5, 3), [.ms 6 0 1 0 1 (some 1), .ms 7 0 1 0 1 (some 1)]), (some (6, 0), [.int .i64 (zj1 b0)]), (some (q + (6 + 1), 1), [.int .i64 (zj1 b1)])]) [] rfl rfl rfl rfl .nil (zfg rfl rfl rfl rfl rfl (.cons rfl (.cons (.ms rfl) (.cons (.ms rfl) .nil)) (.cons rfl (.keep rfl) (.cons (by (repeat (first | rw [za0, if_neg (by omega)] | rw [za0, if_pos rfl] | rw [za2, if_neg (by omega)] | rw [za2, if_pos rfl])); try rfl) (.keep rfl) .nil))))
   (l' := (b18 f n l i sk w 4 [(13, .ms 5 0 1 0 (1 + 1) none), (45, .ms 4 0 1 0 4 (some 4)), (46, .int .i64 4), (47, .int .i64 ((1 + 1 : Nat) : Int))])) (zh7 rfl rfl rfl rfl rfl rfl rfl rfl rfl rfl rfl rfl rfl rfl rfl rfl rfl (.cons rfl (.ms rfl) (.cons rfl (.ms rfl) (.cons rfl (.same rfl) (.cons rfl (.same rfl) .nil)))))) ⟨1 + 1, rfl, by decide, rfl⟩
 ·repeat (first | refine za8 ?_ | refine za5 rfl ?_ | refine zai ?_ | refine zaa ?_ | refine zac ?_ | refine zab ?_ | refine zb4 rfl ?_ | refine za1 rfl ?_ | refine za7 rfl rfl ?_ | refine zch rfl rfl ?_ | refine zby rfl rfl rfl ?_ | refine zb3 rfl rfl (by omega) (by omega) ?_)
  refine zbf [[.ms (q + 8) 1 1 0 1 (some 1)]] rfl rfl (zd7 (ys := []) zar rfl (fun x hx => by obtain rfl := y0e.1 hx; rfl)) (fun h => Nat.noConfusion h) rfl (by decide) (by (repeat (first | rw [za0, if_neg (by omega)] | rw [za0, if_pos rfl] | rw [za2, if_neg (by omega)] | rw [za2, if_pos rfl])); try rfl) rfl (by show _ + 1 ≤ _; omega) ?_
  refine za1 rfl (zai (zb7 (zaa (za5 rfl (zb6 (op := .add) rfl rfl rfl (za1 rfl (zai ?_)))))))
  exact zav (show 4 - (2 + 1) < 4 - 2 by decide) (sq (zaj q (6 + 2)) (lvF [b0, b1, b2, b3] [(some (5, 3), [.ms 6 0 1 0 1 (some 1), .ms 7 0 1 0 1 (some 1), .ms 8 0 1 0 1 (some 1)]), (some (6, 0), [.int .i64 (zj1 b0)]), (some (7, 0), [.int .i64 (zj1 b1)]), (some (q + (6 + 2), 1), [.int .i64 (zj1 b2)])]) [] rfl rfl rfl rfl .nil (zfg rfl rfl rfl rfl rfl (.cons rfl (.cons (.ms rfl) (.cons (.ms rfl) (.cons (.ms rfl) .nil))) (.cons rfl (.keep rfl) (.cons rfl (.keep rfl) (.cons (by (repeat (first | rw [za0, if_neg (by omega)] | rw [za0, if_pos rfl] | rw [za2, if_neg (by omega)] | rw [za2, if_pos rfl])); try rfl) (.keep rfl) .nil)))))
   (l' := (b18 f n l i sk w 4 [(13, .ms 5 0 1 0 (2 + 1) none), (45, .ms 4 0 1 0 4 (some 4)), (46, .int .i64 4), (47, .int .i64 ((2 + 1 : Nat) : Int))])) (zh7 rfl rfl rfl rfl rfl rfl rfl rfl rfl rfl rfl rfl rfl rfl rfl rfl rfl (.cons rfl (.ms rfl) (.cons rfl (.ms rfl) (.cons rfl (.same rfl) (.cons rfl (.same rfl) .nil)))))) ⟨2 + 1, rfl, by decide, rfl⟩
 ·repeat (first | refine za8 ?_ | refine za5 rfl ?_ | refine zai ?_ | refine zaa ?_ | refine zac ?_ | refine zab ?_ | refine zb4 rfl ?_ | refine za1 rfl ?_ | refine za7 rfl rfl ?_ | refine zch rfl rfl ?_ | refine zby rfl rfl rfl ?_ | refine zb3 rfl rfl (by omega) (by omega) ?_)
  refine zbf [[.ms (q + 9) 1 1 0 1 (some 1)]] rfl rfl (zd7 (ys := []) zar rfl (fun x hx => by obtain rfl := y0e.1 hx; rfl)) (fun h => Nat.noConfusion h) rfl (by decide) (by (repeat (first | rw [za0, if_neg (by omega)] | rw [za0, if_pos rfl] | rw [za2, if_neg (by omega)] | rw [za2, if_pos rfl])); try rfl) rfl (by show _ + 1 ≤ _; omega) ?_
  refine za1 rfl (zai (zb7 (zaa (za5 rfl (zb6 (op := .add) rfl rfl rfl (za1 rfl (zai ?_)))))))
  exact zav (show 4 - (3 + 1) < 4 - 3 by decide) (sq (zaj q (6 + 3)) (lvF [b0, b1, b2, b3] [(some (5, 3), [.ms 6 0 1 0 1 (some 1), .ms 7 0 1 0 1 (some 1), .ms 8 0 1 0 1 (some 1), .ms 9 0 1 0 1 (some 1)]), (some (6, 0), [.int .i64 (zj1 b0)]), (some (7, 0), [.int .i64 (zj1 b1)]), (some (8, 0), [.int .i64 (zj1 b2)]), (some (q + (6 + 3), 1), [.int .i64 (zj1 b3)])]) [] rfl rfl rfl rfl .nil (zfg rfl rfl rfl rfl rfl (.cons rfl (.cons (.ms rfl) (.cons (.ms rfl) (.cons (.ms rfl) (.cons (.ms rfl) .nil)))) (.cons rfl (.keep rfl) (.cons rfl (.keep rfl) (.cons rfl (.keep rfl) (.cons (by (repeat (first | rw [za0, if_neg (by omega)] | rw [za0, if_pos rfl] | rw [za2, if_neg (by omega)] | rw [za2, if_pos rfl])); try rfl) (.keep rfl) .nil))))))
   (l' := (b18 f n l i sk w 4 [(13, .ms 5 0 1 0 (3 + 1) none), (45, .ms 4 0 1 0 4 (some 4)), (46, .int .i64 4), (47, .int .i64 ((3 + 1 : Nat) : Int))])) (zh7 rfl rfl rfl rfl rfl rfl rfl rfl rfl rfl rfl rfl rfl rfl rfl rfl rfl (.cons rfl (.ms rfl) (.cons rfl (.ms rfl) (.cons rfl (.same rfl) (.cons rfl (.same rfl) .nil)))))) ⟨3 + 1, rfl, by decide, rfl⟩
 ·refine zsr rfl (zci rfl rfl rfl (onu (za8 (zb8 rfl (zbm (zao ?_))))))
  refine zcn (zbl (zaa ?_))
  exact zf0 (zan (.cons rfl (.cons rfl (.cons rfl (.cons rfl (.cons rfl (.cons rfl (.cons rfl (.cons rfl (.cons rfl (.cons rfl (.cons rfl (.cons rfl (.cons rfl .nil)))))))))))))) fin
end
end Go.Proofs.Ytoiblgbaeglgoaa
