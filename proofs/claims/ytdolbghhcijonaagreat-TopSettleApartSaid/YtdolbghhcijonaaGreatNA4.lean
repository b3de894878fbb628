/-
  AN ABSTRACT MACHINE FOR PROOFS, PART 4. A general base for proofs: no program is named here.
-/
import Derived.Test.YtdolbghhcijonaaGreatNA3
namespace Go.Am
open Go Go.RowKit
mutual
def AV.beq : AV -> AV -> Bool
 | .top, .top => true
 | .bool a, .bool b => a == b
 | .int k n, .int k' n' => decide (k = k') && decide (n = n')
 | .str s, .str t => decide (s = t)
 | .nilp, .nilp => true
 | .vptr a, .vptr b => ztm a b
 | .mptr a b c, .mptr a' b' c' => a == a' && b == b' && c == c'
 | .nils, .nils => true
 | .vs a, .vs b => zso a b
 | .ms a b c d e f, .ms a' b' c' d' e' f' => a == a' && b == b' && c == c' && d == d' && e == e' && decide (f = f')
 | .fn f a b, .fn f' a' b' => decide (f = f') && ztm a a' && ztm b b'
 | .yield a b, .yield a' b' => a == a' && b == b'
 | .nilf, .nilf => true
 | .agg a, .agg b => ztm a b
 | .tup a, .tup b => ztm a b
 | .mapv a b, .mapv a' b' => a == a' && b == b'
 | .rng k a b, .rng k' a' b' => decide (k = k') && decide (a = a') && decide (b = b')
 | .ints k l, .ints k' l' => decide (k = k') && decide (l = l')
 | .strA n a b, .strA n' a' b' => decide (n = n') && a == a' && b == b'
 | _, _ => false
def ztm : List AV -> List AV -> Bool
 | [], [] => true
 | a :: l, b :: m => AV.beq a b && ztm l m
 | _, _ => false
def zso : List (List AV) -> List (List AV) -> Bool
 | [], [] => true
 | a :: l, b :: m => ztm a b && zso l m
 | _, _ => false
end
mutual
theorem AV.eq_of_beq : ∀ (a b : AV), AV.beq a b = true -> a = b := fun a b h => by
 cases a <;> cases b <;> simp only [AV.beq, y0g, beq_iff_eq, decide_eq_true_eq, y0t] at h
 all_goals first
  | rfl
  | (subst h; rfl)
  | (obtain ⟨rfl, rfl⟩ := h; rfl)
  | (obtain ⟨⟨rfl, rfl⟩, rfl⟩ := h; rfl)
  | (obtain ⟨⟨⟨⟨⟨rfl, rfl⟩, rfl⟩, rfl⟩, rfl⟩, rfl⟩ := h; rfl)
  | skip
 case vptr a b => rw [zd1 a b h]
 case vs a b => rw [zjs a b h]
 case fn f a b f' a' b' => obtain ⟨⟨rfl, h1⟩, h2⟩ := h; rw [zd1 _ _ h1, zd1 _ _ h2]
 case agg a b => rw [zd1 a b h]
 case tup a b => rw [zd1 a b h]
theorem zd1 : ∀ (a b : List AV), ztm a b = true -> a = b
 | [], [], _ => rfl
 | a :: l, b :: m, h => by
  simp only [ztm, y0g] at h;rw [AV.eq_of_beq a b h.1, zd1 l m h.2]
 | [], _ :: _, h => by simp [ztm] at h
 | _ :: _, [], h => by simp [ztm] at h
theorem zjs : ∀ (a b : List (List AV)), zso a b = true -> a = b
 | [], [], _ => rfl
 | a :: l, b :: m, h => by
  simp only [zso, y0g] at h;rw [zd1 a b h.1, zjs l m h.2]
 | [], _ :: _, h => by simp [zso] at h
 | _ :: _, [], h => by simp [zso] at h
end
def zda : IOp -> Bool
 | .alloc _ | .box _ | .bslice .. | .store .. | .mkslice .. | .append .. | .appendz .. | .copy .. | .clear .. | .mkmap | .mapset .. | .boxT .. | .peq .. | .uptr .. | .ustr .. | .appendT .. | .call .. => true
 | _ => false
theorem zk8 {S S1 : AS} {op : IOp} {v : AV} (hl : zda op = false) (h : iop S op = some (v, S1)) : S1 = S := by
 cases op <;> simp only [zda, Bool.true_eq_false] at hl <;> simp only [iop] at h
 all_goals (repeat' (split at h)) <;> simp only [y03, y00, y0b, reduceCtorEq] at h
 all_goals first
   | (obtain ⟨_, rfl⟩ := h; rfl)
   | (obtain ⟨_, _, _, rfl⟩ := h; rfl)
structure FnI where
 size : Nat
 ic : IC
 res : List RA
structure Env where
 fn : FuncId -> Option FnI
 orc : FuncId -> List AV -> Option AV
 sum : FuncId -> List AV -> HS -> Option (AV × HS)
 pure : FuncId -> Bool
 known : FuncId -> Bool
 fuel : Nat
structure Rec where
 f : FuncId -> List AV -> HS -> Option (AV × HS)
 c : Option (Nat × Nat) -> IC -> AS -> Option (Exit × AS)
def zjd (P : Program) (R : Rec) : Prop :=
 (∀ f args H v H', R.f f args H = some (v, H') -> ∀ w0 N0, FT P w0 N0 f args H fun v1 H1 => v1 = v /\ H1 = H') /\
 (∀ rd ic S e S', R.c rd ic S = some (e, S') -> ∀ w0 N0, T P w0 N0 rd ic S fun e1 S1 => e1 = e /\ S1 = S')
structure EnvOk (P : Program) (E : Env) : Prop where
 fn : ∀ f i, E.fn f = some i -> ∃ fn code, P.funcs[f]? = some fn /\ fn.body = some code /\ zh5 P code = some i.ic /\ fn.ntmps = i.size /\ zff P fn.results.toList = some i.res /\ Ent P f
 orc : ∀ f args v, E.orc f args = some v -> PF P f args v
 sum : ∀ f args H v H', E.sum f args H = some (v, H') -> ∀ w0 N0, FT P w0 N0 f args H fun v1 H1 => v1 = v /\ H1 = H'
 mix : P.follows .mixedOrders = true
def zj3 (marks : List (Nat × Nat)) (hp : List (Nat × Nat × AObj)) : Bool :=
 marks.all fun m => match look m.1 hp with
  | some (st, .deferred) => st == m.2
  | _ => false
theorem zt1 {marks : List (Nat × Nat)} {hp : List (Nat × Nat × AObj)} (h : zj3 marks hp = true) : zco marks hp := by
 intro m hm;have := y0h.1 h m hm;split at this
 ·rename_i st hl; rw [hl]; simp at this; rw [this]
 ·cases this
def zdu (E : Env) (R : Rec) (S : AS) (fv : AV) (vs : List AV) : Option AV :=
 match fv with
 | .fn fid first cap => match E.orc fid ((first ++ vs ++ cap).map (S.view VD)) with
  | some v => if hasM.hasML (first ++ vs ++ cap) = false \/ flat v = true then some v else none
  | none => if E.pure fid = true then
    match R.f fid ((first ++ vs ++ cap).map (S.view VD)) ⟨[], 0, 0⟩ with
    | some (v0, H) => if hasM.hasML (first ++ vs ++ cap) = false \/ flat ((⟨0, .nil, H.heap, H.next, H.clk, []⟩ : AS).view VD v0) = true then some ((⟨0, .nil, H.heap, H.next, H.clk, []⟩ : AS).view VD v0) else none
    | none => none
   else none
 | _ => none
def zb2 (E : Env) (R : Rec) (S : AS) (io : Opr) : Option AV :=
 match io.op with
 | .call fa args => match S.arg fa, S.args args with
  | some fv, some vs => zdu E R S fv vs
  | _, _ => none
 | op => if zda op then none else (iop S op).map (·.1)
def zxi (P : Program) (R : Rec) (id st : Nat) (args : List AV) (H : HS) : Option (AV × HS) :=
 match look id H.heap with
 | some (st', .loop .ready none size tmps ps ca cb _) =>
  if st' = st /\ ps.length = args.length /\ ps.all (fun p => decide (p < size)) = true then
   match zh5 P ca, zh5 P cb with
   | some ia, some ib => match R.c (some (id, st)) ia (AS.round size tmps ps args H) with
    | some (.normal, S1) => match look id S1.heap with
     | some (st1, .loop .ready none size1 tmps1 ps1 ca1 cb1 df1) =>
      if st1 = st then match R.c (some (id, st)) ib { S1 with heap := zap id (st, .loop .busy none size1 tmps1 ps1 ca1 cb1 df1) S1.heap } with
       | some (e, S2) => match look id S2.heap with
        | some (st2, .loop .busy none size2 tmps2 ps2 ca2 cb2 df2) =>
         if st2 = st then match zri e with
          | some j => some (.bool j.isNone, ⟨zap id (st, .loop (if j.isNone then .ready else .done) j size2 tmps2 ps2 ca2 cb2 df2) S2.heap, S2.next, S2.clk⟩)
          | none => none
         else none
        | _ => none
       | none => none
      else none
     | _ => none
    | _ => none
   | _, _ => none
  else none
 | _ => none
def callV (P : Program) (R : Rec) (fv : AV) (vs : List AV) (H : HS) : Option (AV × HS) :=
 match fv with
 | .fn fid first cap => R.f fid (first ++ vs ++ cap) H
 | .yield id st => zxi P R id st vs H
 | _ => none
def zgp (P : Program) (R : Rec) (S : AS) (io : Opr) : Option (AV × HS) :=
 match io.op with
 | .call fa args => match S.arg fa, S.args args with
  | some fv, some vs => match callV P R fv vs S.hs with
   | some (v, H) => if zj3 S.marks H.heap then some (v, H) else none
   | none => none
  | _, _ => none
 | op => match iop S op with
  | some (v, S1) => some (v, S1.hs)
  | none => none
section
variable {P : Program} {w0 w : World} {N0 : Nat} {S S' S1 : AS} {rd : Option (Nat × Nat)} {Q : Exit -> AS -> Prop} {E : Env} {R : Rec} {io : Opr} {v : AV} {H : HS}
theorem zwi (hE : EnvOk P E) (hR : zjd P R) {fid : FuncId} {first cap vs : List AV} (h : zdu E R S (.fn fid first cap) vs = some v) :
  PF P fid ((first ++ vs ++ cap).map (S.view VD)) v /\ (hasM.hasML (first ++ vs ++ cap) = false \/ flat v = true) := by
 simp only [zdu] at h;split at h
 ·rename_i v' hv;split at h
  ·rename_i hc;simp only [y00] at h; subst h;exact ⟨hE.orc _ _ _ hv, hc⟩
  ·cases h
 ·split at h <;> try cases h
  split at h <;> try cases h
  rename_i v0 H0 hr;split at h <;> try cases h
  rename_i hc;exact ⟨PF_of_FT fun w0 N0 => (hR.1 _ _ _ _ _ hr w0 N0).mono fun v1 H1 ⟨e1, e2⟩ => by subst e1 e2; rfl, hc⟩
theorem zeb (hE : EnvOk P E) (hR : zjd P R) (h : zb2 E R S io = some v) : Stp P w0 N0 rd io S fun S2 v2 => v2 = v /\ S2 = S := by
 unfold zb2 at h;split at h
 ·rename_i fa args hop;split at h
  ·rename_i fv vs hf ha;cases fv with
   | fn fid first cap =>
    obtain ⟨h1, hc⟩ := zwi hE hR h;exact (Stp_pure hop hf ha h1 (fun hm => hc.resolve_left (by rw [hm]; simp))).mono fun S v ⟨e1, e2⟩ => ⟨e2, e1⟩
   | _ => simp [zdu] at h
  ·cases h
 ·split at h
  ·cases h
  ·rename_i hl;simp only [y03, Prod.exists, exists_and_right, exists_eq_right] at h;obtain ⟨S1, h1⟩ := h;obtain rfl := zk8 (by simpa using hl) h1;exact (zlc h1).mono fun S v ⟨e1, e2⟩ => ⟨e2, e1⟩
theorem zxj (hR : zjd P R) {id st : Nat} {args : List AV} {H' : HS} (h : zxi P R id st args H = some (v, H')) : CT P w0 N0 (.yield id st) args H fun v1 H1 => v1 = v /\ H1 = H' := by
 unfold zxi at h;split at h <;> try cases h
 rename_i st' size tmps ps ca cb df hl;split at h <;> try cases h
 rename_i hc;obtain ⟨rfl, hps, hlt⟩ := hc;split at h <;> try cases h
 rename_i ia ib hia hib;split at h <;> try cases h
 rename_i S1 hc1;split at h <;> try cases h
 rename_i st1 size1 tmps1 ps1 ca1 cb1 df1 hl1;split at h <;> try cases h
 rename_i e1; subst e1;split at h <;> try cases h
 rename_i e S2 hc2;split at h <;> try cases h
 rename_i st2 size2 tmps2 ps2 ca2 cb2 df2 hl2;split at h <;> try cases h
 rename_i e2; subst e2;split at h <;> try cases h
 rename_i j hj;refine zmg hl (zr4 hia) (zr4 hib) hps (fun p hp => by simpa using y0h.1 hlt p hp) (zgz (hR.2 _ _ _ _ _ hc1 w0 N0) fun e3 S3 ⟨k1, k2⟩ => ?_);subst k1 k2;refine ⟨rfl, _, _, _, _, _, _, hl1, zgz (hR.2 _ _ _ _ _ hc2 w0 N0) fun e4 S4 ⟨k1, k2⟩ => ?_⟩;subst k1 k2;exact ⟨_, _, _, _, _, _, hl2, j, hj, rfl, rfl⟩
theorem callV_ok (hR : zjd P R) {fv : AV} {vs : List AV} {H' : HS} (h : callV P R fv vs H = some (v, H')) : CT P w0 N0 fv vs H fun v1 H1 => v1 = v /\ H1 = H' := by
 unfold callV at h;split at h
 ·exact zbk (hR.1 _ _ _ _ _ h w0 N0)
 ·exact zxj hR h
 ·cases h
theorem loud1_ok (hR : zjd P R) {H' : HS} (h : zgp P R S io = some (v, H')) : Stp P w0 N0 rd io S fun S2 v2 => v2 = v /\ S2 = S.withH H' := by
 unfold zgp at h;split at h
 ·rename_i fa args hop;split at h <;> try cases h
  rename_i fv vs hf ha;split at h <;> try cases h
  rename_i v1 H1 hv;split at h <;> try cases h
  rename_i hm;exact (zlb hop hf ha (callV_ok hR hv) (fun v2 H2 ⟨_, e⟩ => e ▸ zt1 hm)).mono fun S2 v2 ⟨H2, ⟨e1, e2⟩, e3⟩ => ⟨e1, by rw [e3, e2]⟩
 ·split at h <;> try cases h
  rename_i v1 S1 h1;exact (zlc h1).mono fun S2 v2 ⟨e1, e2⟩ => ⟨e2, by rw [e1]; exact zj2 h1⟩
end
end Go.Am
namespace Go.Am
open Go Go.RowKit
def zdr (P : Program) (E : Env) (R : Rec) (S : AS) (io : Opr) : Option (AV × HS) :=
 match zb2 E R S io with
 | some v => some (v, S.hs)
 | none => zgp P R S io
section
variable {P : Program} {w0 w : World} {N0 : Nat} {S S' S1 : AS} {rd : Option (Nat × Nat)} {Q : Exit -> AS -> Prop} {E : Env} {R : Rec} {io : Opr} {v : AV} {H : HS}
theorem zsa (hE : EnvOk P E) (hR : zjd P R) {H' : HS} (h : zdr P E R S io = some (v, H')) : Stp P w0 N0 rd io S fun S2 v2 => v2 = v /\ S2 = S.withH H' := by
 unfold zdr at h;split at h
 ·rename_i v1 hq;simp only [y00, y0b] at h;obtain ⟨rfl, rfl⟩ := h;exact zeb hE hR hq
 ·exact loud1_ok hR h
def zti : List Nat -> List Nat -> List Nat
 | [], m => m
 | x :: l, m => if (zti l m).contains x then zti l m else x :: zti l m
theorem zkf {x : Nat} : ∀ {l m : List Nat}, x ∈ zti l m -> x ∈ l \/ x ∈ m
 | [], m, h => .inr h
 | y :: l, m, h => by
  simp only [zti] at h;split at h
  ·rcases zkf h with h | h
   ·exact .inl (y0a _ h)
   ·exact .inr h
  ·rcases y0f.1 h with rfl | h
   ·exact .inl (y01 ..)
   ·rcases zkf h with h | h
    ·exact .inl (y0a _ h)
    ·exact .inr h
def zen (tr : List Tr) : List Nat -> List Nat
 | [] => []
 | p :: ps => zti (p :: (match tr[p]? with | some t => t.anc | none => [])) (zen tr ps)
theorem zke {tr : List Tr} {q : Nat} : ∀ {ps : List Nat}, q ∈ zen tr ps -> ∃ p ∈ ps, q = p \/ ∃ t, tr[p]? = some t /\ q ∈ t.anc
 | [], h => by simp [zen] at h
 | p :: ps, h => by
  rcases zkf h with h | h
  ·rcases y0f.1 h with rfl | h
   ·exact ⟨_, y01 .., .inl rfl⟩
   ·refine ⟨p, y01 .., .inr ?_⟩;cases ht : tr[p]? with
    | none => simp [ht] at h
    | some t => exact ⟨t, rfl, by simpa [ht] using h⟩
  ·obtain ⟨p', h1, h2⟩ := zke h;exact ⟨p', y0a _ h1, h2⟩
structure DR where
 tr : List Tr
 louds : List Nat
 heaps : List HS
theorem zkp {tr tr' : List Tr} {rest : TM} : ∀ {l : List Nat}, (∀ p ∈ l, p < tr.length) -> zfp (tr ++ tr') rest l = zfp tr rest l
 | [], _ => rfl
 | p :: l, h => by
  have hp : (tr ++ tr')[p]? = tr[p]? := y0z (h p (y01 ..));simp only [zfp, hp, zkp fun q hq => h q (y0a _ hq)]
theorem zjh {tr tr' : List Tr} {rest : TM} {l : List Nat} (h : ∀ p ∈ l, p < tr.length) : S.base rest (tr ++ tr') l H = S.base rest tr l H := by
 simp only [AS.base, zkp h]
structure Inv1 (P : Program) (E : Env) (R : Rec) (S : AS) (rf : Nat -> TM) (done : List Opr) (dpres : List (List Nat)) (tr : List Tr) (louds : List Nat) (heaps : List HS) (H : HS) : Prop where
 l1 : tr.length = done.length
 l2 : dpres.length = done.length
 l3 : heaps.length = louds.length
 h0 : (heaps ++ [H])[0]? = some S.hs
 dst : ∀ (i : Nat) (io : Opr) (t : Tr), done[i]? = some io -> tr[i]? = some t -> t.dst = io.dst
 acyc : ∀ (i : Nat) (ps : List Nat), dpres[i]? = some ps -> ∀ p ∈ ps, p < i
 anc : ∀ (i : Nat) (ps : List Nat) (t : Tr), dpres[i]? = some ps -> tr[i]? = some t -> ∀ q ∈ t.anc, ∃ p ∈ ps, q = p \/ ∃ t' : Tr, tr[p]? = some t' /\ q ∈ t'.anc
 alt : ∀ (i : Nat) (t : Tr), tr[i]? = some t -> ∀ q ∈ t.anc, q < i
 lob : ∀ l ∈ louds, l < done.length
 loud : ∀ (m l : Nat), louds[m]? = some l -> ∃ io t H1 H2, done[l]? = some io /\ tr[l]? = some t /\ (heaps ++ [H])[m]? = some H1 /\ (heaps ++ [H])[m + 1]? = some H2 /\
  zaf (S.base (rf l) tr t.anc H1) io = some true /\ zgp P R (S.base (rf l) tr t.anc H1) io = some (t.v, H2)
theorem zef {α : Type} {l : List α} {x y : α} {i : Nat} (h : (l ++ [x])[i]? = some y) : l[i]? = some y \/ (i = l.length /\ y = x) := by
 rcases Nat.lt_trichotomy i l.length with h1 | h1 | h1
 ·left; rwa [y0z h1] at h
 ·right; subst h1; simp at h; exact ⟨rfl, h.symm⟩
 ·rw [y12 (by omega)] at h;have : i - l.length ≠ 0 := by omega
  rw [List.getElem?_cons] at h; simp [this] at h
theorem zee {α : Type} {l m : List α} {y : α} {i : Nat} (h : l[i]? = some y) : (l ++ m)[i]? = some y := by
 rw [y0z (y05.1 h).1]; exact h
theorem Inv1.step {rf : Nat -> TM} {done : List Opr} {dpres : List (List Nat)} {tr : List Tr} {louds : List Nat} {heaps : List HS} (h : Inv1 P E R S rf done dpres tr louds heaps H) {ps : List Nat}
  (hps : ∀ p ∈ ps, p < tr.length) :
  (∀ q ∈ zen tr ps, q < tr.length) /\
  (
   (∀ io v, Inv1 P E R S rf (done ++ [io]) (dpres ++ [ps]) (tr ++ [⟨io.dst, v, zen tr ps⟩]) louds heaps H) /\
   (∀ io v H', zaf (S.base (rf tr.length) tr (zen tr ps) H) io = some true -> zgp P R (S.base (rf tr.length) tr (zen tr ps) H) io = some (v, H') ->
    Inv1 P E R S rf (done ++ [io]) (dpres ++ [ps]) (tr ++ [⟨io.dst, v, zen tr ps⟩]) (louds ++ [tr.length]) (heaps ++ [H]) H')) := by
 have hanc : ∀ q ∈ zen tr ps, q < tr.length := by
  intro q hq;obtain ⟨p, hp, h1⟩ := zke hq;rcases h1 with rfl | ⟨t, ht, hqt⟩
  ·exact hps _ hp
  ·have := h.alt p t ht q hqt;have := hps p hp;omega
 have hdst : ∀ (io : Opr) (v : AV) (i : Nat) (io' : Opr) (t : Tr), (done ++ [io])[i]? = some io' -> (tr ++ [⟨io.dst, v, zen tr ps⟩])[i]? = some t -> t.dst = io'.dst := by
  intro io v i io' t h1 h2;rcases zef h1 with h1 | ⟨e1, e2⟩ <;> rcases zef h2 with h2 | ⟨e3, e4⟩
  ·exact h.dst i io' t h1 h2
  ·have := (y05.1 h1).1; rw [<- h.l1] at this; omega
  ·have := (y05.1 h2).1; rw [h.l1] at this; omega
  ·subst e2 e4; rfl
 have hacyc : ∀ (i : Nat) (ps' : List Nat), (dpres ++ [ps])[i]? = some ps' -> ∀ p ∈ ps', p < i := by
  intro i ps' h1;rcases zef h1 with h1 | ⟨e1, e2⟩
  ·exact h.acyc i ps' h1
  ·subst e1 e2; rw [h.l2, <- h.l1]; exact hps
 have hanc2 : ∀ (io : Opr) (v : AV) (i : Nat) (ps' : List Nat) (t : Tr), (dpres ++ [ps])[i]? = some ps' -> (tr ++ [(⟨io.dst, v, zen tr ps⟩ : Tr)])[i]? = some t -> ∀ q ∈ t.anc, ∃ p ∈ ps', q = p \/ ∃ t' : Tr, (tr ++ [(⟨io.dst, v, zen tr ps⟩ : Tr)])[p]? = some t' /\ q ∈ t'.anc := by
  intro io v i ps' t h1 h2 q hq;rcases zef h1 with h1 | ⟨e1, e2⟩ <;> rcases zef h2 with h2 | ⟨e3, e4⟩
  ·obtain ⟨p, k1, k2⟩ := h.anc i ps' t h1 h2 q hq;exact ⟨p, k1, k2.imp id fun ⟨t', k3, k4⟩ => ⟨t', zee k3, k4⟩⟩
  ·have := (y05.1 h1).1; rw [h.l2, <- h.l1] at this; omega
  ·have := (y05.1 h2).1; rw [h.l1, <- h.l2] at this; omega
  ·subst e2 e4;obtain ⟨p, k1, k2⟩ := zke hq;exact ⟨p, k1, k2.imp id fun ⟨t', k3, k4⟩ => ⟨t', zee k3, k4⟩⟩
 have halt : ∀ (io : Opr) (v : AV) (i : Nat) (t : Tr), (tr ++ [(⟨io.dst, v, zen tr ps⟩ : Tr)])[i]? = some t -> ∀ q ∈ t.anc, q < i := by
  intro io v i t h2;rcases zef h2 with h2 | ⟨e3, e4⟩
  ·exact h.alt i t h2
  ·subst e3 e4; exact hanc
 have hloud : ∀ (io : Opr) (v : AV) (m l : Nat) (hs : List HS) (H' : HS), louds[m]? = some l -> (∀ (k : Nat) (y : HS), (heaps ++ [H])[k]? = some y -> (hs ++ [H'])[k]? = some y) -> ∃ io' t H1 H2, (done ++ [io])[l]? = some io' /\ (tr ++ [(⟨io.dst, v, zen tr ps⟩ : Tr)])[l]? = some t /\ (hs ++ [H'])[m]? = some H1 /\ (hs ++ [H'])[m + 1]? = some H2 /\
   zaf (S.base (rf l) (tr ++ [(⟨io.dst, v, zen tr ps⟩ : Tr)]) t.anc H1) io' = some true /\ zgp P R (S.base (rf l) (tr ++ [(⟨io.dst, v, zen tr ps⟩ : Tr)]) t.anc H1) io' = some (t.v, H2) := by
  intro io v m l hs H' hm hk;obtain ⟨io', t, H1, H2, k1, k2, k3, k4, k5, k6⟩ := h.loud m l hm;have hb : S.base (rf l) (tr ++ [(⟨io.dst, v, zen tr ps⟩ : Tr)]) t.anc H1 = S.base (rf l) tr t.anc H1 := zjh fun p hp => by
   have := h.alt l t k2 p hp;have := (y05.1 k2).1;omega
  exact ⟨io', t, H1, H2, zee k1, zee k2, hk _ _ k3, hk _ _ k4, by rw [hb]; exact k5, by rw [hb]; exact k6⟩
 refine ⟨hanc, fun io v => ⟨by simp [h.l1], by simp [h.l2], h.l3, h.h0, hdst io v, hacyc, hanc2 io v, halt io v, fun l hl => by have := h.lob l hl; simp; omega, fun m l hm => hloud io v m l heaps H hm fun k y hy => hy⟩,
  fun io v H' hw hl => ⟨by simp [h.l1], by simp [h.l2], by simp [h.l3], zee h.h0, hdst io v, hacyc, hanc2 io v, halt io v, fun l hl => ?_, fun m l hm => ?_⟩⟩
 ·rw [y1n] at hl;rcases hl with hl | hl
  ·have := h.lob l hl; simp; omega
  ·simp at hl; subst hl; simp [h.l1]
 ·rcases zef hm with hm | ⟨e1, e2⟩
  ·exact hloud io v m l (heaps ++ [H]) H' hm fun k y hy => zee hy
  ·subst e1 e2;have hb : S.base (rf tr.length) (tr ++ [(⟨io.dst, v, zen tr ps⟩ : Tr)]) (zen tr ps) H = S.base (rf tr.length) tr (zen tr ps) H := zjh hanc;refine ⟨io, ⟨io.dst, v, zen tr ps⟩, H, H', by simp [h.l1], by simp, ?_, ?_, by rw [hb]; exact hw, by rw [hb]; exact hl⟩
   ·rw [<- h.l3]; simp []
   ·rw [<- h.l3]; simp []
end
end Go.Am
