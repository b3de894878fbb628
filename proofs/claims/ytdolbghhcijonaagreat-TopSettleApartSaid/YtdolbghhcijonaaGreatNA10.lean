/-
  AN ABSTRACT MACHINE FOR PROOFS, PART 10. A general base for proofs: no program is named here.
-/
import Derived.Test.YtdolbghhcijonaaGreatNA9
namespace Go.Am
open Go Go.RowKit
structure NewL (w' : World) (B : Nat) (sz len : Nat) (cap : Option Nat) (cs : List AV) (u : Value) : Prop where
 ok : ∃ p c, ∃ lo : Loc, u = Value.slice p len c /\ len <= c /\ (0 < c -> ∃ q, p = some q) /\ (∀ k, cap = some k -> c = k) /\ (∀ b base n, lo = .at b base n -> B <= b /\ (c = 0 \/ (p = some ⟨b, base + 0, none⟩ /\ (cap = none -> base + 0 + c * sz = n)))) /\
  (lo = .void -> c = 0 /\ cs = []) /\ (∀ b base n, lo = .at b base n -> ∃ cc elem, w'.heap[b]? = some (.cells cc elem (0, 0)) /\ cc.size = n /\ base + cs.length <= n /\ ∀ i x, cs[i]? = some x -> VRel w' (fun _ => False) none x (cc.getD (base + i) undef))
def PFo (P : Program) (f : FuncId) (args : List AV) (sz len : Nat) (cap : Option Nat) (cs : List AV) : Prop :=
 Ent P f /\ ∀ (ro : Nat -> Prop) (w : World) (us : Array Value), GOk ro w -> CRel w ro none args us -> Calls P f us w fun e w' => ∃ u, e = .returned u /\ Below w.heap.size w w' /\ NewL w' w.heap.size sz len cap cs u
theorem zev {P : Program} {f : FuncId} {args : List AV} {sz len : Nat} {cap : Option Nat} {cs : List AV} (hfl : flat.flatL cs = true)
  (h : ∀ w0 N0, FT P w0 N0 f args ⟨[], 0, 0⟩ fun v H => ∃ id sp, v = .ms id sp sz 0 len cap /\ look id H.heap = some (sp, .cells cs)) : PFo P f args sz len cap cs := by
 refine ⟨(h default 0).1, fun ro w us hglob hargs => ?_⟩
 let I : LI := { loc := fun _ _ => none, clk := 0, ok := fun b => ro b \/ w.heap.size <= b }
 have hro : ∀ b, ro b -> I.ro b := fun b hb => ⟨.inl hb, fun id st base n hl => by cases hl⟩
 have hH : HRel w w.heap.size I [] 0 w := by
  refine ⟨Below.refl _ _, y08 _, ?_, ?_, ?_, ?_, ?_, ?_, hglob.mono fun b i x hb hc => ⟨hro b hb, hc⟩⟩
  ·intro id st o e; simp [zeg] at e
  ·intro id st l e; cases e
  ·intro id st b base n id' st' base' n' e; cases e
  ·intro id st b base n e; cases e
  ·intro id _; rfl
  ·intro b hb; exact .inr hb
 have hargs' : CRel w I.ro (some I) args us := ⟨hargs.1, fun i x hx => (hargs.2 i x hx).mono (fun b i x hb hc => ⟨hro b hb, hc⟩) trivial⟩
 refine ((h w w.heap.size).2 I w us hH rfl hargs').mono fun e w' ⟨u, v, H', I', he, ⟨id, sp, hv, hlk⟩, k1, k2, k3, k4⟩ => ?_;subst hv;refine ⟨u, he, k1.below, ?_⟩;cases k3 with
 | @ms _ _ _ _ _ _ _ p c hlc hp hcap hcl =>
  obtain ⟨J, hJ, c1, c2, c3⟩ := hcl;injection hJ with hJ; subst hJ;obtain ⟨_, lo, l1, l2⟩ := k1.heap _ _ _ hlk;refine ⟨p, c, lo, rfl, hlc, hp, hcap, fun b base n e => ?_, fun e => ?_, fun b base n e => ?_⟩
  ·subst e;exact ⟨k1.fresh _ _ _ _ _ l1, c2 b base n l1⟩
  ·subst e;exact ⟨c3 l1, l2⟩
  ·subst e;obtain ⟨cc, elem, o1, o2, o3, o4⟩ := l2;exact ⟨cc, elem, o1, o2, o3, fun i x hx => (o4 i x hx).flat (zfv hfl _ _ hx)⟩
theorem znv {P : Program} {w0 : World} {N0 : Nat} {H : HS} {fid : FuncId} {args : List AV} {sz len : Nat} {cap : Option Nat} {cs : List AV} (hfl : flat.flatL cs = true)
  (hc : PFo P fid (args.map ((⟨0, .nil, H.heap, H.next, H.clk, []⟩ : AS).view VD)) sz len cap cs) :
  FT P w0 N0 fid args H (fun v' H' => v' = .ms H.next H.clk sz 0 len cap /\ H' = ⟨(H.next, H.clk, .cells cs) :: H.heap, H.next + 1, H.clk + 1⟩) := by
 refine ⟨hc.1, fun I w us hH hclk hcr => ?_⟩;have hR : Rel w0 N0 I ⟨0, .nil, H.heap, H.next, H.clk, []⟩ ⟨#[], []⟩ w := ⟨hclk, ⟨rfl, fun i v e => by simp [zdq] at e⟩, hH, ⟨rfl, fun i id st d e => by simp at e, by simp⟩⟩
 obtain ⟨c1, _⟩ := zkz hR hcr;refine (hc.2 I.ok w _ (hH.glob.mono fun b i x hb hc => ⟨hb.1, hc⟩) c1).mono fun e w' ⟨u, he, hb, hn⟩ => ?_;obtain ⟨p, c, lo, rfl, hlc, hp, hcap, hat, hvoid, hor⟩ := hn.ok;have hN : N0 <= w.heap.size := y0u hH.base hH.below.size;have key := hH.bind (w' := w') (id := H.next) (next' := H.next + 1) (l := lo) (o := .cells cs) (hb.mono hN)
  (fun b hb' _ => hb.block b hb')
  (fun b base n e => .inl (hat b base n e).1)
  (fun e => by
   cases lo with
   | void => exact (hvoid rfl).2
   | «at» b base n =>
    obtain ⟨cc, elem, o1, o2, o3, o4⟩ := hor b base n rfl;exact ⟨cc, elem, o1, o2, o3, fun i x hx => (o4 i x hx).flat (zfv hfl _ _ hx)⟩)
  (y0y _) (y07 _)
 obtain ⟨k1, k2⟩ := key;have hfree := hH.free H.next (y08 _);have hlook : ∀ i, look i ((H.next, I.clk, AObj.cells cs) :: H.heap) = look i (zap H.next (I.clk, AObj.cells cs) H.heap) := by
  intro i; rw [za0, zak]
 refine ⟨.slice p len c, _, _, I.bind H.next lo, he, ⟨rfl, rfl⟩, ?_, ?_, ?_, k2⟩
 ·rw [<- hclk];refine ⟨k1.below, k1.base, fun i st o hi => ?_, fun i st l hl => ?_, k1.inj, k1.fresh, fun i hi => ?_, k1.okN, k1.glob⟩
  ·rw [hlook] at hi; exact k1.heap i st o hi
  ·obtain ⟨o, ho⟩ := k1.locs i st l hl;exact ⟨o, by rw [hlook]; exact ho⟩
  ·rw [hlook]; exact k1.free i hi
 ·simp [LI.bind, hclk]
 ·rw [<- hclk];refine .ms hlc hp hcap ⟨_, rfl, y07 _, fun b' base n' hb' => ?_, fun hv => ?_⟩
  ·rw [LI.bind_same] at hb'; injection hb' with hb'; subst hb';exact (hat _ _ _ rfl).2
  ·rw [LI.bind_same] at hv; injection hv with hv;exact (hvoid hv).1
theorem PFo.pf {P : Program} {f : FuncId} {args : List AV} {len : Nat} {cap : Option Nat} {cs : List AV} (hl : cs.length = len) (h : PFo P f args 1 len cap cs) : PFn P f args (.vs (cs.map fun x => [x])) := by
 refine ⟨h.1, fun ro w us hg ha => (h.2 ro w us hg ha).mono fun e w' ⟨u, he, hb, hn⟩ => ⟨u, he, hb, ?_⟩⟩;obtain ⟨p, c, lo, rfl, hlc, hp, hcap, hat, hvoid, hor⟩ := hn.ok;subst hl;have zero : c = 0 -> VRel w' (fun b => w.heap.size <= b) none (.vs (cs.map fun x => [x])) (.slice p cs.length c) := fun hc => by
  subst hc;have : cs = [] := y0k.1 (by omega);subst this;exact .nilvs
 cases lo with
 | void => exact zero (hvoid rfl).1
 | «at» b base n =>
  obtain ⟨h1, h2⟩ := hat b base n rfl;rcases h2 with h0 | ⟨e1, _⟩
  ·exact zero h0
  ·subst e1;obtain ⟨cc, elem, o1, o2, o3, o4⟩ := hor b base n rfl;have hget : ∀ (i j : Nat) (e : List AV) (x : AV), (cs.map fun x => [x])[i]? = some e -> e[j]? = some x -> j = 0 /\ cs[i]? = some x := by
    intro i j e x hi hj;rw [y0n, y03] at hi;obtain ⟨y, hy, rfl⟩ := hi;cases j with
    | zero => simp at hj; subst hj; exact ⟨rfl, hy⟩
    | succ j => simp at hj
   refine .vs (sz := 1) (b := b) (off := base + 0) (fun i j => cc.getD (base + i) undef) (by rw [y06]) hlc (fun _ => rfl) (fun e he => by obtain ⟨x, _, rfl⟩ := y0p.1 he; rfl) (fun i j e x hi hj => ?_) fun i j e x hi hj => ?_
   ·obtain ⟨rfl, hx⟩ := hget i j e x hi hj;have hlt : i < cs.length := (y05.1 hx).1;have hlt2 : base + i < cc.size := by omega
    refine ⟨h1, ?_⟩;rw [show base + 0 + i * 1 + 0 = base + i from by omega]
    simp [World.cell?, o1, hlt2, y02]
   ·obtain ⟨rfl, hx⟩ := hget i j e x hi hj;exact (o4 _ _ hx).mono (fun _ _ _ h _ => h.elim) trivial
section
variable {P : Program} {w0 : World} {N0 : Nat} {k : List Fr} {Q : Exit -> AS -> Prop} {ios : List Opr} {n nx ck : Nat} {mk : List (Nat × Nat)} {md : Md} {l : List (Nat × AV)} {hp : List (Nat × Nat × AObj)}
theorem o_own {d : Nat} {f : FuncId} {args : List Arg} {vs as : List AV} {sz len : Nat} {cap : Option Nat} {cs : List AV} (ha : zeo args l = some vs) (hv : vs.map ((st n l hp nx ck mk).view VD) = as) (hpf : PFo P f as sz len cap cs) (hfl : flat.flatL cs = true)
  (h : Om P w0 N0 md (KnP P w0 N0) ios (st n ((d, .ms nx ck sz 0 len cap) :: l) ((nx, ck, .cells cs) :: hp) (nx + 1) (ck + 1) mk) k Q) (hmk : zco mk ((nx, ck, .cells cs) :: hp) := by exact fun m hm => absurd hm y0c) :
  Om P w0 N0 md (KnP P w0 N0) (⟨some d, .call (.c (.fn f [] [])) args, none⟩ :: ios) (st n l hp nx ck mk) k Q := by
 refine zhh (fv := .fn f [] []) (fun v H => v = .ms nx ck sz 0 len cap /\ H = ⟨(nx, ck, .cells cs) :: hp, nx + 1, ck + 1⟩) rfl ha (zgo ?_) (fun v H ⟨_, e⟩ => by subst e; exact hmk) fun v H ⟨e1, e2⟩ => by subst e1 e2; exact h
 refine znv hfl ?_;rw [y1y, y0s];have hvw : (⟨0, .nil, hp, nx, ck, []⟩ : AS).view VD = (st n l hp nx ck mk).view VD := funext fun x => by
  have : ∀ (d : Nat) (x : AV), (⟨0, .nil, hp, nx, ck, []⟩ : AS).view d x = (st n l hp nx ck mk).view d x := by
   intro d
   induction d with
   | zero => intro x; rfl
   | succ d ih =>
    intro x;have ih' : (⟨0, .nil, hp, nx, ck, []⟩ : AS).view d = (st n l hp nx ck mk).view d := funext ih;cases x <;> simp only [AS.view, ih'] <;> rfl
  exact this VD x
 show PFo P f (vs.map ((⟨0, .nil, hp, nx, ck, []⟩ : AS).view VD)) sz len cap cs;rw [hvw, hv];exact hpf
end
def zdv (pres : List (List Nat)) (n : Nat) (done : List Nat) : List Nat := (List.range n).filter fun i => !done.contains i && (pres.getD i []).all fun p => done.contains p
def AllL (p : Nat -> Prop) : List Nat -> Prop
 | [] => True
 | i :: l => p i /\ AllL p l
theorem AllL.mem {p : Nat -> Prop} : ∀ {l : List Nat}, AllL p l -> ∀ i ∈ l, p i
 | [], _, i, h => by cases h
 | j :: l, ⟨h1, h2⟩, i, h => by
  rcases y0f.1 h with rfl | h
  ·exact h1
  ·exact AllL.mem h2 i h
def AnyF (P : Program) (w0 : World) (N0 : Nat) (rd : Option (Nat × Nat)) (ios : List Opr) (pres : List (List Nat)) : Nat -> List Nat -> AS -> (AS -> Prop) -> Prop
 | 0, done, S, K => zdv pres ios.length done = [] /\ K S
 | n + 1, done, S, K => zdv pres ios.length done ≠ [] /\ AllL (fun i => ∀ io, ios[i]? = some io -> zc6 S.size io.dst = true /\
   (
    (zaf S io = some false /\ AnyF P w0 N0 rd ios pres n (i :: done) (S.put io.dst (.tup [])) K) \/
    (zaf S io = some true /\ ∃ Fk : AS -> AV -> Prop, Stp P w0 N0 rd io S Fk /\ ∀ S1 v, Fk S1 v -> zc6 S1.size io.dst = true /\ AnyF P w0 N0 rd ios pres n (i :: done) (S1.put io.dst v) K))) (zdv pres ios.length done)
section
variable {P : Program} {w0 w : World} {N0 : Nat} {I : LI} {S S' S1 : AS} {a : Act} {rd : Option (Nat × Nat)} {Q : Exit -> AS -> Prop}
theorem zia {ios : List Opr} {pres : List (List Nat)} {ops : Array Oper} {listed : Array Bool} {done : List Nat} (hpr : pres = zej ops) (hsz : ios.length = ops.size) (hlz : listed.size = ops.size) (hl : ∀ i, listed.getD i false = done.contains i) (i : Nat) :
  i ∈ Region.ready .any ops listed ↔ i ∈ zdv pres ios.length done := by
 unfold zdv;rw [mem_ready, y25, y0m];constructor
 ·rintro ⟨hu, o, hoi, hpre⟩;have hlt : i < ops.size := (y0e.1 hoi).1;have hil : i < listed.size := by omega
  have hu' : listed.getD i false = false := by
   simp only [y02, y17 hil, y1p] at hu ⊢;exact hu
  refine ⟨by omega, ?_⟩;rw [y0g, <- hl, hu', y0h];refine ⟨rfl, fun p hp => ?_⟩;have hp' : pres[i]? = some ((o.after.toList.filter (Region.binds .any ·)).map (·.on)) := by rw [hpr]; simp [zej, hoi]
  rw [y0j, hp', y1p] at hp;obtain ⟨e, he, rfl⟩ := y0p.1 hp;obtain ⟨he1, he2⟩ := y25.1 he;rw [<- hl];exact hpre e (by simpa using he1) he2
 ·rintro ⟨hi, h⟩;rw [y0g, <- hl, y0h] at h;obtain ⟨h1, h2⟩ := h;have hio' : i < ops.size := by omega
  have hil : i < listed.size := by omega
  refine ⟨?_, ops[i], by simp [hio'], fun e he hb => ?_⟩
  ·have h1 : listed.getD i false = false := by simpa using h1
   simp only [y02, y17 hil, y1p] at h1 ⊢;exact h1
  ·have hp : pres[i]? = some ((ops[i].after.toList.filter (Region.binds .any ·)).map (·.on)) := by
    rw [hpr]; simp [zej, hio']
   have := h2 e.on (by rw [y0j, hp, y1p]; exact y0p.2 ⟨e, y25.2 ⟨by simpa using he, hb⟩, rfl⟩);rw [<- hl] at this;exact this
theorem zu1 {ios : List Opr} {pres : List (List Nat)} {ops : Array Oper} (hio : ops.toList.mapM (zdh P ops) = some ios) (hpr : pres = zej ops)
  {r : Option Nat} {n : Nat} {Qc : Exit -> Act -> World -> Prop} {K : AS -> Prop} : ∀ (m : Nat) (done : List Nat) (listed : Array Bool) (S : AS) (I : LI) (a : Act) (w : World) (fuel : Nat), m <= fuel -> listed.size = ops.size -> (∀ i, listed.getD i false = done.contains i) ->
   Rel w0 N0 I S a w -> RdOk I rd r -> AnyF P w0 N0 rd ios pres m done S K -> (∀ I' S' a' w', K S' -> Rel w0 N0 I' S' a' w' -> Evo I w I' w' -> Qc .normal a' w') -> wpAnyIn (Wd r) n P .any ops Qc fuel listed a w := by
 obtain ⟨hlen, hget⟩ := zeh hio;have hsz : ios.length = ops.size := by simpa using hlen
 intro m
 induction m with
 | zero =>
  intro done listed S I a w fuel _ hlz hl hR ho ⟨h1, hK⟩ hQ;have hr : Region.ready .any ops listed = [] := by
   cases hr : Region.ready .any ops listed with
   | nil => rfl
   | cons i l =>
    have hi : i ∈ Region.ready .any ops listed := by rw [hr]; exact y01 ..
    rw [zia hpr hsz hlz hl, h1] at hi;cases hi
  cases fuel with
  | zero => exact ⟨hr, hQ I S a w hK hR (Evo.refl I w)⟩
  | succ fuel => exact ⟨fun _ => hQ I S a w hK hR (Evo.refl I w), fun i hi => by rw [hr] at hi; cases hi⟩
 | succ m ih =>
  intro done listed S I a w fuel hf hlz hl hR ho ⟨hne, hall⟩ hQ;cases fuel with
  | zero => omega
  | succ fuel =>
   refine ⟨fun hr => ?_, fun i hi => ?_⟩
   ·exfalso;cases hrl : zdv pres ios.length done with
    | nil => exact hne hrl
    | cons i l =>
     have hi : i ∈ zdv pres ios.length done := by rw [hrl]; exact y01 ..
     rw [<- zia hpr hsz hlz hl, hr] at hi;cases hi
   ·have hi2 := (zia hpr hsz hlz hl i).1 hi;have hstep := hall.mem i hi2;rw [mem_ready] at hi;obtain ⟨hu, o, hoi, hpre⟩ := hi;have hlt : i < ops.size := (y0e.1 hoi).1;obtain ⟨io, hio1, hcom⟩ := hget i o (by rw [y1r]; exact hoi);obtain ⟨hok, hor⟩ := hstep io hio1;have hdo : o.dst = io.dst := (zjn hcom).1;have hl' : ∀ k, (listed.setIfInBounds i true).getD k false = (i :: done).contains k := fun k => by
     rw [zd9 (by omega), hl, List.contains_cons];by_cases e : k = i
     ·subst e; simp
     ·simp [e]
    have hnext : ∀ (I' : LI) (S1 : AS) (v : AV) (u : Value) (w' : World), zc6 S1.size io.dst = true -> AnyF P w0 N0 rd ios pres m (i :: done) (S1.put io.dst v) K -> Rel w0 N0 I' S1 a w' -> VRel w' I'.ro (some I') v u -> Evo I w I' w' ->
      wpAnyIn (Wd r) n P .any ops Qc fuel (listed.setIfInBounds i true) (a.put o.dst u) w' := fun I' S1 v u w' hok hA hR' hV hE => by
     rw [hdo];exact ih (i :: done) _ (S1.put io.dst v) I' _ w' fuel (by omega) (by simp [hlz]) hl' (hR'.put hok hV) (ho.evo hE) hA fun I'' S'' a'' w'' k x y => hQ I'' S'' a'' w'' k x (hE.trans y)
    unfold wpOpIn;simp only [hoi];rcases hor with ⟨hw, hA⟩ | ⟨hw, Fk, hst, hk⟩
    ·rw [if_neg (by rw [zf0 hR hcom hw]; simp)];exact ⟨fun _ _ => trivial, hnext I S (.tup []) undef w hok hA hR (.tup rfl (by simp)) (Evo.refl I w)⟩
    ·rw [if_pos (zf0 hR hcom hw)];exact hst ops o hcom n I a w r _ Qc hR ho fun I' S1 v u w' hF hR' hV hE => hnext I' S1 v u w' (hk S1 v hF).1 (hk S1 v hF).2 hR' hV hE
theorem T_any (hm : P.follows .mixedOrders = true) {ios : List Opr} {pres : List (List Nat)} (h : AnyF P w0 N0 rd ios pres ios.length [] S fun S' => Q .normal S') : T P w0 N0 rd (.region ios (some pres)) S Q := fun code hcom n I a w r hr ho => by
 cases hcom with
 | @region id ops draw _ _ h1 hp =>
  cases draw with
  | false => simp at hp
  | true =>
   refine wpIn_region_any hm ?_;obtain ⟨hlen, _⟩ := zeh h1;simp at hlen;obtain ⟨k1, k2⟩ := hr.hrel.drew;refine zu1 h1 (by simpa using hp) ios.length [] _ S I a _ ops.size (by omega) (by simp) (fun i => by rw [zcs]; rfl) ⟨hr.clk, ⟨hr.tmps.1, fun d v hv => (hr.tmps.2 d v hv).evo k2⟩, k1, hr.marks⟩ ho h fun I' S' a' w' hK hR hE => ⟨I', S', hK, hR, k2.trans hE⟩
end
def closL (pres : List (List Nat)) : Nat -> List Nat -> List Nat
 | 0, l => l
 | k + 1, l => closL pres k (if l.contains k then pres.getD k [] ++ l else l)
theorem zo6 {pres : List (List Nat)} {D : Nat -> Prop} (hD : ∀ q, D q -> ∀ p ∈ pres.getD q [], D p) : ∀ (k : Nat) (l : List Nat), (∀ x ∈ l, D x) -> ∀ x ∈ closL pres k l, D x
 | 0, _, h => h
 | k + 1, l, h => zo6 hD k _ fun x hx => by
  split at hx
  ·rename_i hc;rcases y1n.1 hx with h1 | h1
   ·exact hD k (h k (by simpa using hc)) x h1
   ·exact h x h1
  ·exact h x hx
def zuy (ios : List Opr) (pres : List (List Nat)) (k : Nat) : Bool :=
 Nat.ble k ios.length && ((List.range ios.length).all fun i => (pres.getD i []).all fun p => Nat.blt p i) && ((ios.take k).all fun io => io.guard.isNone) &&
  (List.range ios.length).all fun i => Nat.blt i k || (pres.getD i []).any (fun p => Nat.ble k p) || (List.range k).all fun q => (closL pres k (pres.getD i [])).contains q
section
variable {P : Program} {w0 w : World} {N0 : Nat} {I : LI} {S S' S1 : AS} {a : Act} {rd : Option (Nat × Nat)} {Q : Exit -> AS -> Prop}
theorem ztj {F : Fence} {n : Nat} {o : Oper} {next : Act -> World -> Prop} {Q1 Q2 : Exit -> Act -> World -> Prop} (hq : ∀ e a w, e ≠ .normal -> Q1 e a w -> Q2 e a w) (h : o.wpIn F n P a w next Q1) : o.wpIn F n P a w next Q2 := by
 unfold Oper.wpIn at *;refine ⟨h.1, ?_⟩;have hh := h.2;have hl : LetsOut Q1 -> LetsOut Q2 := fun ⟨x, y, z⟩ => ⟨x, y, hq _ _ _ (by simp) z⟩
 generalize (o.semAt F.round a.eval).run P w = r at *;cases r with
 | ok x w' =>
  cases x <;> simp only [Oper.uponIn] at hh ⊢ <;>
   first
    | exact hh
    | exact ⟨hh.1, CallsIn.mono hh.2 (fun e w'' he => by cases e <;> first | exact he | exact hq _ _ _ (by simp) he | exact hl he)⟩
    | exact ⟨hh.1, RoundIn.mono hh.2 (fun e w'' he => by cases e <;> first | exact he | exact hq _ _ _ (by simp) he | exact hl he)⟩
 | halt x w' => cases x <;> simp only [Oper.uponIn] at hh ⊢ <;> first | exact hh | exact hq _ _ _ (by simp) hh
theorem zk3 {l : Array Bool} {j : Nat} : l.getD j true = false ↔ j < l.size /\ l.getD j false = false := by
 simp only [y02];by_cases h : j < l.size
 ·simp [h]
 ·simp [h]
theorem zu3 {F : Fence} {n k m : Nat} {ops : Array Oper} {ios : List Opr} {pres : List (List Nat)} {Q1 Q2 : Exit -> Act -> World -> Prop} (hio : ops.toList.mapM (zdh P ops) = some ios) (hpr : pres = zej ops) (hc : zuy ios pres k = true)
  (hq : ∀ e a w, e ≠ .normal -> Q1 e a w -> Q2 e a w)
  (hk : ∀ a w, Q1 .normal a w -> ∀ (listed : Array Bool) (fuel : Nat), listed.size = ops.size -> (∀ i, listed.getD i false = decide (i < k)) -> m <= fuel -> wpAnyIn F n P .any ops Q2 fuel listed a w) :
  ∀ (f fuel : Nat) (l1 listed : Array Bool) (a : Act) (w : World), f + m <= fuel -> l1.size = k -> listed.size = ops.size -> (∀ i, listed.getD i false = l1.getD i false) -> (∀ i, l1.getD i false = true -> ∀ p ∈ pres.getD i [], l1.getD p false = true) ->
   wpAnyIn F n P .any (ops.extract 0 k) Q1 f l1 a w -> wpAnyIn F n P .any ops Q2 fuel listed a w := by
 obtain ⟨hlen, hget⟩ := zeh hio;have hsz : ios.length = ops.size := by simpa using hlen
 unfold zuy at hc;simp only [y0g] at hc;obtain ⟨⟨⟨c1, c2⟩, c3⟩, c4⟩ := hc;have c1 : k <= ops.size := by rw [<- hsz]; exact y04 c1
 have acyc : ∀ i, i < ops.size -> ∀ p ∈ pres.getD i [], p < i := fun i hi p hp => by
  have := y0h.1 (y0h.1 c2 i (y0m.2 (by omega))) p hp;simpa using this
 have ext : ∀ {i : Nat}, i < k -> (ops.extract 0 k)[i]? = ops[i]? := fun {i} hi => by
  rw [Array.getElem?_extract, if_pos (by omega), y1b]
 have ext2 : ∀ {i : Nat} {o : Oper}, (ops.extract 0 k)[i]? = some o -> i < k := fun {i o} h => by
  rw [Array.getElem?_extract] at h;split at h
  ·omega
  ·cases h
 have presG : ∀ {i : Nat} {o : Oper}, ops[i]? = some o -> pres.getD i [] = (o.after.toList.filter (Region.binds .any ·)).map (·.on) := fun {i o} h => by
  have : pres[i]? = some ((o.after.toList.filter (Region.binds .any ·)).map (·.on)) := by rw [hpr]; simp [zej, h]
  rw [y0j, this, y1p]
 have nog : ∀ {i : Nat} {o : Oper}, i < k -> ops[i]? = some o -> o.guard = none := fun {i o} hi ho => by
  obtain ⟨io, h1, h2⟩ := hget i o (by rw [y1r]; exact ho);have h3 : io ∈ ios.take k := y0i (i := i) (by rw [List.getElem?_take, if_pos hi]; exact h1);have h4 := y0h.1 c3 io h3;unfold zdh at h2;split at h2
  ·assumption
  ·split at h2
   ·injection h2 with h2;subst h2;cases h4
   ·cases h2
 -- who is ready
 have rdy : ∀ (l1 listed : Array Bool), l1.size = k -> listed.size = ops.size -> (∀ i, listed.getD i false = l1.getD i false) -> ∀ i, i < k -> (i ∈ Region.ready .any (ops.extract 0 k) l1 ↔ i ∈ Region.ready .any ops listed) := by
  intro l1 listed h1 h2 he i hi;rw [mem_ready, mem_ready, zk3, zk3, ext hi, he i];constructor
  ·rintro ⟨⟨_, h⟩, o, ho, hp⟩;exact ⟨⟨by omega, h⟩, o, ho, fun e h3 h4 => by rw [he]; exact hp e h3 h4⟩
  ·rintro ⟨⟨_, h⟩, o, ho, hp⟩;exact ⟨⟨by omega, h⟩, o, ho, fun e h3 h4 => by rw [<- he]; exact hp e h3 h4⟩
 have full : ∀ (l1 : Array Bool), l1.size = k -> Region.ready .any (ops.extract 0 k) l1 = [] -> ∀ i, i < k -> l1.getD i false = true := by
  intro l1 h1 hr i
  induction i using Nat.strongRecOn with
  | _ i ih =>
   intro hi;cases hli : l1.getD i false with
   | true => rfl
   | false =>
    exfalso;have ho : ops[i]? = some ops[i] := by simp [show i < ops.size by omega]
    have : i ∈ Region.ready .any (ops.extract 0 k) l1 := by
     rw [mem_ready, zk3, ext hi];refine ⟨⟨by omega, hli⟩, ops[i], ho, fun e h3 h4 => ?_⟩;have := acyc i (by omega) e.on (by rw [presG ho]; exact y0p.2 ⟨e, y25.2 ⟨by simpa using h3, h4⟩, rfl⟩);exact ih _ this (by omega)
    rw [hr] at this;cases this
 have behind : ∀ (l1 listed : Array Bool), l1.size = k -> (∀ i, listed.getD i false = l1.getD i false) -> (∀ i, l1.getD i false = true -> ∀ p ∈ pres.getD i [], l1.getD p false = true) -> ∀ i, k <= i -> i ∈ Region.ready .any ops listed -> ∀ q, q < k -> l1.getD q false = true := by
  intro l1 listed h1 he hd i hi hr q hq';rw [mem_ready] at hr;obtain ⟨_, o, ho, hp⟩ := hr;have hio' : i < ops.size := (y0e.1 ho).1;have hp2 : ∀ p ∈ pres.getD i [], l1.getD p false = true := fun p hpp => by
   rw [presG ho] at hpp;obtain ⟨e, h3, rfl⟩ := y0p.1 hpp;obtain ⟨h4, h5⟩ := y25.1 h3;rw [<- he];exact hp e (by simpa using h4) h5
  have h6 := y0h.1 c4 i (y0m.2 (by omega));simp only [y0v] at h6;rcases h6 with (h6 | h6) | h6
  ·simp at h6; omega
  ·obtain ⟨p, h7, h8⟩ := y2f.1 h6;have h8 : k <= p := y04 h8;have := hp2 p h7;rw [y02, Array.getElem?_eq_none (by omega)] at this;cases this
  ·have h7 := y0h.1 h6 q (y0m.2 hq');exact zo6 (D := fun x => l1.getD x false = true) hd k _ hp2 q (by simpa using h7)
 intro f
 induction f with
 | zero =>
  intro fuel l1 listed a w hf h1 h2 he hd ⟨hr, hQ⟩;have hfu := full l1 h1 hr;refine hk a w hQ listed fuel h2 (fun i => ?_) (by omega);rw [he];by_cases hi : i < k
  ·rw [hfu i hi]; simp [hi]
  ·rw [y02, Array.getElem?_eq_none (by omega)]; simp [hi]
 | succ f ih =>
  intro fuel l1 listed a w hf h1 h2 he hd ⟨hd0, hst⟩;by_cases hfu : ∀ i, i < k -> l1.getD i false = true
  ·have hr : Region.ready .any (ops.extract 0 k) l1 = [] := by
    cases hr : Region.ready .any (ops.extract 0 k) l1 with
    | nil => rfl
    | cons i l =>
     have hi : i ∈ Region.ready .any (ops.extract 0 k) l1 := by rw [hr]; exact y01 ..
     rw [mem_ready, zk3] at hi;have := hfu i (by omega);rw [hi.1.2] at this;cases this
   refine hk a w (hd0 hr) listed fuel h2 (fun i => ?_) (by omega);rw [he];by_cases hi : i < k
   ·rw [hfu i hi]; simp [hi]
   ·rw [y02, Array.getElem?_eq_none (by omega)]; simp [hi]
  ·cases fuel with
   | zero => omega
   | succ fuel =>
    refine ⟨fun hr => ?_, fun i hi => ?_⟩
    ·exfalso;refine hfu (full l1 h1 ?_);cases hr1 : Region.ready .any (ops.extract 0 k) l1 with
     | nil => rfl
     | cons i l =>
      have hi : i ∈ Region.ready .any (ops.extract 0 k) l1 := by rw [hr1]; exact y01 ..
      have hi2 : i < k := by
       have h3 := hi;rw [mem_ready, zk3] at h3;omega
      rw [rdy l1 listed h1 h2 he i hi2, hr] at hi;cases hi
    ·have hik : i < k := by
      rcases y20 i k with h | h
      ·exact h
      ·exact absurd (behind l1 listed h1 he hd i h hi) hfu
     have hi1 := (rdy l1 listed h1 h2 he i hik).2 hi;have hs := hst i hi1;obtain ⟨_, o, ho, hpp⟩ := mem_ready.1 hi1;rw [ext hik] at ho;have hK : ∀ a' w', wpAnyIn F n P .any (ops.extract 0 k) Q1 f (l1.setIfInBounds i true) a' w' -> wpAnyIn F n P .any ops Q2 fuel (listed.setIfInBounds i true) a' w' := fun a' w' h => by
      refine ih fuel _ _ a' w' (by omega) (by simp [h1]) (by simp [h2]) (fun j => ?_) (fun j hj p hp => ?_) h
      ·rw [zd9 (by omega), zd9 (by omega), he]
      ·rw [zd9 (by omega)] at hj ⊢;simp only [y0v, decide_eq_true_eq] at hj ⊢;rcases hj with rfl | hj
       ·right;rw [presG ho] at hp;obtain ⟨e, h3, rfl⟩ := y0p.1 hp;obtain ⟨h4, h5⟩ := y25.1 h3;exact hpp e (by simpa using h4) h5
       ·exact .inr (hd j hj p hp)
     refine wpOpIn_mono hK ?_;unfold wpOpIn at hs ⊢;simp only [ext hik, ho] at hs ⊢;have hg := nog hik ho;rw [if_pos (by simp [Region.wanted, hg])] at hs ⊢;exact ztj hq hs
theorem T_cut (hm : P.follows .mixedOrders = true) {ios : List Opr} {pres : List (List Nat)} (k : Nat) (hc : zuy ios pres k = true) {K : AS -> Prop} (h1 : TA P w0 N0 rd (ios.take k) (pres.take k) S K) (h2 : ∀ S1, K S1 -> AnyF P w0 N0 rd ios pres (ios.length - k) (List.range k) S1 fun S' => Q .normal S') :
  T P w0 N0 rd (.region ios (some pres)) S Q := ztv hm fun ops hio hpr n I a w r Qc hR ho hQ => by
 obtain ⟨hlen, hget⟩ := zeh hio;have hsz : ios.length = ops.size := by simpa using hlen
 have hc' := hc;unfold zuy at hc';simp only [y0g] at hc';obtain ⟨⟨⟨c1, c2⟩, c3⟩, c4⟩ := hc';have c1 : k <= ops.size := by rw [<- hsz]; exact y04 c1
 have hx : (ops.extract 0 k).toList = ops.toList.take k := by simp
 have hio1 : (ops.extract 0 k).toList.mapM (zdh P (ops.extract 0 k)) = some (ios.take k) := by
  rw [hx];have key : ∀ (l : List Oper) (js : List Opr), l.mapM (zdh P ops) = some js -> (∀ io ∈ js, io.guard.isNone = true) -> l.mapM (zdh P (ops.extract 0 k)) = some js := by
   intro l
   induction l with
   | nil => intro js h _; simpa using h
   | cons o l ih =>
    intro js h hg;rw [y29] at h ⊢;cases e1 : zdh P ops o with
    | none => simp [e1] at h
    | some io =>
     cases e2 : l.mapM (zdh P ops) with
     | none => simp [e1, e2] at h
     | some js' =>
      simp [e1, e2] at h;subst h;have h3 := hg io (y01 ..);have h4 : zdh P (ops.extract 0 k) o = some io := by
       unfold zdh at e1 ⊢;cases hg0 : o.guard with
       | none => rw [hg0] at e1; exact e1
       | some gb =>
        exfalso;rw [hg0] at e1;simp only at e1;split at e1
        ·injection e1 with e1; subst e1; cases h3
        ·cases e1
      rw [h4, ih js' e2 fun x hx => hg x (y0a _ hx)];rfl
  refine key _ _ ?_ fun io hi => y0h.1 c3 io hi;have take : ∀ (k : Nat) (l : List Oper) (js : List Opr), l.mapM (zdh P ops) = some js -> (l.take k).mapM (zdh P ops) = some (js.take k) := by
   intro k l
   induction l generalizing k with
   | nil => intro js h; simp at h; subst h; simp
   | cons o l ih =>
    intro js h;rw [y29] at h;cases e1 : zdh P ops o with
    | none => simp [e1] at h
    | some io =>
     cases e2 : l.mapM (zdh P ops) with
     | none => simp [e1, e2] at h
     | some js' =>
      simp [e1, e2] at h;subst h;cases k with
      | zero => simp
      | succ k =>
       rw [y10, y10, y29, e1, ih k js' e2];rfl
  exact take k _ _ hio
 have hpr1 : pres.take k = zej (ops.extract 0 k) := by
  rw [hpr];unfold zej;rw [hx, List.map_take]
 have hA := h1 (ops.extract 0 k) hio1 hpr1 n I a w r (fun e a' w' => (e = .normal /\ ∃ I' S', K S' /\ Rel w0 N0 I' S' a' w' /\ Evo I w I' w') \/ (e ≠ .normal /\ Qc e a' w')) hR ho (fun I' S' a' w' hK hR' hE => .inl ⟨rfl, I', S', hK, hR', hE⟩);refine zu3 (m := ios.length - k) hio hpr hc (fun e a' w' he hq => hq.elim (fun x => absurd x.1 he) fun x => x.2) (fun a' w' hq listed fuel e1 e2 e3 => ?_) (ops.extract 0 k).size _ _ _ _ _ ?_ (by simp; omega) (by simp) (fun i => by rw [zcs, zcs]) (fun i hi => by rw [zcs] at hi; cases hi) hA
 ·rcases hq with ⟨_, I', S', hK, hR', hE⟩ | ⟨hq, _⟩
  ·refine zu1 hio hpr (ios.length - k) (List.range k) listed S' I' a' w' fuel e3 e1 (fun i => ?_) hR' (ho.evo hE) (h2 S' hK) fun I'' S'' a'' w'' x y z => hQ I'' S'' a'' w'' x y (hE.trans z);rw [e2];simp [y2g]
  ·exact absurd rfl hq
 ·simp only [Array.size_extract];omega
end
section
variable {P : Program} {w0 : World} {N0 : Nat} {rd : Option (Nat × Nat)} {ios : List Opr} {pres : List (List Nat)} {n nn nx nx' ck ck' i : Nat} {mk : List (Nat × Nat)} {done : List Nat} {K : AS -> Prop} {l : List (Nat × AV)} {hp hp' : List (Nat × Nat × AObj)} {k : List Fr} {Q : Exit -> AS -> Prop} {md : Md}
abbrev StF (P : Program) (w0 : World) (N0 : Nat) (rd : Option (Nat × Nat)) (ios : List Opr) (pres : List (List Nat)) (n : Nat) (done : List Nat) (S : AS) (K : AS -> Prop) (i : Nat) : Prop := ∀ io, ios[i]? = some io -> zc6 S.size io.dst = true /\
   (
    (zaf S io = some false /\ AnyF P w0 N0 rd ios pres n (i :: done) (S.put io.dst (.tup [])) K) \/
    (zaf S io = some true /\ ∃ Fk : AS -> AV -> Prop, Stp P w0 N0 rd io S Fk /\ ∀ S1 v, Fk S1 v -> zc6 S1.size io.dst = true /\ AnyF P w0 N0 rd ios pres n (i :: done) (S1.put io.dst v) K))
theorem AnyF.succ {S : AS} (h1 : zdv pres ios.length done ≠ []) (h2 : AllL (StF P w0 N0 rd ios pres n done S K) (zdv pres ios.length done)) : AnyF P w0 N0 rd ios pres (n + 1) done S K := ⟨h1, h2⟩
theorem AnyF.one {S : AS} (i : Nat) (h1 : zdv pres ios.length done = [i]) (h2 : StF P w0 N0 rd ios pres n done S K i) : AnyF P w0 N0 rd ios pres (n + 1) done S K := ⟨by rw [h1]; simp, by rw [h1]; exact ⟨h2, trivial⟩⟩
theorem AnyF.fin {S : AS} (h1 : zdv pres ios.length done = []) (h2 : K S) : AnyF P w0 N0 rd ios pres 0 done S K := ⟨h1, h2⟩
theorem za9 {d : Nat} {op : IOp} {v : AV} (hio : ios[i]? = some ⟨some d, op, none⟩) (hd : zc6 nn (some d) = true) (hi : iop (st nn l hp nx ck mk) op = some (v, st nn l hp' nx' ck' mk)) (go : AnyF P w0 N0 rd ios pres n (i :: done) (st nn ((d, v) :: l) hp' nx' ck' mk) K) : StF P w0 N0 rd ios pres n done (st nn l hp nx ck mk) K i := fun io h => by
 rw [hio] at h;injection h with h;subst h;exact ⟨hd, .inr ⟨rfl, _, zlc hi, fun S1 v1 ⟨e1, e2⟩ => by subst e1 e2; exact ⟨hd, go⟩⟩⟩
theorem zik {op : IOp} {v : AV} (hio : ios[i]? = some ⟨none, op, none⟩) (hi : iop (st nn l hp nx ck mk) op = some (v, st nn l hp' nx' ck' mk)) (go : AnyF P w0 N0 rd ios pres n (i :: done) (st nn l hp' nx' ck' mk) K) : StF P w0 N0 rd ios pres n done (st nn l hp nx ck mk) K i := fun io h => by
 rw [hio] at h;injection h with h;subst h;exact ⟨rfl, .inr ⟨rfl, _, zlc hi, fun S1 v1 ⟨e1, e2⟩ => by subst e1 e2; exact ⟨rfl, go⟩⟩⟩
theorem af_ct {d : Nat} {fa : Arg} {fv : AV} {args : List Arg} {vs : List AV} (F : AV -> HS -> Prop) (hio : ios[i]? = some ⟨some d, .call fa args, none⟩) (hd : zc6 nn (some d) = true) (hf : zar fa l = some fv) (ha : zeo args l = some vs) (hc : CT P w0 N0 fv vs ⟨hp, nx, ck⟩ F)
  (hm : ∀ v H, F v H -> zco mk H.heap) (go : ∀ v H, F v H -> AnyF P w0 N0 rd ios pres n (i :: done) (st nn ((d, v) :: l) H.heap H.next H.clk mk) K) : StF P w0 N0 rd ios pres n done (st nn l hp nx ck mk) K i := fun io h => by
 rw [hio] at h;injection h with h;subst h;refine ⟨hd, .inr ⟨rfl, fun S2 v2 => ∃ H, F v2 H /\ S2 = (st nn l hp nx ck mk).withH H, zlb rfl ((zag fa).trans hf) ((zfs args).trans ha) hc hm, fun S1 v1 h => ?_⟩⟩;obtain ⟨H, hF, e⟩ := h;subst e;exact ⟨hd, go v1 H hF⟩
theorem zht {d : Nat} {f : FuncId} {args : List Arg} {vs as : List AV} {v : AV} (hio : ios[i]? = some ⟨some d, .call (.c (.fn f [] [])) args, none⟩) (hd : zc6 nn (some d) = true) (ha : zeo args l = some vs) (hv : vs.map ((st nn l hp nx ck mk).view VD) = as) (hpf : PF P f as v) (hfl : hasM.hasML vs = true -> flat v = true) (hmk : zco mk hp)
  (go : AnyF P w0 N0 rd ios pres n (i :: done) (st nn ((d, v) :: l) hp nx ck mk) K) : StF P w0 N0 rd ios pres n done (st nn l hp nx ck mk) K i := fun io h => by
 rw [hio] at h;injection h with h;subst h;refine ⟨hd, .inr ⟨rfl, ?_⟩⟩;have hc : WpCall P w0 N0 (st nn l hp nx ck mk) (.fn f [] []) vs fun v' S' => v' = v /\ S' = st nn l hp nx ck mk := zgx (by rw [y1y, y0s, hv]; exact hpf) (by rw [y1y, y0s]; exact hfl) hmk ⟨rfl, rfl⟩;obtain ⟨Fk, hct, hk⟩ := hc.ok;refine ⟨fun S2 v2 => ∃ H, Fk v2 H /\ S2 = (st nn l hp nx ck mk).withH H, zlb rfl rfl ((zfs args).trans ha) hct fun v H hF => (hk v H hF).1, fun S1 v1 ⟨H, hF, e⟩ => ?_⟩;subst e;obtain ⟨_, rfl, e2⟩ := hk v1 H hF;rw [e2];exact ⟨hd, go⟩
theorem zpd (hm : P.follows .mixedOrders = true) {S : AS} (h : ∀ rd, AnyF P w0 N0 rd ios pres ios.length [] S fun S' => unw P w0 N0 md k Q .normal S') : Zm P w0 N0 md (.region ios (some pres)) S k Q := ⟨zf2 fun rd => T_any hm (h rd)⟩
theorem z_cut {E : Env} (hE : EnvOk P E) (j : Nat) (L : List (FuncId × List AV × AV)) (hL : ∀ x ∈ L, PF P x.1 x.2.1 x.2.2) (kn : FuncId -> Bool) (ld sd : Nat -> Bool) (hdis : ∀ i, ld i = true -> sd i = true -> False) {S : AS} {fl : List (Bool × Bool)}
  (hc : zuy ios pres j = true) (hs : zmc (E.ask (zer L) kn) (ios.take j) (pres.take j) S.size = some fl) (hf : zdj (ios.take j) fl = true)
  (hd : ((ios.take j).all fun io => zc6 S.size io.dst) = true) (h : Om P w0 N0 none (KnD (zer L) ld sd) (ios.take j) S [] fun e S1 => e = .normal /\ ∀ rd, AnyF P w0 N0 rd ios pres (ios.length - j) (List.range j) S1 fun S' => unw P w0 N0 md k Q .normal S') : Zm P w0 N0 md (.region ios (some pres)) S k Q := by
 obtain ⟨S', ⟨h1, _, h2⟩, h3⟩ := zty (P := P) (E := E) (kn := kn) (h.ok hd) hf;exact ⟨zf2 fun rd => T_cut hE.mix j hc (zql (hE.ask (zhd hL)) R0_ok hs h1 hdis h3) fun S1 e => by subst e; exact h2 rd⟩
end
open Classical in
noncomputable def zw1 : List (FuncId × List AV × HS × AV × HS) -> FuncId -> List AV -> HS -> Option (AV × HS)
 | [], _, _, _ => none
 | (g, as, G, v, G') :: l, f, args, H => if g = f /\ as = args /\ G = H then some (v, G') else zw1 l f args H
noncomputable def RL (l : List (FuncId × List AV × HS × AV × HS)) : Rec := ⟨zw1 l, fun _ _ _ => none⟩
theorem zrk {P : Program} : ∀ {l : List (FuncId × List AV × HS × AV × HS)}, (∀ x ∈ l, ∀ w0 N0, FT P w0 N0 x.1 x.2.1 x.2.2.1 fun v1 H1 => v1 = x.2.2.2.1 /\ H1 = x.2.2.2.2) -> ∀ f args H v H', zw1 l f args H = some (v, H') -> ∀ w0 N0, FT P w0 N0 f args H fun v1 H1 => v1 = v /\ H1 = H'
 | [], _, f, args, H, v, H', h => by cases h
 | (g, as, G, u, G') :: l, hl, f, args, H, v, H', h => by
  simp only [zw1] at h;split at h
  ·rename_i hc;obtain ⟨rfl, rfl, rfl⟩ := hc;simp only [y00, y0b] at h;obtain ⟨rfl, rfl⟩ := h;exact hl _ (y01 ..)
  ·exact zrk (fun x hx => hl x (y0a _ hx)) f args H v H' h
theorem RL_ok {P : Program} {l : List (FuncId × List AV × HS × AV × HS)} (h : ∀ x ∈ l, ∀ w0 N0, FT P w0 N0 x.1 x.2.1 x.2.2.1 fun v1 H1 => v1 = x.2.2.2.1 /\ H1 = x.2.2.2.2) : zjd P (RL l) :=
 ⟨fun f args H v H' e => zrk h f args H v H' e, fun _ _ _ _ _ h => (by cases h)⟩
theorem zq3 {marks : List (Nat × Nat)} {hp : List (Nat × Nat × AObj)} (h : zco marks hp) : zj3 marks hp = true := by
 unfold zj3;rw [y0h];intro m hm;rw [h m hm];simp
abbrev KnT (lk : FuncId -> List AV -> Option AV) (kn : FuncId -> Bool) (rl : List (FuncId × List AV × HS × AV × HS)) (ld sd : Nat -> Bool) : Kn := ⟨fun f as v => lk f as = some v,
 fun fv vs H F => ∃ f first cap v H', fv = .fn f first cap /\ kn f = false /\ (∀ as, lk f as = none) /\ zw1 rl f (first ++ vs ++ cap) H = some (v, H') /\ F = fun v1 H1 => v1 = v /\ H1 = H', ld, sd, fun _ _ _ _ => False, false⟩
def zkv (kn : FuncId -> Bool) : List Opr -> List (Bool × Bool) -> Bool
 | [], [] => true
 | io :: ios, (q, _) :: fl => (match io.op with
  | .call fa _ => !q || (match fa with
   | .c (.fn f _ _) => kn f
   | _ => false)
  | _ => true) && zkv kn ios fl
 | _, _ => false
def zn2 : IOp -> Bool
 | .build .. => true
 | _ => false
theorem zvs {S S1 : AS} {op : IOp} {v : AV} (hb : zn2 op = true) (h : iop S op = some (v, S1)) (H : HS) : iop (S.withH H) op = some (v, S.withH H) := by
 unfold zn2 at hb;split at hb
 ·rename_i z ps;simp only [iop, zq6] at h ⊢;cases hp : S.parts ps with
  | none => rw [hp] at h; cases h
  | some pl =>
   rw [hp] at h;dsimp only at h ⊢;cases hf : zbe z pl with
   | none => rw [hf] at h; cases h
   | some cs =>
    rw [hf] at h;injection h with h;injection h with h1 h2;subst h1;rfl
 ·cases hb
def zcv (la : Bool) : List Opr -> List (Bool × Bool) -> Bool
 | [], [] => true
 | io :: ios, (q, ind) :: fl => (match io.op with
  | .call fa args => !q || !ind || zm2 fa args
  | op => (q == !zda op) && (!q || !ind || (zga op || zn2 op || (zgl op && !la)))) && zcv la ios fl
 | _, _ => false
section
variable {P : Program} {w0 w : World} {N0 : Nat} {S S' : AS} {K : AS -> Prop} {E : Env}
theorem X_runT {lk : FuncId -> List AV -> Option AV} {kn : FuncId -> Bool} {ios : List Opr} {ld sd : Nat -> Bool} {rl : List (FuncId × List AV × HS × AV × HS)} {la : Bool} (hla : la = false -> ∀ i, ld i = false) (h : X (KnT lk kn rl ld sd) ios S K) : ∀ {fl : List (Bool × Bool)}, zcv la ios fl = true -> zkv kn ios fl = true -> ∃ S', (zca P (E.ask lk kn) (RL rl) ios fl S = some S' /\ K S') /\
  ∀ (i : Nat) (io : Opr) (Si : AS), ios[i]? = some io -> zca P (E.ask lk kn) (RL rl) (ios.take i) (fl.take i) S = some Si -> zaf Si io = some true -> ziv (fun i => ld i = true) (fun i => sd i = true) Si io.op := by
 induction h with
 | nil h =>
  intro fl hf _;cases fl with
  | nil => exact ⟨_, ⟨rfl, h⟩, fun i io Si hi => by simp at hi⟩
  | cons => simp [zcv] at hf
 | @op io ios S S1 v K hw hi hx hd _ ih =>
  intro fl hf ht;cases fl with
  | nil => simp [zcv] at hf
  | cons x fl =>
   obtain ⟨q, ind⟩ := x;simp only [zcv, y0g] at hf;simp only [zkv, y0g] at ht;obtain ⟨S', ⟨h1, h2⟩, h3⟩ := ih hf.2 ht.2;have fin : (∀ l r, zca P (E.ask lk kn) (RL rl) (io :: l) ((q, ind) :: r) S = zca P (E.ask lk kn) (RL rl) l r (S1.put io.dst v)) -> ∃ S', (zca P (E.ask lk kn) (RL rl) (io :: ios) ((q, ind) :: fl) S = some S' /\ K S') /\
     ∀ (i : Nat) (io' : Opr) (Si : AS), (io :: ios)[i]? = some io' -> zca P (E.ask lk kn) (RL rl) ((io :: ios).take i) (((q, ind) :: fl).take i) S = some Si -> zaf Si io' = some true -> ziv (fun i => ld i = true) (fun i => sd i = true) Si io'.op := by
    intro hrun;refine ⟨S', ⟨by rw [hrun]; exact h1, h2⟩, fun i io' Si e1 e2 e3 => ?_⟩;cases i with
    | zero =>
     simp [zca] at e1 e2;subst e1 e2;exact zwg hx
    | succ i =>
     rw [y10, y10, hrun] at e2;exact h3 i io' Si (by simpa using e1) e2 e3
   have hnc : ∀ a b, io.op ≠ .call a b := fun a b e => by rw [e] at hi; simp [iop] at hi
   have hf1 : q = !zda io.op /\ (q = true -> ind = false \/ (zga io.op = true \/ zn2 io.op = true) \/ (zgl io.op && !la) = true) := by
    have := hf.1;split at this
    ·rename_i hc; exact absurd hc (hnc _ _)
    ·rw [y0g, beq_iff_eq, y0v, y0v, y0v, y0v, y1u, y1u] at this;exact ⟨this.1, fun e => (this.2.imp_left fun h => h.resolve_left (by rw [e]; simp))⟩
   refine fin fun l r => ?_;simp only [zca, hw];cases hl : zda io.op with
   | false =>
    have hq : q = true := by rw [hf1.1, hl]; rfl
    have hi2 := hf1.2 hq;subst hq;have e1 : zb2 (E.ask lk kn) (RL rl) S io = some v := by
     unfold zb2;split
     ·rename_i hc; exact absurd hc (hnc _ _)
     ·rw [if_neg (by rw [hl]; simp), hi]; rfl
    have e3 : (if ind = true then zg2 (E.ask lk kn) (RL rl) S io else zb2 (E.ask lk kn) (RL rl) S io) = some v := by
     rcases hi2 with hi2 | hi2 | hi2
     ·rw [hi2, if_neg (by simp)]; exact e1
     ·cases ind with
      | false => exact e1
      | true =>
       rw [if_pos rfl];have h2 : iop (S.withH zm1) io.op = some (v, S.withH zm1) := hi2.elim (fun h => zlr h hi zm1) fun h => zvs h hi zm1;unfold zg2;split
       ·rename_i hc; exact absurd hc (hnc _ _)
       ·rw [if_neg (by rw [hl]; simp), h2]; rfl
     ·cases ind with
      | false => exact e1
      | true =>
       rw [if_pos rfl];rw [y0g, y1u] at hi2;obtain ⟨hi2, hla0⟩ := hi2;obtain ⟨g, d, hop⟩ := zk9 hi2;have h2 : ∃ S2, iop (S.withH zm1) io.op = some (v, S2) := by
        rw [hop] at hi hx ⊢;simp only [iop, zmk] at hi ⊢;cases hp : S.arg (.t d) with
        | none => rw [hp] at hi; cases hi
        | some p =>
         rw [hp] at hi;have hd : (S.withH zm1).deref p = S.deref p := by
          cases p <;> first
           | rfl
           | exact Bool.noConfusion ((hla hla0 _).symm.trans (hx _ _ _ hp))
         dsimp only at hi ⊢;rw [hd];cases hc : S.deref p with
         | none => rw [hc] at hi; cases hi
         | some cs =>
          rw [hc] at hi;dsimp only at hi ⊢;cases g with
          | none =>
           cases cs with
           | nil => cases hi
           | cons x xs => injection hi with hi; injection hi with e _; exact ⟨_, by rw [e]⟩
          | some n =>
           dsimp only at hi ⊢;split at hi
           ·rename_i hle;injection hi with hi; injection hi with e _;exact ⟨_, by rw [if_pos hle, e]⟩
           ·cases hi
       obtain ⟨S2, h2⟩ := h2;unfold zg2;split
       ·rename_i hc; exact absurd hc (hnc _ _)
       ·rw [if_neg (by rw [hl]; simp), h2]; rfl
    have e2 := zk8 hl hi;subst e2;simp only [if_true, e3]
   | true =>
    have hq : q = false := by rw [hf1.1, hl]; rfl
    subst hq;have e1 : zdr P (E.ask lk kn) (RL rl) S io = some (v, S1.hs) := by
     unfold zdr zb2 zgp;split
     ·rename_i v' hq;split at hq
      ·rename_i hc; exact absurd hc (hnc _ _)
      ·rw [if_pos hl] at hq; cases hq
     ·split
      ·rename_i hc; exact absurd hc (hnc _ _)
      ·rw [hi]
    simp only [y0t, if_false, e1];rw [<- zj2 hi]
 | @skip io ios S K hw hd _ ih =>
  intro fl hf ht;cases fl with
  | nil => simp [zcv] at hf
  | cons x fl =>
   obtain ⟨q, ind⟩ := x;simp only [zcv, y0g] at hf;simp only [zkv, y0g] at ht;obtain ⟨S', ⟨h1, h2⟩, h3⟩ := ih hf.2 ht.2;have fin : (∀ l r, zca P (E.ask lk kn) (RL rl) (io :: l) ((q, ind) :: r) S = zca P (E.ask lk kn) (RL rl) l r (S.put io.dst (.tup []))) -> ∃ S', (zca P (E.ask lk kn) (RL rl) (io :: ios) ((q, ind) :: fl) S = some S' /\ K S') /\
     ∀ (i : Nat) (io' : Opr) (Si : AS), (io :: ios)[i]? = some io' -> zca P (E.ask lk kn) (RL rl) ((io :: ios).take i) (((q, ind) :: fl).take i) S = some Si -> zaf Si io' = some true -> ziv (fun i => ld i = true) (fun i => sd i = true) Si io'.op := by
    intro hrun;refine ⟨S', ⟨by rw [hrun]; exact h1, h2⟩, fun i io' Si e1 e2 e3 => ?_⟩;cases i with
    | zero =>
     simp [zca] at e1 e2;subst e1 e2;rw [hw] at e3; cases e3
    | succ i =>
     rw [y10, y10, hrun] at e2;exact h3 i io' Si (by simpa using e1) e2 e3
   exact fin fun l r => by simp only [zca, hw]
 | @call io ios S v K fa args fid first cap vs hw hop hf0 ha hp hfl hm hd _ ih =>
  intro fl hf ht;cases fl with
  | nil => simp [zcv] at hf
  | cons x fl =>
   obtain ⟨q, ind⟩ := x;simp only [zcv, y0g] at hf;simp only [zkv, y0g] at ht;obtain ⟨S', ⟨h1, h2⟩, h3⟩ := ih hf.2 ht.2;have fin : (∀ l r, zca P (E.ask lk kn) (RL rl) (io :: l) ((q, ind) :: r) S = zca P (E.ask lk kn) (RL rl) l r (S.put io.dst v)) -> ∃ S', (zca P (E.ask lk kn) (RL rl) (io :: ios) ((q, ind) :: fl) S = some S' /\ K S') /\
     ∀ (i : Nat) (io' : Opr) (Si : AS), (io :: ios)[i]? = some io' -> zca P (E.ask lk kn) (RL rl) ((io :: ios).take i) (((q, ind) :: fl).take i) S = some Si -> zaf Si io' = some true -> ziv (fun i => ld i = true) (fun i => sd i = true) Si io'.op := by
    intro hrun;refine ⟨S', ⟨by rw [hrun]; exact h1, h2⟩, fun i io' Si e1 e2 e3 => ?_⟩;cases i with
    | zero =>
     simp [zca] at e1 e2;subst e1 e2;rw [hop]; exact trivial
    | succ i =>
     rw [y10, y10, hrun] at e2;exact h3 i io' Si (by simpa using e1) e2 e3
   have hf1 : q = false \/ (ind = false \/ zm2 fa args = true) := by
    have := hf.1;rw [hop] at this;simpa [or_assoc] using this
   refine fin fun l r => ?_;have e1 : zb2 (E.ask lk kn) (RL rl) S io = some v := by
    unfold zb2;split
    ·rename_i fa' args' hop';rw [hop] at hop';injection hop' with e1 e2;subst e1 e2;simp only [hf0, ha, zdu];rw [show (E.ask lk kn).orc fid ((first ++ vs ++ cap).map (S.view VD)) = some v from hp]
     simp only;cases hmm : hasM.hasML (first ++ vs ++ cap) with
     | false => simp
     | true => simp [hfl hmm]
    ·rename_i hn; exact absurd hop (hn _ _)
   rcases hf1 with rfl | hind
   ·have e4 : zdr P (E.ask lk kn) (RL rl) S io = some (v, S.hs) := by
     unfold zdr;rw [e1]
    simp only [zca, hw, y0t, if_false, e4];rfl
   have e3 : (if ind = true then zg2 (E.ask lk kn) (RL rl) S io else zb2 (E.ask lk kn) (RL rl) S io) = some v := by
    rcases hind with hind | hind
    ·rw [hind, if_neg (by simp)]; exact e1
    ·cases ind with
     | false => exact e1
     | true =>
      rw [if_pos rfl];unfold zm2 at hind;split at hind
      ·injection hf0 with hf0;injection hf0 with a1 a2 a3;subst a2 a3;replace a1 := a1.symm;subst a1;injection ha with ha;subst ha;unfold zg2;split
       ·rename_i fa' args' hop';rw [hop] at hop';injection hop' with b1 b2;subst b1 b2;have hp2 : (E.ask lk kn).orc fid [] = some v := hp;simp [AS.arg, AS.args, zdu, hp2, hasM.hasML]
       ·rename_i hn; exact absurd hop (hn _ _)
      ·cases hind
   cases q with
   | true => simp only [zca, hw, if_true, e3]
   | false =>
    have e4 : zdr P (E.ask lk kn) (RL rl) S io = some (v, S.hs) := by
     unfold zdr;rw [e1]
    simp only [zca, hw, y0t, if_false, e4];rfl
 | @ct io ios S K fa args fv vs F hw hop hf0 ha hc hm hd _ ih =>
  intro fl hf ht;cases fl with
  | nil => simp [zcv] at hf
  | cons x fl =>
   obtain ⟨q, ind⟩ := x;simp only [zcv, y0g] at hf;simp only [zkv, y0g] at ht;obtain ⟨f, first, cap, v, H', rfl, hkn, hlk, hr, rfl⟩ := hc;obtain ⟨S', ⟨h1, h2⟩, h3⟩ := ih v H' ⟨rfl, rfl⟩ hf.2 ht.2;have hq : q = false := by
    have h9 := ht.1;rw [hop] at h9;cases q with
    | false => rfl
    | true =>
     exfalso;cases fa with
     | t n => simp at h9
     | c cv =>
      injection hf0 with hf0;subst hf0;simp [hkn] at h9
   subst hq;have e1 : zb2 (E.ask lk kn) (RL rl) S io = none := by
    unfold zb2;split
    ·rename_i fa' args' hop';rw [hop] at hop';injection hop' with e1 e2;subst e1 e2;simp only [hf0, ha, zdu];rw [show (E.ask lk kn).orc f ((first ++ vs ++ cap).map (S.view VD)) = none from hlk _]
     rfl
    ·rename_i hn; exact absurd hop (hn _ _)
   have e4 : zdr P (E.ask lk kn) (RL rl) S io = some (v, H') := by
    unfold zdr;rw [e1];show zgp P (RL rl) S io = _;unfold zgp;split
    ·rename_i fa' args' hop';rw [hop] at hop';injection hop' with e1 e2;subst e1 e2;simp only [hf0, ha, callV];rw [show (RL rl).f f (first ++ vs ++ cap) S.hs = some (v, H') from hr]
     simp only;rw [if_pos (zq3 (hm v H' ⟨rfl, rfl⟩))]
    ·rename_i hn; exact absurd hop (hn _ _)
   have hrun : ∀ l r, zca P (E.ask lk kn) (RL rl) (io :: l) ((false, ind) :: r) S = zca P (E.ask lk kn) (RL rl) l r ((S.withH H').put io.dst v) := fun l r => by
    simp only [zca, hw, y0t, if_false, e4]
   refine ⟨S', ⟨by rw [hrun]; exact h1, h2⟩, fun i io' Si e1 e2 e3 => ?_⟩;cases i with
   | zero =>
    simp [zca] at e1 e2;subst e1 e2;rw [hop]; exact trivial
   | succ i =>
    rw [y10, y10, hrun] at e2;exact h3 i io' Si (by simpa using e1) e2 e3
 | ext hw hs => exact hs.elim
end
section
variable {P : Program} {w0 : World} {N0 : Nat} {S : AS} {k : List Fr} {Q : Exit -> AS -> Prop} {ios : List Opr} {pres : List (List Nat)} {n nx ck : Nat} {mk : List (Nat × Nat)} {md : Md} {l : List (Nat × AV)} {hp : List (Nat × Nat × AObj)} {lk : FuncId -> List AV -> Option AV} {kn : FuncId -> Bool} {rl : List (FuncId × List AV × HS × AV × HS)} {ld sd : Nat -> Bool}
theorem zsl {E : Env} (hE : EnvOk P E) (L : List (FuncId × List AV × AV)) (hL : ∀ x ∈ L, PF P x.1 x.2.1 x.2.2) (kn : FuncId -> Bool) (rl : List (FuncId × List AV × HS × AV × HS)) (hR : ∀ x ∈ rl, ∀ w0 N0, FT P w0 N0 x.1 x.2.1 x.2.2.1 fun v1 H1 => v1 = x.2.2.2.1 /\ H1 = x.2.2.2.2)
  (la : Bool) (ld sd : Nat -> Bool) (hla : la = false -> ∀ i, ld i = false) (hdis : ∀ i, ld i = true -> sd i = true -> False) {fl : List (Bool × Bool)}
  (hs : zmc (E.ask (zer L) kn) ios pres S.size = some fl) (hf : zcv la ios fl = true) (ht : zkv kn ios fl = true)
  (hd : (ios.all fun io => zc6 S.size io.dst) = true) (h : Om P w0 N0 md (KnT (zer L) kn rl ld sd) ios S k Q) : Zm P w0 N0 md (.region ios (some pres)) S k Q := by
 obtain ⟨S', ⟨h1, h2⟩, h3⟩ := X_runT (P := P) (E := E) hla (h.ok hd) hf ht;exact ⟨zf2 fun _ => zgz (ztw (hE.ask (zhd hL)) (RL_ok hR) hs h1 hdis h3) fun e S1 ⟨e1, e2⟩ => by subst e1 e2; exact h2⟩
end
open Go
end Go.Am
