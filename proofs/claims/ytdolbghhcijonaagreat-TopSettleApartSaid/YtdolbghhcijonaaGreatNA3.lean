/-
  AN ABSTRACT MACHINE FOR PROOFS, PART 3. A general base for proofs: no program is named here.
-/
import Derived.Test.YtdolbghhcijonaaGreatNA2
import Derived.RangeFuncNested
import Derived.OrdersIn
namespace Go.Am
open Go Go.RowKit
def Wd (r : Option Nat) : Fence := { Fence.wide with round := r }
theorem Wd_fn (r : Option Nat) (f : FuncId) : (Wd r).fn f := trivial
theorem ziw (r : Option Nat) : (Wd r).depth = none := rfl
theorem zg7 {r : Option Nat} {n : Nat} {P : Program} {f : FuncId} {args : Array Value} {w : World} {R : Ending -> World -> Prop} (h : Calls P f args w R) : CallsIn (Wd r) n P f args w R :=
 callsIn_wide.2 h
theorem zjm {r : Option Nat} {n : Nat} {P : Program} {f : FuncId} {args : Array Value} {w : World} {R : Ending -> World -> Prop} (h : CallsIn (Wd r) n P f args w R) : Calls P f args w R :=
 callsIn_wide.1 (show CallsIn Fence.wide n P f args w R from h)
def RdOk (I : LI) : Option (Nat × Nat) -> Option Nat -> Prop
 | none, none => True
 | some (id, st), some r => st < I.clk /\ ∀ l, I.loc id st = some l -> ∃ base n, l = .at r base n
 | _, _ => False
theorem RdOk.evo {I I' : LI} {w w' : World} {rd : Option (Nat × Nat)} {r : Option Nat} (h : RdOk I rd r) (e : Evo I w I' w') : RdOk I' rd r := by
 cases rd with
 | none => cases r <;> exact h
 | some x =>
  cases r with
  | none => exact h
  | some r => exact ⟨y09 h.1 e.clk, fun l hl => h.2 l (e.loc _ _ _ h.1 hl)⟩
inductive Com (P : Program) : Code -> IC -> Prop
 | skip : Com P .skip .skip
 | label {l} : Com P (.label l) .skip
 | region {id ops draw ios pr} (h : ops.toList.mapM (zdh P ops) = some ios) (hp : pr = if draw then some (zej ops) else none) : Com P (.region id ops draw) (.region ios pr)
 | seq {a b x y} (h1 : Com P a x) (h2 : Com P b y) : Com P (.seq a b) (.seq x y)
 | cond {c a b d x y} (h0 : za1 c = some d) (h1 : Com P a x) (h2 : Com P b y) : Com P (.cond c a b) (.cond d x y)
 | block {id b x} (h : Com P b x) : Com P (.block id b) (.block id x)
 | loop {b x} (h : Com P b x) : Com P (.loop b) (.loop x)
 | rangeFunc {f ps a b d x y} (h0 : za1 f = some d) (h1 : Com P a x) (h2 : Com P b y) : Com P (.rangeFunc f ps a b) (.rangeFunc d ps.toList a b x y)
 | exit {id} : Com P (.exit id) (.exit id)
 | ret : Com P .ret .ret
 | refuse {x} : Com P (.refuse x) .refuse
theorem zr4 {P : Program} : ∀ {code : Code} {ic : IC}, zh5 P code = some ic -> Com P code ic := by
 intro code
 induction code with
 | skip => intro ic h; simp only [zh5, y00] at h; subst h; exact .skip
 | label l => intro ic h; simp only [zh5, y00] at h; subst h; exact .label
 | region id ops draw =>
  intro ic h;simp only [zh5, y03] at h;obtain ⟨ios, h1, rfl⟩ := h;exact .region h1 rfl
 | seq a b iha ihb =>
  intro ic h;simp only [zh5] at h;split at h
  ·rename_i x y hx hy;simp only [y00] at h; subst h;exact .seq (iha hx) (ihb hy)
  ·cases h
 | cond c a b iha ihb =>
  intro ic h;simp only [zh5] at h;split at h
  ·rename_i d x y hd hx hy;simp only [y00] at h; subst h;exact .cond hd (iha hx) (ihb hy)
  ·cases h
 | block id b ih =>
  intro ic h;simp only [zh5, y03] at h;obtain ⟨x, h1, rfl⟩ := h;exact .block (ih h1)
 | loop b ih =>
  intro ic h;simp only [zh5, y03] at h;obtain ⟨x, h1, rfl⟩ := h;exact .loop (ih h1)
 | rangeFunc f ps a b iha ihb =>
  intro ic h;simp only [zh5] at h;split at h
  ·rename_i d x y hd hx hy;simp only [y00] at h; subst h;exact .rangeFunc hd (iha hx) (ihb hy)
  ·cases h
 | exit id => intro ic h; simp only [zh5, y00] at h; subst h; exact .exit
 | scope b => intro ic h; simp [zh5] at h
 | goto l => intro ic h; simp [zh5] at h
 | ret => intro ic h; simp only [zh5, y00] at h; subst h; exact .ret
 | refuse w => intro ic h; simp only [zh5, y00] at h; subst h; exact .refuse
def Post (w0 : World) (N0 : Nat) (I : LI) (w : World) (Q : Exit -> AS -> Prop) (e : Exit) (a' : Act) (w' : World) : Prop := ∃ I' S', Q e S' /\ Rel w0 N0 I' S' a' w' /\ Evo I w I' w'
def T (P : Program) (w0 : World) (N0 : Nat) (rd : Option (Nat × Nat)) (ic : IC) (S : AS) (Q : Exit -> AS -> Prop) : Prop :=
 ∀ code, Com P code ic -> ∀ n I a w r, Rel w0 N0 I S a w -> RdOk I rd r -> code.wpIn (Wd r) n P (Post w0 N0 I w Q) a w
def Sub (w0 : World) (N0 : Nat) (S S' : AS) : Prop := ∀ I a w, Rel w0 N0 I S a w -> ∃ I', Rel w0 N0 I' S' a w /\ Evo I w I' w
section
variable {P : Program} {w0 : World} {N0 : Nat} {rd : Option (Nat × Nat)} {S S' : AS} {Q Q' : Exit -> AS -> Prop}
theorem Sub.refl : Sub w0 N0 S S := fun I _ w h => ⟨I, h, Evo.refl I w⟩
theorem zgz {ic : IC} (h : T P w0 N0 rd ic S Q) (hq : ∀ e S', Q e S' -> Q' e S') : T P w0 N0 rd ic S Q' := fun code hc n I a w r hr ho =>
 wpIn_mono (h code hc n I a w r hr ho) fun _ _ _ ⟨I', S', q, x⟩ => ⟨I', S', hq _ _ q, x⟩
theorem T_sub {ic : IC} (hs : Sub w0 N0 S S') (h : T P w0 N0 rd ic S' Q) : T P w0 N0 rd ic S Q := fun code hc n I a w r hr ho => by
 obtain ⟨I', h1, h2⟩ := hs I a w hr;exact wpIn_mono (h code hc n I' a w r h1 (ho.evo h2)) fun _ _ _ ⟨I'', S'', q, x, y⟩ => ⟨I'', S'', q, x, h2.trans y⟩
theorem T_skip (h : Q .normal S) : T P w0 N0 rd .skip S Q := fun code hc n I a w r hr _ => by
 cases hc
 ·exact wpIn_skip ⟨I, S, h, hr, Evo.refl I w⟩
 ·exact wpIn_label ⟨I, S, h, hr, Evo.refl I w⟩
theorem T_exit {id : Nat} (h : Q (.exit id) S) : T P w0 N0 rd (.exit id) S Q := fun code hc n I a w r hr _ => by
 cases hc;exact wpIn_exit ⟨I, S, h, hr, Evo.refl I w⟩
theorem T_ret (h : Q .ret S) : T P w0 N0 rd .ret S Q := fun code hc n I a w r hr _ => by
 cases hc;exact wpIn_ret ⟨I, S, h, hr, Evo.refl I w⟩
def QSeq (P : Program) (w0 : World) (N0 : Nat) (rd : Option (Nat × Nat)) (y : IC) (Q : Exit -> AS -> Prop) : Exit -> AS -> Prop
 | .normal, S => T P w0 N0 rd y S Q
 | e, S => Q e S
theorem T_seq {x y : IC} (h : T P w0 N0 rd x S (QSeq P w0 N0 rd y Q)) : T P w0 N0 rd (.seq x y) S Q := fun code hc n I a w r hr ho => by
 cases hc with
 | seq h1 h2 =>
  refine wpIn_seq (wpIn_mono (h _ h1 n I a w r hr ho) fun e a' w' ⟨I', S', q, x, y⟩ => ?_);cases e with
  | normal => exact wpIn_mono (q _ h2 n I' a' w' r x (ho.evo y)) fun _ _ _ ⟨I'', S'', q', x', y'⟩ => ⟨I'', S'', q', x', y.trans y'⟩
  | exit id => exact ⟨I', S', q, x, y⟩
  | goto l => exact ⟨I', S', q, x, y⟩
  | ret => exact ⟨I', S', q, x, y⟩
  | panic c => exact ⟨I', S', q, x, y⟩
  | outgrown => exact ⟨I', S', q, x, y⟩
theorem T_cond {c : Arg} {x y : IC} {t : Bool} (hc : S.arg c = some (.bool t)) (h : T P w0 N0 rd (if t then x else y) S Q) : T P w0 N0 rd (.cond c x y) S Q := fun code hcom n I a w r hr ho => by
 cases hcom with
 | @cond c' a' b' _ _ _ h0 h1 h2 =>
  have hv := hr.arg h0 hc;generalize he : a.eval c' = u at hv;cases hv;refine wpIn_cond he ?_;cases t
  ·exact h _ h2 n I a w r hr ho
  ·exact h _ h1 n I a w r hr ho
def zla (id : Nat) (Q : Exit -> AS -> Prop) : Exit -> AS -> Prop
 | .exit i, S => if i = id then Q .normal S else Q (.exit i) S
 | e, S => Q e S
theorem T_block {id : Nat} {x : IC} (h : T P w0 N0 rd x S (zla id Q)) : T P w0 N0 rd (.block id x) S Q := fun code hcom n I a w r hr ho => by
 cases hcom with
 | block h1 =>
  refine wpIn_block (wpIn_mono (h _ h1 n I a w r hr ho) fun e a' w' ⟨I', S', q, x, y⟩ => ?_);cases e with
  | exit i =>
   simp only [zla] at q;simp only [Exit.inBlock];split
   ·rename_i hi; rw [if_pos hi] at q; exact ⟨I', S', q, x, y⟩
   ·rename_i hi; rw [if_neg hi] at q; exact ⟨I', S', q, x, y⟩
  | normal => exact ⟨I', S', q, x, y⟩
  | goto l => exact ⟨I', S', q, x, y⟩
  | ret => exact ⟨I', S', q, x, y⟩
  | panic c => exact ⟨I', S', q, x, y⟩
  | outgrown => exact ⟨I', S', q, x, y⟩
def QLoop (w0 : World) (N0 : Nat) (J : Nat -> AS -> Prop) (m : Nat) (Q : Exit -> AS -> Prop) : Exit -> AS -> Prop
 | .normal, S => ∃ m' S', m' < m /\ Sub w0 N0 S S' /\ J m' S'
 | e, S => Q e S
theorem T_loop {x : IC} (J : Nat -> AS -> Prop) {m : Nat} (h0 : J m S) (hround : ∀ m S, J m S -> T P w0 N0 rd x S (QLoop w0 N0 J m Q)) : T P w0 N0 rd (.loop x) S Q := fun code hcom n I a w r hr ho => by
 cases hcom with
 | @loop c _ h1 =>
  intro b k cs hro hb hroom;have key : ∀ m S I₁ a₁ w₁, J m S -> Rel w0 N0 I₁ S a₁ w₁ -> Evo I w I₁ w₁ ->
    ∃ e a' w', Post w0 N0 I w Q e a' w' /\ ArrivesIn (Machine.fenced P (Wd r)) P (lone (b.atR a₁ (.code c :: .inLoop c :: k)) cs w₁) b k cs e a' w' := by
   intro m
   induction m using Nat.strongRecOn with
   | _ m ih =>
    intro S I₁ a₁ w₁ hJ hr₁ hE;obtain ⟨e, a₂, w₂, ⟨I₂, S₂, q, x, y⟩, harr⟩ := hround m S hJ c h1 n I₁ a₁ w₁ r hr₁ (ho.evo hE) b (.inLoop c :: k) cs hro hb hroom;have y := hE.trans y;cases e with
    | normal =>
     obtain ⟨m', S', hlt, hs, hJ'⟩ := q;obtain ⟨I₃, x3, y3⟩ := hs _ _ _ x;obtain ⟨e, a₃, w₃, hq, harr'⟩ := ih m' hlt S' I₃ a₂ w₂ hJ' x3 (y.trans y3);exact ⟨e, a₃, w₃, hq, .of_steps (StepsIn.trans harr (.one (fenced_calm (fr := b.atR a₂ (.inLoop c :: k)) hb hroom rfl) stepR_inLoop)) harr'⟩
    | exit id => exact ⟨_, a₂, w₂, ⟨I₂, S₂, q, x, y⟩, .pass (x := .inLoop c) rfl (fun _ _ => .inl (by simp)) harr⟩
    | goto l => exact ⟨_, a₂, w₂, ⟨I₂, S₂, q, x, y⟩, .pass (x := .inLoop c) rfl (fun _ _ => .inl (by simp)) harr⟩
    | ret => exact ⟨_, a₂, w₂, ⟨I₂, S₂, q, x, y⟩, .pass (x := .inLoop c) rfl (fun _ _ => .inl (by simp)) harr⟩
    | panic ch => exact ⟨_, a₂, w₂, ⟨I₂, S₂, q, x, y⟩, .pass (x := .inLoop c) rfl (fun _ _ => .inl (by simp)) harr⟩
    | outgrown => exact ⟨_, a₂, w₂, ⟨I₂, S₂, q, x, y⟩, .pass (x := .inLoop c) rfl (fun _ _ => .inl (by simp)) harr⟩
  obtain ⟨e, a', w', hq, harr⟩ := key m S I a w h0 hr (Evo.refl I w);exact ⟨e, a', w', hq, .of_steps (.one (fenced_calm hb hroom rfl) stepR_loop) harr⟩
end
structure HS where
 heap : List (Nat × Nat × AObj)
 next : Nat
 clk : Nat
def AS.hs (S : AS) : HS := ⟨S.heap, S.next, S.clk⟩
def AS.withH (S : AS) (H : HS) : AS := { S with heap := H.heap, next := H.next, clk := H.clk }
def Ent (P : Program) (f : FuncId) : Prop := ∀ args w, (callFunc f args).run P w = .ok (.enter f args) w
def FT (P : Program) (w0 : World) (N0 : Nat) (f : FuncId) (args : List AV) (H : HS) (Q : AV -> HS -> Prop) : Prop :=
 Ent P f /\ ∀ I w us, HRel w0 N0 I H.heap H.next w -> I.clk = H.clk -> CRel w I.ro (some I) args us ->
  Calls P f us w fun e w' => ∃ u v H' I', e = .returned u /\ Q v H' /\ HRel w0 N0 I' H'.heap H'.next w' /\ I'.clk = H'.clk /\ VRel w' I'.ro (some I') v u /\ Evo I w I' w'
def PF (P : Program) (f : FuncId) (args : List AV) (v : AV) : Prop :=
 Ent P f /\ ∀ (ro : Nat -> Prop) w us, GOk ro w -> CRel w ro none args us -> Calls P f us w fun e w' => ∃ u, e = .returned u /\ Below w.heap.size w w' /\ VRel w' (fun b => ro b \/ w.heap.size <= b) none v u
theorem zsq {B : Nat} {w w' : World} (h : Below B w w') {b i : Nat} {x : Value} (hb : b < B) (hc : w.cell? ⟨b, i, none⟩ = some x) : w'.cell? ⟨b, i, none⟩ = some x := by
 rw [cell?_of_heap (h.block b hb)]; exact hc
theorem HRel.below' {w0 w w' : World} {N0 next : Nat} {I : LI} {hp : List (Nat × Nat × AObj)} (h : HRel w0 N0 I hp next w) (hb : Below w.heap.size w w') : HRel w0 N0 I hp next w' /\ Evo I w I w' := by
 have hN : N0 <= w.heap.size := y0u h.base h.below.size;have hE : Evo I w I w' := ⟨y08 _, fun _ _ _ _ h => h, fun b i x hr hc => ⟨hr, zsq hb (zi5 hc) hc⟩, rfl⟩
 refine ⟨⟨h.below.trans (hb.mono hN), h.base, fun i st o hi => ?_, h.locs, h.inj, h.fresh, h.free, h.okN, h.glob.mono hE.ro⟩, hE⟩;obtain ⟨a, l, b, c⟩ := h.heap i st o hi;refine ⟨a, l, b, c.evo hE fun b' base n e => ?_⟩;subst e;refine hb.block b' ?_;cases o with
 | cells cs => obtain ⟨c', elem, h1, _⟩ := c; exact (y0e.1 h1).1
 | loop => obtain ⟨c', h1, _⟩ := c; exact (y0e.1 h1).1
 | deferred => exact (y0e.1 c).1
 | map es => obtain ⟨c', elem, h1, _⟩ := c; exact (y0e.1 h1).1
 | typed T full cs => obtain ⟨_, _, c, h1, _⟩ := c; exact (y0e.1 h1).1
def hasM : AV -> Bool
 | .mptr .. | .ms .. | .mapv .. | .yield .. => true
 | .agg cs => hasML cs
 | .tup cs => hasML cs
 | .fn _ a b => hasML a || hasML b
 | _ => false
where
 hasML : List AV -> Bool
  | [] => false
  | v :: l => hasM v || hasML l
def flat : AV -> Bool
 | .bool _ | .int .. | .str _ | .nilp | .nils | .nilf => true
 | .agg cs => flatL cs
 | .tup cs => flatL cs
 | _ => false
where
 flatL : List AV -> Bool
  | [] => true
  | v :: l => flat v && flatL l
def AS.view (S : AS) : Nat -> AV -> AV
 | 0, v => strip v
 | d + 1, .ms id st sz off len cap => match S.elems sz (.ms id st sz off len cap) with
  | some es => .vs (es.map (·.map (S.view d)))
  | none => .top
 | d + 1, .mptr id st off => match S.deref (.mptr id st off) with
  | some cs => .vptr (cs.map (S.view d))
  | none => .top
 | d + 1, .agg cs => .agg (cs.map (S.view d))
 | d + 1, .tup cs => .tup (cs.map (S.view d))
 | d + 1, .fn f a b => .fn f (a.map (S.view d)) (b.map (S.view d))
 | _ + 1, .nils => .vs []
 | _ + 1, v => strip v
theorem zfv : ∀ {cs : List AV}, flat.flatL cs = true -> ∀ (i : Nat) (x : AV), cs[i]? = some x -> flat x = true
 | [], _, i, x, h => by simp at h
 | c :: cs, h, i, x, hx => by
  simp only [flat.flatL, y0g] at h;cases i with
  | zero => simp at hx; subst hx; exact h.1
  | succ i => exact zfv h.2 i x (by simpa using hx)
theorem VRel.flat {w w' : World} {ro ro' : Nat -> Prop} {L L' : Option LI} {v : AV} {u : Value} (h : VRel w ro L v u) : flat v = true -> VRel w' ro' L' v u := by
 induction h with
 | bool => intro _; exact .bool
 | int => intro _; exact .int
 | str => intro _; exact .str
 | nilp => intro _; exact .nilp
 | nils => intro _; exact .nils
 | nilf => intro _; exact .nilf
 | agg h1 h ih => intro hf; exact .agg h1 fun i x hx => ih i x hx (zfv hf i x hx)
 | tup h1 h ih => intro hf; exact .tup h1 fun i x hx => ih i x hx (zfv hf i x hx)
 | _ => intro hf; simp [Go.Am.flat] at hf
section
variable {P : Program} {w0 w : World} {N0 : Nat} {I : LI} {S S' : AS} {a : Act} {rd : Option (Nat × Nat)}
theorem VRel.okk {w : World} {I : LI} {x : AV} {y : Value} (hx : VRel w I.ro none x y) : VRel w I.ok none x y := hx.mono (fun _ _ _ hb hc => ⟨hb.1, hc⟩) trivial
theorem VRel.nilvs {w : World} {ro : Nat -> Prop} {L : Option LI} {p : Option Addr} : VRel w ro L (.vs []) (.slice p 0 0) :=
 .vs (sz := 0) (b := 0) (off := 0) (fun _ _ => undef) rfl (y08 _) (fun h => absurd rfl h) (by simp) (by simp) (by simp)
theorem zo5 (sz : Nat) : ∀ (n i : Nat) (l e : List AV), (zdg sz n l)[i]? = some e -> e = (l.drop (i * sz)).take sz
 | 0, i, l, e, h => by simp [zdg] at h
 | n + 1, 0, l, e, h => by simp [zdg] at h; rw [<- h]; simp
 | n + 1, i + 1, l, e, h => by
  simp [zdg] at h;rw [zo5 sz n i _ e h, List.drop_drop, y23, Nat.add_comm]
theorem znl (h : HRel w0 N0 I S.heap S.next w) : ∀ (d : Nat) {v : AV} {u : Value}, VRel w I.ro (some I) v u -> VRel w I.ok none (S.view d v) u := by
 have liveok : ∀ {b base n id st}, I.loc id st = some (.at b base n) -> I.ok b := fun hl => h.okN _ (h.fresh _ _ _ _ _ hl);intro d
 induction d with
 | zero => intro v u hv; exact hv.strip.okk
 | succ d ih =>
  intro v u hv;cases v with
  | mptr id st off =>
   simp only [AS.view];split
   ·rename_i cs hcs;obtain ⟨b, o, hu, hc⟩ := zjp h hv hcs;subst hu;have hok : I.ok b := by
     have hcs' := hcs;simp only [AS.deref] at hcs';split at hcs'
     ·rename_i st' cs0 hl;split at hcs'
      ·rename_i hst; obtain ⟨hst, _⟩ := hst; subst hst;cases hv with
       | mptr hk hcl =>
        obtain ⟨J, hJ, c1, c0, c2⟩ := hcl;injection hJ with hJ; subst hJ;obtain ⟨_, l, hl', hol⟩ := h.heap _ _ _ hl;cases l with
        | void => exact absurd hl' c0
        | «at» b' base n =>
         have := c2 _ _ _ hl';injection this with this; injection this with this; injection this with e1 e2;subst e1;exact liveok hl'
      ·cases hcs'
     ·rename_i st' T full cs0 hl;split at hcs'
      ·rename_i hst; obtain ⟨hst, _⟩ := hst; subst hst;cases hv with
       | mptr hk hcl =>
        obtain ⟨J, hJ, c1, c0, c2⟩ := hcl;injection hJ with hJ; subst hJ;obtain ⟨_, l, hl', hol⟩ := h.heap _ _ _ hl;cases l with
        | void => exact absurd hl' c0
        | «at» b' base n =>
         have := c2 _ _ _ hl';injection this with this; injection this with this; injection this with e1 e2;subst e1;exact liveok hl'
      ·cases hcs'
     ·cases hcs'
    refine .vptr (fun i => (w.cell? ⟨b, o + i, none⟩).getD undef) (fun i x hx => ?_) (fun i x hx => ?_)
    ·rw [y0n, y03] at hx;obtain ⟨y, hy, rfl⟩ := hx;obtain ⟨z, hz, _⟩ := hc i y hy;exact ⟨hok, by rw [hz]; rfl⟩
    ·rw [y0n, y03] at hx;obtain ⟨y, hy, rfl⟩ := hx;obtain ⟨z, hz, hyz⟩ := hc i y hy;rw [hz];exact ih hyz
   ·exact .top
  | ms id st sz off len cap =>
   simp only [AS.view];split
   ·rename_i es hes;have hes' := hes;simp only [AS.elems] at hes';split at hes'
    ·rename_i st' cs hl;split at hes'
     ·rename_i hcond;obtain ⟨rfl, _, hle⟩ := hcond;simp only [y00] at hes'; subst hes';have hdl : len * sz <= (cs.drop off).length := by simp; omega
      cases hv with
      | @ms _ _ _ _ _ _ _ p c hlc hp hcap hcl =>
       obtain ⟨J, hJ, c1, c2, c3⟩ := hcl;injection hJ with hJ; subst hJ;by_cases hc0 : c = 0
       ·subst hc0;obtain rfl : len = 0 := by omega
        exact .nilvs
       ·obtain ⟨_, l, hl', hol⟩ := h.heap _ _ _ hl;cases l with
        | void => exact absurd (c3 hl') hc0
        | «at» b base n =>
         rcases c2 b base n hl' with h00 | ⟨e1, _⟩
         ·exact absurd h00 hc0
         ·subst e1;obtain ⟨cc, elem, o1, o2, o3, o4⟩ := hol;have hget : ∀ i j e x, ((zdg sz len (cs.drop off)).map (·.map (S.view d)))[i]? = some e -> e[j]? = some x -> ∃ y, x = S.view d y /\ cs[off + i * sz + j]? = some y := by
           intro i j e x hi hj;rw [y0n, y03] at hi;obtain ⟨e', he', rfl⟩ := hi;rw [y0n, y03] at hj;obtain ⟨y, hy, rfl⟩ := hj;refine ⟨y, rfl, ?_⟩;rw [zo5 _ _ _ _ _ he'] at hy;have hjl : j < sz := by have := (y05.1 hy).1; simp at this; omega
           rw [y13 hjl, y18, y18] at hy;rw [show off + i * sz + j = off + (i * sz + j) from by omega]; exact hy
          refine .vs (sz := sz) (b := b) (off := base + off) (fun i j => cc.getD (base + (off + i * sz + j)) undef) (by simp [zdm]) hlc (fun _ => rfl) ?_ ?_ ?_
          ·intro e he;rw [y0p] at he;obtain ⟨e', he', rfl⟩ := he;rw [y06]; exact zhw sz len _ hdl e' he'
          ·intro i j e x hi hj;obtain ⟨y, rfl, hy⟩ := hget i j e x hi hj;have hlt : off + i * sz + j < cs.length := (y05.1 hy).1;have hlt2 : base + (off + i * sz + j) < cc.size := by omega
           refine ⟨liveok hl', ?_⟩;rw [show base + off + i * sz + j = base + (off + i * sz + j) from by omega]
           simp [World.cell?, o1, hlt2, y02]
          ·intro i j e x hi hj;obtain ⟨y, rfl, hy⟩ := hget i j e x hi hj;exact ih (o4 _ y hy)
     ·cases hes'
    ·cases hes'
   ·exact .top
  | agg cs =>
   cases hv with
   | agg h1 h2 =>
    refine .agg (by simp [h1]) fun i x hx => ?_;rw [y0n, y03] at hx;obtain ⟨y, hy, rfl⟩ := hx;exact ih (h2 i y hy)
  | tup cs =>
   cases hv with
   | tup h1 h2 =>
    refine .tup (by simp [h1]) fun i x hx => ?_;rw [y0n, y03] at hx;obtain ⟨y, hy, rfl⟩ := hx;exact ih (h2 i y hy)
  | fn f fa ca =>
   cases hv with
   | fn h1 h2 h3 h4 =>
    refine .fn (by simp [h1]) (by simp [h2]) (fun i x hx => ?_) fun i x hx => ?_
    ·rw [y0n, y03] at hx;obtain ⟨y, hy, rfl⟩ := hx;exact ih (h3 i y hy)
    ·rw [y0n, y03] at hx;obtain ⟨y, hy, rfl⟩ := hx;exact ih (h4 i y hy)
  | nils => cases hv; exact .nilvs
  | _ => exact hv.strip.okk
theorem zbs : ∀ {cs : List AV}, hasM.hasML cs = false -> ∀ (i : Nat) (x : AV), cs[i]? = some x -> hasM x = false
 | [], _, i, x, h => by simp at h
 | c :: cs, h, i, x, hx => by
  simp only [hasM.hasML, y1x] at h;cases i with
  | zero => simp at hx; subst hx; exact h.1
  | succ i => exact zbs h.2 i x (by simpa using hx)
theorem zxf : ∀ (d : Nat) {v : AV} {u : Value}, VRel w I.ro (some I) v u -> hasM v = false -> VRel w I.ro none (S.view d v) u := by
 intro d
 induction d with
 | zero => intro v u hv _; exact hv.strip
 | succ d ih =>
  intro v u hv hm;cases v with
  | mptr => simp [hasM] at hm
  | ms => simp [hasM] at hm
  | yield => simp [hasM] at hm
  | mapv => simp [hasM] at hm
  | agg cs =>
   cases hv with
   | agg h1 h2 =>
    refine .agg (by simp [h1]) fun i x hx => ?_;rw [y0n, y03] at hx;obtain ⟨y, hy, rfl⟩ := hx;exact ih (h2 i y hy) (zbs hm i y hy)
  | tup cs =>
   cases hv with
   | tup h1 h2 =>
    refine .tup (by simp [h1]) fun i x hx => ?_;rw [y0n, y03] at hx;obtain ⟨y, hy, rfl⟩ := hx;exact ih (h2 i y hy) (zbs hm i y hy)
  | fn f fa ca =>
   simp only [hasM, y1x] at hm;cases hv with
   | fn h1 h2 h3 h4 =>
    refine .fn (by simp [h1]) (by simp [h2]) (fun i x hx => ?_) fun i x hx => ?_
    ·rw [y0n, y03] at hx;obtain ⟨y, hy, rfl⟩ := hx;exact ih (h3 i y hy) (zbs hm.1 i y hy)
    ·rw [y0n, y03] at hx;obtain ⟨y, hy, rfl⟩ := hx;exact ih (h4 i y hy) (zbs hm.2 i y hy)
  | nils => cases hv; exact .nilvs
  | _ => exact hv.strip
end
def Match (P : Program) (ops : Array Oper) : List Nat -> List Opr -> Prop
 | [], [] => True
 | i :: l, io :: ios => (∃ o, ops[i]? = some o /\ zdh P ops o = some io) /\ Match P ops l ios
 | _, _ => False
theorem zkd (P : Program) (ops : Array Oper) : ∀ (m k : Nat) (ios : List Opr), k + m = ops.size -> (ops.toList.drop k).mapM (zdh P ops) = some ios -> Match P ops (List.range' k m) ios
 | 0, k, ios, h, hm => by
  have : ops.toList.drop k = [] := by simp; omega
  rw [this] at hm;simp at hm; subst hm;exact trivial
 | m + 1, k, ios, h, hm => by
  have hk : k < ops.toList.length := by simp; omega
  rw [y0q hk, y29] at hm;generalize hx : ops.toList[k] = x at hm;have hxo : ops[k]? = some x := by
   have : k < ops.size := by simpa using hk
   rw [<- hx]; simp [this]
  cases h1 : zdh P ops x with
  | none => simp [h1] at hm
  | some io =>
   cases h2 : (ops.toList.drop (k + 1)).mapM (zdh P ops) with
   | none => simp [h1, h2] at hm
   | some r =>
    simp [h1, h2] at hm;subst hm;rw [List.range'_succ];exact ⟨⟨x, hxo, h1⟩, zkd P ops m (k + 1) r (by omega) h2⟩
theorem zr3 {P : Program} {op : Op} {fa : Arg} {args : List Arg} (h : zbw P op = some (.call fa args)) :
  ∃ f xs ts, op = .call ⟨.value f, xs, ts⟩ /\ za1 f = some fa /\ xs.toList.mapM za1 = some args := by
 cases op
 case call c =>
  obtain ⟨callee, xs, ts⟩ := c;cases callee with
  | value f =>
   simp only [zbw] at h;split at h
   ·rename_i f' l hf' hl;split at h
    ·split at h
     ·simp at h
     ·simp only [y00, IOp.call.injEq] at h;obtain ⟨rfl, rfl⟩ := h;exact ⟨f, xs, ts, rfl, hf', hl⟩
    ·simp only [y00, IOp.call.injEq] at h;obtain ⟨rfl, rfl⟩ := h;exact ⟨f, xs, ts, rfl, hf', hl⟩
   ·cases h
  | invoke => simp [zbw] at h
  | builtin b =>
   exfalso;cases b <;> simp only [zbw, reduceCtorEq] at h
   all_goals (repeat' (split at h)) <;> simp at h
 all_goals (exfalso; simp only [zbw, reduceCtorEq] at h)
 all_goals (repeat' (split at h)) <;> first | (simp at h; done) | simp_all
def zaf (S : AS) (io : Opr) : Option Bool :=
 match io.guard with
 | none => some true
 | some (d, b) => match S.get d with
  | some (.bool x) => some (x == b)
  | some (.tup _) => some false
  | _ => none
def TO (P : Program) (w0 : World) (N0 : Nat) (rd : Option (Nat × Nat)) (ios : List Opr) (S : AS) (K : AS -> Prop) : Prop :=
 ∀ ops l, Match P ops l ios -> ∀ n I a w r (Qc : Exit -> Act -> World -> Prop), Rel w0 N0 I S a w -> RdOk I rd r ->
  (∀ I' S' a' w', K S' -> Rel w0 N0 I' S' a' w' -> Evo I w I' w' -> Qc .normal a' w') -> wpOpsIn (Wd r) n P ops Qc l a w
section
variable {P : Program} {w0 w : World} {N0 : Nat} {I : LI} {S S' S1 : AS} {a : Act} {rd : Option (Nat × Nat)} {K : AS -> Prop} {io : Opr} {ios : List Opr} {v : AV}
theorem zf0 (h : Rel w0 N0 I S a w) {ops : Array Oper} {o : Oper} (hc : zdh P ops o = some io) {b : Bool} (hw : zaf S io = some b) : Region.wanted o (yielded ops a.tmps) = b := by
 unfold zdh at hc;split at hc
 ·rename_i hg;simp only [y00] at hc; subst hc;simp [zaf] at hw; subst hw;simp [Region.wanted, hg]
 ·rename_i g bb hg;split at hc
  ·rename_i d hd;simp only [y00] at hc; subst hc;simp only [zaf] at hw;split at hw
   ·rename_i x hx;simp only [y00] at hw; subst hw;have hv := h.tmps.2 d _ hx;have hy : yielded ops a.tmps g = some x := by
     generalize hu : a.tmps.getD d undef = u at hv;cases hv;simp only [yielded, hd, y2c];cases he : a.tmps[d]? with
     | none => rw [y02, he] at hu; simp [undef] at hu
     | some y => rw [y02, he] at hu; simp at hu; subst hu; rfl
    simp only [Region.wanted, hg, hy];cases x <;> cases bb <;> rfl
   ·rename_i vs hx;simp only [y00] at hw; subst hw;have hv := h.tmps.2 d _ hx;have hy : yielded ops a.tmps g = none := by
     generalize hu : a.tmps.getD d undef = u at hv;cases hv;simp only [yielded, hd, y2c];cases he : a.tmps[d]? with
     | none => rfl
     | some y => rw [y02, he] at hu; simp at hu; subst hu; rfl
    simp only [Region.wanted, hg, hy];cases bb <;> rfl
   ·cases hw
  ·cases hc
theorem zjn {ops : Array Oper} {o : Oper} (hc : zdh P ops o = some io) : o.dst = io.dst /\ opOf P o.op = io.op := by
 unfold zdh at hc;split at hc
 ·simp only [y00] at hc; subst hc; exact ⟨rfl, rfl⟩
 ·split at hc
  ·simp only [y00] at hc; subst hc; exact ⟨rfl, rfl⟩
  ·cases hc
theorem zr5 {ops : Array Oper} {o : Oper} (hc : zdh P ops o = some io) (hb : io.op ≠ .bad) : zbw P o.op = some io.op := by
 have h := (zjn hc).2;unfold opOf at h;split at h
 ·rename_i x hx; rw [hx, h]
 ·exact absurd h.symm hb
theorem zhg {o : Oper} {op : IOp} (h : zbw P o.op = some op) : ∀ c, o.op ≠ .defer c := by
 intro c e; rw [e] at h; simp [zbw] at h
theorem TO_nil (h : K S) : TO P w0 N0 rd [] S K := fun ops l hm n I a w r Qc hr ho hk => by
 cases l with
 | nil => exact hk I S a w h hr (Evo.refl I w)
 | cons => exact hm.elim
def Stp (P : Program) (w0 : World) (N0 : Nat) (rd : Option (Nat × Nat)) (io : Opr) (S : AS) (Fk : AS -> AV -> Prop) : Prop :=
 ∀ (ops : Array Oper) (o : Oper), zdh P ops o = some io -> ∀ n I a w r (next : Act -> World -> Prop) (Qc : Exit -> Act -> World -> Prop), Rel w0 N0 I S a w -> RdOk I rd r ->
   (∀ I' S1 v u w', Fk S1 v -> Rel w0 N0 I' S1 a w' -> VRel w' I'.ro (some I') v u -> Evo I w I' w' -> next (a.put o.dst u) w') -> o.wpIn (Wd r) n P a w next Qc
theorem Stp.mono {Fk Fk' : AS -> AV -> Prop} (h : Stp P w0 N0 rd io S Fk) (hq : ∀ S v, Fk S v -> Fk' S v) : Stp P w0 N0 rd io S Fk' :=
 fun ops o hc n I a w r next Qc hR ho hk => h ops o hc n I a w r next Qc hR ho fun I' S1 v u w' q => hk I' S1 v u w' (hq _ _ q)
theorem zmh {Fk : AS -> AV -> Prop} (h : Stp P w0 N0 rd io S Fk)
  (hw : zaf S io = some true) (hn : ∀ S1 v, Fk S1 v -> zc6 S1.size io.dst = true /\ TO P w0 N0 rd ios (S1.put io.dst v) K) : TO P w0 N0 rd (io :: ios) S K := fun ops l hm n I a w r Qc hr ho hk => by
 cases l with
 | nil => exact hm.elim
 | cons i l =>
  obtain ⟨⟨o, hi, hc⟩, hm'⟩ := hm;simp only [wpOpsIn, hi];rw [if_pos (zf0 hr hc hw)];refine h ops o hc n I a w r _ Qc hr ho fun I' S1 v u w' hF hR hV hE => ?_;obtain ⟨hd, hT⟩ := hn S1 v hF;have hR' := hR.put hd hV;rw [(zjn hc).1];exact hT ops l hm' n I' _ w' r Qc hR' (ho.evo hE) fun I'' S'' a'' w'' k x y => hk I'' S'' a'' w'' k x (hE.trans y)
theorem TO_skip (hw : zaf S io = some false) (hd : zc6 S.size io.dst = true) (h : TO P w0 N0 rd ios (S.put io.dst (.tup [])) K) : TO P w0 N0 rd (io :: ios) S K := fun ops l hm n I a w r Qc hr ho hk => by
 cases l with
 | nil => exact hm.elim
 | cons i l =>
  obtain ⟨⟨o, hi, hc⟩, hm'⟩ := hm;simp only [wpOpsIn, hi];rw [if_neg (by rw [zf0 hr hc hw]; simp), (zjn hc).1];exact ⟨fun _ _ => trivial, h ops l hm' n I _ w r Qc (hr.put hd (v := .tup []) (u := undef) (.tup rfl (by simp))) ho hk⟩
theorem zlc (hr : iop S io.op = some (v, S1)) : Stp P w0 N0 rd io S (fun S2 v2 => S2 = S1 /\ v2 = v) := fun ops o hc n I a w r next Qc hR ho hk => by
  refine ⟨fun _ _ => trivial, ?_⟩;show o.uponIn (Wd r) n P a next Qc ((o.semAt r a.eval).run P w);have hcop := zr5 hc (fun e => by rw [e] at hr; simp [iop] at hr);rw [Oper.semAt_eq r a.eval o (zhg hcop)];obtain ⟨u, w', I', e, hv, hR', hE⟩ := zvr hR o hcop hr;rcases e with e | ⟨e, hu⟩
  ·rw [e]; exact hk I' S1 v u w' ⟨rfl, rfl⟩ hR' hv hE
  ·rw [e]; subst hu; exact hk I' S1 v undef w' ⟨rfl, rfl⟩ hR' hv hE
theorem Rel.withH (h : Rel w0 N0 I S a w) {H : HS} {I' : LI} {w' : World} (hH : HRel w0 N0 I' H.heap H.next w') (hc : I'.clk = H.clk) (hE : Evo I w I' w') (hm : DRel I' H.heap S.marks a.defers) : Rel w0 N0 I' (S.withH H) a w' :=
 ⟨hc, h.tmps.evo hE, hH, hm⟩
theorem zws {o : Oper} {f : Operand} {xs : Array Operand} {ts : Array TypeId} (ho : o.op = .call ⟨.value f, xs, ts⟩) {fid : FuncId} {fs cs : Array Value} (hf : a.eval f = .func (.func fid) fs cs) (he : Ent P fid) (w : World) :
  (execOp a.eval o).run P w = .ok (.enter fid (fs ++ xs.map a.eval ++ cs)) w := by
 simp only [execOp, ho, resolve, hf, Deferred.ofValue, Sem.run_bind, Sem.run_pure, Result.andThen_ok, invoke];exact he _ w
theorem CRel.app {w : World} {ro : Nat -> Prop} {L : Option LI} {cs ds : List AV} {us zs : Array Value} (h1 : CRel w ro L cs us) (h2 : CRel w ro L ds zs) : CRel w ro L (cs ++ ds) (us ++ zs) :=
 ⟨by simp [h1.1, h2.1], fun i x hx => by have := h1.append h2 #[] i x hx; simpa using this⟩
def zco (marks : List (Nat × Nat)) (hp : List (Nat × Nat × AObj)) : Prop := ∀ m ∈ marks, look m.1 hp = some (m.2, .deferred)
theorem DRel.later {I I' : LI} {w' : World} {hp hp' : List (Nat × Nat × AObj)} {next' : Nat} {marks : List (Nat × Nat)} {ds : List Deferred} (h : DRel I hp marks ds) (hs : ∀ m ∈ marks, m.2 < I.clk) (hm : zco marks hp') (hH : HRel w0 N0 I' hp' next' w') (hE : Evo I w I' w') :
  DRel I' hp' marks ds := by
 refine ⟨h.1, fun i id st d h1 h2 => ?_, h.2.2⟩;obtain ⟨_, b, base, n, h4, h5⟩ := h.2.1 i id st d h1 h2;have hmem := y0i h1;have hl := hm _ hmem;obtain ⟨_, l, hl', _⟩ := hH.heap _ _ _ hl;have := hE.loc id st l (hs _ hmem) hl';rw [h4] at this;injection this with this;subst this;exact ⟨hl, b, base, n, hl', h5⟩
theorem Rel.stamps (h : Rel w0 N0 I S a w) : ∀ m ∈ S.marks, m.2 < I.clk := by
 intro m hm;obtain ⟨i, hi, rfl⟩ := y1g.1 hm;have hlt : i < a.defers.length := by rw [h.marks.1]; exact hi
 obtain ⟨h1, _⟩ := h.marks.2.1 i (S.marks[i]).1 (S.marks[i]).2 a.defers[i] (by simp [hi]) (by simp [hlt]);exact (h.hrel.heap _ _ _ h1).1
def VD : Nat := 8
theorem zkz (h : Rel w0 N0 I S a w) {vs : List AV} {us : Array Value} (hc : CRel w I.ro (some I) vs us) : CRel w I.ok none (vs.map (S.view VD)) us /\ (hasM.hasML vs = false -> CRel w I.ro none (vs.map (S.view VD)) us) := by
 refine ⟨⟨by simp [hc.1], fun i x hx => ?_⟩, fun hm => ⟨by simp [hc.1], fun i x hx => ?_⟩⟩
 ·rw [y0n, y03] at hx;obtain ⟨y, hy, rfl⟩ := hx;exact znl h.hrel VD (hc.2 i y hy)
 ·rw [y0n, y03] at hx;obtain ⟨y, hy, rfl⟩ := hx;exact zxf VD (hc.2 i y hy) (zbs hm i y hy)
theorem Stp_pure {fa : Arg} {args : List Arg} {fid : FuncId} {first cap vs : List AV} (hop : io.op = .call fa args) (hf : S.arg fa = some (.fn fid first cap)) (ha : S.args args = some vs)
  (hc : PF P fid ((first ++ vs ++ cap).map (S.view VD)) v) (hfl : hasM.hasML (first ++ vs ++ cap) = true -> flat v = true) : Stp P w0 N0 rd io S (fun S2 v2 => S2 = S /\ v2 = v) := fun ops o hcom n I a w r next Qc hR ho hk => by
  have hcop := zr5 hcom (by rw [hop]; simp);have hcop0 := hcop;rw [hop] at hcop;obtain ⟨f, xs, ts, hoo, hf', hl⟩ := zr3 hcop;have hfv := hR.arg hf' hf;generalize hfe : a.eval f = fu at hfv;cases hfv with
  | @fn _ _ _ _ fs cs g1 g2 g3 g4 =>
   refine ⟨fun _ _ => trivial, ?_⟩;show Oper.uponIn (Wd r) n P _ a next Qc ((Oper.semAt r a.eval _).run P w);rw [Oper.semAt_eq r a.eval _ (zhg hcop0), zws hoo hfe hc.1 w];refine ⟨fun e => by simp [ziw] at e, ?_⟩;obtain ⟨x1, x2⟩ := hR.args hl ha;have hcr : CRel w I.ro (some I) (first ++ vs ++ cap) (fs ++ xs.map a.eval ++ cs) := CRel.app (CRel.app ⟨g1, g3⟩ ⟨x1, x2⟩) ⟨g2, g4⟩;obtain ⟨c1, c2⟩ := zkz hR hcr;have fin : ∀ (ro : Nat -> Prop) u w', Below w.heap.size w w' -> VRel w' (fun b => ro b \/ w.heap.size <= b) none v u -> ((∀ b, ro b -> I.ro b) \/ flat v = true) -> next (a.put o.dst u) w' := by
    intro ro u w' hb hv hor;obtain ⟨k1, k2⟩ := hR.hrel.below' hb;refine hk I S v u w' ⟨rfl, rfl⟩ ⟨hR.clk, hR.tmps.evo k2, k1, hR.marks⟩ ?_ k2;rcases hor with hro | hfv
    ·refine (hv.mono (ro' := I.ro) (w' := w') (fun b i x hb hc => ⟨?_, hc⟩) (L' := none) trivial).pure;rcases hb with hb | hb
     ·exact hro b hb
     ·refine ⟨hR.hrel.okN b (y0u (y0u hR.hrel.base hR.hrel.below.size) hb), fun id st base n hl => ?_⟩;obtain ⟨oo, hoo⟩ := hR.hrel.locs _ _ _ hl;obtain ⟨_, l, hl', hol⟩ := hR.hrel.heap _ _ _ hoo;rw [hl] at hl'; injection hl' with hl'; subst hl';have hlt : b < w.heap.size := by
       cases oo with
       | cells cs => obtain ⟨c, elem, h1, _⟩ := hol; exact (y0e.1 h1).1
       | loop => obtain ⟨c, h1, _⟩ := hol; exact (y0e.1 h1).1
       | deferred => exact (y0e.1 hol).1
       | map es => obtain ⟨c, elem, h1, _⟩ := hol; exact (y0e.1 h1).1
       | typed T full cs => obtain ⟨_, _, c, h1, _⟩ := hol; exact (y0e.1 h1).1
      omega
    ·exact hv.flat hfv
   by_cases hm : hasM.hasML (first ++ vs ++ cap) = true
   ·refine zg7 ((hc.2 I.ok w _ (hR.hrel.glob.mono fun b i x hb hc => ⟨hb.1, hc⟩) c1).mono fun e w' ⟨u, h1, h2, h3⟩ => ?_);subst h1;exact fin I.ok u w' h2 h3 (.inr (hfl hm))
   ·refine zg7 ((hc.2 I.ro w _ hR.hrel.glob (c2 (by simpa using hm))).mono fun e w' ⟨u, h1, h2, h3⟩ => ?_);subst h1;exact fin I.ro u w' h2 h3 (.inl fun b hb => hb)
theorem T_region {Q : Exit -> AS -> Prop} (h : TO P w0 N0 rd ios S (Q .normal)) : T P w0 N0 rd (.region ios none) S Q := fun code hcom n I a w r hr ho => by
 cases hcom with
 | @region id ops draw _ _ h1 hp =>
  obtain rfl : draw = false := by cases draw <;> simp_all
  refine wpIn_region ?_;rw [List.range_eq_range'];exact h ops _ (zkd P ops ops.size 0 ios (by omega) (by simpa using h1)) n I a w r _ hr ho fun I' S' a' w' k x y => ⟨I', S', k, x, y⟩
end
inductive RA where
 | t (n : Nat)
 | cell (n : Nat) (agg : Option Nat)
def zff (P : Program) : List ResultVar -> Option (List RA)
 | [] => some []
 | .tmp t :: l => (zff P l).map (.t t :: ·)
 | .cell a t :: l => match zhu P t, zff P l with
  | some g, some r => some (.cell a g :: r)
  | _, _ => none
def zq1 (g : Option Nat) (cs : List AV) : Option AV :=
 match g with
 | some n => if n <= cs.length then some (.agg (cs.take n)) else none
 | none => match cs with
  | x :: _ => some x
  | [] => none
def AS.resL (S : AS) : List RA -> Option (List AV)
 | [] => some []
 | .t n :: l => match S.get n, S.resL l with
  | some v, some r => some (v :: r)
  | _, _ => none
 | .cell n g :: l => match S.get n, S.resL l with
  | some p, some r => match S.deref p with
   | some cs => (zq1 g cs).map (· :: r)
   | none => none
  | _, _ => none
def AS.res (S : AS) (l : List RA) : Option AV :=
 match S.resL l with
 | some [v] => some v
 | some vs => some (.tup vs)
 | none => none
def enum (k : Nat) : List AV -> TM
 | [] => .nil
 | v :: l => putT k v (enum (k + 1) l)
theorem zkb : ∀ (l : List AV) (k i : Nat) (v : AV), zao i (enum k l) = some v -> k <= i /\ l[i - k]? = some v
 | [], k, i, v, h => by simp [enum, zdq] at h
 | x :: l, k, i, v, h => by
  simp only [enum, zcc] at h;by_cases hk : k = i
  ·subst hk; rw [if_pos rfl] at h; exact ⟨y08 _, by simpa using h⟩
  ·rw [if_neg hk] at h;obtain ⟨h1, h2⟩ := zkb l (k + 1) i v h;refine ⟨by omega, ?_⟩;rw [show i - k = (i - (k + 1)) + 1 from by omega]
   simpa using h2
def AS.enter (n : Nat) (args : List AV) (H : HS) : AS := ⟨n, enum 0 args, H.heap, H.next, H.clk, []⟩
def zjq (ms : List (Nat × Nat)) (hp : List (Nat × Nat × AObj)) : List (Nat × Nat × AObj) := ms.foldl (fun h m => zbx m.1 h) hp
def AS.leave (S : AS) : AS := { S with heap := zjq S.marks S.heap, marks := [] }
section
variable {P : Program} {w0 w : World} {N0 : Nat} {I : LI} {S S' : AS} {a : Act}
theorem rn_load (h : HRel w0 N0 I S.heap S.next w) {t : TypeId} {g : Option Nat} {p v : AV} {u : Value} {cs : List AV} (hg : zhu P t = some g) (hp : VRel w I.ro (some I) p u) (hd : S.deref p = some cs) (hl : zq1 g cs = some v) :
  ∃ x y, u = .pointer (some x) /\ (loadVar t x).run P w = .ok y w /\ VRel w I.ro (some I) v y := by
 obtain ⟨b, o, hu, hc⟩ := zjp h hp hd;obtain ⟨g1, g2⟩ := zs4 hg w;refine ⟨⟨b, o, none⟩, ?_⟩;unfold zq1 at hl;split at hl
 ·rename_i n;split at hl
  ·rename_i hle;simp only [y00] at hl; subst hl;have key : ∀ j, j < n -> w.cell? ((⟨b, o, none⟩ : Addr).add j) = some ((w.cell? ⟨b, o + j, none⟩).getD undef) := by
    intro j hj;obtain ⟨y, hy, _⟩ := hc j cs[j] (by simp [show j < cs.length by omega])
    rw [zbm, hy]; rfl
   have rl := run_loadCells (P := P) w ⟨b, o, none⟩ n (fun j => (w.cell? ⟨b, o + j, none⟩).getD undef) key;refine ⟨.agg ((List.range n).map fun j => (w.cell? ⟨b, o + j, none⟩).getD undef).toArray, hu, by simp [loadVar, g1, zc0 (g2 n rfl) w, rl], ?_⟩;refine .agg (by simp; omega) fun i x hx => ?_;have hi : i < n := by have := (y05.1 hx).1; simp at this; omega
   rw [y13 hi] at hx;obtain ⟨y, hy, hxy⟩ := hc i x hx;have : ((List.range n).map fun j => (w.cell? ⟨b, o + j, none⟩).getD undef).toArray.getD i undef = y := by
    simp [y02, hi, hy]
   rw [this]; exact hxy
  ·cases hl
 ·split at hl
  ·rename_i x xs;simp only [y00] at hl; subst hl;obtain ⟨y, hy, hxy⟩ := hc 0 _ rfl;simp only [y2e] at hy;exact ⟨y, hu, by simp [loadVar, g1, run_load, hy], hxy⟩
  ·cases hl
def zs3 (tmps : Array Value) : ResultVar -> Sem Value
 | .tmp t => pure (tmps.getD t undef)
 | .cell a t => do loadVar t (<- asAddr (tmps.getD a undef))
theorem ztb (fn : Func) (tmps : Array Value) : results fn tmps = (do let vs <- fn.results.mapM (zs3 tmps); pure (if h : vs.size = 1 then vs[0] else .tuple vs)) := by
 unfold results;congr 1
theorem znd (h : Rel w0 N0 I S a w) : ∀ (l : List ResultVar) (ras : List RA) (vs : List AV), zff P l = some ras -> S.resL ras = some vs ->
  ∃ us : List Value, (l.mapM (m := Sem) (zs3 a.tmps)).run P w = .ok us w /\ us.length = vs.length /\
   ∀ (i : Nat) (v : AV), vs[i]? = some v -> ∃ u, us[i]? = some u /\ VRel w I.ro (some I) v u
 | [], ras, vs, h1, h2 => by
  simp [zff] at h1; subst h1;simp [AS.resL] at h2; subst h2;exact ⟨[], by simp, rfl, by simp⟩
 | .tmp t :: l, ras, vs, h1, h2 => by
  simp only [zff, y03] at h1;obtain ⟨r, hr, rfl⟩ := h1;simp only [AS.resL] at h2;split at h2
  ·rename_i v rs hv hrs;simp only [y00] at h2; subst h2;obtain ⟨us, e1, e2, e3⟩ := znd h l r rs hr hrs;refine ⟨a.tmps.getD t undef :: us, ?_, by simp [e2], fun i x hx => ?_⟩
   ·simp only [y29, Sem.run_bind, zs3, Sem.run_pure, Result.andThen_ok, e1]
   ·cases i with
    | zero => simp at hx; subst hx; exact ⟨_, rfl, h.tmps.2 t v hv⟩
    | succ i => simpa using e3 i x (by simpa using hx)
  ·cases h2
 | .cell x t :: l, ras, vs, h1, h2 => by
  simp only [zff] at h1;split at h1
  ·rename_i g r hg hr;simp only [y00] at h1; subst h1;simp only [AS.resL] at h2;split at h2
   ·rename_i p rs hp hrs;split at h2
    ·rename_i cs hcs;simp only [y03] at h2;obtain ⟨v, hv, rfl⟩ := h2;obtain ⟨us, e1, e2, e3⟩ := znd h l r rs hr hrs;obtain ⟨ad, y, k1, k2, k3⟩ := rn_load h.hrel hg (h.tmps.2 x p hp) hcs hv;refine ⟨y :: us, ?_, by simp [e2], fun i z hz => ?_⟩
     ·simp only [y29, Sem.run_bind, zs3, k1, asAddr, Sem.run_pure, Result.andThen_ok, k2, e1]
     ·cases i with
      | zero => simp at hz; subst hz; exact ⟨_, rfl, k3⟩
      | succ i => simpa using e3 i z (by simpa using hz)
    ·cases h2
   ·cases h2
  ·cases h1
theorem zwo (h : Rel w0 N0 I S a w) {fn : Func} {ras : List RA} {v : AV} (hc : zff P fn.results.toList = some ras) (hr : S.res ras = some v) : ∃ u, (results fn a.tmps).run P w = .ok u w /\ VRel w I.ro (some I) v u := by
 unfold AS.res at hr;cases hl : S.resL ras with
 | none => simp [hl] at hr
 | some vs =>
  obtain ⟨us, e1, e2, e3⟩ := znd h _ _ _ hc hl;have run : (results fn a.tmps).run P w = .ok (if h : us.toArray.size = 1 then us.toArray[0] else .tuple us.toArray) w := by
   rw [ztb, Array.mapM_eq_mapM_toList];simp only [Sem.run_bind, Sem.run_map, e1, Result.andThen_ok, Sem.run_pure]
  rw [hl] at hr;refine ⟨_, run, ?_⟩;cases vs with
  | nil =>
   simp only [y00] at hr; subst hr;obtain rfl : us = [] := by simpa using e2
   simp; exact .tup rfl (by simp)
  | cons x xs =>
   cases xs with
   | nil =>
    simp only [y00] at hr; subst hr;cases us with
    | nil => simp at e2
    | cons y ys =>
     obtain rfl : ys = [] := by simpa using e2
     obtain ⟨u, hu, hv⟩ := e3 0 _ rfl;simp at hu; subst hu;simpa using hv
   | cons x2 xs =>
    simp only [y00] at hr; subst hr;have hne : ¬ (us.toArray.size = 1) := by simp [e2]
    rw [dif_neg hne];refine .tup (by simp [e2]) fun i z hz => ?_;obtain ⟨u, hu, hv⟩ := e3 i z hz;simpa [y02, hu] using hv
theorem zx7 (h : HRel w0 N0 I S.heap S.next w) {id st b base n : Nat} (hl : look id S.heap = some (st, .deferred)) (hloc : I.loc id st = some (.at b base n)) :
  (Instr.takeDeferred b).run P w = .ok [] (w.putObj b (.deferred none)) /\ HRel w0 N0 (I.drop id) (zbx id S.heap) S.next (w.putObj b (.deferred none)) /\ Evo I w (I.drop id) (w.putObj b (.deferred none)) := by
 obtain ⟨_, l, hl', hol⟩ := h.heap _ _ _ hl;rw [hloc] at hl'; injection hl' with hl'; subst hl';have hb : w.heap[b]? = some (.deferred (some [])) := hol;have hN := h.fresh _ _ _ _ _ hloc;have hbelow : Below N0 w (w.putObj b (.deferred none)) := ⟨rfl, rfl, rfl, by simp, fun k hk => World.putObj_heap_other (by omega)⟩
 have hE : Evo I w (I.drop id) (w.putObj b (.deferred none)) := by
  have e := Evo.drop I w id;refine ⟨e.clk, e.loc, fun b' i x hr hc => ⟨(e.ro b' i x hr hc).1, ?_⟩, e.ok⟩;have hne : b' ≠ b := by
   intro e2; subst e2;simp [World.cell?, hb] at hc
  rw [cell?_of_heap (World.putObj_heap_other hne)]; exact hc
 refine ⟨run_takeDeferred hb, ?_, hE⟩;have hd := h.drop id;refine ⟨hd.below.trans hbelow, hd.base, fun i st' o hi => ?_, hd.locs, hd.inj, hd.fresh, hd.free, hd.okN, h.glob.mono hE.ro⟩;rw [zac] at hi;by_cases hii : id = i
 ·rw [if_pos hii] at hi; cases hi
 ·rw [if_neg hii] at hi;obtain ⟨hs, l, hl2, hol2⟩ := h.heap i st' o hi;have hne : i ≠ id := fun e => hii e.symm;refine ⟨hs, l, by simp [LI.drop, hne, hl2], hol2.evo hE fun b2 base2 n2 e => ?_⟩;subst e;refine World.putObj_heap_other fun e => hne ?_;subst e;exact h.inj _ _ _ _ _ _ _ _ _ hl2 hloc
theorem zol {r : Option Nat} {n : Nat} {fn : Func} {R : Ending -> World -> Prop} {next size : Nat} {tmps : TM} {ts : Array Value} : ∀ (marks : List (Nat × Nat)) (ds : List Deferred) (I : LI) (w : World) (hp : List (Nat × Nat × AObj)),
  HRel w0 N0 I hp next w -> DRel I hp marks ds -> TRel w I.ro (some I) size tmps ts ->
  (∀ I' w', HRel w0 N0 I' (zjq marks hp) next w' -> TRel w' I'.ro (some I') size tmps ts -> Evo I w I' w' -> I'.clk = I.clk -> LeavesInM (Wd r) n P fn ts R [] .returning w') -> LeavesInM (Wd r) n P fn ts R ds .returning w := by
 intro marks
 induction marks with
 | nil =>
  intro ds I w hp h hd ht hk;obtain rfl : ds = [] := by simpa using hd.1
  exact hk I w h ht (Evo.refl I w) rfl
 | cons m marks ih =>
  intro ds I w hp h hd ht hk;cases ds with
  | nil => have := hd.1; simp at this
  | cons d ds =>
   obtain ⟨h1, b, base, nn, h2, rfl⟩ := hd.2.1 0 m.1 m.2 d rfl rfl;have tk := zx7 (P := P) (S := ⟨size, tmps, hp, next, 0, []⟩) h h1 h2;obtain ⟨t1, t2, t3⟩ := tk;refine ⟨by simp, .inl ⟨b, _, rfl, t1, ?_⟩⟩;have hnd := hd.2.2;simp only [y1d, y2k] at hnd;refine ih ds (I.drop m.1) _ (zbx m.1 hp) t2 ⟨by have := hd.1; simpa using this, fun i id st d h3 h4 => ?_, hnd.2⟩ (ht.evo t3) fun I' w' a1 a2 a3 a4 => hk I' w' a1 a2 (t3.trans a3) a4
   obtain ⟨k1, b', base', n', k2, k3⟩ := hd.2.1 (i + 1) id st d (by simpa using h3) (by simpa using h4);have hne : m.1 ≠ id := by
    intro e;exact hnd.1 (y0p.2 ⟨(id, st), y0i h3, e.symm⟩)
   refine ⟨by rw [zac, if_neg hne]; exact k1, b', base', n', ?_, k3⟩;simp only [LI.drop];rw [if_neg (fun e => hne e.symm)];exact k2
theorem FT_of_T {f : FuncId} {fn : Func} {code : Code} {ic : IC} {ras : List RA} {args : List AV} {H : HS} {Q : AV -> HS -> Prop} (hf : P.funcs[f]? = some fn) (hb : fn.body = some code) (hc : zh5 P code = some ic) (he : Ent P f)
  (hn : args.length <= fn.ntmps) (hres : zff P fn.results.toList = some ras)
  (h : T P w0 N0 none ic (AS.enter fn.ntmps args H) (fun e S' => (e = .normal \/ e = .ret) /\ ∃ v, S'.leave.res ras = some v /\ Q v S'.leave.hs)) : FT P w0 N0 f args H Q := by
 refine ⟨he, fun I w us hH hclk hargs => ?_⟩;refine zjm (r := none) (n := 0) (callsIn_of_wp_marks hf hb (Wd_fn none f) ?_ rfl);have hR : Rel w0 N0 I (AS.enter fn.ntmps args H) { tmps := us ++ Array.replicate (fn.ntmps - us.size) undef, defers := [] } w := by
  refine ⟨hclk, ⟨?_, fun i v hv => ?_⟩, hH, ⟨rfl, fun i id st d e => by simp [AS.enter] at e, by simp [AS.enter]⟩⟩
  ·simp [AS.enter]; have := hargs.1; omega
  ·obtain ⟨_, hv⟩ := zkb _ _ _ _ hv;simp only [Nat.sub_zero] at hv;have hlt : i < us.size := by rw [hargs.1]; exact (y05.1 hv).1
   have : (us ++ Array.replicate (fn.ntmps - us.size) undef).getD i undef = us.getD i undef := by
    simp only [y02];rw [Array.getElem?_append_left hlt]
   simp only;rw [this];exact hargs.2 i v hv
 refine wpIn_mono (h code (zr4 hc) 0 I _ w none hR trivial) fun e a' w' ⟨I', S', ⟨hex, v, hv, hq⟩, hR', hE⟩ => ?_;have fin : LeavesInM (Wd none) 0 P fn a'.tmps (fun e w' => ∃ u v H' I', e = .returned u /\ Q v H' /\ HRel w0 N0 I' H'.heap H'.next w' /\ I'.clk = H'.clk /\ VRel w' I'.ro (some I') v u /\ Evo I w I' w') a'.defers .returning w' := by
  refine zol S'.marks a'.defers I' w' S'.heap hR'.hrel hR'.marks hR'.tmps fun I'' w'' k1 k2 k3 k4 => ?_;have hR'' : Rel w0 N0 I'' S'.leave { tmps := a'.tmps, defers := [] } w'' := ⟨by rw [k4]; exact hR'.clk, k2, k1, ⟨rfl, fun i id st d e => by simp [AS.leave] at e, by simp [AS.leave]⟩⟩
  obtain ⟨u, r1, r2⟩ := zwo hR'' hres hv;exact ⟨u, r1, u, v, _, I'', rfl, hq, k1, hR''.clk, r2, hE.trans k3⟩
 rcases hex with rfl | rfl
 ·exact fin
 ·exact fin
theorem FT.mono {f : FuncId} {args : List AV} {H : HS} {Q Q' : AV -> HS -> Prop} (h : FT P w0 N0 f args H Q) (hq : ∀ v H, Q v H -> Q' v H) : FT P w0 N0 f args H Q' :=
 ⟨h.1, fun I w us a b c => (h.2 I w us a b c).mono fun _ _ ⟨u, v, H', I', h1, h2, h3⟩ => ⟨u, v, H', I', h1, hq v H' h2, h3⟩⟩
theorem PF_of_FT {f : FuncId} {args : List AV} {v : AV} (h : ∀ w0 N0, FT P w0 N0 f args ⟨[], 0, 0⟩ (fun v0 H' => (⟨0, .nil, H'.heap, H'.next, H'.clk, []⟩ : AS).view VD v0 = v)) : PF P f args v := by
 refine ⟨(h default 0).1, fun ro w us hglob hargs => ?_⟩
 let I : LI := { loc := fun _ _ => none, clk := 0, ok := fun b => ro b \/ w.heap.size <= b }
 have hro : ∀ b, ro b -> I.ro b := fun b hb => ⟨.inl hb, fun id st base n hl => by cases hl⟩
 have hH : HRel w w.heap.size I [] 0 w := by
  refine ⟨Below.refl _ _, y08 _, ?_, ?_, ?_, ?_, ?_, ?_, hglob.mono fun b i x hb hc => ⟨hro b hb, hc⟩⟩
  ·intro id st o e; simp [zeg] at e
  ·intro id st l e; cases e
  ·intro id st b base n id' st' base' n' e; cases e
  ·intro id st b base n e; cases e
  ·intro id _; rfl
  ·intro b hb; exact .inr hb
 refine ((h w w.heap.size).2 I w us hH rfl ⟨hargs.1, fun i x hx => (hargs.2 i x hx).mono (fun b i x hb hc => ⟨hro b hb, hc⟩) trivial⟩).mono fun e w' ⟨u, v0, H', I', h1, h2, h3, h4, h5, h6⟩ => ?_;refine ⟨u, h1, h3.below, ?_⟩;have := znl (S := ⟨0, .nil, H'.heap, H'.next, H'.clk, []⟩) h3 VD h5;rw [h2, h6.ok] at this;exact this
end
def CallQ (P : Program) (r : Option Nat) (n : Nat) (nx : Value -> World -> Prop) : Result Next -> Prop
 | .ok (.enter f args) w => Calls P f args w fun e w' => ∃ u, e = .returned u /\ nx u w'
 | .ok (.round l f tmps a b) w => RoundIn (Wd r) n P l f tmps a b w fun e w' => ∃ u, e = .returned u /\ nx u w'
 | _ => False
def CT (P : Program) (w0 : World) (N0 : Nat) (fv : AV) (args : List AV) (H : HS) (Q : AV -> HS -> Prop) : Prop :=
 ∀ I w fu us r n (nx : Value -> World -> Prop), HRel w0 N0 I H.heap H.next w -> I.clk = H.clk -> VRel w I.ro (some I) fv fu -> CRel w I.ro (some I) args us ->
  (∀ u v H' I' w', Q v H' -> HRel w0 N0 I' H'.heap H'.next w' -> I'.clk = H'.clk -> VRel w' I'.ro (some I') v u -> Evo I w I' w' -> nx u w') ->
  ∃ d, (Deferred.ofValue fu us).run P w = .ok d w /\ CallQ P r n nx ((invoke d.target d.args).run P w)
section
variable {P : Program} {w0 w : World} {N0 : Nat} {I : LI} {S S' : AS} {a : Act} {rd : Option (Nat × Nat)} {K : AS -> Prop} {io : Opr} {ios : List Opr} {v : AV} {Q : AV -> HS -> Prop} {H : HS}
theorem CT.mono {fv : AV} {args : List AV} {Q' : AV -> HS -> Prop} (h : CT P w0 N0 fv args H Q) (hq : ∀ v H, Q v H -> Q' v H) : CT P w0 N0 fv args H Q' :=
 fun I w fu us r n nx a b c d k => h I w fu us r n nx a b c d fun u v H' I' w' q => k u v H' I' w' (hq v H' q)
theorem zbk {fid : FuncId} {first cap args : List AV} (h : FT P w0 N0 fid (first ++ args ++ cap) H Q) : CT P w0 N0 (.fn fid first cap) args H Q := by
 intro I w fu us r n nx hH hc hf ha hk;cases hf with
 | @fn _ _ _ _ fs cs g1 g2 g3 g4 =>
  refine ⟨{ target := .fn (.func fid) cs, args := fs ++ us }, rfl, ?_⟩;simp only [invoke];rw [h.1 _ w];exact (h.2 I w _ hH hc (CRel.app (CRel.app ⟨g1, g3⟩ ha) ⟨g2, g4⟩)).mono fun e w' ⟨u, v, H', I', h1, h2, h3, h4, h5, h6⟩ => ⟨u, h1, hk u v H' I' w' h2 h3 h4 h5 h6⟩
theorem FT_of_PF {fid : FuncId} {args : List AV} (hc : PF P fid (args.map ((⟨0, .nil, H.heap, H.next, H.clk, []⟩ : AS).view VD)) v) (hfl : hasM.hasML args = true -> flat v = true) : FT P w0 N0 fid args H (fun v' H' => v' = v /\ H' = H) := by
 refine ⟨hc.1, fun I w us hH hclk hcr => ?_⟩;have hR : Rel w0 N0 I ⟨0, .nil, H.heap, H.next, H.clk, []⟩ ⟨#[], []⟩ w := ⟨hclk, ⟨rfl, fun i v e => by simp [zdq] at e⟩, hH, ⟨rfl, fun i id st d e => by simp at e, by simp⟩⟩
 obtain ⟨c1, c2⟩ := zkz hR hcr;have fin : ∀ (ro : Nat -> Prop) e u w', e = Ending.returned u -> Below w.heap.size w w' -> VRel w' (fun b => ro b \/ w.heap.size <= b) none v u -> ((∀ b, ro b -> I.ro b) \/ flat v = true) ->
   ∃ u v' H' I', e = .returned u /\ (v' = v /\ H' = H) /\ HRel w0 N0 I' H'.heap H'.next w' /\ I'.clk = H'.clk /\ VRel w' I'.ro (some I') v' u /\ Evo I w I' w' := by
  intro ro e u w' he hb hv hor;obtain ⟨k1, k2⟩ := hH.below' hb;refine ⟨u, v, H, I, he, ⟨rfl, rfl⟩, k1, hclk, ?_, k2⟩;rcases hor with hro | hfv
  ·refine (hv.mono (ro' := I.ro) (w' := w') (fun b i x hb hc => ⟨?_, hc⟩) (L' := none) trivial).pure;rcases hb with hb | hb
   ·exact hro b hb
   ·refine ⟨hH.okN b (y0u (y0u hH.base hH.below.size) hb), fun id st base n hl => ?_⟩;obtain ⟨oo, hoo⟩ := hH.locs _ _ _ hl;obtain ⟨_, l, hl', hol⟩ := hH.heap _ _ _ hoo;rw [hl] at hl'; injection hl' with hl'; subst hl';have hlt : b < w.heap.size := by
     cases oo with
     | cells cs => obtain ⟨c, elem, h1, _⟩ := hol; exact (y0e.1 h1).1
     | loop => obtain ⟨c, h1, _⟩ := hol; exact (y0e.1 h1).1
     | deferred => exact (y0e.1 hol).1
     | map es => obtain ⟨c, elem, h1, _⟩ := hol; exact (y0e.1 h1).1
     | typed T full cs => obtain ⟨_, _, c, h1, _⟩ := hol; exact (y0e.1 h1).1
    omega
  ·exact hv.flat hfv
 by_cases hm : hasM.hasML args = true
 ·exact (hc.2 I.ok w _ (hH.glob.mono fun b i x hb hc => ⟨hb.1, hc⟩) c1).mono fun e w' ⟨u, h1, h2, h3⟩ => fin I.ok e u w' h1 h2 h3 (.inr (hfl hm))
 ·exact (hc.2 I.ro w _ hH.glob (c2 (by simpa using hm))).mono fun e w' ⟨u, h1, h2, h3⟩ => fin I.ro e u w' h1 h2 h3 (.inl fun b hb => hb)
theorem zlb {fa : Arg} {args : List Arg} {fv : AV} {vs : List AV} (hop : io.op = .call fa args) (hf : S.arg fa = some fv) (ha : S.args args = some vs) {Fk : AV -> HS -> Prop}
  (hc : CT P w0 N0 fv vs S.hs Fk) (hmk : ∀ v H, Fk v H -> zco S.marks H.heap) : Stp P w0 N0 rd io S (fun S2 v2 => ∃ H, Fk v2 H /\ S2 = S.withH H) := fun ops o hcom n I a w r next Qc hR ho hk => by
  have hcop := zr5 hcom (by rw [hop]; simp);have hcop0 := hcop;rw [hop] at hcop;obtain ⟨f, xs, ts, hoo, hf', hl⟩ := zr3 hcop;have hfv := hR.arg hf' hf;obtain ⟨x1, x2⟩ := hR.args hl ha;obtain ⟨d, hd1, hd2⟩ := hc I w (a.eval f) (xs.map a.eval) r (n - 1) (fun u w' => next (a.put o.dst u) w') hR.hrel hR.clk hfv ⟨x1, x2⟩ (fun u v H' I' w' h2 h3 h4 h5 h6 =>
   hk I' (S.withH H') v u w' ⟨H', h2, rfl⟩ (hR.withH h3 h4 h6 (hR.marks.later hR.stamps (hmk v H' h2) h3 h6)) h5 h6)
  refine ⟨fun _ _ => trivial, ?_⟩;show Oper.uponIn (Wd r) n P _ a next Qc ((Oper.semAt r a.eval _).run P w);rw [Oper.semAt_eq r a.eval _ (zhg hcop0)];have : (execOp a.eval o).run P w = (invoke d.target d.args).run P w := by
   simp only [execOp, hoo, resolve, Sem.run_bind, hd1, Result.andThen_ok]
  rw [this];generalize (invoke d.target d.args).run P w = res at hd2;cases res with
  | halt x w' => exact hd2.elim
  | ok nx w' =>
   cases nx <;> simp only [CallQ] at hd2
   case enter f args =>
    refine ⟨fun e => by simp [ziw] at e, zg7 (hd2.mono fun e w'' ⟨u, h1, h2⟩ => ?_)⟩;subst h1; exact h2
   case round l f tmps as body =>
    refine ⟨fun e => by simp [ziw] at e, hd2.mono fun e w'' ⟨u, h1, h2⟩ => ?_⟩;subst h1; exact h2
def ziq : List Nat -> List AV -> TM -> TM
 | p :: ps, v :: vs, t => ziq ps vs (putT p v t)
 | _, _, t => t
theorem zm6 {w : World} {ro : Nat -> Prop} {L : Option LI} {size : Nat} : ∀ (ps : List Nat) (vs : List AV) (us : List Value) (t : TM) (ts : Array Value), ps.length = vs.length -> us.length = vs.length -> (∀ p ∈ ps, p < size) ->
  (∀ (i : Nat) (x : AV), vs[i]? = some x -> ∃ u, us[i]? = some u /\ VRel w ro L x u) -> TRel w ro L size t ts -> TRel w ro L size (ziq ps vs t) ((ps.zip us).foldl (fun tmps (x : Nat × Value) => tmps.setIfInBounds x.1 x.2) ts)
 | [], vs, us, t, ts, _, _, _, _, ht => by simpa [ziq] using ht
 | p :: ps, [], us, t, ts, h1, _, _, _, _ => by simp at h1
 | p :: ps, v :: vs, [], t, ts, _, h2, _, _, _ => by simp at h2
 | p :: ps, v :: vs, u :: us, t, ts, h1, h2, h3, h4, ht => by
  simp only [ziq, List.zip_cons_cons, List.foldl_cons];obtain ⟨u', hu, hv⟩ := h4 0 v rfl;simp at hu; subst hu;exact zm6 ps vs us _ _ (by simpa using h1) (by simpa using h2) (fun q hq => h3 q (y0a _ hq)) (fun i x hx => by simpa using h4 (i + 1) x (by simpa using hx)) (ht.put (h3 p (y01 ..)) hv)
def AS.round (size : Nat) (tmps : TM) (ps : List Nat) (args : List AV) (H : HS) : AS := ⟨size, ziq ps args tmps, H.heap, H.next, H.clk, []⟩
def zri : Exit -> Option (Option Code)
 | .normal => some none
 | .ret => some (some .ret)
 | .exit id => some (some (.exit id))
 | _ => none
theorem zi4 (h : HRel w0 N0 I H.heap H.next w) {id st b base nn : Nat} {s1 s2 : LoopState} {p1 p2 : Option Code} {size : Nat} {tmps : TM} {ps : List Nat} {assign body : Code} {df : Nat × Nat}
  (hl : look id H.heap = some (st, .loop s1 p1 size tmps ps assign body df)) (hloc : I.loc id st = some (.at b base nn)) {rr : Loop} (hb : w.heap[b]? = some (.loop rr)) :
  HRel w0 N0 I (zap id (st, .loop s2 p2 size tmps ps assign body df) H.heap) H.next (w.putObj b (.loop { rr with state := s2, pending := p2 })) /\ Evo I w I (w.putObj b (.loop { rr with state := s2, pending := p2 })) := by
 obtain ⟨_, l, hl', hol⟩ := h.heap _ _ _ hl;rw [hloc] at hl'; injection hl' with hl'; subst hl';obtain ⟨r', h1, h2, h3, h4, h5, h6, h7, h8, h9⟩ := hol;rw [hb] at h1; injection h1 with h1; injection h1 with h1; subst h1;have hlt : b < w.heap.size := (y0e.1 hb).1;have hN := h.fresh _ _ _ _ _ hloc;exact h.write (o' := .loop s2 p2 size tmps ps assign body df) ⟨rfl, rfl, rfl, by simp, fun k hk => World.putObj_heap_other (by omega)⟩ hloc hl (fun b' hb' => World.putObj_heap_other hb')
  (fun e => ⟨_, World.putObj_heap_same hlt, rfl, rfl, h4.evo e, h5, h6, h7, y09 h8 e.clk, fun b' base' n' hl => h9 b' base' n' (e.loc _ _ _ h8 hl)⟩)
theorem zmg {id st : Nat} {args : List AV} {size : Nat} {tmps : TM} {ps : List Nat} {ca cb : Code} {df : Nat × Nat} {ia ib : IC} (hl : look id H.heap = some (st, .loop .ready none size tmps ps ca cb df))
  (ha : Com P ca ia) (hb : Com P cb ib) (hps : ps.length = args.length) (hlt : ∀ p ∈ ps, p < size)
  (h : T P w0 N0 (some (id, st)) ia (AS.round size tmps ps args H) fun e S1 => e = .normal /\ ∃ size1 tmps1 ps1 ca1 cb1 df1, look id S1.heap = some (st, .loop .ready none size1 tmps1 ps1 ca1 cb1 df1) /\
   T P w0 N0 (some (id, st)) ib { S1 with heap := zap id (st, .loop .busy none size1 tmps1 ps1 ca1 cb1 df1) S1.heap } fun e S2 => ∃ size2 tmps2 ps2 ca2 cb2 df2, look id S2.heap = some (st, .loop .busy none size2 tmps2 ps2 ca2 cb2 df2) /\
    ∃ j, zri e = some j /\ Q (.bool j.isNone) ⟨zap id (st, .loop (if j.isNone then .ready else .done) j size2 tmps2 ps2 ca2 cb2 df2) S2.heap, S2.next, S2.clk⟩) :
  CT P w0 N0 (.yield id st) args H Q := by
 intro I w fu us r n nx hH hclk hf hargs hk;cases hf with
 | yield hkk hcl =>
  obtain ⟨J, hJ, c1, c2⟩ := hcl;injection hJ with hJ; subst hJ;obtain ⟨_, l, hl', hol⟩ := hH.heap _ _ _ hl;cases l with
  | void => exact hol.elim
  | «at» b base nn =>
   have hol0 := hol;obtain ⟨rr, h1, h2, h3, h4, h5, h6, h7, h8, h9⟩ := hol;rw [c2 _ _ _ hl'];refine ⟨{ target := .fn (.yield b) #[], args := #[] ++ us }, rfl, ?_⟩;have hsz : (#[] ++ us).size = rr.params.size := by
    have : rr.params.size = ps.length := by rw [<- h5]; simp
    simp [this, hps, hargs.1]
   simp only [invoke, run_yield h1 hsz];refine roundIn_of_wpIn (Wd_fn r rr.fn) ?_
   -- the round's own state
   have hR : Rel w0 N0 I (AS.round size tmps ps args H) { tmps := (rr.params.zip (#[] ++ us)).foldl (fun tmps (t, a) => tmps.setIfInBounds t a) rr.tmps, defers := [] } w := by
    refine ⟨hclk, ?_, hH, ⟨rfl, fun i id st d e => by simp [AS.round] at e, by simp [AS.round]⟩⟩;have e : (rr.params.zip (#[] ++ us)).foldl (fun tmps (x : Nat × Value) => tmps.setIfInBounds x.1 x.2) rr.tmps = (ps.zip us.toList).foldl (fun tmps (x : Nat × Value) => tmps.setIfInBounds x.1 x.2) rr.tmps := by
     rw [<- Array.foldl_toList];simp [h5]
    show TRel w I.ro (some I) size (ziq ps args tmps) _;rw [e];refine zm6 ps args us.toList tmps rr.tmps hps (by simp [hargs.1]) hlt (fun i x hx => ?_) h4;have hi : i < us.size := by rw [hargs.1]; exact (y05.1 hx).1
    refine ⟨us.getD i undef, ?_, hargs.2 i x hx⟩;simp only [y1r, y02, y17 hi, y1p]
   have hrd : RdOk I (some (id, st)) (some b) := ⟨c1, fun l hl2 => by rw [hl'] at hl2; injection hl2 with hl2; subst hl2; exact ⟨_, _, rfl⟩⟩
   have hab : Com P rr.assign ia := h6 ▸ ha;have hbb : Com P rr.body ib := h7 ▸ hb;refine wpIn_mono (h rr.assign hab n I _ w (some b) hR hrd) fun e a1 w1 ⟨I1, S1, ⟨q1, size1, tmps1, ps1, ca1, cb1, df1, q2, q3⟩, hR1, hE1⟩ => ?_;subst q1
   -- the round begins
   obtain ⟨_, l1, hl1, hol1⟩ := hR1.hrel.heap _ _ _ q2;have hle : l1 = .at b base nn := by have := hE1.loc id st l1 c1 hl1; rw [hl'] at this; injection this with this; exact this.symm
   subst hle;obtain ⟨r1, g1, g2, g3, g4, g5, g6, g7, g8, g9⟩ := hol1;refine ⟨_, run_beginRound g1 g2, ?_⟩;obtain ⟨k1, k2⟩ := zi4 (H := S1.hs) (s2 := .busy) (p2 := none) hR1.hrel q2 hl1 g1;have hpe : r1.pending = none := g3;have er : ({ r1 with state := .busy } : Loop) = { r1 with state := .busy, pending := none } := by rw [<- hpe]
   rw [er];have hR2 : Rel w0 N0 I1 { S1 with heap := zap id (st, .loop .busy none size1 tmps1 ps1 ca1 cb1 df1) S1.heap } a1 (w1.putObj b (.loop { r1 with state := .busy, pending := none })) :=
    ⟨hR1.clk, hR1.tmps.evo k2, k1, hR1.marks.write fun s e => by rw [q2] at e; cases e⟩
   refine wpIn_mono (q3 rr.body hbb n I1 a1 _ (some b) hR2 ((hrd.evo hE1).evo k2)) fun e a2 w2 ⟨I2, S2, ⟨size2, tmps2, ps2, ca2, cb2, df2, p1, j, p2, p3⟩, hR3, hE3⟩ => ?_;have hEE := (hE1.trans k2).trans hE3;obtain ⟨_, l2, hl2, hol2⟩ := hR3.hrel.heap _ _ _ p1;have hle : l2 = .at b base nn := by have := hEE.loc id st l2 c1 hl2; rw [hl'] at this; injection this with this; exact this.symm
   subst hle;obtain ⟨r2, f1, f2⟩ := hol2;obtain ⟨m1, m2⟩ := zi4 (H := S2.hs) (s2 := if j.isNone then .ready else .done) (p2 := j) hR3.hrel p1 hl2 f1;have fin : ∀ j', j = j' -> ∃ v w', (Instr.endRound b j').run P w2 = .ok v w' /\ (∃ u, Ending.returned v = .returned u /\ nx u w') := by
    intro j' e; subst e;refine ⟨_, _, run_endRound j f1, _, rfl, ?_⟩;exact hk _ _ ⟨_, S2.next, S2.clk⟩ I2 _ p3 m1 hR3.clk .bool (hEE.trans m2)
   cases e <;> simp only [zri, y00, reduceCtorEq] at p2
   ·exact fin none p2.symm
   ·exact fin _ p2.symm
   ·exact fin _ p2.symm
end
def zrb : Option Code -> Option Exit
 | none => some .normal
 | some .ret => some .ret
 | some (.exit id) => some (.exit id)
 | _ => none
section
variable {P : Program} {w0 w : World} {N0 : Nat} {I : LI} {S S' : AS} {a : Act} {rd : Option (Nat × Nat)} {Q : Exit -> AS -> Prop}
theorem zvw (h : HRel w0 N0 I S.heap S.next w) (hc : I.clk = S.clk) (ob : Obj) (o : AObj) (nn : Nat) (ho : Evo I w (I.bind S.next (.at w.heap.size 0 nn)) (w.alloc ob) -> ORel (w.alloc ob) (I.bind S.next (.at w.heap.size 0 nn)) (.at w.heap.size 0 nn) o) :
  HRel w0 N0 (I.bind S.next (.at w.heap.size 0 nn)) ((S.next, S.clk, o) :: S.heap) (S.next + 1) (w.alloc ob) /\ Evo I w (I.bind S.next (.at w.heap.size 0 nn)) (w.alloc ob) := by
 have hN : N0 <= w.heap.size := y0u h.base h.below.size;obtain ⟨k1, k2⟩ := h.bind (w' := w.alloc ob) (id := S.next) (next' := S.next + 1) (l := .at w.heap.size 0 nn) (o := o) ((Below.refl _ _).alloc hN _)
  (fun b hb' _ => Below.heap_alloc w _ b hb') (fun b base n e => by injection e with e1 e2 e3; subst e1; exact .inl (y08 _)) ho (y0y _) (y07 _)
 refine ⟨k1.congr fun i => ?_, k2⟩;rw [<- hc, za0, zak]
theorem end_loop {n : Nat} {r : Option Nat} {I0 I3 : LI} {w3 : World} {H2 : HS} {b lid lst base nn size : Nat} {stt : LoopState} {pe : Option Code} {tmps : TM} {ps : List Nat} {ca cb : Code} {df : Nat × Nat} {S4 : AS} {e : Exit} {a' : Act} {w00 : World}
  (h3 : HRel w0 N0 I3 H2.heap H2.next w3) (hloc : I3.loc lid lst = some (.at b base nn)) (hl : look lid H2.heap = some (lst, .loop stt pe size tmps ps ca cb df)) (hb : stt ≠ .busy) (hp : zrb pe = some e)
  (hQ : Q e S4) (hR : ∀ w4 I4, HRel w0 N0 I4 (zbx lid H2.heap) H2.next w4 -> I4.clk = I3.clk -> Evo I3 w3 I4 w4 -> Rel w0 N0 I4 S4 a' w4) (hE : Evo I0 w00 I3 w3) :
  ∃ jump w4, (Instr.endLoop b).run P w3 = .ok jump w4 /\ (match jump with | none => Post w0 N0 I0 w00 Q .normal a' w4 | some c => c.wpIn (Wd r) n P (Post w0 N0 I0 w00 Q) a' w4) := by
 obtain ⟨_, l, hl2, hol⟩ := h3.heap _ _ _ hl;rw [hloc] at hl2; injection hl2 with hl2; subst hl2;obtain ⟨rr, g1, g2, g3, _⟩ := hol;obtain ⟨m1, m2⟩ := zi4 (H := H2) (s2 := .exhausted) (p2 := rr.pending) h3 hl hloc g1;have e1 : ({ rr with state := .exhausted } : Loop) = { rr with state := .exhausted, pending := rr.pending } := rfl;refine ⟨rr.pending, _, run_endLoop g1 (by rw [g2]; exact hb), ?_⟩;rw [e1];have m3 := m1.drop lid;have m4 : HRel w0 N0 (I3.drop lid) (zbx lid H2.heap) H2.next _ := m3.congr fun i => by
  rw [zac, zac, za0];split <;> rfl
 have hE4 := m2.trans (Evo.drop I3 (w3.putObj b (.loop { rr with state := .exhausted, pending := rr.pending })) lid);have hRR := hR _ _ m4 rfl hE4;have hpost : Post w0 N0 I0 w00 Q e a' (w3.putObj b (.loop { rr with state := .exhausted, pending := rr.pending })) := ⟨I3.drop lid, S4, hQ, hRR, hE.trans hE4⟩
 generalize w3.putObj b (.loop { rr with state := .exhausted, pending := rr.pending }) = W at hpost ⊢;rw [g3];unfold zrb at hp;split at hp <;> simp only [y00, reduceCtorEq] at hp <;> subst hp
 ·exact hpost
 ·exact wpIn_ret hpost
 ·exact wpIn_exit hpost
def AS.rangeOuter (S : AS) (ps : List Nat) (ca cb : Code) : HS :=
 ⟨(S.next + 1, S.clk + 1, .loop .ready none S.size S.tmps ps ca cb (S.next, S.clk)) :: (S.next, S.clk, .deferred) :: S.heap, S.next + 2, S.clk + 2⟩
def RangeQ (S : AS) (lid lst : Nat) (marks : List (Nat × Nat)) (Q : Exit -> AS -> Prop) (H2 : HS) : Prop :=
 ∃ stt pe e tmps size ps' ca' cb' df, look lid H2.heap = some (lst, .loop stt pe size tmps ps' ca' cb' df) /\ stt ≠ .busy /\ zrb pe = some e /\ zco marks (zbx lid H2.heap) /\
  Q e ⟨S.size, S.tmps, zbx lid H2.heap, H2.next, H2.clk, marks⟩
theorem zmi {g : Arg} {ps : List Nat} {ca cb : Code} {ia ib : IC} {fid : FuncId} {first cap : List AV} (hg : S.arg g = some (.fn fid first cap))
  (h : Com P ca ia -> Com P cb ib -> FT P w0 N0 fid (first ++ [.yield (S.next + 1) (S.clk + 1)] ++ cap) (S.rangeOuter ps ca cb) fun _ H2 => RangeQ S (S.next + 1) (S.clk + 1) ((S.next, S.clk) :: S.marks) Q H2) :
  T P w0 N0 none (.rangeFunc g ps ca cb ia ib) S Q := fun code hcom n I a w r hr ho => by
 cases hcom with
 | @rangeFunc gf ps' _ _ _ _ _ h0 h1 h2 =>
  obtain rfl : r = none := by cases r with | none => rfl | some _ => exact ho.elim
  refine wpIn_rangeFunc fun fn _ => ?_;have hv := hr.arg h0 hg;generalize hgu : a.eval gf = gu at hv;cases hv with
  | @fn _ _ _ _ fs cs f1 f2 f3 f4 =>
   obtain ⟨hEnt, hcall⟩ := h h1 h2
   -- the two blocks
   obtain ⟨k1, k2⟩ := zvw hr.hrel hr.clk (.deferred (some [])) .deferred 0 (fun _ => World.alloc_heap_new w _);have hI1c : (I.bind S.next (.at w.heap.size 0 0)).clk = S.clk + 1 := by show I.clk + 1 = _; rw [hr.clk]
   have hr1 : TRel (w.alloc (.deferred (some []))) (I.bind S.next (.at w.heap.size 0 0)).ro (some (I.bind S.next (.at w.heap.size 0 0))) S.size S.tmps a.tmps := hr.tmps.evo k2;obtain ⟨m1, m2⟩ := zvw (S := ⟨S.size, S.tmps, (S.next, S.clk, .deferred) :: S.heap, S.next + 1, S.clk + 1, S.marks⟩) k1 hI1c
    (.loop { state := .ready, pending := none, fn := fn, tmps := a.tmps, params := ps', assign := ca, body := cb, defers := w.heap.size }) (.loop .ready none S.size S.tmps ps'.toList ca cb (S.next, S.clk)) 0
    (fun e => ⟨_, World.alloc_heap_new _ _, rfl, rfl, hr1.evo e, rfl, rfl, rfl, by show S.clk < I.clk + 1 + 1; rw [hr.clk]; omega, fun b' base' n' hl => by
     have hl2 := e.loc S.next S.clk _ (by rw [hI1c]; omega) hl;rw [<- hr.clk, LI.bind_same] at hl2;injection hl2 with hl2; injection hl2 with e1 e2 e3⟩)
   let W := (w.alloc (.deferred (some []))).alloc (.loop { state := .ready, pending := none, fn := fn, tmps := a.tmps, params := ps', assign := ca, body := cb, defers := w.heap.size })
   refine ⟨w.heap.size + 1, [{ target := .collected w.heap.size, args := #[] }], W, { target := .fn (.func fid) cs, args := fs ++ #[.func (.yield (w.heap.size + 1)) #[] #[]] }, W, fid, fs ++ #[.func (.yield (w.heap.size + 1)) #[] #[]] ++ cs, W,
    run_enterLoop_outer fn a.tmps ps' ca cb, ?_, fun _ _ => Wd_fn _ _, ?_, fun e => by simp [ziw] at e, ?_⟩
   ·simp only [resolve, hgu, Deferred.ofValue];simp only [List.map_toArray, y1d, List.map_nil];rfl
   ·simp only [invoke];exact hEnt _ _
   ·have hE2 := k2.trans m2;have hI2 : ((I.bind S.next (.at w.heap.size 0 0)).bind (S.next + 1) (.at (w.alloc (.deferred (some []))).heap.size 0 0)).clk = S.clk + 2 := by show I.clk + 1 + 1 = _; rw [hr.clk]
    have hsz1 : (w.alloc (.deferred (some []))).heap.size = w.heap.size + 1 := World.size_alloc ..;have hy : VRel ((w.alloc (.deferred (some []))).alloc (.loop { state := .ready, pending := none, fn := fn, tmps := a.tmps, params := ps', assign := ca, body := cb, defers := w.heap.size }))
      ((I.bind S.next (.at w.heap.size 0 0)).bind (S.next + 1) (.at (w.alloc (.deferred (some []))).heap.size 0 0)).ro (some ((I.bind S.next (.at w.heap.size 0 0)).bind (S.next + 1) (.at (w.alloc (.deferred (some []))).heap.size 0 0)))
      (.yield (S.next + 1) (S.clk + 1)) (.func (.yield (w.heap.size + 1)) #[] #[]) := by
     refine .yield ⟨_, rfl⟩ ⟨_, rfl, by rw [hI2]; omega, fun b base nn hb => ?_⟩;have : (I.bind S.next (.at w.heap.size 0 0)).clk = S.clk + 1 := hI1c;rw [<- this, LI.bind_same] at hb;injection hb with hb; injection hb with e1 e2 e3;rw [<- e1, hsz1]
    have hcr : CRel _ _ _ (first ++ [.yield (S.next + 1) (S.clk + 1)] ++ cap) (fs ++ #[.func (.yield (w.heap.size + 1)) #[] #[]] ++ cs) :=
     CRel.app (CRel.app ⟨f1, fun i x hx => (f3 i x hx).evo hE2⟩ ⟨rfl, fun i x hx => by
      cases i with
      | zero => simp at hx; subst hx; exact hy
      | succ i => simp at hx⟩) ⟨f2, fun i x hx => (f4 i x hx).evo hE2⟩
    refine zg7 ((hcall _ _ _ m1 hI2 hcr).mono fun e w3 ⟨u, v, H2, I3, e1, ⟨stt, pe, ex, tmps, size, ps3, ca3, cb3, df, q1, q2, q3, q4, q5⟩, e3, e4, e5, e6⟩ => ?_);subst e1
    -- the record still lies where it was laid
    obtain ⟨_, l, hl, _⟩ := e3.heap _ _ _ q1;have hl' := e6.loc _ _ _ (by rw [hI2]; omega) hl;rw [<- hI1c, LI.bind_same] at hl';injection hl' with hl'; subst hl';rw [hsz1] at hl;refine end_loop e3 hl q1 q2 q3 q5 (fun w4 I4 g1 g2 g3 => ?_) (hE2.trans e6);have hEE := (hE2.trans e6).trans g3;refine ⟨by rw [g2]; exact e4, hr.tmps.evo hEE, g1, ?_⟩;refine ⟨by simp [hr.marks.1], fun i id st d hm hd => ?_, ?_⟩
    ·have hmk := q4 _ (y0i hm);obtain ⟨_, l4, hl4, _⟩ := g1.heap _ _ _ hmk;cases i with
     | zero =>
      simp at hm hd;obtain ⟨rfl, rfl⟩ := hm;subst hd;have h5 := (m2.trans (e6.trans g3)).loc _ _ _ (by rw [hI1c]; omega) hl4;rw [<- hr.clk, LI.bind_same] at h5;injection h5 with h5; subst h5;exact ⟨hmk, _, _, _, hl4, rfl⟩
     | succ i =>
      obtain ⟨o1, b, base, nn, o2, o3⟩ := hr.marks.2.1 i id st d (by simpa using hm) (by simpa using hd);have h5 := hEE.loc _ _ _ (hr.hrel.heap _ _ _ o1).1 hl4;rw [o2] at h5; injection h5 with h5; subst h5;exact ⟨hmk, _, _, _, hl4, o3⟩
    ·simp only [y1d, y2k];refine ⟨fun hmem => ?_, hr.marks.2.2⟩;rw [y0p] at hmem;obtain ⟨m, hm, e1⟩ := hmem;obtain ⟨i, hi, rfl⟩ := y1g.1 hm;have hlt : i < a.defers.length := by rw [hr.marks.1]; exact hi
     obtain ⟨o1, _⟩ := hr.marks.2.1 i (S.marks[i]).1 (S.marks[i]).2 a.defers[i] (by simp [hi]) (by simp [hlt]);rw [e1, hr.hrel.free _ (y08 _)] at o1;cases o1
end
def Same (S S1 : AS) : Prop := S1.size = S.size /\ S1.tmps = S.tmps /\ S1.marks = S.marks
theorem Same.eq {S S1 : AS} (h : Same S S1) : S1 = S.withH S1.hs := by
 obtain ⟨a, b, c, d, e, f⟩ := S1;obtain ⟨h1, h2, h3⟩ := h;simp only at h1 h2 h3;subst h1 h2 h3;rfl
theorem ztd {S S1 : AS} {p : AV} {vs : List AV} (h : S.store p vs = some S1) : Same S S1 := by
 unfold AS.store at h;repeat' (split at h)
 all_goals simp only [y00, reduceCtorEq] at h
 all_goals (subst h; exact ⟨rfl, rfl, rfl⟩)
theorem zpg {S S1 : AS} {sz bytes : Nat} {sv v : AV} {es : List (List AV)} (h : zbv S sz bytes sv es = some (v, S1)) : Same S S1 := by
 unfold zbv at h;repeat' (split at h)
 all_goals simp only [y00, y0b, reduceCtorEq] at h
 all_goals (obtain ⟨_, rfl⟩ := h; exact ⟨rfl, rfl, rfl⟩)
theorem znz {S S1 : AS} {T : TypeId} {bytes : Nat} {sv v : AV} {es : List (List AV)} (h : appendT S T bytes sv es = some (v, S1)) : Same S S1 := by
 unfold appendT at h;repeat' (split at h)
 all_goals simp only [y00, y0b, reduceCtorEq] at h
 all_goals (obtain ⟨_, rfl⟩ := h; exact ⟨rfl, rfl, rfl⟩)
theorem zo0 {S S1 : AS} {sz bytes : Nat} {z : List AV} {sv v : AV} {n : Int} (h : zf3 S sz bytes z sv n = some (v, S1)) : Same S S1 := by
 unfold zf3 at h;repeat' (split at h)
 all_goals simp only [y00, y0b, reduceCtorEq] at h
 all_goals (obtain ⟨_, rfl⟩ := h; exact ⟨rfl, rfl, rfl⟩)
theorem zq2 {S S1 : AS} {kd : EqK} {m k v : AV} (h : S.mapset kd m k v = some S1) : Same S S1 := by
 unfold AS.mapset at h;repeat' (split at h)
 all_goals simp only [y03, reduceCtorEq] at h
 obtain ⟨_, _, rfl⟩ := h;exact ⟨rfl, rfl, rfl⟩
theorem zj2 {S S1 : AS} {op : IOp} {v : AV} (h : iop S op = some (v, S1)) : S1 = S.withH S1.hs := by
 refine Same.eq ?_;cases op <;> simp only [iop] at h
 case append =>
  repeat' (split at h)
  all_goals first | exact zpg h | cases h
 case appendT =>
  repeat' (split at h)
  all_goals first | exact znz h | cases h
 case mapset =>
  repeat' (split at h)
  all_goals simp only [y03, y0b, reduceCtorEq] at h
  obtain ⟨a, h1, _, h2⟩ := h;subst h2; exact zq2 h1
 case appendz =>
  repeat' (split at h)
  all_goals first | exact zo0 h | cases h
 case store =>
  repeat' (split at h)
  all_goals simp only [y03, y0b, reduceCtorEq] at h
  obtain ⟨a, h1, _, h2⟩ := h;subst h2; exact ztd h1
 all_goals (repeat' (split at h)) <;> simp only [y03, y00, y0b, reduceCtorEq] at h
 all_goals first
   | (obtain ⟨_, rfl⟩ := h; exact ⟨rfl, rfl, rfl⟩)
   | (obtain ⟨_, _, _, rfl⟩ := h; exact ⟨rfl, rfl, rfl⟩)
structure Tr where
 dst : Option Nat
 v : AV
 anc : List Nat
def zkn : List Nat -> TM -> TM
 | [], t => t
 | d :: ds, t => setT d none (zkn ds t)
theorem zex {d : Nat} {v : AV} : ∀ {ds : List Nat} {t : TM}, zao d (zkn ds t) = some v -> zao d t = some v /\ ds.contains d = false
 | [], t, h => ⟨h, rfl⟩
 | k :: ds, t, h => by
  simp only [zkn, zew] at h;split at h
  ·cases h
  ·rename_i hk;obtain ⟨h1, h2⟩ := zex h;refine ⟨h1, ?_⟩;have : d ≠ k := fun e => hk e.symm;simpa [this] using h2
def zfp (tr : List Tr) (rest : TM) : List Nat -> TM
 | [] => rest
 | p :: l => match tr[p]? with
  | some t => match t.dst with
   | some d => putT d t.v (zfp tr rest l)
   | none => zfp tr rest l
  | none => zfp tr rest l
theorem zon {tr : List Tr} {rest : TM} {d : Nat} {v : AV} : ∀ {l : List Nat}, zao d (zfp tr rest l) = some v -> (∃ p t, p ∈ l /\ tr[p]? = some t /\ t.dst = some d /\ t.v = v) \/ zao d rest = some v
 | [], h => .inr h
 | p :: l, h => by
  have ih : zao d (zfp tr rest l) = some v -> (∃ p' t, p' ∈ p :: l /\ tr[p']? = some t /\ t.dst = some d /\ t.v = v) \/ zao d rest = some v := fun h => by
   rcases zon h with ⟨p', t, h1, h2⟩ | h
   ·exact .inl ⟨p', t, y0a _ h1, h2⟩
   ·exact .inr h
  simp only [zfp] at h;split at h
  ·rename_i t ht;split at h
   ·rename_i d' hd;simp only [zcc] at h;split at h
    ·rename_i e; subst e;injection h with h;exact .inl ⟨p, t, y01 .., ht, hd, h⟩
    ·exact ih h
   ·exact ih h
  ·exact ih h
def AS.base (S : AS) (rest : TM) (tr : List Tr) (l : List Nat) (H : HS) : AS := ⟨S.size, zfp tr rest l, H.heap, H.next, H.clk, S.marks⟩
theorem zli (p q : Nat -> Bool) : ∀ l : List Nat, (∀ x ∈ l, q x = true -> p x = true) -> (l.filter q).length <= (l.filter p).length
 | [], _ => y08 _
 | x :: l, h => by
  have ih := zli p q l fun y hy => h y (y0a _ hy);simp only [List.filter_cons];cases hq : q x with
  | true => rw [h x (y01 ..) hq]; simp; exact ih
  | false => cases p x <;> simp <;> omega
theorem cnt_lt (p q : Nat -> Bool) (i : Nat) (h1 : p i = true) (h2 : q i = false) : ∀ l : List Nat, (∀ x ∈ l, q x = true -> p x = true) -> i ∈ l -> (l.filter q).length < (l.filter p).length
 | [], _, hi => by cases hi
 | x :: l, h, hi => by
  have ihle := zli p q l fun y hy => h y (y0a _ hy);by_cases e : i = x
  ·subst e;simp only [List.filter_cons, h1, h2];simp; omega
  ·have ih := cnt_lt p q i h1 h2 l (fun y hy => h y (y0a _ hy)) (by simpa [e] using hi);simp only [List.filter_cons];cases hq : q x with
   | true => rw [h x (y01 ..) hq]; simp; exact ih
   | false => cases p x <;> simp <;> omega
section
variable {P : Program} {w0 w : World} {N0 : Nat} {I : LI} {S S' S1 : AS} {a : Act} {rd : Option (Nat × Nat)} {Q : Exit -> AS -> Prop}
def Fits (tr : List Tr) (louds : List Nat) (i : Nat) (t : Tr) (j : Nat) : Prop :=
 ∀ m l, louds[m]? = some l -> (l ∈ t.anc -> m < j) /\ (l = i -> j <= m) /\ ∀ tl, tr[l]? = some tl -> i ∈ tl.anc -> j <= m
def StepOk (P : Program) (w0 : World) (N0 : Nat) (rd : Option (Nat × Nat)) (S : AS) (rf : Nat -> TM) (tr : List Tr) (louds : List Nat) (heaps : List HS) (i : Nat) (io : Opr) (t : Tr) (j : Nat) (H : HS) : Prop :=
 (i ∉ louds /\ zaf (S.base (rf i) tr t.anc H) io = some false /\ t.v = .tup []) \/
 (zaf (S.base (rf i) tr t.anc H) io = some true /\
  (
   (i ∉ louds /\ Stp P w0 N0 rd io (S.base (rf i) tr t.anc H) fun S2 v2 => v2 = t.v /\ S2 = S.base (rf i) tr t.anc H) \/
   (louds[j]? = some i /\ ∃ H', heaps[j + 1]? = some H' /\ Stp P w0 N0 rd io (S.base (rf i) tr t.anc H) fun S2 v2 => v2 = t.v /\ S2 = S.base (rf i) tr t.anc H')))
structure DInv (w0 : World) (N0 : Nat) (rd : Option (Nat × Nat)) (r : Option Nat) (S : AS) (tr : List Tr) (louds : List Nat) (heaps : List HS) (I0 : LI) (w00 : World) (listed : Array Bool) (a : Act) (w : World) : Prop where
 len : listed.size = tr.length
 down : ∀ i t, listed.getD i false = true -> tr[i]? = some t -> ∀ p ∈ t.anc, listed.getD p false = true
 ex : ∃ (I : LI) (j : Nat) (H : HS), heaps[j]? = some H /\ (∀ m l, louds[m]? = some l -> (listed.getD l false = true ↔ m < j)) /\
  I.clk = H.clk /\ HRel w0 N0 I H.heap H.next w /\ DRel I H.heap S.marks a.defers /\ a.tmps.size = S.size /\
  (∀ d v, zao d S.tmps = some v -> (∀ (k : Nat) (t : Tr), tr[k]? = some t -> t.dst = some d -> listed.getD k false = false) -> VRel w I.ro (some I) v (a.tmps.getD d undef)) /\
  (∀ i t d, listed.getD i false = true -> tr[i]? = some t -> t.dst = some d -> VRel w I.ro (some I) t.v (a.tmps.getD d undef)) /\ RdOk I rd r /\ Evo I0 w00 I w
theorem DInv.base {rest : TM} {tr : List Tr} {listed : Array Bool} {H : HS} {l : List Nat}
  (c : I.clk = H.clk) (h : HRel w0 N0 I H.heap H.next w) (hd : DRel I H.heap S.marks a.defers) (hs : a.tmps.size = S.size)
  (h1 : ∀ d v, zao d rest = some v -> VRel w I.ro (some I) v (a.tmps.getD d undef))
  (h2 : ∀ i t d, listed.getD i false = true -> tr[i]? = some t -> t.dst = some d -> VRel w I.ro (some I) t.v (a.tmps.getD d undef)) (hll : ∀ p ∈ l, listed.getD p false = true) : Rel w0 N0 I (S.base rest tr l H) a w :=
 ⟨c, ⟨hs, fun d v hv => by
  rcases zon hv with ⟨p, t, e1, e2, e3, e4⟩ | hv
  ·subst e4; exact h2 p t d (hll p e1) e2 e3
  ·exact h1 d v hv⟩, h, hd⟩
structure DrawOk (P : Program) (w0 : World) (N0 : Nat) (rd : Option (Nat × Nat)) (S : AS) (rf : Nat -> TM) (rest : TM) (ios : List Opr) (pres : List (List Nat)) (tr : List Tr) (louds : List Nat) (heaps : List HS) : Prop where
 len1 : tr.length = ios.length
 free : ∀ (i d : Nat) (v : AV), zao d (rf i) = some v -> zao d S.tmps = some v /\ ∀ (k : Nat) (t : Tr), tr[k]? = some t -> t.dst = some d -> k = i \/ i ∈ t.anc
 last : ∀ (d : Nat) (v : AV), zao d rest = some v -> zao d S.tmps = some v /\ ∀ (i : Nat) (t : Tr), tr[i]? = some t -> t.dst ≠ some d
 len2 : pres.length = ios.length
 dst : ∀ (i : Nat) (io : Opr) (t : Tr), ios[i]? = some io -> tr[i]? = some t -> t.dst = io.dst /\ zc6 S.size io.dst = true
 nd : ∀ (i j : Nat) (t t' : Tr) (d : Nat), tr[i]? = some t -> tr[j]? = some t' -> t.dst = some d -> t'.dst = some d -> i = j
 acyc : ∀ (i : Nat) (ps : List Nat), pres[i]? = some ps -> ∀ p ∈ ps, p < i
 anc : ∀ (i : Nat) (ps : List Nat) (t : Tr), pres[i]? = some ps -> tr[i]? = some t -> ∀ q ∈ t.anc, ∃ p ∈ ps, q = p \/ ∃ t' : Tr, tr[p]? = some t' /\ q ∈ t'.anc
 h0 : heaps[0]? = some S.hs
 hl : heaps.length = louds.length + 1
 lo : ∀ (m l l' : Nat), louds[m]? = some l -> louds[m + 1]? = some l' -> ∃ t : Tr, tr[l']? = some t /\ l ∈ t.anc
 lob : ∀ l ∈ louds, l < ios.length
 step : ∀ (i : Nat) (io : Opr) (t : Tr) (j : Nat) (H : HS), ios[i]? = some io -> tr[i]? = some t -> heaps[j]? = some H -> Fits tr louds i t j -> StepOk P w0 N0 rd S rf tr louds heaps i io t j H
theorem zeh {α β : Type} {f : α -> Option β} : ∀ {l : List α} {r : List β}, l.mapM f = some r -> r.length = l.length /\ ∀ (i : Nat) (x : α), l[i]? = some x -> ∃ y, r[i]? = some y /\ f x = some y
 | [], r, h => by simp at h; subst h; simp
 | x :: l, r, h => by
  rw [y29] at h;cases h1 : f x with
  | none => simp [h1] at h
  | some y =>
   cases h2 : l.mapM f with
   | none => simp [h1, h2] at h
   | some ys =>
    simp [h1, h2] at h; subst h;obtain ⟨e1, e2⟩ := zeh h2;refine ⟨by simp [e1], fun i z hz => ?_⟩;cases i with
    | zero => simp at hz; subst hz; exact ⟨y, rfl, h1⟩
    | succ i => simpa using e2 i z (by simpa using hz)
theorem zd9 {listed : Array Bool} {i : Nat} (hi : i < listed.size) (k : Nat) : (listed.setIfInBounds i true).getD k false = (decide (k = i) || listed.getD k false) := by
 by_cases e : k = i
 ·subst e; simp [y02, hi]
 ·rw [getD_set_ne false (fun h => e h.symm)]; simp [e]
theorem zcs (m k : Nat) : (Array.replicate m false).getD k false = false := by
 simp only [y02, Array.getElem?_replicate];split <;> rfl
theorem zr7 {rf : Nat -> TM} {rest : TM} {ios : List Opr} {pres : List (List Nat)} {tr : List Tr} {louds : List Nat} {heaps : List HS} (D : DrawOk P w0 N0 rd S rf rest ios pres tr louds heaps) {ops : Array Oper} (hio : ops.toList.mapM (zdh P ops) = some ios) (hpr : pres = zej ops)
  {r : Option Nat} {n : Nat} {I0 : LI} {w00 : World} {Qc : Exit -> Act -> World -> Prop} (hQ : ∀ Hn I a w, heaps[louds.length]? = some Hn -> Rel w0 N0 I (S.base rest tr (List.range ios.length) Hn) a w -> Evo I0 w00 I w -> Qc .normal a w) :
  ∀ (fuel : Nat) (listed : Array Bool) (a : Act) (w : World), ((List.range ios.length).filter fun i => !listed.getD i false).length <= fuel -> DInv w0 N0 rd r S tr louds heaps I0 w00 listed a w ->
   wpAnyIn (Wd r) n P .any ops Qc fuel listed a w := by
 obtain ⟨hlen, hget⟩ := zeh hio;have hsz : ios.length = ops.size := by simpa using hlen
 -- nothing is ready: everything is listed
 have hdone : ∀ (listed : Array Bool) a w, DInv w0 N0 rd r S tr louds heaps I0 w00 listed a w -> Region.ready .any ops listed = [] -> Qc .normal a w := by
  intro listed a w ⟨hlz, hdown, I, j, H, hH, hpref, hc, hh, hd, hs, h1, h2, ho, hE⟩ hr;have hall : ∀ i, i < ios.length -> listed.getD i false = true := by
   intro i
   induction i using Nat.strongRecOn with
   | _ i ih =>
    intro hi;cases hli : listed.getD i false with
    | true => rfl
    | false =>
     exfalso;have hio' : i < ops.size := by omega
     have : i ∈ Region.ready .any ops listed := by
      rw [mem_ready];refine ⟨?_, ops[i], by simp [hio'], fun e he hb => ?_⟩
      ·have : i < listed.size := by rw [hlz, D.len1]; exact hi
       simp only [y02, y17 this, y1p] at hli ⊢;exact hli
      ·have hp : pres[i]? = some ((ops[i].after.toList.filter (Region.binds .any ·)).map (·.on)) := by
        rw [hpr]; simp [zej, hio']
       have := D.acyc i _ hp e.on (y0p.2 ⟨e, y25.2 ⟨by simpa using he, hb⟩, rfl⟩);exact ih _ this (by omega)
     rw [hr] at this; cases this
  have hj : j = louds.length := by
   have hjl : j < heaps.length := (y05.1 hH).1;rw [D.hl] at hjl;rcases y20 j louds.length with hlt | hge
   ·exfalso;have := (hpref j louds[j] (by simp [hlt])).1 (hall _ (D.lob _ (y0x hlt)));omega
   ·omega
  subst hj;exact hQ H I a w hH (DInv.base hc hh hd hs (fun d v hv => h1 d v (D.last d v hv).1 fun k t hk hkd => absurd hkd ((D.last d v hv).2 k t hk)) h2 fun p hp => hall p (y0m.1 hp)) hE
 intro fuel
 induction fuel with
 | zero =>
  intro listed a w hf hI;have hr : Region.ready .any ops listed = [] := by
   cases hr : Region.ready .any ops listed with
   | nil => rfl
   | cons i l =>
    exfalso;have hi : i ∈ Region.ready .any ops listed := by rw [hr]; exact y01 ..
    rw [mem_ready] at hi;obtain ⟨h1, o, h2, _⟩ := hi;have hlt : i < ops.size := (y0e.1 h2).1;have : i ∈ (List.range ios.length).filter fun i => !listed.getD i false := by
     rw [y25];refine ⟨y0m.2 (by omega), ?_⟩;have hl : i < listed.size := by rw [hI.len, D.len1]; omega
     simp only [y02, y17 hl, y1p] at h1 ⊢;simp [h1]
    cases hx : (List.range ios.length).filter fun i => !listed.getD i false with
    | nil => rw [hx] at this; cases this
    | cons => rw [hx] at hf; simp at hf
  exact ⟨hr, hdone listed a w hI hr⟩
 | succ fuel ih =>
  intro listed a w hf hI;refine ⟨hdone listed a w hI, fun i hi => ?_⟩;obtain ⟨hlz, hdown, I, j, H, hH, hpref, hc, hh, hd, hs, h1, h2, ho, hE⟩ := hI;rw [mem_ready] at hi;obtain ⟨hu, o, hoi, hpre⟩ := hi;have hlt : i < ops.size := (y0e.1 hoi).1;have hil : i < listed.size := by rw [hlz, D.len1]; omega
  have hu' : listed.getD i false = false := by
   simp only [y02, y17 hil, y1p] at hu ⊢;exact hu
  obtain ⟨io, hio1, hcom⟩ := hget i o (by rw [y1r]; exact hoi);have htl : i < tr.length := by rw [D.len1]; omega
  obtain ⟨t, ht⟩ : ∃ t, tr[i]? = some t := ⟨tr[i], by simp [htl]⟩
  have hp : pres[i]? = some ((o.after.toList.filter (Region.binds .any ·)).map (·.on)) := by
   rw [hpr]; simp [zej, hoi]
  have hanc : ∀ q ∈ t.anc, listed.getD q false = true := by
   intro q hq;obtain ⟨p, hpp, hor⟩ := D.anc i _ t hp ht q hq;obtain ⟨e, he, rfl⟩ := y0p.1 hpp;obtain ⟨he1, he2⟩ := y25.1 he;have hlp := hpre e (by simpa using he1) he2;rcases hor with rfl | ⟨t', ht', hqt⟩
   ·exact hlp
   ·exact hdown _ t' hlp ht' q hqt
  have hfit : Fits tr louds i t j := by
   intro m l hml;refine ⟨fun hla => (hpref m l hml).1 (hanc l hla), fun e => ?_, fun tl htl2 hia => ?_⟩
   ·subst e;rcases y20 m j with hlt2 | hge
    ·have := (hpref m l hml).2 hlt2; rw [hu'] at this; cases this
    ·exact hge
   ·rcases y20 m j with hlt2 | hge
    ·have := hdown l tl ((hpref m l hml).2 hlt2) htl2 i hia; rw [hu'] at this; cases this
    ·exact hge
  obtain ⟨hdst, hok⟩ := D.dst i io t hio1 ht;obtain ⟨hcd, _⟩ := zjn hcom;have hB : Rel w0 N0 I (S.base (rf i) tr t.anc H) a w := DInv.base hc hh hd hs (fun d v hv => h1 d v (D.free i d v hv).1 fun k tk hk hkd => by
   cases hlk : listed.getD k false with
   | false => rfl
   | true =>
    rcases (D.free i d v hv).2 k tk hk hkd with rfl | hin
    ·rw [hu'] at hlk; cases hlk
    ·have := hdown k tk hlk hk i hin; rw [hu'] at this; cases this) h2 hanc
  have hfuel : ((List.range ios.length).filter fun k => !(listed.setIfInBounds i true).getD k false).length <= fuel := by
   have := cnt_lt (fun k => !listed.getD k false) (fun k => !(listed.setIfInBounds i true).getD k false) i (by simp [hu']) (by rw [zd9 hil]; simp) (List.range ios.length)
    (fun k _ hk => by rw [zd9 hil] at hk; simp at hk; simpa using hk.2) (y0m.2 (by omega))
   omega
  -- what holds when the operation has given its value
  have hnext : ∀ (I' : LI) (j' : Nat) (H' : HS) (u : Value) (w' : World), heaps[j']? = some H' -> ((i ∉ louds /\ j' = j) \/ (louds[j]? = some i /\ j' = j + 1)) -> Rel w0 N0 I' (S.base (rf i) tr t.anc H') a w' -> VRel w' I'.ro (some I') t.v u -> Evo I w I' w' ->
    wpAnyIn (Wd r) n P .any ops Qc fuel (listed.setIfInBounds i true) (a.put o.dst u) w' := by
   intro I' j' H' u w' hH' hjj hR' hV hE';refine ih _ _ _ hfuel ⟨by simp [hlz], fun k tk hk htk p hpk => ?_, I', j', H', hH', fun m l hml => ?_, hR'.clk, hR'.hrel, ?_, ?_, fun d v hv hfr => ?_, fun k tk d hk htk hdk => ?_, ho.evo hE', hE.trans hE'⟩
   ·rw [zd9 hil] at hk ⊢;simp only [y0v, decide_eq_true_eq] at hk ⊢;rcases hk with rfl | hk
    ·rw [ht] at htk; injection htk with htk; subst htk;exact .inr (hanc p hpk)
    ·exact .inr (hdown k tk hk htk p hpk)
   ·rw [zd9 hil];simp only [y0v, decide_eq_true_eq];rcases hjj with ⟨hq, rfl⟩ | ⟨hq, rfl⟩
    ·rw [<- hpref m l hml];exact ⟨fun h => h.resolve_left fun e => hq (e ▸ y0i hml), .inr⟩
    ·rw [hpref m l hml];refine ⟨fun h => ?_, fun h => ?_⟩
     ·rcases h with rfl | h
      ·rcases y20 j m with hgt | hle
       ·exfalso;obtain ⟨m', rfl⟩ : ∃ m', m = m' + 1 := ⟨m - 1, by omega⟩
        have hm' : m' < louds.length := by have := (y05.1 hml).1; omega
        obtain ⟨t2, ht2, hin⟩ := D.lo m' louds[m'] l (by simp [hm']) hml;rw [ht] at ht2; injection ht2 with ht2; subst ht2;have := (hpref m' louds[m'] (by simp [hm'])).1 (hanc _ hin);omega
       ·omega
      ·omega
     ·rcases y20 m j with hlt2 | hge
      ·exact .inr hlt2
      ·have : m = j := by omega
       subst this;rw [hq] at hml; injection hml with hml;exact .inl hml.symm
   ·have := hR'.marks;cases hdo : o.dst <;> exact this
   ·cases hdo : o.dst <;> simp [Act.put, hs]
   ·have hv0 := (h1 d v hv fun k tk hk hkd => by
     have := hfr k tk hk hkd;rw [zd9 hil] at this;simp only [y1x] at this;exact this.2).evo hE'
    cases hdo : o.dst with
    | none => exact hv0
    | some d' =>
     have hne : d' ≠ d := by
      intro e; subst e;have := hfr i t ht (by rw [hdst, <- hcd, hdo]);rw [zd9 hil] at this;simp at this
     show VRel w' I'.ro (some I') v ((a.tmps.setIfInBounds d' u).getD d undef);simpa [y02, Array.getElem?_setIfInBounds_ne hne] using hv0
   ·rw [zd9 hil] at hk;simp only [y0v, decide_eq_true_eq] at hk;by_cases e : k = i
    ·subst e;rw [ht] at htk; injection htk with htk; subst htk;have hdo : o.dst = some d := by rw [hcd, <- hdst, hdk]
     rw [hdo];have hdlt : d < a.tmps.size := by
      rw [hs]; rw [<- hcd, hdo] at hok; simpa [zc6] using hok
     show VRel w' I'.ro (some I') _ ((a.tmps.setIfInBounds d u).getD d undef);simpa [y02, hdlt] using hV
    ·have hv0 := (h2 k tk d (hk.resolve_left e) htk hdk).evo hE';cases hdo : o.dst with
     | none => exact hv0
     | some d' =>
      have hne : d' ≠ d := by
       intro e2; subst e2;exact e (D.nd k i tk t d' htk ht hdk (by rw [hdst, <- hcd, hdo]))
      show VRel w' I'.ro (some I') tk.v ((a.tmps.setIfInBounds d' u).getD d undef);simpa [y02, Array.getElem?_setIfInBounds_ne hne] using hv0
  unfold wpOpIn;simp only [hoi];rcases D.step i io t j H hio1 ht hH hfit with ⟨hq, hw, hv⟩ | ⟨hw, hor⟩
  ·rw [if_neg (by rw [zf0 hB hcom hw]; simp)];exact ⟨fun _ _ => trivial, hnext I j H undef w hH (.inl ⟨hq, rfl⟩) hB (by rw [hv]; exact .tup rfl (by simp)) (Evo.refl I w)⟩
  ·rw [if_pos (zf0 hB hcom hw)];rcases hor with ⟨hq, hst⟩ | ⟨hq, H', hH', hst⟩
   ·exact hst ops o hcom n I a w r _ Qc hB ho fun I' S1 v u w' ⟨e1, e2⟩ hR hV hE' => by
     subst e1 e2; exact hnext I' j H u w' hH (.inl ⟨hq, rfl⟩) hR hV hE'
   ·exact hst ops o hcom n I a w r _ Qc hB ho fun I' S1 v u w' ⟨e1, e2⟩ hR hV hE' => by
     subst e1 e2; exact hnext I' (j + 1) H' u w' hH' (.inr ⟨hq, rfl⟩) hR hV hE'
def TA (P : Program) (w0 : World) (N0 : Nat) (rd : Option (Nat × Nat)) (ios : List Opr) (pres : List (List Nat)) (S : AS) (K : AS -> Prop) : Prop :=
 ∀ ops : Array Oper, ops.toList.mapM (zdh P ops) = some ios -> pres = zej ops -> ∀ n I a w r (Qc : Exit -> Act -> World -> Prop), Rel w0 N0 I S a w -> RdOk I rd r ->
  (∀ I' S' a' w', K S' -> Rel w0 N0 I' S' a' w' -> Evo I w I' w' -> Qc .normal a' w') -> wpAnyIn (Wd r) n P .any ops Qc ops.size (Array.replicate ops.size false) a w
theorem ztv (hm : P.follows .mixedOrders = true) {ios : List Opr} {pres : List (List Nat)} (h : TA P w0 N0 rd ios pres S fun S' => Q .normal S') : T P w0 N0 rd (.region ios (some pres)) S Q := fun code hcom n I a w r hr ho => by
 cases hcom with
 | @region id ops draw _ _ h1 hp =>
  cases draw with
  | false => simp at hp
  | true =>
   refine wpIn_region_any hm ?_;obtain ⟨k1, k2⟩ := hr.hrel.drew;exact h ops h1 (by simpa using hp) n I a _ r _ ⟨hr.clk, ⟨hr.tmps.1, fun d v hv => (hr.tmps.2 d v hv).evo k2⟩, k1, hr.marks⟩ ho fun I' S' a' w' hK hR hE => ⟨I', S', hK, hR, k2.trans hE⟩
theorem ztu {ios : List Opr} {pres : List (List Nat)} {K K' : AS -> Prop} (h : TA P w0 N0 rd ios pres S K) (hq : ∀ S1, K S1 -> ∃ S2, K' S2 /\ ∀ I a w, Rel w0 N0 I S1 a w -> Rel w0 N0 I S2 a w) : TA P w0 N0 rd ios pres S K' := fun ops h1 hp n I a w r Qc hr ho hQ =>
 h ops h1 hp n I a w r Qc hr ho fun I' S1 a' w' hK hR hE => by
  obtain ⟨S2, q2, k3⟩ := hq S1 hK;exact hQ I' S2 a' w' q2 (k3 _ _ _ hR) hE
theorem TA_draw {ios : List Opr} {pres : List (List Nat)} {K : AS -> Prop} (rf : Nat -> TM) (rest : TM) (tr : List Tr) (louds : List Nat) (heaps : List HS) (D : DrawOk P w0 N0 rd S rf rest ios pres tr louds heaps)
  (h : ∀ H, heaps[louds.length]? = some H -> K (S.base rest tr (List.range ios.length) H)) : TA P w0 N0 rd ios pres S K := fun ops h1 hp n I a w r Qc hr ho hQ => by
 obtain ⟨hlen, _⟩ := zeh h1;simp at hlen;refine zr7 D h1 hp (I0 := I) (w00 := w) (fun Hn I' a' w' e1 e2 e3 => hQ I' _ a' w' (h Hn e1) e2 e3) ops.size _ a _ ?_ ?_
 ·rw [<- hlen];exact y0u (List.length_filter_le ..) (by simp)
 ·refine ⟨by simp [D.len1, hlen], fun i t hi => ?_, I, 0, S.hs, D.h0, fun m l hml => ?_, hr.clk, hr.hrel, hr.marks, hr.tmps.1, fun d v hv _ => hr.tmps.2 d v hv, fun i t d hi => ?_, ho, Evo.refl I w⟩
  ·rw [zcs] at hi; cases hi
  ·rw [zcs]; simp
  ·rw [zcs] at hi; cases hi
theorem T_draw (hm : P.follows .mixedOrders = true) {ios : List Opr} {pres : List (List Nat)} (rf : Nat -> TM) (rest : TM) (tr : List Tr) (louds : List Nat) (heaps : List HS) (D : DrawOk P w0 N0 rd S rf rest ios pres tr louds heaps)
  (h : ∀ H, heaps[louds.length]? = some H -> Q .normal (S.base rest tr (List.range ios.length) H)) : T P w0 N0 rd (.region ios (some pres)) S Q := fun code hcom n I a w r hr ho => by
 cases hcom with
 | @region id ops draw _ _ h1 hp =>
  cases draw with
  | false => simp at hp
  | true =>
   refine wpIn_region_any hm ?_;obtain ⟨hlen, _⟩ := zeh h1;simp at hlen;obtain ⟨k1, k2⟩ := hr.hrel.drew;refine zr7 D h1 (by simpa using hp) (fun Hn I' a' w' e1 e2 e3 => ⟨I', _, h Hn e1, e2, e3⟩) ops.size _ a _ ?_ ?_
   ·rw [<- hlen];exact y0u (List.length_filter_le ..) (by simp)
   ·refine ⟨by simp [D.len1, hlen], fun i t hi => ?_, I, 0, S.hs, D.h0, fun m l hml => ?_, hr.clk, k1, hr.marks, hr.tmps.1, fun d v hv _ => ((hr.tmps.2 d v hv).evo k2), fun i t d hi => ?_, ho, k2⟩
    ·rw [zcs] at hi; cases hi
    ·rw [zcs]; simp
    ·rw [zcs] at hi; cases hi
end
end Go.Am
