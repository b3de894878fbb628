/-
  AN ABSTRACT MACHINE FOR PROOFS, PART 10. A general base for proofs: no program is named here.
-/
import Derived.Test.YtoiblgbaeglgoaaJA9
namespace Go.Am
open Go Go.RowKit
structure NewL (w' : World) (B : Nat) (sz len : Nat) (cap : Option Nat) (cs : List AV) (u : Value) : Prop where
 ok : ∃ p c, ∃ lo : Loc, u = Value.slice p len c ∧ len ≤ c ∧ (0 < c → ∃ q, p = some q) ∧ (∀ k, cap = some k → c = k) ∧ (∀ b base n, lo = .at b base n → B ≤ b ∧ (c = 0 ∨ (p = some ⟨b, base + 0, none⟩ ∧ (cap = none → base + 0 + c * sz = n)))) ∧
  (lo = .void → c = 0 ∧ cs = []) ∧ (∀ b base n, lo = .at b base n → ∃ cc elem, w'.heap[b]? = some (.cells cc elem (0, 0)) ∧ cc.size = n ∧ base + cs.length ≤ n ∧ ∀ i x, cs[i]? = some x → VRel w' (fun _ => False) none x (cc.getD (base + i) undef))
def PFo (P : Program) (f : FuncId) (args : List AV) (sz len : Nat) (cap : Option Nat) (cs : List AV) : Prop :=
 Ent P f ∧ ∀ (ro : Nat → Prop) (w : World) (us : Array Value), GOk ro w → CRel w ro none args us → Calls P f us w fun e w' => ∃ u, e = .returned u ∧ Below w.heap.size w w' ∧ NewL w' w.heap.size sz len cap cs u
theorem zwc {P : Program} {f : FuncId} {args : List AV} {sz len : Nat} {cap : Option Nat} {cs : List AV} (hfl : flat.flatL cs = true)
  (h : ∀ w0 N0, FT P w0 N0 f args ⟨[], 0, 0⟩ fun v H => ∃ id sp, v = .ms id sp sz 0 len cap ∧ look id H.heap = some (sp, .cells cs)) : PFo P f args sz len cap cs := by
 refine ⟨(h default 0).1, fun ro w us hglob hargs => ?_⟩
 let I : LI := { loc := fun _ _ => none, clk := 0, ok := fun b => ro b ∨ w.heap.size ≤ b }
 have hro : ∀ b, ro b → I.ro b := fun b hb => ⟨.inl hb, fun id st base n hl => by cases hl⟩
 have hH : HRel w w.heap.size I [] 0 w := by
  refine ⟨Below.refl _ _, y0c _, ?_, ?_, ?_, ?_, ?_, ?_, hglob.mono fun b i x hb hc => ⟨hro b hb, hc⟩⟩
  ·intro id st o e; simp [zei] at e
  ·intro id st l e; cases e
  ·intro id st b base n id' st' base' n' e; cases e
  ·intro id st b base n e; cases e
  ·intro id _; rfl
  ·intro b hb; exact .inr hb
 have hargs' : CRel w I.ro (some I) args us := ⟨hargs.1, fun i x hx => (hargs.2 i x hx).mono (fun b i x hb hc => ⟨hro b hb, hc⟩) trivial⟩
 refine ((h w w.heap.size).2 I w us hH rfl hargs').mono fun e w' ⟨u, v, H', I', he, ⟨id, sp, hv, hlk⟩, k1, k2, k3, k4⟩ => ?_
 subst hv
 refine ⟨u, he, k1.below, ?_⟩
 cases k3 with
 | @ms _ _ _ _ _ _ _ p c hlc hp hcap hcl =>
  obtain ⟨J, hJ, c1, c2, c3⟩ := hcl
  injection hJ with hJ; subst hJ
  obtain ⟨_, lo, l1, l2⟩ := k1.heap _ _ _ hlk
  refine ⟨p, c, lo, rfl, hlc, hp, hcap, fun b base n e => ?_, fun e => ?_, fun b base n e => ?_⟩
  ·subst e
   exact ⟨k1.fresh _ _ _ _ _ l1, c2 b base n l1⟩
  ·subst e
   exact ⟨c3 l1, l2⟩
  ·subst e
   obtain ⟨cc, elem, o1, o2, o3, o4⟩ := l2
   exact ⟨cc, elem, o1, o2, o3, fun i x hx => (o4 i x hx).flat (zgj hfl _ _ hx)⟩
theorem zw8 {P : Program} {w0 : World} {N0 : Nat} {H : HS} {fid : FuncId} {args : List AV} {sz len : Nat} {cap : Option Nat} {cs : List AV} (hfl : flat.flatL cs = true)
  (hc : PFo P fid (args.map ((⟨0, .nil, H.heap, H.next, H.clk, []⟩ : AS).view VD)) sz len cap cs) :
  FT P w0 N0 fid args H (fun v' H' => v' = .ms H.next H.clk sz 0 len cap ∧ H' = ⟨(H.next, H.clk, .cells cs) :: H.heap, H.next + 1, H.clk + 1⟩) := by
 refine ⟨hc.1, fun I w us hH hclk hcr => ?_⟩
 have hR : Rel w0 N0 I ⟨0, .nil, H.heap, H.next, H.clk, []⟩ ⟨#[], []⟩ w := ⟨hclk, ⟨rfl, fun i v e => by simp [zdq] at e⟩, hH, ⟨rfl, fun i id st d e => by simp at e, by simp⟩⟩
 obtain ⟨c1, _⟩ := ziv hR hcr
 refine (hc.2 I.ok w _ (hH.glob.mono fun b i x hb hc => ⟨hb.1, hc⟩) c1).mono fun e w' ⟨u, he, hb, hn⟩ => ?_
 obtain ⟨p, c, lo, rfl, hlc, hp, hcap, hat, hvoid, hor⟩ := hn.ok
 have hN : N0 ≤ w.heap.size := y0q hH.base hH.below.size
 have key := hH.bind (w' := w') (id := H.next) (next' := H.next + 1) (l := lo) (o := .cells cs) (hb.mono hN)
  (fun b hb' _ => hb.block b hb')
  (fun b base n e => .inl (hat b base n e).1)
  (fun e => by
   cases lo with
   | void => exact (hvoid rfl).2
   | «at» b base n =>
    obtain ⟨cc, elem, o1, o2, o3, o4⟩ := hor b base n rfl
    exact ⟨cc, elem, o1, o2, o3, fun i x hx => (o4 i x hx).flat (zgj hfl _ _ hx)⟩)
  (y1a _) (y0k _)
 obtain ⟨k1, k2⟩ := key
 have hfree := hH.free H.next (y0c _)
 have hlook : ∀ i, look i ((H.next, I.clk, AObj.cells cs) :: H.heap) = look i (zax H.next (I.clk, AObj.cells cs) H.heap) := by
  intro i; rw [za0, za2]
 refine ⟨.slice p len c, _, _, I.bind H.next lo, he, ⟨rfl, rfl⟩, ?_, ?_, ?_, k2⟩
 ·rw [← hclk]
  refine ⟨k1.below, k1.base, fun i st o hi => ?_, fun i st l hl => ?_, k1.inj, k1.fresh, fun i hi => ?_, k1.okN, k1.glob⟩
  ·rw [hlook] at hi; exact k1.heap i st o hi
  ·obtain ⟨o, ho⟩ := k1.locs i st l hl
   exact ⟨o, by rw [hlook]; exact ho⟩
  ·rw [hlook]; exact k1.free i hi
 ·simp [LI.bind, hclk]
 ·rw [← hclk]
  refine .ms hlc hp hcap ⟨_, rfl, y0k _, fun b' base n' hb' => ?_, fun hv => ?_⟩
  ·rw [LI.bind_same] at hb'; injection hb' with hb'; subst hb'
   exact (hat _ _ _ rfl).2
  ·rw [LI.bind_same] at hv; injection hv with hv
   exact (hvoid hv).1
noncomputable def zzl (P : Program) (E : Env) (n : Nat) (f : FuncId) (args : List AV) (sz len : Nat) (cap : Option Nat) (cs : List AV) : Bool :=
 match (lvlK P E n).f f args ⟨[], 0, 0⟩ with
 | some (.ms id sp sz' off len' cap', H) => Nat.beq sz' sz && Nat.beq off 0 && Nat.beq len' len && (cap' == cap) && flat.flatL cs && (match look id H.heap with
  | some (sp', .cells cs') => Nat.beq sp' sp && zr2 cs' cs
  | _ => false)
 | _ => false
theorem zuv {P : Program} {E : Env} (hE : EnvOk P E) {n : Nat} {f : FuncId} {args : List AV} {sz len : Nat} {cap : Option Nat} {cs : List AV} (h : zzl P E n f args sz len cap cs = true) : PFo P f args sz len cap cs := by
 unfold zzl at h
 rw [zz6] at h
 split at h
 ·rename_i id sp sz' off len' cap' H hr
  simp only [y0h] at h
  obtain ⟨⟨⟨⟨⟨h1, h2⟩, h3⟩, h4⟩, h5⟩, h6⟩ := h
  have e1 := y0r h1
  have e2 := y0r h2
  have e3 := y0r h3
  have e4 : cap' = cap := by simpa using h4
  subst e1 e2 e3 e4
  refine zwc h5 fun w0 N0 => ((lvl_ok hE n).1 _ _ _ _ _ hr w0 N0).mono fun v1 H1 ⟨e1, e2⟩ => ?_
  subst e1 e2
  split at h6
  ·rename_i sp' cs' hl
   simp only [y0h] at h6
   have e5 := y0r h6.1
   have e6 := zcx _ _ h6.2
   subst e5 e6
   exact ⟨id, _, rfl, hl⟩
  ·cases h6
 ·cases h
noncomputable def zqh (P : Program) (E : Env) (n : Nat) (f : FuncId) (cap : Nat → Option Nat) (rows : List (List AV × List AV)) : Bool := rows.all fun x => zzl P E n f x.1 1 x.2.length (cap x.2.length) x.2
theorem ze1 {P : Program} {E : Env} (hE : EnvOk P E) {n : Nat} {f : FuncId} {cap : Nat → Option Nat} {rows : List (List AV × List AV)} (h : zqh P E n f cap rows = true) : ∀ x ∈ rows, PFo P f x.1 1 x.2.length (cap x.2.length) x.2 :=
 fun x hx => zuv hE (y0f.1 h x hx)
theorem PFo.pf {P : Program} {f : FuncId} {args : List AV} {len : Nat} {cap : Option Nat} {cs : List AV} (hl : cs.length = len) (h : PFo P f args 1 len cap cs) : PFn P f args (.vs (cs.map fun x => [x])) := by
 refine ⟨h.1, fun ro w us hg ha => (h.2 ro w us hg ha).mono fun e w' ⟨u, he, hb, hn⟩ => ⟨u, he, hb, ?_⟩⟩
 obtain ⟨p, c, lo, rfl, hlc, hp, hcap, hat, hvoid, hor⟩ := hn.ok
 subst hl
 have zero : c = 0 → VRel w' (fun b => w.heap.size ≤ b) none (.vs (cs.map fun x => [x])) (.slice p cs.length c) := fun hc => by
  subst hc
  have : cs = [] := y1k.1 (by omega)
  subst this
  exact .nilvs
 cases lo with
 | void => exact zero (hvoid rfl).1
 | «at» b base n =>
  obtain ⟨h1, h2⟩ := hat b base n rfl
  rcases h2 with h0 | ⟨e1, _⟩
  ·exact zero h0
  ·subst e1
   obtain ⟨cc, elem, o1, o2, o3, o4⟩ := hor b base n rfl
   have hget : ∀ (i j : Nat) (e : List AV) (x : AV), (cs.map fun x => [x])[i]? = some e → e[j]? = some x → j = 0 ∧ cs[i]? = some x := by
    intro i j e x hi hj
    rw [y0i, y01] at hi
    obtain ⟨y, hy, rfl⟩ := hi
    cases j with
    | zero => simp at hj; subst hj; exact ⟨rfl, hy⟩
    | succ j => simp at hj
   refine .vs (sz := 1) (b := b) (off := base + 0) (fun i j => cc.getD (base + i) undef) (by rw [y09]) hlc (fun _ => rfl) (fun e he => by obtain ⟨x, _, rfl⟩ := y0o.1 he; rfl) (fun i j e x hi hj => ?_) fun i j e x hi hj => ?_
   ·obtain ⟨rfl, hx⟩ := hget i j e x hi hj
    have hlt : i < cs.length := (y02.1 hx).1
    have hlt2 : base + i < cc.size := by omega
    refine ⟨h1, ?_⟩
    rw [show base + 0 + i * 1 + 0 = base + i from by omega]
    simp [World.cell?, o1, hlt2, y03]
   ·obtain ⟨rfl, hx⟩ := hget i j e x hi hj
    exact (o4 _ _ hx).mono (fun _ _ _ h _ => h.elim) trivial
section
variable {P : Program} {w0 : World} {N0 : Nat} {k : List Fr} {Q : Exit → AS → Prop} {ios : List Opr} {n nx ck : Nat} {mk : List (Nat × Nat)} {md : Md} {l : List (Nat × AV)} {hp : List (Nat × Nat × AObj)}
theorem o_own {d : Nat} {f : FuncId} {args : List Arg} {vs as : List AV} {sz len : Nat} {cap : Option Nat} {cs : List AV} (ha : zht args l = some vs) (hv : vs.map ((st n l hp nx ck mk).view VD) = as) (hpf : PFo P f as sz len cap cs) (hfl : flat.flatL cs = true)
  (h : Om P w0 N0 md (KnP P w0 N0) ios (st n ((d, .ms nx ck sz 0 len cap) :: l) ((nx, ck, .cells cs) :: hp) (nx + 1) (ck + 1) mk) k Q) (hmk : zdd mk ((nx, ck, .cells cs) :: hp) := by exact fun m hm => absurd hm y0d) :
  Om P w0 N0 md (KnP P w0 N0) (⟨some d, .call (.c (.fn f [] [])) args, none⟩ :: ios) (st n l hp nx ck mk) k Q := by
 refine zsb (fv := .fn f [] []) (fun v H => v = .ms nx ck sz 0 len cap ∧ H = ⟨(nx, ck, .cells cs) :: hp, nx + 1, ck + 1⟩) rfl ha (zva ?_) (fun v H ⟨_, e⟩ => by subst e; exact hmk) fun v H ⟨e1, e2⟩ => by subst e1 e2; exact h
 refine zw8 hfl ?_
 rw [y28, y0p]
 have hvw : (⟨0, .nil, hp, nx, ck, []⟩ : AS).view VD = (st n l hp nx ck mk).view VD := funext fun x => by
  have : ∀ (d : Nat) (x : AV), (⟨0, .nil, hp, nx, ck, []⟩ : AS).view d x = (st n l hp nx ck mk).view d x := by
   intro d
   induction d with
   | zero => intro x; rfl
   | succ d ih =>
    intro x
    have ih' : (⟨0, .nil, hp, nx, ck, []⟩ : AS).view d = (st n l hp nx ck mk).view d := funext ih
    cases x <;> simp only [AS.view, ih'] <;> rfl
  exact this VD x
 show PFo P f (vs.map ((⟨0, .nil, hp, nx, ck, []⟩ : AS).view VD)) sz len cap cs
 rw [hvw, hv]
 exact hpf
theorem zqg {pf : Kn} {d sz bytes : Nat} {z : List AV} {s x : Arg} {xv : AV} (es : List (List AV)) {id sp off len : Nat} {cs : List AV} (hs : zbt s l = some (.ms id sp sz off len none)) (hx : zbt x l = some xv) (he : (st n l hp nx ck mk).elems sz xv = some es) (hne : es.length ≠ 0) (hc : es.flatten.all AV.isCell = true) (hb : bytes ≤ 16777216) (hlk : look id hp = some (sp, .cells cs))
  (h1 : off + len * sz ≤ cs.length) (h2 : len + es.length ≤ 1048576)
  (go : Om P w0 N0 md pf ios (st n ((d, .ms id ck sz 0 (len + es.length) none) :: l) (zax id (ck, .cells ((cs.drop off).take (len * sz) ++ es.flatten)) hp) nx (ck + 1) mk) k Q) :
  Om P w0 N0 md pf (⟨some d, .append sz bytes z s x, none⟩ :: ios) (st n l hp nx ck mk) k Q := by
 have hi : iop (st n l hp nx ck mk) (.append sz bytes z s x) = some (.ms id ck sz 0 (len + es.length) none, st n l (zax id (ck, .cells ((cs.drop off).take (len * sz) ++ es.flatten)) hp) nx (ck + 1) mk) := by
  simp only [iop, zbi, hs, hx, he]
  unfold zd2
  rw [if_neg hne, if_pos ⟨hc, hb⟩]
  simp only [show (st n l hp nx ck mk).heap = hp from rfl, hlk]
  rw [if_pos ⟨trivial, trivial, h1, h2⟩, znw]
  rfl
 exact zg6 hi go
end
end Go.Am
