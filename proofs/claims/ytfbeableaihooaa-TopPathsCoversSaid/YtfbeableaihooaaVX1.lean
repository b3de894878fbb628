/-
  THE SEAT's CODE, READ.; DISTANCES IN A GRAPH: labels that are right are the only ones; the search and the rounds both find them. Neighbours.; PATHS IN PLAIN LEAN: walks; the distance to a vertex is the distance from it in the reversed graph; the next vertex.; ORDERS IN PLAIN LEAN: the least vertex whose predecessors are all out; no order exactly if there is a cycle; layers.; LAYERS IN PLAIN LEAN: 
-/
import Derived.Test.YtfbeableaihooaaVA11
import Derived.KernelRfl
import Derived.Test.YtfbeableaihooaaChecked
namespace Go.Proofs.Ytfbeableaihooaa
open Go Go.Am
abbrev oF (d i a : Nat) : Opr := ⟨some d, .faddr i (.t a), none⟩
abbrev oL (d m a : Nat) : Opr := ⟨some d, .load (some m) (.t a), none⟩
abbrev oM (d : Nat) (op : IOp) : Opr := ⟨some d, op, none⟩
abbrev oN (d a : Nat) : Opr := ⟨some d, .load none (.t a), none⟩
abbrev oT (d a : Nat) : Opr := ⟨some d, .mov (.t a), none⟩
theorem noC {p : Prop} (h : false = true) : p := Bool.noConfusion h
section
variable {P : Program} {w0 : World} {N0 : Nat} {S : AS} {k : List Fr} {Q : Exit → AS → Prop} {pf : Kn} {ios : List Opr} {md : Md} {y : IC}
theorem zsr (hd : (ios.all fun io => zbx S.size io.dst) = true) (h : Om P w0 N0 md (KnP P w0 N0) ios S (.seq y :: k) Q) : Zm P w0 N0 md (.seq (.region ios none) y) S k Q := za7 (za0 hd h)
theorem onu (h : Zm P w0 N0 md y S k Q) : Om P w0 N0 md pf [] S (.seq y :: k) Q := za5 (za4 h)
theorem onr (hd : (ios.all fun io => zbx S.size io.dst) = true) (h : Om P w0 N0 md (KnP P w0 N0) ios S (.seq y :: k) Q) : Om P w0 N0 md pf [] S (.seq (.seq (.region ios none) y) :: k) Q := za5 (za4 (za7 (za0 hd h)))
theorem onR (hd : (ios.all fun io => zbx S.size io.dst) = true) (h : Om P w0 N0 md (KnP P w0 N0) ios S k Q) : Om P w0 N0 md pf [] S (.seq (.region ios none) :: k) Q := za5 (za4 (za0 hd h))
end
noncomputable def env0 : Env := envOf Try.prog 10000
theorem env0_ok : EnvOk Try.prog env0 := envOf_ok 10000 (by kernel_rfl)
def vsI (l : List Int) : AV := .vs (l.map fun z => [.int .i64 z])
theorem zei {D : List Int} {k : Nat} (hk : k < D.length) : (D.map fun z => ([.int .i64 z] : List AV))[((k : Nat) : Int).toNat]? = some [.int .i64 D[k]] := by
 rw [y11, y0f, y06 hk]
 rfl
theorem zcm : ∀ l : List Int, hasM.hasML (l.map (AV.int .i64)) = false
 | [] => rfl
 | b :: l => by
  have := zcm l
  simpa [hasM.hasML, hasM] using this
theorem ze3 (l : List Int) : (l.map (AV.int .i64)) = (l.map fun z => ([.int .i64 z] : List AV)).flatten := by
 induction l with
 | nil => rfl
 | cons z l ih => simpa using ih
theorem zna : ∀ l : List Int, (l.map (AV.int .i64)).all AV.isCell = true
 | [] => rfl
 | z :: l => by
  simp [AV.isCell]
theorem znb {l : List Int} : ∀ x ∈ (l.map fun z => ([.int .i64 z] : List AV)), x.length = 1 := fun x hx => by
 obtain ⟨s, _, rfl⟩ := y0o.1 hx
 rfl
theorem zh1 {S : AS} {d id sp len : Nat} {cap : Option Nat} {J : List AV} (a : List Int) (hn : a.length = len) (hl : Am.look id S.heap = some (sp, .cells (a.map (AV.int .i64) ++ J))) : S.view (d + 1) (.ms id sp 1 0 len cap) = vsI a := by
 subst hn
 have e : S.elems 1 (.ms id sp 1 0 a.length cap) = some (a.map fun z => ([.int .i64 z] : List AV)) := by
  obtain ⟨n, t, hp, nx, ck, mk⟩ := S
  exact zcr (ys := J) (cap := cap) (n := n) (nx := nx) (ck := ck) (mk := mk) (l := []) (hp := hp) (by rw [← ze3]; exact hl) (y07 ..) (fun x hx => by obtain ⟨s, _, rfl⟩ := y0o.1 hx; rfl)
 simp only [AS.view, e]
 unfold vsI
 congr 1
 rw [y26]
 apply y24
 intro s _
 cases d <;> rfl
theorem zd1 {S : AS} {d id sp len : Nat} {cap : Option Nat} (a : List Int) (hn : a.length = len) (hl : Am.look id S.heap = some (sp, .cells (a.map (AV.int .i64)))) : S.view (d + 1) (.ms id sp 1 0 len cap) = vsI a :=
 zh1 (J := []) a hn (by rw [y0r]; exact hl)
def zcs {α σ τ : Type} (step : σ → α → σ ⊕ τ) : List α → σ → σ ⊕ τ
 | [], s => .inl s
 | x :: xs, s => match step s x with
  | .inr t => .inr t
  | .inl s' => zcs step xs s'
def zfb {α σ τ : Type} (step : σ → α → σ ⊕ τ) (Pr : σ → α → Prop) : List α → σ → Prop
 | [], _ => True
 | x :: xs, s => Pr s x ∧ ∀ s', step s x = .inl s' → zfb step Pr xs s'
theorem zgo {α σ τ : Type} {step : σ → α → σ ⊕ τ} : ∀ (l m : List α) (s : σ), zcs step (l ++ m) s = match zcs step l s with
  | .inr t => .inr t
  | .inl s' => zcs step m s'
 | [], _, _ => rfl
 | x :: l, m, s => by
  rw [y2g, zcs, zcs]
  cases step s x with
  | inr t => rfl
  | inl s' => exact zgo l m s'
theorem zej {α σ τ : Type} {step : σ → α → σ ⊕ τ} {Pr : σ → α → Prop} : ∀ (l m : List α) (s : σ), zfb step Pr (l ++ m) s → zfb step Pr l s ∧ ∀ s', zcs step l s = .inl s' → zfb step Pr m s'
 | [], _, _, h => ⟨trivial, fun s' e => by injection e with e; subst e; exact h⟩
 | x :: l, m, s, ⟨h1, h2⟩ => by
  refine ⟨⟨h1, fun s' e => (zej l m s' (h2 s' e)).1⟩, fun s' e => ?_⟩
  rw [zcs] at e
  cases hs : step s x with
  | inr t => rw [hs] at e; cases e
  | inl s2 =>
   rw [hs] at e
   exact (zej l m s2 (h2 s2 hs)).2 s' e
section
variable {σ τ : Type} (M : Nat → Prop) (I : σ → HS → Prop) (J : τ → HS → Prop)
def Left (H : HS) (o : σ ⊕ τ) (v : AV) (H' : HS) : Prop :=
 Keep M H H' ∧ match o with
  | .inl s => v = .bool true ∧ I s H'
  | .inr t => v = .bool false ∧ J t H'
end
theorem Keep.mono {M M' : Nat → Prop} {H H' : HS} (h : Keep M H H') (hm : ∀ i, M i → M' i) : Keep M' H H' :=
 ⟨h.next, h.clk, fun i hi => h.look i fun h => hi (hm i h)⟩
theorem zjk {a b c d : AV} (h1 : a = c) (h2 : b = d) : [a, b] = [c, d] := by rw [h1, h2]
def gI (o : List Int) (v : Nat) : Int := o.getD v (-1)
theorem zel {o : List Int} {v : Nat} {d : Int} (hv : v < o.length) (w : Nat) : gI (o.set v d) w = if v = w then d else gI o w := by
 unfold gI
 rw [y0c, y0c, List.getElem?_set]
 by_cases h : v = w
 ·subst h
  rw [if_pos rfl, if_pos hv, if_pos rfl]
  rfl
 ·rw [if_neg h, if_neg h]
theorem gI_out {o : List Int} {v : Nat} (h : o.length ≤ v) : gI o v = -1 := by
 unfold gI
 rw [y0c, y27 h]
 rfl
theorem gI_lt {o : List Int} {v : Nat} (h : 0 ≤ gI o v) : v < o.length := by
 refine Nat.lt_of_not_le fun hv => ?_
 rw [gI_out hv] at h
 omega
theorem gI_ext {o o' : List Int} (hl : o.length = o'.length) (h : ∀ v, gI o v = gI o' v) : o = o' := by
 refine List.ext_getElem hl fun i h1 h2 => ?_
 have := h i
 unfold gI at this
 rw [y0c, y0c, y06 h1, y06 h2] at this
 exact this
theorem zif {α : Type} {P : List α → Prop} (h0 : P []) (h1 : ∀ l a, P l → P (l ++ [a])) (l : List α) : P l := by
 have key : ∀ l : List α, P l.reverse := by
  intro l
  induction l with
  | nil => exact h0
  | cons a l ih => rw [List.reverse_cons]; exact h1 _ a ih
 have := key l.reverse
 rwa [List.reverse_reverse] at this
structure Lab (es : List (Nat × Nat)) (N f : Nat) (o : List Int) : Prop where
 len : o.length = N
 zero : gI o f = 0
 up : ∀ u v, (u, v) ∈ es → 0 ≤ gI o u → 0 ≤ gI o v ∧ gI o v ≤ gI o u + 1
 down : ∀ v, 0 < gI o v → ∃ u, (u, v) ∈ es ∧ gI o u = gI o v - 1
 root : ∀ v, gI o v = 0 → v = f
 low : ∀ v, -1 ≤ gI o v
theorem Lab.le {es : List (Nat × Nat)} {N f : Nat} {o o' : List Int} (h : Lab es N f o) (h' : Lab es N f o') : ∀ (k : Nat) (v : Nat), gI o v = (k : Int) → 0 ≤ gI o' v ∧ gI o' v ≤ (k : Int)
 | 0, v, e => by
  rw [h.root v e, h'.zero]
  omega
 | k + 1, v, e => by
  obtain ⟨u, hu, e2⟩ := h.down v (by omega)
  obtain ⟨h1, h2⟩ := Lab.le h h' k u (by omega)
  obtain ⟨h3, h4⟩ := h'.up u v hu h1
  omega
theorem Lab.unique {es : List (Nat × Nat)} {N f : Nat} {o o' : List Int} (h : Lab es N f o) (h' : Lab es N f o') : o = o' := by
 refine gI_ext (h.len.trans h'.len.symm) fun v => ?_
 have l1 := h.low v
 have l2 := h'.low v
 by_cases c1 : 0 ≤ gI o v
 ·have a := Lab.le h h' (gI o v).toNat v (by omega)
  have b := Lab.le h' h (gI o' v).toNat v (by omega)
  omega
 ·by_cases c2 : 0 ≤ gI o' v
  ·have b := Lab.le h' h (gI o' v).toNat v (by omega)
   omega
  ·omega
def vis (d : Int) (b : List Int × List Nat) (v : Nat) : List Int × List Nat := if gI b.1 v < 0 then (b.1.set v d, b.2 ++ [v]) else b
def unl (o : List Int) : Nat := (o.filter fun x => decide (x < 0)).length
theorem zxc : ∀ {o : List Int} {v : Nat} {d : Int}, v < o.length → gI o v < 0 → 0 ≤ d → unl (o.set v d) + 1 = unl o
 | [], _, _, h, _, _ => absurd h (y1w _)
 | x :: o, 0, d, _, h, hd => by
  have hx : x < 0 := h
  unfold unl
  rw [List.set_cons_zero, y14, y14, if_neg (by rw [decide_eq_true_eq]; omega), if_pos (by rw [decide_eq_true_eq]; exact hx), y0l]
 | x :: o, v + 1, d, hv, h, hd => by
  have ih := zxc (o := o) (v := v) (d := d) (by simpa using hv) h hd
  unfold unl at ih ⊢
  rw [List.set_cons_succ, y14, y14]
  split
  ·rw [y0l, y0l]; omega
  ·exact ih
structure Ext (o : List Int) (l : List Nat) (d : Int) (o' : List Int) (new : List Nat) : Prop where
 len : o'.length = o.length
 old : ∀ v, 0 ≤ gI o v → gI o' v = gI o v
 fresh : ∀ v, gI o v < 0 → 0 ≤ gI o' v → gI o' v = d ∧ v ∈ new
 mem : ∀ v ∈ new, gI o' v = d ∧ v ∈ l ∧ gI o v < 0
 done : ∀ v ∈ l, 0 ≤ gI o' v
 low : (∀ v, -1 ≤ gI o v) → ∀ v, -1 ≤ gI o' v
 cnt : unl o' + new.length = unl o
theorem zrh {d : Int} (hd : 0 ≤ d) (o : List Int) (qs : List Nat) : ∀ (l : List Nat), (∀ v ∈ l, v < o.length) → ∃ o' new, l.foldl (vis d) (o, qs) = (o', qs ++ new) ∧ Ext o l d o' new := by
 intro l
 -- by the last element
 induction l using zif with
 | h0 => exact fun _ => ⟨o, [], by simp, ⟨rfl, fun _ _ => rfl, fun v h1 h2 => absurd h2 (by omega), fun v h => absurd h y0i, fun v h => absurd h y0i, fun h => h, by simp⟩⟩
 | h1 l w ih =>
  intro hl
  obtain ⟨o', new, e, h⟩ := ih fun v hv => hl v (y0p _ hv)
  have hw : w < o'.length := by rw [h.len]; exact hl w (by simp)
  rw [y1t, e, y2a, List.foldl_nil]
  unfold vis
  by_cases c : gI o' w < 0
  ·rw [if_pos c]
   refine ⟨o'.set w d, new ++ [w], by simp, ?_⟩
   have c0 : gI o w < 0 := by
    refine Int.not_le.1 fun h0 => ?_
    rw [h.old w h0] at c
    omega
   refine ⟨by rw [y18, h.len], fun v hv => ?_, fun v h1 h2 => ?_, fun v hv => ?_, fun v hv => ?_, fun hlo v => ?_, ?_⟩
   ·rw [zel hw, if_neg (fun e => by subst e; omega)]
    exact h.old v hv
   ·rw [zel hw] at h2 ⊢
    by_cases e : w = v
    ·subst e
     rw [if_pos rfl]
     exact ⟨rfl, by simp⟩
    ·rw [if_neg e] at h2 ⊢
     obtain ⟨a, b⟩ := h.fresh v h1 h2
     exact ⟨a, y0p _ b⟩
   ·rw [zel hw]
    rcases y0q.1 hv with hv | hv
    ·obtain ⟨a, b, c1⟩ := h.mem v hv
     refine ⟨?_, y0p _ b, c1⟩
     split
     ·rfl
     ·exact a
    ·obtain rfl := y0e.1 hv
     rw [if_pos rfl]
     exact ⟨rfl, by simp, c0⟩
   ·rw [zel hw]
    split
    ·exact hd
    ·rename_i e
     rcases y0q.1 hv with hv | hv
     ·exact h.done v hv
     ·exact absurd (y0e.1 hv).symm e
   ·rw [zel hw]
    split
    ·omega
    ·exact h.low hlo v
   ·have := zxc hw c hd
    have := h.cnt
    rw [y0k, y1a]
    omega
  ·rw [if_neg c]
   refine ⟨o', new, rfl, h.len, h.old, h.fresh, fun v hv => ?_, fun v hv => ?_, h.low, h.cnt⟩
   ·obtain ⟨a, b, c1⟩ := h.mem v hv
    exact ⟨a, y0p _ b, c1⟩
   ·rcases y0q.1 hv with hv | hv
    ·exact h.done v hv
    ·obtain rfl := y0e.1 hv
     omega
structure Bfs (es : List (Nat × Nat)) (N f : Nat) (o : List Int) (qu : List Nat) : Prop where
 len : o.length = N
 zero : gI o f = 0
 low : ∀ v, -1 ≤ gI o v
 root : ∀ v, gI o v = 0 → v = f
 down : ∀ v, 0 < gI o v → ∃ u, (u, v) ∈ es ∧ gI o u = gI o v - 1
 inq : ∀ v ∈ qu, 0 ≤ gI o v
 asc : qu.Pairwise fun a b => gI o a ≤ gI o b
 bound : ∀ h, qu.head? = some h → ∀ v, gI o v ≤ gI o h + 1
 done : ∀ u, 0 ≤ gI o u → u ∉ qu → ∀ v, (u, v) ∈ es → 0 ≤ gI o v ∧ gI o v ≤ gI o u + 1
theorem Bfs.end {es : List (Nat × Nat)} {N f : Nat} {o : List Int} (h : Bfs es N f o []) : Lab es N f o :=
 ⟨h.len, h.zero, fun u v hm hu => h.done u hu y0i v hm, h.down, h.root, h.low⟩
theorem Bfs.start (es : List (Nat × Nat)) {N f : Nat} (hf : f < N) : Bfs es N f ((List.replicate N (-1 : Int)).set f 0) [f] := by
 have hl : f < (List.replicate N (-1 : Int)).length := by rw [y15]; exact hf
 have hr : ∀ v, gI (List.replicate N (-1 : Int)) v = -1 := fun v => by
  unfold gI
  rw [y0c, y2q]
  split <;> rfl
 have hg : ∀ v, gI ((List.replicate N (-1 : Int)).set f 0) v = if f = v then 0 else -1 := fun v => by rw [zel hl, hr]
 refine ⟨by rw [y18, y15], by rw [hg, if_pos rfl], fun v => ?_, fun v hv => ?_, fun v hv => ?_, fun v hv => ?_, List.pairwise_singleton .., fun h hh v => ?_, fun u hu hn => ?_⟩
 ·rw [hg]; split <;> omega
 ·rw [hg] at hv
  split at hv
  ·rename_i e; exact e.symm
  ·omega
 ·rw [hg] at hv
  split at hv <;> omega
 ·obtain rfl := y0e.1 hv
  rw [hg, if_pos rfl]
  omega
 ·obtain rfl := y17 hh
  rw [hg, hg, if_pos rfl]
  split <;> omega
 ·rw [hg] at hu
  split at hu
  ·rename_i e
   exact absurd (by rw [e]; simp) hn
  ·omega
theorem Bfs.step {es : List (Nat × Nat)} {N f q : Nat} {o : List Int} {qs : List Nat} {l : List Nat} (h : Bfs es N f o (q :: qs)) (hl : ∀ v, v ∈ l ↔ (q, v) ∈ es) (hN : ∀ v ∈ l, v < N) :
  ∃ o' new, l.foldl (vis (gI o q + 1)) (o, qs) = (o', qs ++ new) ∧ Bfs es N f o' (qs ++ new) ∧ 2 * unl o' + (qs ++ new).length < 2 * unl o + (q :: qs).length ∧ gI o' q = gI o q := by
 have hq := h.inq q (y05 ..)
 obtain ⟨o', new, e, x⟩ := zrh (d := gI o q + 1) (by omega) o qs l fun v hv => by rw [h.len]; exact hN v hv
 obtain ⟨a1, a2⟩ := y2l.1 h.asc
 have hb := h.bound q rfl
 have val : ∀ v, 0 ≤ gI o' v → (0 ≤ gI o v ∧ gI o' v = gI o v) ∨ (gI o v < 0 ∧ gI o' v = gI o q + 1 ∧ v ∈ new) := fun v hv => by
  by_cases c : 0 ≤ gI o v
  ·exact .inl ⟨c, x.old v c⟩
  ·exact .inr ⟨by omega, x.fresh v (by omega) hv⟩
 have up1 : ∀ v, gI o' v ≤ gI o q + 1 := fun v => by
  by_cases c : 0 ≤ gI o' v
  ·rcases val v c with ⟨_, e⟩ | ⟨_, e, _⟩
   ·rw [e]; exact hb v
   ·omega
  ·omega
 refine ⟨o', new, e, ⟨x.len.trans h.len, (x.old f (by rw [h.zero]; omega)).trans h.zero, x.low h.low, fun v hv => ?_, fun v hv => ?_, fun v hv => ?_, ?_, fun z hz v => ?_, fun u hu hn v hv => ?_⟩, ?_, x.old q hq⟩
 ·rcases val v (by omega) with ⟨_, e⟩ | ⟨_, e, _⟩
  ·exact h.root v (by omega)
  ·omega
 ·rcases val v (by omega) with ⟨c, e⟩ | ⟨_, e, hm⟩
  ·obtain ⟨u, hu, e2⟩ := h.down v (by omega)
   exact ⟨u, hu, by rw [x.old u (by omega), e2, e]⟩
  ·refine ⟨q, (hl v).1 (x.mem v hm).2.1, ?_⟩
   rw [x.old q hq]
   omega
 ·rcases y0q.1 hv with hv | hv
  ·have := h.inq v (y04 _ hv)
   rw [x.old v this]
   exact this
  ·rw [(x.mem v hv).1]
   omega
 ·rw [List.pairwise_append]
  refine ⟨a2.imp_of_mem fun {a b} ha hb2 hab => ?_, ?_, fun a ha b hb2 => ?_⟩
  ·rw [x.old a (h.inq a (y04 _ ha)), x.old b (h.inq b (y04 _ hb2))]
   exact hab
  ·refine List.Pairwise.imp_of_mem (R := fun _ _ => True) (fun {a b} ha hb2 _ => ?_) (List.pairwise_of_forall fun _ _ => trivial)
   rw [(x.mem a ha).1, (x.mem b hb2).1]
   exact y2m _
  ·rw [(x.mem b hb2).1]
   exact up1 a
 ·have hz2 : z ∈ qs ++ new := List.mem_of_mem_head? hz
  have : gI o q ≤ gI o' z := by
   rcases y0q.1 hz2 with hz2 | hz2
   ·rw [x.old z (h.inq z (y04 _ hz2))]
    exact a1 z hz2
   ·rw [(x.mem z hz2).1]
    omega
  have := up1 v
  omega
 ·rw [y0q] at hn
  rcases val u hu with ⟨c, e3⟩ | ⟨_, _, hm⟩
  ·by_cases hqu : u = q
   ·have := x.done v ((hl v).2 (hqu ▸ hv))
    have := up1 v
    rw [e3, hqu]
    omega
   ·have := h.done u c (fun hm => by
     rcases y0j.1 hm with hm | hm
     ·exact hqu hm
     ·exact hn (.inl hm)) v hv
    rw [x.old v this.1, e3]
    exact this
  ·exact absurd (.inr hm) hn
 ·have := x.cnt
  rw [y0k, y0l]
  omega
def rndE (r : Int) (o : List Int) (e : Nat × Nat) : List Int := if gI o e.1 = r ∧ gI o e.2 < 0 then o.set e.2 (r + 1) else o
def zgn (es : List (Nat × Nat)) (N f : Nat) (m : Nat) : List Int := (List.range m).foldl (fun (o : List Int) (r : Nat) => es.foldl (rndE (r : Int)) o) ((List.replicate N (-1 : Int)).set f 0)
structure Rnd (es : List (Nat × Nat)) (N f : Nat) (r : Int) (o : List Int) : Prop where
 len : o.length = N
 zero : gI o f = 0
 low : ∀ v, -1 ≤ gI o v
 most : ∀ v, gI o v ≤ r
 root : ∀ v, gI o v = 0 → v = f
 down : ∀ v, 0 < gI o v → ∃ u, (u, v) ∈ es ∧ gI o u = gI o v - 1
 up : ∀ u v, (u, v) ∈ es → 0 ≤ gI o u → gI o u < r → 0 ≤ gI o v ∧ gI o v ≤ gI o u + 1
structure Mid (es p : List (Nat × Nat)) (N : Nat) (r : Int) (o o' : List Int) : Prop where
 len : o'.length = N
 old : ∀ v, 0 ≤ gI o v → gI o' v = gI o v
 fresh : ∀ v, gI o v < 0 → 0 ≤ gI o' v → gI o' v = r + 1 ∧ ∃ u, (u, v) ∈ es ∧ gI o u = r
 done : ∀ u v, (u, v) ∈ p → gI o u = r → 0 ≤ gI o' v
 low : ∀ v, -1 ≤ gI o' v
theorem rnd_mid {es : List (Nat × Nat)} {N : Nat} {r : Int} {o : List Int} (hr : 0 ≤ r) (hlen : o.length = N) (hlow : ∀ v, -1 ≤ gI o v) (hN : ∀ u v, (u, v) ∈ es → v < N) : ∀ p : List (Nat × Nat), (∀ e ∈ p, e ∈ es) → Mid es p N r o (p.foldl (rndE r) o) := by
 intro p
 induction p using zif with
 | h0 => exact fun _ => ⟨hlen, fun _ _ => rfl, fun v h1 h2 => absurd h2 (by show ¬ 0 ≤ gI o v; omega), fun u v h => absurd h y0i, hlow⟩
 | h1 p e ih =>
  intro hp
  have h := ih fun x hx => hp x (y0p _ hx)
  have he : (e.1, e.2) ∈ es := hp e (by simp)
  rw [y1t, y2a, List.foldl_nil]
  generalize p.foldl (rndE r) o = o' at h
  have hw : e.2 < o'.length := by rw [h.len]; exact hN _ _ he
  have hsame : gI o' e.1 = r ↔ gI o e.1 = r := by
   by_cases c : 0 ≤ gI o e.1
   ·rw [h.old _ c]
   ·constructor
    ·intro x
     have := (h.fresh e.1 (by omega) (by omega)).1
     omega
    ·intro x; omega
  unfold rndE
  by_cases c : gI o' e.1 = r ∧ gI o' e.2 < 0
  ·rw [if_pos c]
   have c0 : gI o e.2 < 0 := by
    refine Int.not_le.1 fun h0 => ?_
    have := h.old _ h0
    omega
   refine ⟨by rw [y18]; exact h.len, fun v hv => ?_, fun v h1 h2 => ?_, fun u v hm hu => ?_, fun v => ?_⟩
   ·rw [zel hw, if_neg (fun e => by subst e; omega)]
    exact h.old v hv
   ·rw [zel hw] at h2 ⊢
    by_cases ev : e.2 = v
    ·subst ev
     rw [if_pos rfl]
     exact ⟨rfl, e.1, he, hsame.1 c.1⟩
    ·rw [if_neg ev] at h2 ⊢
     exact h.fresh v h1 h2
   ·rw [zel hw]
    split
    ·omega
    ·rename_i ev
     rcases y0q.1 hm with hm | hm
     ·exact h.done u v hm hu
     ·have := y0e.1 hm
      exact absurd (by rw [← this]) ev
   ·rw [zel hw]
    split
    ·omega
    ·exact h.low v
  ·rw [if_neg c]
   refine ⟨h.len, h.old, h.fresh, fun u v hm hu => ?_, h.low⟩
   rcases y0q.1 hm with hm | hm
   ·exact h.done u v hm hu
   ·have := y0e.1 hm
    subst this
    refine Int.not_lt.1 fun hlt => c ⟨hsame.2 hu, hlt⟩
theorem Rnd.next {es : List (Nat × Nat)} {N f : Nat} {r : Int} {o : List Int} (hr : 0 ≤ r) (hN : ∀ u v, (u, v) ∈ es → v < N) (h : Rnd es N f r o) : Rnd es N f (r + 1) (es.foldl (rndE r) o) := by
 have m := rnd_mid (es := es) hr h.len h.low hN es fun _ h => h
 generalize es.foldl (rndE r) o = o' at m
 have val : ∀ v, 0 ≤ gI o' v → (0 ≤ gI o v ∧ gI o' v = gI o v) ∨ (gI o v < 0 ∧ gI o' v = r + 1 ∧ ∃ u, (u, v) ∈ es ∧ gI o u = r) := fun v hv => by
  by_cases c : 0 ≤ gI o v
  ·exact .inl ⟨c, m.old v c⟩
  ·exact .inr ⟨by omega, m.fresh v (by omega) hv⟩
 have mo : ∀ v, gI o' v ≤ r + 1 := fun v => by
  by_cases c : 0 ≤ gI o' v
  ·rcases val v c with ⟨_, e⟩ | ⟨_, e, _⟩
   ·have := h.most v; omega
   ·omega
  ·omega
 refine ⟨m.len, (m.old f (by rw [h.zero]; omega)).trans h.zero, m.low, mo, fun v hv => ?_, fun v hv => ?_, fun u v hm hu hlt => ?_⟩
 ·rcases val v (by omega) with ⟨_, e⟩ | ⟨_, e, _⟩
  ·exact h.root v (by omega)
  ·omega
 ·rcases val v (by omega) with ⟨c, e⟩ | ⟨_, e, u, hu, e2⟩
  ·obtain ⟨u, hu, e2⟩ := h.down v (by omega)
   exact ⟨u, hu, by rw [m.old u (by omega), e2, e]⟩
  ·exact ⟨u, hu, by rw [m.old u (by omega), e2, e]; omega⟩
 ·rcases val u hu with ⟨c, e⟩ | ⟨_, e, _⟩
  ·by_cases hlt2 : gI o u < r
   ·have := h.up u v hm c hlt2
    rw [m.old v this.1, e]
    exact this
   ·have : gI o u = r := by have := h.most u; omega
    have := m.done u v hm this
    have := mo v
    omega
  ·omega
theorem zcw : ∀ {a b : List Int}, a.Nodup → (∀ x ∈ a, x ∈ b) → a.length ≤ b.length
 | [], _, _, _ => y12 _
 | x :: a, b, hn, hs => by
  obtain ⟨h1, h2⟩ := y21.1 hn
  have hx := hs x (y05 ..)
  have := zcw (a := a) (b := b.erase x) h2 fun y hy => (List.mem_erase_of_ne (fun e => h1 (by rw [← e]; exact hy))).2 (hs y (y04 _ hy))
  rw [List.length_erase_of_mem hx] at this
  have := List.length_pos_of_mem hx
  rw [y0l]
  omega
theorem zmr {es : List (Nat × Nat)} {o : List Int} (down : ∀ v, 0 < gI o v → ∃ u, (u, v) ∈ es ∧ gI o u = gI o v - 1) : ∀ (k : Nat) (v : Nat), gI o v = (k : Int) → ∀ j : Nat, j ≤ k → ∃ u, gI o u = (j : Int)
 | 0, v, e, j, hj => ⟨v, by rw [e]; omega⟩
 | k + 1, v, e, j, hj => by
  by_cases hjk : j = k + 1
  ·exact ⟨v, by rw [e, hjk]⟩
  ·obtain ⟨u, _, e2⟩ := down v (by omega)
   exact zmr down k u (by omega) j (by omega)
theorem zvm {es : List (Nat × Nat)} {N : Nat} {o : List Int} (hl : o.length = N) (down : ∀ v, 0 < gI o v → ∃ u, (u, v) ∈ es ∧ gI o u = gI o v - 1) (v : Nat) : gI o v < N := by
 refine Int.not_le.1 fun hle => ?_
 have h := zmr down (gI o v).toNat v (by omega)
 have := zcw (a := (List.range (N + 1)).map fun j => ((j : Nat) : Int)) (b := o) ?_ ?_
 ·rw [y07, y0v] at this
  omega
 ·exact List.pairwise_map.2 (y2f.imp fun {a b} h e => h (by omega))
 ·intro x hx
  obtain ⟨j, hj, rfl⟩ := y0o.1 hx
  rw [y0g] at hj
  obtain ⟨u, hu⟩ := h j (by omega)
  have hlt : u < o.length := gI_lt (by omega)
  unfold gI at hu
  rw [y0c, y06 hlt] at hu
  rw [← hu]
  exact y0y hlt
theorem zlb {es : List (Nat × Nat)} {N f : Nat} (hf : f < N) (hN : ∀ u v, (u, v) ∈ es → v < N) : Lab es N f (zgn es N f N) := by
 have key : ∀ m : Nat, Rnd es N f (m : Int) (zgn es N f m) := by
  intro m
  induction m with
  | zero =>
   have b := Bfs.start es hf
   show Rnd es N f 0 ((List.replicate N (-1 : Int)).set f 0)
   refine ⟨b.len, b.zero, b.low, fun v => ?_, b.root, b.down, fun u v _ h1 h2 => ?_⟩
   ·show gI ((List.replicate N (-1 : Int)).set f 0) v ≤ 0
    refine Int.not_lt.1 fun h => ?_
    have := b.bound f rfl v
    rw [b.zero] at this
    have hv : gI ((List.replicate N (-1 : Int)).set f 0) v = 1 := by omega
    obtain ⟨u, _, e⟩ := b.down v h
    rw [zel (by rw [y15]; exact hf)] at hv
    split at hv
    ·omega
    ·unfold gI at hv
     rw [y0c, y2q] at hv
     split at hv <;> (simp at hv)
   ·exact absurd h2 (by show ¬ gI ((List.replicate N (-1 : Int)).set f 0) u < ((0 : Nat) : Int); have : 0 ≤ gI ((List.replicate N (-1 : Int)).set f 0) u := h1; omega)
  | succ m ih =>
   unfold zgn
   rw [y2k, y1t, y2a, List.foldl_nil]
   have := Rnd.next (by omega) hN ih
   exact this
 have h := key N
 refine ⟨h.len, h.zero, fun u v hm hu => h.up u v hm hu (zvm h.len h.down u), h.down, h.root, h.low⟩
theorem asc_eq : ∀ {a b : List Int}, a.Pairwise (· < ·) → b.Pairwise (· < ·) → (∀ x, x ∈ a ↔ x ∈ b) → a = b
 | [], [], _, _, _ => rfl
 | [], y :: b, _, _, h => absurd ((h y).2 (y05 ..)) y0i
 | x :: a, [], _, _, h => absurd ((h x).1 (y05 ..)) y0i
 | x :: a, y :: b, ha, hb, h => by
  obtain ⟨a1, a2⟩ := y2l.1 ha
  obtain ⟨b1, b2⟩ := y2l.1 hb
  have hxy : x = y := by
   have h1 := (h x).1 (y05 ..)
   have h2 := (h y).2 (y05 ..)
   rcases y0j.1 h1 with e | h1
   ·exact e
   ·rcases y0j.1 h2 with e | h2
    ·exact e.symm
    ·have := a1 y h2
     have := b1 x h1
     omega
  subst hxy
  rw [asc_eq a2 b2 fun z => ?_]
  constructor
  ·intro hz
   rcases y0j.1 ((h z).1 (y04 _ hz)) with e | hz2
   ·have := a1 z hz; omega
   ·exact hz2
  ·intro hz
   rcases y0j.1 ((h z).2 (y04 _ hz)) with e | hz2
   ·have := b1 z hz; omega
   ·exact hz2
theorem zl8 : ∀ {l : List Int} {p z : Int}, z ∈ p :: zq5 p l ↔ z ∈ p :: l
 | [], _, _ => Iff.rfl
 | y :: l, p, z => by
  rw [zq5]
  split
  ·rename_i e
   rw [zl8 (l := l), y0j, y0j, y0j, e]
   constructor
   ·rintro (h | h)
    ·exact .inl h
    ·exact .inr (.inr h)
   ·rintro (h | h | h)
    ·exact .inl h
    ·exact .inl h
    ·exact .inr h
  ·have := zl8 (l := l) (p := y) (z := z)
   rw [y0j, this, y0j, y0j, y0j]
theorem zl7 : ∀ {l : List Int} {p : Int}, (p :: l).Pairwise (· ≤ ·) → (p :: zq5 p l).Pairwise (· < ·)
 | [], _, _ => List.pairwise_singleton ..
 | y :: l, p, h => by
  obtain ⟨h1, h2⟩ := y2l.1 h
  rw [zq5]
  split
  ·rename_i e
   subst e
   exact zl7 h2
  ·rename_i e
   have ih := zl7 h2
   rw [y2l]
   refine ⟨fun z hz => ?_, ih⟩
   have hy := h1 y (y05 ..)
   rcases y0j.1 hz with rfl | hz2
   ·omega
   ·have := (y2l.1 ih).1 z hz2
    omega
theorem cpt_asc {l : List Int} (h : l.Pairwise (· ≤ ·)) : (cpt l).Pairwise (· < ·) := by
 cases l with
 | nil => exact List.Pairwise.nil
 | cons x l => exact zl7 h
theorem cpt_mem {l : List Int} {z : Int} : z ∈ cpt l ↔ z ∈ l := by
 cases l with
 | nil => exact Iff.rfl
 | cons x l => exact zl8
def raw (es : List (Nat × Nat)) (v : Nat) : List Int := (es.filter fun e => e.1 == v).map fun e => ((e.2 : Nat) : Int)
def nbr (es : List (Nat × Nat)) (N v : Nat) : List Nat := (List.range N).filter fun w => es.contains (v, w)
theorem zcy {es : List (Nat × Nat)} {N v w : Nat} (hN : ∀ u v, (u, v) ∈ es → v < N) : w ∈ nbr es N v ↔ (v, w) ∈ es := by
 unfold nbr
 rw [y0t, y0g, y0z]
 exact ⟨fun h => h.2, fun h => ⟨hN _ _ h, h⟩⟩
theorem nbr_cpt {es : List (Nat × Nat)} {N v : Nat} (hN : ∀ u v, (u, v) ∈ es → v < N) : cpt ((raw es v).mergeSort fun x y => decide (x ≤ y)) = (nbr es N v).map fun w => ((w : Nat) : Int) := by
 refine asc_eq (cpt_asc ?_) ?_ fun x => ?_
 ·have := List.pairwise_mergeSort (le := fun x y : Int => decide (x ≤ y)) (fun a b c h1 h2 => by rw [decide_eq_true_eq] at *; omega) (fun a b => by rw [y13, decide_eq_true_eq, decide_eq_true_eq]; omega) (raw es v)
  exact this.imp fun h => of_decide_eq_true h
 ·unfold nbr
  rw [List.pairwise_map]
  refine List.Pairwise.imp (R := fun a b : Nat => a < b) (fun h => by omega) (y2c _ List.pairwise_lt_range)
 ·rw [cpt_mem, List.mem_mergeSort]
  unfold raw
  rw [y0o, y0o]
  constructor
  ·rintro ⟨e, he, rfl⟩
   obtain ⟨h1, h2⟩ := y0t.1 he
   refine ⟨e.2, (zcy hN).2 ?_, rfl⟩
   rw [← eq_of_beq h2]
   exact h1
  ·rintro ⟨w, hw, rfl⟩
   exact ⟨(v, w), y0t.2 ⟨(zcy hN).1 hw, by simp⟩, rfl⟩
theorem zu5 {es : List (Nat × Nat)} {N v : Nat} (hN : ∀ u v, (u, v) ∈ es → v < N) : cps (srt (raw es v)) = (nbr es N v).map fun w => ((w : Nat) : Int) := by
 rw [cps_eq]
 exact nbr_cpt hN
inductive Wk (E : List (Nat × Nat)) : Nat → Nat → Nat → Prop
 | refl (u : Nat) : Wk E 0 u u
 | step {k u v w : Nat} (h : Wk E k u v) (e : (v, w) ∈ E) : Wk E (k + 1) u w
theorem Wk.cons {E : List (Nat × Nat)} {u v w k : Nat} (e : (u, v) ∈ E) (h : Wk E k v w) : Wk E (k + 1) u w := by
 induction h with
 | refl => exact .step (.refl u) e
 | step h e2 ih => exact .step (ih e) e2
theorem Wk.rev {E E' : List (Nat × Nat)} (hE : ∀ a b, (a, b) ∈ E → (b, a) ∈ E') {u v k : Nat} (h : Wk E k u v) : Wk E' k v u := by
 induction h with
 | refl => exact .refl _
 | step h e ih => exact .cons (hE _ _ e) ih
def rvE (E : List (Nat × Nat)) : List (Nat × Nat) := E.map fun e => (e.2, e.1)
theorem zlt {E : List (Nat × Nat)} {a b : Nat} : (a, b) ∈ rvE E ↔ (b, a) ∈ E := by
 unfold rvE
 rw [y0o]
 constructor
 ·rintro ⟨⟨x, y⟩, h, e⟩
  injection e with e1 e2
  subst e1 e2
  exact h
 ·intro h
  exact ⟨(b, a), h, rfl⟩
theorem zwr (E : List (Nat × Nat)) : (rvE E).length = E.length := y07 ..
theorem zkr {E : List (Nat × Nat)} {m : Nat} (hb : ∀ u v, (u, v) ∈ E → u < m ∧ v < m) : ∀ u v, (u, v) ∈ rvE E → u < m ∧ v < m := fun u v h => (hb v u (zlt.1 h)).symm
theorem Lab.walk {E : List (Nat × Nat)} {N f : Nat} {o : List Int} (h : Lab E N f o) : ∀ (k v : Nat), gI o v = (k : Int) → Wk E k f v
 | 0, v, e => by
  rw [h.root v e]
  exact .refl _
 | k + 1, v, e => by
  obtain ⟨u, hu, e2⟩ := h.down v (by omega)
  exact .step (Lab.walk h k u (by omega)) hu
theorem Lab.walk_le {E : List (Nat × Nat)} {N f : Nat} {o : List Int} (h : Lab E N f o) {k u v : Nat} (w : Wk E k u v) : u = f → 0 ≤ gI o v ∧ gI o v ≤ (k : Int) := by
 induction w with
 | refl =>
  intro e
  rw [e, h.zero]
  omega
 | step w e ih =>
  intro e2
  have a := ih e2
  have b := h.up _ _ e a.1
  omega
def prB (back : List Int) (v w : Nat) : Bool := decide (gI back w ≥ 0) && (gI back w == gI back v - 1)
def nxt (E : List (Nat × Nat)) (m : Nat) (back : List Int) (v : Nat) : Nat := ((nbr E m v).find? (prB back v)).getD 0
def zhx (E : List (Nat × Nat)) (m : Nat) (back : List Int) : Nat → Nat → List Nat
 | 0, _ => []
 | k + 1, v => nxt E m back v :: zhx E m back k (nxt E m back v)
theorem nxt_ok {E : List (Nat × Nat)} {m t v : Nat} {back : List Int} (hL : Lab (rvE E) m t back) (hb : ∀ u v, (u, v) ∈ E → u < m ∧ v < m) (h : 0 < gI back v) :
  (nbr E m v).find? (prB back v) = some (nxt E m back v) ∧ (v, nxt E m back v) ∈ E ∧ nxt E m back v < m ∧ gI back (nxt E m back v) = gI back v - 1 := by
 obtain ⟨u, hu, e⟩ := hL.down v h
 have hu := zlt.1 hu
 have hm : u ∈ nbr E m v := (zcy fun u v h => (hb u v h).2).2 hu
 have hp : prB back v u = true := by
  unfold prB
  rw [y0h, decide_eq_true_eq, beq_iff_eq]
  omega
 unfold nxt
 cases hf : (nbr E m v).find? (prB back v) with
 | none =>
  have := List.find?_eq_none.1 hf u hm
  exact absurd hp this
 | some w =>
  have h1 := List.find?_some hf
  have h2 := (zcy fun u v h => (hb u v h).2).1 (List.mem_of_find?_eq_some hf)
  unfold prB at h1
  rw [y0h, decide_eq_true_eq, beq_iff_eq] at h1
  exact ⟨rfl, h2, (hb _ _ h2).2, h1.2⟩
theorem znr (E : List (Nat × Nat)) (m : Nat) (back : List Int) : ∀ k v, (zhx E m back k v).length = k
 | 0, _ => rfl
 | k + 1, v => by
  rw [zhx, y0l, znr E m back k]
theorem zqa {α : Type} {p : α → Bool} : ∀ {l : List α} {w : α}, l.find? p = some w → ∃ k, ∃ h : k < l.length, l[k] = w ∧ p w = true ∧ ∀ i (h2 : i < k), p (l[i]'(Nat.lt_trans h2 h)) = false
 | [], _, h => by cases h
 | x :: l, w, h => by
  rw [List.find?_cons] at h
  cases hx : p x with
  | true =>
   rw [hx] at h
   obtain rfl := y17 h
   exact ⟨0, Nat.succ_pos _, rfl, hx, fun i h2 => absurd h2 (y1w _)⟩
  | false =>
   rw [hx] at h
   obtain ⟨k, hk, e, hp, hn⟩ := zqa h
   refine ⟨k + 1, Nat.succ_lt_succ hk, e, hp, fun i h2 => ?_⟩
   cases i with
   | zero => exact hx
   | succ i => exact hn i (Nat.lt_of_succ_lt_succ h2)
def rdyB (E : List (Nat × Nat)) (out : List Nat) (v : Nat) : Bool := E.all (fun e => !(e.2 == v) || out.contains e.1) && !(out.contains v)
theorem zqv {E : List (Nat × Nat)} {out : List Nat} {v : Nat} : rdyB E out v = true ↔ (∀ u, (u, v) ∈ E → u ∈ out) ∧ v ∉ out := by
 unfold rdyB
 rw [y0h, y0d]
 constructor
 ·rintro ⟨h1, h2⟩
  refine ⟨fun u hu => ?_, fun hv => ?_⟩
  ·have := h1 _ hu
   simpa using this
  ·have := y0z.2 hv
   rw [this] at h2
   cases h2
 ·rintro ⟨h1, h2⟩
  refine ⟨fun e he => ?_, ?_⟩
  ·by_cases c : e.2 = v
   ·subst c
    have := h1 e.1 he
    simp [this]
   ·simp [c]
  ·simp [h2]
def nxS (E : List (Nat × Nat)) (m : Nat) (out : List Nat) : Option Nat := (List.range m).find? (rdyB E out)
structure Top (E : List (Nat × Nat)) (m : Nat) (out : List Nat) : Prop where
 nd : out.Nodup
 lt : ∀ v ∈ out, v < m
 pre : ∀ p v s, out = p ++ v :: s → ∀ u, (u, v) ∈ E → u ∈ p
theorem Top.nil (E : List (Nat × Nat)) (m : Nat) : Top E m [] := ⟨List.nodup_nil, fun v h => absurd h y0i, fun p v s h => by simp at h⟩
theorem nxS_ok {E : List (Nat × Nat)} {m v : Nat} {out : List Nat} (h : nxS E m out = some v) : v < m ∧ (∀ u, (u, v) ∈ E → u ∈ out) ∧ v ∉ out := by
 unfold nxS at h
 exact ⟨y0g.1 (List.mem_of_find?_eq_some h), zqv.1 (List.find?_some h)⟩
theorem zkj {out : List Nat} {v : Nat} (h : out.Nodup) (hv : v ∉ out) : (out ++ [v]).Nodup := by
 rw [List.nodup_append]
 refine ⟨h, y21.2 ⟨y0i, List.nodup_nil⟩, fun a ha b hb => ?_⟩
 obtain rfl := y0e.1 hb
 exact fun e => hv (e ▸ ha)
theorem Top.snoc {E : List (Nat × Nat)} {m v : Nat} {out : List Nat} (h : Top E m out) (hv : nxS E m out = some v) : Top E m (out ++ [v]) := by
 obtain ⟨a, b, c⟩ := nxS_ok hv
 refine ⟨zkj h.nd c, fun w hw => ?_, fun p w s e u hu => ?_⟩
 ·rcases y0q.1 hw with hw | hw
  ·exact h.lt w hw
  ·obtain rfl := y0e.1 hw
   exact a
 ·rcases List.append_eq_append_iff.1 e with ⟨xs, e1, e2⟩ | ⟨cs, e1, e2⟩
  ·-- p = out ++ xs, [v] = xs ++ w :: s
   cases xs with
   | nil =>
    rw [y22] at e2
    injection e2 with e3 e4
    subst e3
    rw [e1, y0r]
    exact b u hu
   | cons x xs =>
    rw [y2g] at e2
    injection e2 with e3 e4
    simp at e4
  ·-- out = p ++ cs, w :: s = cs ++ [v]
   cases cs with
   | nil =>
    rw [y22] at e2
    injection e2 with e3 e4
    subst e3
    rw [y0r] at e1
    rw [← e1]
    exact b u hu
   | cons x cs =>
    rw [y2g] at e2
    injection e2 with e3 e4
    subst e3
    exact h.pre p w cs e1 u hu
theorem zda : ∀ {a b : List Nat}, a.Nodup → (∀ x ∈ a, x ∈ b) → a.length ≤ b.length
 | [], _, _, _ => y12 _
 | x :: a, b, hn, hs => by
  obtain ⟨h1, h2⟩ := y21.1 hn
  have hx := hs x (y05 ..)
  have := zda (a := a) (b := b.erase x) h2 fun y hy => (List.mem_erase_of_ne (fun e => h1 (by rw [← e]; exact hy))).2 (hs y (y04 _ hy))
  rw [List.length_erase_of_mem hx] at this
  have := List.length_pos_of_mem hx
  rw [y0l]
  omega
theorem all_in {m : Nat} {l : List Nat} (nd : l.Nodup) (lt : ∀ v ∈ l, v < m) (hl : m ≤ l.length) : ∀ v, v < m → v ∈ l := by
 intro v hv
 by_cases c : v ∈ l
 ·exact c
 ·have := zda (a := v :: l) (b := List.range m) (y21.2 ⟨c, nd⟩) fun x hx => by
   rw [y0g]
   rcases y0j.1 hx with rfl | hx
   ·exact hv
   ·exact lt x hx
  rw [y0l, y0v] at this
  omega
theorem Wk.trans {E : List (Nat × Nat)} {a b c j k : Nat} (h : Wk E j a b) (h2 : Wk E k b c) : Wk E (j + k) a c := by
 induction h2 with
 | refl => exact h
 | step h2 e ih => exact .step (ih h) e
theorem zvd {l : List Nat} {v : Nat} (h : v ∈ l) : ∃ p s, l = p ++ v :: s ∧ v ∉ p ∧ l.idxOf v = p.length := by
 induction l with
 | nil => exact absurd h y0i
 | cons x l ih =>
  by_cases c : x = v
  ·subst c
   exact ⟨[], l, rfl, y0i, by rw [List.idxOf_cons_self]; rfl⟩
  ·rcases y0j.1 h with h | h
   ·exact absurd h.symm c
   ·obtain ⟨p, s, e, hn, hi⟩ := ih h
    refine ⟨x :: p, s, by rw [e]; rfl, fun hm => ?_, ?_⟩
    ·rcases y0j.1 hm with hm | hm
     ·exact c hm.symm
     ·exact hn hm
    ·rw [List.idxOf_cons, show (x == v) = false from beq_eq_false_iff_ne.2 c, hi]
     rfl
theorem Top.edge {E : List (Nat × Nat)} {m : Nat} {l : List Nat} (h : Top E m l) {u v : Nat} (he : (u, v) ∈ E) (hv : v ∈ l) : u ∈ l ∧ l.idxOf u < l.idxOf v := by
 obtain ⟨p, s, e, hn, hi⟩ := zvd hv
 have hu := h.pre p v s e u he
 refine ⟨by rw [e]; exact y0p _ hu, ?_⟩
 rw [hi, e, List.idxOf_append, if_pos hu]
 exact List.idxOf_lt_length_iff.2 hu
theorem Top.walk {E : List (Nat × Nat)} {m : Nat} {l : List Nat} (h : Top E m l) {k u v : Nat} (w : Wk E k u v) : v ∈ l → u ∈ l ∧ l.idxOf u + k ≤ l.idxOf v := by
 induction w with
 | refl => exact fun h => ⟨h, y0b _⟩
 | step w e ih =>
  intro hv
  obtain ⟨a, b⟩ := h.edge e hv
  obtain ⟨c, d⟩ := ih a
  exact ⟨c, by omega⟩
def rlx (o : List Int) (e : Nat × Nat) : List Int := o.set e.2 (max (o.getD e.2 0) (o.getD e.1 0 + 1))
def gZ (o : List Int) (v : Nat) : Int := o.getD v 0
theorem zqd {o : List Int} {v : Nat} {d : Int} (hv : v < o.length) (w : Nat) : gZ (o.set v d) w = if v = w then d else gZ o w := by
 unfold gZ
 rw [y0c, y0c, List.getElem?_set]
 by_cases h : v = w
 ·subst h
  rw [if_pos rfl, if_pos hv, if_pos rfl]
  rfl
 ·rw [if_neg h, if_neg h]
theorem gZ_ext {o o' : List Int} (hl : o.length = o'.length) (h : ∀ v, gZ o v = gZ o' v) : o = o' := by
 refine List.ext_getElem hl fun i h1 h2 => ?_
 have := h i
 unfold gZ at this
 rw [y0c, y0c, y06 h1, y06 h2] at this
 exact this
theorem rlx_len (o : List Int) (e : Nat × Nat) : (rlx o e).length = o.length := y18 ..
theorem rlx_at {o : List Int} {e : Nat × Nat} (h : e.2 < o.length) (w : Nat) : gZ (rlx o e) w = if e.2 = w then max (gZ o e.2) (gZ o e.1 + 1) else gZ o w := zqd h w
structure Lay (E : List (Nat × Nat)) (m : Nat) (o : List Int) : Prop where
 len : o.length = m
 low : ∀ v, 0 ≤ gZ o v
 up : ∀ u v, (u, v) ∈ E → gZ o u + 1 ≤ gZ o v
 down : ∀ v, 0 < gZ o v → ∃ u, (u, v) ∈ E ∧ gZ o u = gZ o v - 1
theorem Lay.le {E : List (Nat × Nat)} {m : Nat} {o o' : List Int} (h : Lay E m o) (h' : Lay E m o') : ∀ (k v : Nat), gZ o v = (k : Int) → (k : Int) ≤ gZ o' v
 | 0, v, _ => h'.low v
 | k + 1, v, e => by
  obtain ⟨u, hu, e2⟩ := h.down v (by omega)
  have := Lay.le h h' k u (by omega)
  have := h'.up u v hu
  omega
theorem Lay.unique {E : List (Nat × Nat)} {m : Nat} {o o' : List Int} (h : Lay E m o) (h' : Lay E m o') : o = o' := by
 refine gZ_ext (h.len.trans h'.len.symm) fun v => ?_
 have a := Lay.le h h' (gZ o v).toNat v (by have := h.low v; omega)
 have b := Lay.le h' h (gZ o' v).toNat v (by have := h'.low v; omega)
 have := h.low v
 have := h'.low v
 omega
structure LyP (E : List (Nat × Nat)) (m : Nat) (p : List Nat) (o : List Int) : Prop where
 len : o.length = m
 low : ∀ v, 0 ≤ gZ o v
 up : ∀ u v, (u, v) ∈ E → u ∈ p → gZ o u + 1 ≤ gZ o v
 down : ∀ v, 0 < gZ o v → ∃ u, u ∈ p ∧ (u, v) ∈ E ∧ gZ o u = gZ o v - 1
structure LyQ (E : List (Nat × Nat)) (m : Nat) (x : Nat) (d : List Nat) (o o' : List Int) : Prop where
 len : o'.length = m
 same : ∀ v, v ∉ d → gZ o' v = gZ o v
 new : ∀ v, v ∈ d → gZ o' v = max (gZ o v) (gZ o x + 1)
theorem lyq {E : List (Nat × Nat)} {m x : Nat} {o : List Int} (hl : o.length = m) : ∀ d : List Nat, x ∉ d → (∀ v ∈ d, v < m) → LyQ E m x d o (d.foldl (fun o w => rlx o (x, w)) o) := by
 intro d
 induction d using zif with
 | h0 => exact fun _ _ => ⟨hl, fun _ _ => rfl, fun v h => absurd h y0i⟩
 | h1 d w ih =>
  intro hx hd
  have h := ih (fun h => hx (y0p _ h)) fun v hv => hd v (y0p _ hv)
  rw [y1t, y2a, List.foldl_nil]
  generalize d.foldl (fun o w => rlx o (x, w)) o = o' at h
  have hw : w < o'.length := by rw [h.len]; exact hd w (by simp)
  have hxw : w ≠ x := fun e => hx (by rw [e]; simp)
  refine ⟨by rw [rlx_len]; exact h.len, fun v hv => ?_, fun v hv => ?_⟩
  ·rw [rlx_at (e := (x, w)) hw, if_neg (fun e => hv (by rw [← e]; simp))]
   exact h.same v fun c => hv (y0p _ c)
  ·rw [rlx_at (e := (x, w)) hw]
   have hxs := h.same x fun c => hx (y0p _ c)
   by_cases c : w = v
   ·subst c
    rw [if_pos rfl]
    show max (gZ o' w) (gZ o' x + 1) = _
    rw [hxs]
    by_cases c2 : w ∈ d
    ·rw [h.new w c2]
     omega
    ·rw [h.same w c2]
   ·rw [if_neg c]
    rcases y0q.1 hv with hv | hv
    ·exact h.new v hv
    ·exact absurd (y0e.1 hv).symm c
theorem LyP.step {E : List (Nat × Nat)} {m x : Nat} {l p s : List Nat} {o : List Int} (hb : ∀ u v, (u, v) ∈ E → u < m ∧ v < m) (ht : Top E m l) (e : l = p ++ x :: s) (h : LyP E m p o) : LyP E m (p ++ [x]) ((nbr E m x).foldl (fun o w => rlx o (x, w)) o) := by
 have hmem : ∀ w, w ∈ nbr E m x ↔ (x, w) ∈ E := fun w => zcy fun u v h => (hb u v h).2
 have hnd : (p ++ x :: s).Nodup := e ▸ ht.nd
 have hxp : x ∉ p := fun hx => (List.nodup_append.1 hnd).2.2 x hx x (y05 ..) rfl
 have hno : ∀ w, (x, w) ∈ E → w ∉ p ∧ w ≠ x := fun w hw => by
  constructor
  ·intro hp
   obtain ⟨a, b, e2⟩ := List.append_of_mem hp
   have h2 := ht.pre a w (b ++ x :: s) (by rw [e, e2]; simp) x hw
   exact hxp (by rw [e2]; exact y0p _ h2)
  ·rintro rfl
   exact hxp (ht.pre p w s e w hw)
 have q := lyq (E := E) (x := x) h.len (nbr E m x) (fun hx => (hno x ((hmem x).1 hx)).2 rfl) fun v hv => (hb _ _ ((hmem v).1 hv)).2
 generalize (nbr E m x).foldl (fun o w => rlx o (x, w)) o = o' at q
 have old : ∀ u, u ∈ p ++ [x] → gZ o' u = gZ o u := fun u hu => q.same u fun hm => by
  have := hno u ((hmem u).1 hm)
  rcases y0q.1 hu with hu | hu
  ·exact this.1 hu
  ·exact this.2 (y0e.1 hu)
 have ge : ∀ v, gZ o v ≤ gZ o' v := fun v => by
  by_cases c : v ∈ nbr E m x
  ·rw [q.new v c]; omega
  ·rw [q.same v c]; exact y2m _
 refine ⟨q.len, fun v => by have := ge v; have := h.low v; omega, fun u v huv hu => ?_, fun v hv => ?_⟩
 ·rw [old u hu]
  rcases y0q.1 hu with hu | hu
  ·have := h.up u v huv hu
   have := ge v
   omega
  ·obtain rfl := y0e.1 hu
   rw [q.new v ((hmem v).2 huv)]
   omega
 ·by_cases c : v ∈ nbr E m x ∧ gZ o v < gZ o x + 1
  ·refine ⟨x, by simp, (hmem v).1 c.1, ?_⟩
   rw [old x (by simp), q.new v c.1]
   omega
  ·have ev : gZ o' v = gZ o v := by
    by_cases c2 : v ∈ nbr E m x
    ·rw [q.new v c2]
     have : ¬ gZ o v < gZ o x + 1 := fun h => c ⟨c2, h⟩
     omega
    ·exact q.same v c2
   rw [ev] at hv ⊢
   obtain ⟨u, h1, h2, h3⟩ := h.down v hv
   refine ⟨u, y0p _ h1, h2, ?_⟩
   rw [old u (y0p _ h1)]
   exact h3
theorem low_le {m : Nat} {o : List Int} (hlen : o.length = m) (low : ∀ v, 0 ≤ gZ o v) (down : ∀ v, 0 < gZ o v → ∃ u, gZ o u = gZ o v - 1) (v : Nat) : gZ o v ≤ m := by
 have chain : ∀ (k : Nat) (v : Nat), gZ o v = (k : Int) → ∀ j : Nat, j ≤ k → ∃ u, gZ o u = (j : Int) := by
  intro k
  induction k with
  | zero => exact fun v e j hj => ⟨v, by rw [e]; omega⟩
  | succ k ih =>
   intro v e j hj
   by_cases hjk : j = k + 1
   ·exact ⟨v, by rw [e, hjk]⟩
   ·obtain ⟨u, e2⟩ := down v (by omega)
    exact ih u (by omega) j (by omega)
 have h0 := low v
 have hc := chain (gZ o v).toNat v (by omega)
 have := zcw (a := (List.range (gZ o v).toNat).map fun j => ((j + 1 : Nat) : Int)) (b := o) ?_ ?_
 ·rw [y07, y0v, hlen] at this
  omega
 ·exact List.pairwise_map.2 (y2f.imp fun {a b} h e => h (by omega))
 ·intro x hx
  obtain ⟨j, hj, rfl⟩ := y0o.1 hx
  rw [y0g] at hj
  obtain ⟨u, hu⟩ := hc (j + 1) (by omega)
  have hlt : u < o.length := by
   refine Nat.lt_of_not_le fun hle => ?_
   unfold gZ at hu
   rw [y0c, y27 hle] at hu
   have hu : (0 : Int) = ((j + 1 : Nat) : Int) := hu
   omega
  unfold gZ at hu
  rw [y0c, y06 hlt] at hu
  rw [← hu]
  exact y0y hlt
theorem LyP.le {E : List (Nat × Nat)} {m : Nat} {p : List Nat} {o : List Int} (h : LyP E m p o) (v : Nat) : gZ o v ≤ m :=
 low_le h.len h.low (fun v hv => by obtain ⟨u, _, _, e⟩ := h.down v hv; exact ⟨u, e⟩) v
def addL (c : Int) (o : List Int) (w : Nat) : List Int := o.set w (gZ o w + c)
structure AddF (c : Int) (l : List Nat) (o o' : List Int) : Prop where
 len : o'.length = o.length
 at_ : ∀ v, gZ o' v = gZ o v + if v ∈ l then c else 0
theorem addF (c : Int) (o : List Int) : ∀ l : List Nat, l.Nodup → (∀ v ∈ l, v < o.length) → AddF c l o (l.foldl (addL c) o) := by
 intro l
 induction l using zif with
 | h0 => exact fun _ _ => ⟨rfl, fun v => by show gZ o v = _; rw [if_neg y0i]; omega⟩
 | h1 l w ih =>
  intro hn hl
  have hw : w ∉ l := fun h => (List.nodup_append.1 hn).2.2 w h w (by simp) rfl
  obtain ⟨a, b⟩ := ih (List.nodup_append.1 hn).1 fun v hv => hl v (y0p _ hv)
  rw [y1t, y2a, List.foldl_nil]
  generalize l.foldl (addL c) o = o' at *
  have hlt : w < o'.length := by rw [a]; exact hl w (by simp)
  refine ⟨by unfold addL; rw [y18]; exact a, fun v => ?_⟩
  unfold addL
  rw [zqd hlt]
  by_cases e : w = v
  ·subst e
   rw [if_pos rfl, b, if_neg hw, if_pos (by simp)]
   omega
  ·rw [if_neg e, b]
   by_cases h : v ∈ l
   ·rw [if_pos h, if_pos (y0p _ h)]
   ·rw [if_neg h, if_neg fun h2 => ?_]
    rcases y0q.1 h2 with h2 | h2
    ·exact h h2
    ·exact e (y0e.1 h2).symm
theorem zn2 {P Q : Nat → Bool} {v : Nat} (hPQ : ∀ u, u ≠ v → Q u = P u) (hQ : Q v = false) : ∀ {L : List Nat}, L.Nodup → v ∈ L → (L.filter Q).length + (if P v = true then 1 else 0) = (L.filter P).length
 | [], _, h => absurd h y0i
 | x :: L, hn, h => by
  obtain ⟨h1, h2⟩ := y21.1 hn
  by_cases e : x = v
  ·subst e
   have hs : L.filter Q = L.filter P := List.filter_congr fun u hu => hPQ u fun e => h1 (e ▸ hu)
   rw [y14, y14, if_neg (by rw [hQ]; exact Bool.false_ne_true), hs]
   by_cases c : P x = true
   ·rw [if_pos c, if_pos c, y0l]
   ·rw [if_neg c, if_neg c]; rfl
  ·have ih := zn2 hPQ hQ (L := L) h2 ((y0j.1 h).resolve_left fun e2 => e e2.symm)
   rw [y14, y14, hPQ x e]
   by_cases c : P x = true
   ·rw [if_pos c, if_pos c, y0l, y0l]
    omega
   ·rw [if_neg c, if_neg c]
    exact ih
def cntO (E : List (Nat × Nat)) (m : Nat) (out : List Nat) (v : Nat) : Nat := ((List.range m).filter fun u => !(out.contains u) && E.contains (u, v)).length
theorem ztz {E : List (Nat × Nat)} {m x : Nat} {out : List Nat} (hx : x < m) (hxo : x ∉ out) (v : Nat) : cntO E m (out ++ [x]) v + (if (x, v) ∈ E then 1 else 0) = cntO E m out v := by
 unfold cntO
 have h := zn2 (P := fun u => !(out.contains u) && E.contains (u, v)) (Q := fun u => !((out ++ [x]).contains u) && E.contains (u, v)) (v := x) (fun u hu => ?_) ?_ (L := List.range m) y2f (y0g.2 hx)
 ·rw [← h]
  congr 1
  by_cases c : (x, v) ∈ E
  ·rw [if_pos c, if_pos]
   have := y0z.2 c
   simp only [this, Bool.and_true]
   simpa using hxo
  ·rw [if_neg c, if_neg]
   intro h
   rw [y0h] at h
   exact c (y0z.1 h.2)
 ·show (!((out ++ [x]).contains u) && E.contains (u, v)) = (!(out.contains u) && E.contains (u, v))
  congr 2
  rw [y2u, y0z, y0z, y0q]
  exact ⟨fun h => h.resolve_right fun h => hu (y0e.1 h), fun h => .inl h⟩
 ·show (!((out ++ [x]).contains x) && E.contains (x, v)) = false
  rw [y0z.2 (by simp : x ∈ out ++ [x])]
  rfl
theorem zmt {E : List (Nat × Nat)} {m : Nat} (hb : ∀ u v, (u, v) ∈ E → u < m ∧ v < m) {out : List Nat} {v : Nat} : cntO E m out v = 0 ↔ ∀ u, (u, v) ∈ E → u ∈ out := by
 unfold cntO
 rw [y1l, List.filter_eq_nil_iff]
 constructor
 ·intro h u hu
  have := h u (y0g.2 (hb u v hu).1)
  rw [y0h] at this
  refine Classical.byContradiction fun hc => this ⟨?_, y0z.2 hu⟩
  simpa using hc
 ·intro h u _ hc
  rw [y0h] at hc
  have := h u (y0z.1 hc.2)
  have h2 := hc.1
  rw [y0z.2 this] at h2
  cases h2
structure Opn (E : List (Nat × Nat)) (m : Nat) (out : List Nat) (op : List Int) : Prop where
 len : op.length = m
 cnt : ∀ v, v < m → v ∉ out → gZ op v = (cntO E m out v : Nat)
 gone : ∀ v, v ∈ out → gZ op v = -1
theorem Opn.rdy {E : List (Nat × Nat)} {m : Nat} {out : List Nat} {op : List Int} (hb : ∀ u v, (u, v) ∈ E → u < m ∧ v < m) (h : Opn E m out op) {v : Nat} (hv : v < m) : (gZ op v == 0) = rdyB E out v := by
 rw [y2u, beq_iff_eq, zqv]
 by_cases c : v ∈ out
 ·rw [h.gone v c]
  exact ⟨fun h => absurd h (by decide), fun h => absurd c h.2⟩
 ·rw [h.cnt v hv c]
  constructor
  ·intro h0
   exact ⟨(zmt hb).1 (by omega), c⟩
  ·intro h0
   rw [(zmt hb).2 h0.1]
   rfl
theorem zvw (E : List (Nat × Nat)) (m v : Nat) : (nbr E m v).Nodup := y2c _ y2f
theorem Opn.step {E : List (Nat × Nat)} {m x : Nat} {out : List Nat} {op : List Int} (hb : ∀ u v, (u, v) ∈ E → u < m ∧ v < m) (ht : Top E m out) (h : Opn E m out op) (hx : nxS E m out = some x) : Opn E m (out ++ [x]) ((nbr E m x).foldl (addL (-1)) (op.set x (-1))) := by
 obtain ⟨hxm, hpre, hxo⟩ := nxS_ok hx
 have hmem : ∀ w, w ∈ nbr E m x ↔ (x, w) ∈ E := fun w => zcy fun u v h => (hb u v h).2
 have hxl : x < op.length := by rw [h.len]; exact hxm
 obtain ⟨a, b⟩ := addF (-1) (op.set x (-1)) (nbr E m x) (zvw ..) fun v hv => by rw [y18, h.len]; exact (hb _ _ ((hmem v).1 hv)).2
 rw [y18] at a
 -- an edge leads to nothing that is out
 have hno : ∀ w, (x, w) ∈ E → w ∉ out ++ [x] := fun w hw hm => by
  have ht2 := ht.snoc hx
  obtain ⟨p, s, e⟩ := List.append_of_mem hm
  have hp := ht2.pre p w s e x hw
  rcases y0q.1 hm with hm | hm
  ·obtain ⟨p2, s2, e2⟩ := List.append_of_mem hm
   exact hxo (by rw [e2]; exact y0p _ (ht.pre p2 w s2 e2 x hw))
  ·obtain rfl := y0e.1 hm
   exact hxo (hpre w hw)
 refine ⟨a.trans h.len, fun v hv hvo => ?_, fun v hv => ?_⟩
 ·rw [b, zqd hxl, if_neg (fun e => hvo (by rw [e]; simp)), h.cnt v hv fun c => hvo (y0p _ c)]
  have := ztz (E := E) hxm hxo v
  by_cases c : (x, v) ∈ E
  ·rw [if_pos ((hmem v).2 c)]
   rw [if_pos c] at this
   omega
  ·rw [if_neg fun c2 => c ((hmem v).1 c2)]
   rw [if_neg c] at this
   omega
 ·rw [b, if_neg fun c => hno v ((hmem v).1 c) hv, zqd hxl]
  rcases y0q.1 hv with hv | hv
  ·rw [if_neg (fun e : x = v => hxo (by rw [e]; exact hv)), h.gone v hv]
   rfl
  ·rw [if_pos (y0e.1 hv).symm]
   rfl
def cntI (E : List (Nat × Nat)) (i v : Nat) : Nat := ((List.range i).filter fun u => E.contains (u, v)).length
theorem cntI_end (E : List (Nat × Nat)) (m v : Nat) : cntI E m v = cntO E m [] v := by
 unfold cntI cntO
 rfl
theorem Opn.start {E : List (Nat × Nat)} {m : Nat} {op : List Int} (hl : op.length = m) (h : ∀ v, v < m → gZ op v = (cntI E m v : Nat)) : Opn E m [] op :=
 ⟨hl, fun v hv _ => by rw [h v hv, cntI_end], fun v hv => absurd hv y0i⟩
theorem ze9 {E : List (Nat × Nat)} {m f v : Nat} (hb : ∀ u v, (u, v) ∈ E → u < m ∧ v < m) (hf : f < m) : 0 ≤ gI (zgn E m f m) v ↔ ∃ k, Wk E k f v := by
 have L := zlb (es := E) hf fun u v h => (hb u v h).2
 constructor
 ·intro h
  exact ⟨_, L.walk (gI (zgn E m f m) v).toNat v (by omega)⟩
 ·rintro ⟨k, w⟩
  exact (L.walk_le w rfl).1
def gB (s : List Bool) (v : Nat) : Bool := s.getD v false
def mrk (s : List Bool) (D : List Nat) : List Bool := D.foldl (fun s v => s.set v true) s
theorem zuo {s : List Bool} {v : Nat} (hv : v < s.length) (w : Nat) : gB (s.set v true) w = (gB s w || v == w) := by
 unfold gB
 rw [y0c, y0c, List.getElem?_set]
 by_cases h : v = w
 ·subst h
  rw [if_pos rfl, if_pos hv]
  simp
 ·rw [if_neg h, show (v == w) = false from beq_eq_false_iff_ne.2 h, Bool.or_false]
theorem zji : ∀ (D : List Nat) (s : List Bool), (mrk s D).length = s.length
 | [], _ => rfl
 | d :: D, s => by
  show (mrk (s.set d true) D).length = _
  rw [zji D, y18]
theorem zp7 (s : List Bool) (A B : List Nat) : mrk s (A ++ B) = mrk (mrk s A) B := y1t ..
theorem zun : ∀ (D : List Nat) (s : List Bool), (∀ d ∈ D, d < s.length) → ∀ w, gB (mrk s D) w = true ↔ gB s w = true ∨ w ∈ D
 | [], s, _, w => ⟨fun h => .inl h, fun h => h.elim id fun h => absurd h y0i⟩
 | d :: D, s, hD, w => by
  show gB (mrk (s.set d true) D) w = true ↔ _
  rw [zun D (s.set d true) (fun x hx => by rw [y18]; exact hD x (y04 _ hx)), zuo (hD d (y05 ..)), y13, beq_iff_eq, y0j]
  constructor
  ·rintro ((h | h) | h)
   ·exact .inl h
   ·exact .inr (.inl h.symm)
   ·exact .inr (.inr h)
  ·rintro (h | h | h)
   ·exact .inl (.inl h)
   ·exact .inl (.inr h.symm)
   ·exact .inr h
inductive Pin (E : List (Nat × Nat)) (D : List Nat) (x : Nat) : Nat → Prop
 | refl (h : x ∈ D) : Pin E D x x
 | step {u v : Nat} (p : Pin E D x u) (e : (u, v) ∈ E) (h : v ∈ D) : Pin E D x v
theorem Pin.mono {E : List (Nat × Nat)} {D D' : List Nat} {x y : Nat} (h : ∀ d ∈ D, d ∈ D') (p : Pin E D x y) : Pin E D' x y := by
 induction p with
 | refl hx => exact .refl (h _ hx)
 | step p e hv ih => exact .step ih e (h _ hv)
theorem Pin.fst {E : List (Nat × Nat)} {D : List Nat} {x y : Nat} (p : Pin E D x y) : x ∈ D := by
 induction p with
 | refl hx => exact hx
 | step _ _ _ ih => exact ih
theorem Pin.snd {E : List (Nat × Nat)} {D : List Nat} {x y : Nat} (p : Pin E D x y) : y ∈ D := by
 cases p with
 | refl hx => exact hx
 | step _ _ h => exact h
theorem Pin.trans {E : List (Nat × Nat)} {D : List Nat} {x y z : Nat} (p : Pin E D x y) (q : Pin E D y z) : Pin E D x z := by
 induction q with
 | refl _ => exact p
 | step _ e h ih => exact .step ih e h
theorem Pin.walk {E : List (Nat × Nat)} {D : List Nat} {x y : Nat} (p : Pin E D x y) : ∃ k, Wk E k x y := by
 induction p with
 | refl _ => exact ⟨0, .refl _⟩
 | step _ e _ ih =>
  obtain ⟨k, w⟩ := ih
  exact ⟨k + 1, .step w e⟩
inductive Vis (E : List (Nat × Nat)) (m : Nat) : List Bool → List Nat → List Nat → Prop
 | nil (s : List Bool) : Vis E m s [] []
 | skip {s : List Bool} {l D : List Nat} {x : Nat} (h : Vis E m s l D) (hx : gB (mrk s D) x = true) : Vis E m s (l ++ [x]) D
 | go {s : List Bool} {l D D' : List Nat} {x : Nat} (h : Vis E m s l D) (hx : gB (mrk s D) x = false) (h' : Vis E m ((mrk s D).set x true) (nbr E m x) D') : Vis E m s (l ++ [x]) (D ++ (D' ++ [x]))
structure VP (E : List (Nat × Nat)) (m : Nat) (s : List Bool) (l D : List Nat) : Prop where
 nd : D.Nodup
 new : ∀ d ∈ D, gB s d = false
 lt : ∀ d ∈ D, d < m
 src : ∀ d ∈ D, ∃ y ∈ l, Pin E D y d
 out : ∀ d ∈ D, ∀ w, (d, w) ∈ E → gB s w = true ∨ w ∈ D
 all : ∀ y ∈ l, gB s y = true ∨ y ∈ D
 kos : ∀ x v, Pin E D x v → ∃ y, Pin E D x y ∧ Pin E D y x ∧ D.idxOf x ≤ D.idxOf y ∧ D.idxOf v ≤ D.idxOf y
theorem zdt {A B : List Nat} {x : Nat} (h : x ∈ A) : (A ++ B).idxOf x = A.idxOf x := by rw [List.idxOf_append, if_pos h]
theorem zcv {A B : List Nat} {x : Nat} (h : x ∉ A) : (A ++ B).idxOf x = B.idxOf x + A.length := by rw [List.idxOf_append, if_neg h]
theorem zhm {A : List Nat} {x : Nat} (h : x ∈ A) : A.idxOf x < A.length := List.idxOf_lt_length_iff.2 h
theorem VP.one {E : List (Nat × Nat)} {m : Nat} {s : List Bool} {x : Nat} {D' : List Nat} (hb : ∀ u v, (u, v) ∈ E → u < m ∧ v < m) (hs : s.length = m) (hx : x < m) (h0 : gB s x = false) (h : VP E m (s.set x true) (nbr E m x) D') : VP E m s [x] (D' ++ [x]) := by
 have hmem : ∀ w, w ∈ nbr E m x ↔ (x, w) ∈ E := fun w => zcy fun u v h => (hb u v h).2
 have hg : ∀ w, gB (s.set x true) w = true ↔ gB s w = true ∨ w = x := fun w => by
  rw [zuo (by rw [hs]; exact hx), y13, beq_iff_eq]
  exact ⟨fun h => h.imp_right Eq.symm, fun h => h.imp_right Eq.symm⟩
 have hxD : x ∉ D' := fun hm => by
  have := h.new x hm
  rw [(hg x).2 (.inr rfl)] at this
  cases this
 have hmx : x ∈ D' ++ [x] := by simp
 have hml : ∀ d ∈ D', d ∈ D' ++ [x] := fun d hd => y0p _ hd
 have hto : ∀ d ∈ D' ++ [x], Pin E (D' ++ [x]) x d := fun d hd => by
  rcases y0q.1 hd with hd | hd
  ·obtain ⟨y, hy, p⟩ := h.src d hd
   exact (Pin.step (.refl hmx) ((hmem y).1 hy) (hml y p.fst)).trans (p.mono hml)
  ·obtain rfl := y0e.1 hd
   exact .refl hmx
 refine ⟨zkj h.nd hxD, fun d hd => ?_, fun d hd => ?_, fun d hd => ⟨x, by simp, hto d hd⟩, fun d hd w hw => ?_, fun y hy => .inr (by rw [y0e.1 hy]; exact hmx), fun a b p => ?_⟩
 ·rcases y0q.1 hd with hd | hd
  ·cases hc : gB s d with
   | false => rfl
   | true =>
    have := h.new d hd
    rw [(hg d).2 (.inl hc)] at this
    cases this
  ·rw [y0e.1 hd]; exact h0
 ·rcases y0q.1 hd with hd | hd
  ·exact h.lt d hd
  ·rw [y0e.1 hd]; exact hx
 ·have hw2 : gB (s.set x true) w = true ∨ w ∈ D' := by
   rcases y0q.1 hd with hd | hd
   ·exact h.out d hd w hw
   ·rw [y0e.1 hd] at hw
    exact h.all w ((hmem w).2 hw)
  rcases hw2 with hw2 | hw2
  ·rcases (hg w).1 hw2 with hw2 | rfl
   ·exact .inl hw2
   ·exact .inr hmx
  ·exact .inr (hml w hw2)
 ·have key : Pin E D' a b ∨ Pin E (D' ++ [x]) a x := by
   induction p with
   | refl ha =>
    rcases y0q.1 ha with ha | ha
    ·exact .inl (.refl ha)
    ·rw [y0e.1 ha]; exact .inr (.refl hmx)
   | step p e hv ih =>
    rcases ih with ih | ih
    ·rcases y0q.1 hv with hv2 | hv2
     ·exact .inl (.step ih e hv2)
     ·rw [y0e.1 hv2] at e
      exact .inr (.step p e hmx)
    ·exact .inr ih
  rcases key with q | q
  ·obtain ⟨y, q1, q2, q3, q4⟩ := h.kos a b q
   refine ⟨y, q1.mono hml, q2.mono hml, ?_, ?_⟩
   ·rw [zdt q.fst, zdt q2.fst]; exact q3
   ·rw [zdt q.snd, zdt q2.fst]; exact q4
  ·refine ⟨x, q, hto a p.fst, ?_, ?_⟩
   ·have := zhm p.fst
    rw [zcv hxD (B := [x])]
    rw [y0k, y1a] at this
    omega
   ·have := zhm p.snd
    rw [zcv hxD (B := [x])]
    rw [y0k, y1a] at this
    omega
theorem VP.app {E : List (Nat × Nat)} {m : Nat} {s : List Bool} {l l' A B : List Nat} (hs : s.length = m) (h : VP E m s l A) (h' : VP E m (mrk s A) l' B) : VP E m s (l ++ l') (A ++ B) := by
 have hg := zun A s fun d hd => by rw [hs]; exact h.lt d hd
 have hl : ∀ d ∈ A, d ∈ A ++ B := fun d hd => y0p _ hd
 have hr : ∀ d ∈ B, d ∈ A ++ B := fun d hd => y1m _ hd
 have hdis : ∀ d ∈ B, d ∉ A := fun d hd ha => by
  have := h'.new d hd
  rw [(hg d).2 (.inr ha)] at this
  cases this
 have hnew : ∀ d ∈ A ++ B, gB s d = false := fun d hd => by
  rcases y0q.1 hd with hd | hd
  ·exact h.new d hd
  ·cases hc : gB s d with
   | false => rfl
   | true =>
    have := h'.new d hd
    rw [(hg d).2 (.inl hc)] at this
    cases this
 refine ⟨?_, hnew, fun d hd => ?_, fun d hd => ?_, fun d hd w hw => ?_, fun y hy => ?_, fun a b p => ?_⟩
 ·rw [List.nodup_append]
  exact ⟨h.nd, h'.nd, fun a ha b hb e => hdis b hb (e ▸ ha)⟩
 ·rcases y0q.1 hd with hd | hd
  ·exact h.lt d hd
  ·exact h'.lt d hd
 ·rcases y0q.1 hd with hd | hd
  ·obtain ⟨y, hy, p⟩ := h.src d hd
   exact ⟨y, y0p _ hy, p.mono hl⟩
  ·obtain ⟨y, hy, p⟩ := h'.src d hd
   exact ⟨y, y1m _ hy, p.mono hr⟩
 ·rcases y0q.1 hd with hd | hd
  ·exact (h.out d hd w hw).imp_right (hl w)
  ·rcases h'.out d hd w hw with h2 | h2
   ·exact ((hg w).1 h2).imp_right (hl w)
   ·exact .inr (hr w h2)
 ·rcases y0q.1 hy with hy | hy
  ·exact (h.all y hy).imp_right (hl y)
  ·rcases h'.all y hy with h2 | h2
   ·exact ((hg y).1 h2).imp_right (hl y)
   ·exact .inr (hr y h2)
 ·have inA : a ∈ A → Pin E A a b := fun ha => by
   induction p with
   | refl _ => exact .refl ha
   | @step u v p e hv ih =>
    refine .step ih e ?_
    rcases h.out u ih.snd v e with h2 | h2
    ·rw [hnew v hv] at h2; cases h2
    ·exact h2
  rcases y0q.1 p.fst with ha | ha
  ·have q := inA ha
   obtain ⟨y, q1, q2, q3, q4⟩ := h.kos a b q
   refine ⟨y, q1.mono hl, q2.mono hl, ?_, ?_⟩
   ·rw [zdt q.fst, zdt q2.fst]; exact q3
   ·rw [zdt q.snd, zdt q2.fst]; exact q4
  ·have key : Pin E B a b ∨ b ∈ A := by
    clear inA
    induction p with
    | refl _ => exact .inl (.refl ha)
    | @step u v p e hv ih =>
     rcases y0q.1 hv with hv | hv2
     ·exact .inr hv
     ·rcases ih with ih | ih
      ·exact .inl (.step ih e hv2)
      ·rcases h.out u ih v e with h2 | h2
       ·rw [hnew v hv] at h2; cases h2
       ·exact .inr h2
   rcases key with q | hbA
   ·obtain ⟨y, q1, q2, q3, q4⟩ := h'.kos a b q
    refine ⟨y, q1.mono hr, q2.mono hr, ?_, ?_⟩
    ·rw [zcv (hdis a q.fst), zcv (hdis y q2.fst)]; omega
    ·rw [zcv (hdis b q.snd), zcv (hdis y q2.fst)]; omega
   ·obtain ⟨y, q1, q2, q3, _⟩ := h'.kos a a (.refl ha)
    refine ⟨y, q1.mono hr, q2.mono hr, ?_, ?_⟩
    ·rw [zcv (hdis a ha), zcv (hdis y q2.fst)]; omega
    ·have := zhm hbA
     rw [zdt hbA, zcv (hdis y q2.fst)]; omega
theorem zxf {E : List (Nat × Nat)} {m : Nat} (hb : ∀ u v, (u, v) ∈ E → u < m ∧ v < m) {s : List Bool} {l D : List Nat} (h : Vis E m s l D) : s.length = m → (∀ y ∈ l, y < m) → VP E m s l D := by
 induction h with
 | nil s => exact fun _ _ => ⟨List.nodup_nil, fun d h => absurd h y0i, fun d h => absurd h y0i, fun d h => absurd h y0i, fun d h => absurd h y0i, fun d h => absurd h y0i, fun x v p => absurd p.fst y0i⟩
 | @skip s l D x h hx ih =>
  intro hs hl
  have v := ih hs fun y hy => hl y (y0p _ hy)
  have hg := zun D s fun d hd => by rw [hs]; exact v.lt d hd
  refine ⟨v.nd, v.new, v.lt, fun d hd => ?_, v.out, fun y hy => ?_, v.kos⟩
  ·obtain ⟨y, hy, p⟩ := v.src d hd
   exact ⟨y, y0p _ hy, p⟩
  ·rcases y0q.1 hy with hy | hy
   ·exact v.all y hy
   ·rw [y0e.1 hy]
    exact (hg x).1 hx
 | @go s l D D' x h hx h' ih ih' =>
  intro hs hl
  have v := ih hs fun y hy => hl y (y0p _ hy)
  have hxm := hl x (by simp)
  have v' := ih' (by rw [y18, zji, hs]) fun y hy => (hb _ _ ((zcy fun u v h => (hb u v h).2).1 hy)).2
  exact v.app hs (VP.one hb (by rw [zji, hs]) hxm hx v')
def gN (l : List Nat) (i : Nat) : Nat := l.getD i 0
theorem gN_at {l : List Nat} {i : Nat} (h : i < l.length) : l[i] = gN l i := by
 unfold gN
 rw [y0c, y06 h]
 rfl
def Rch (E : List (Nat × Nat)) (x y : Nat) : Prop := ∃ k, Wk E k x y
theorem Rch.refl (E : List (Nat × Nat)) (x : Nat) : Rch E x x := ⟨0, .refl x⟩
theorem Rch.trans {E : List (Nat × Nat)} {x y z : Nat} (a : Rch E x y) (b : Rch E y z) : Rch E x z := by
 obtain ⟨k, p⟩ := a
 obtain ⟨j, q⟩ := b
 exact ⟨k + j, p.trans q⟩
theorem Rch.edge {E : List (Nat × Nat)} {x y : Nat} (e : (x, y) ∈ E) : Rch E x y := ⟨1, .step (.refl x) e⟩
def Mut (E : List (Nat × Nat)) (x y : Nat) : Prop := Rch E x y ∧ Rch E y x
theorem Mut.symm {E : List (Nat × Nat)} {x y : Nat} (h : Mut E x y) : Mut E y x := ⟨h.2, h.1⟩
theorem Mut.trans {E : List (Nat × Nat)} {x y z : Nat} (a : Mut E x y) (b : Mut E y z) : Mut E x z := ⟨a.1.trans b.1, b.2.trans a.2⟩
structure Cls (E : List (Nat × Nat)) (m : Nat) (C : List Nat) : Prop where
 nd : C.Nodup
 lt : ∀ d ∈ C, d < m
 len : C.length = m
 kos : ∀ x v, x < m → Rch E x v → ∃ y, Mut E x y ∧ y ∈ C ∧ C.idxOf x ≤ C.idxOf y ∧ C.idxOf v ≤ C.idxOf y
theorem gB_rep (m w : Nat) : gB (List.replicate m false) w = false := by
 unfold gB
 rw [y0c, y2q]
 split <;> rfl
theorem cls_ok {E : List (Nat × Nat)} {m : Nat} {C : List Nat} (hb : ∀ u v, (u, v) ∈ E → u < m ∧ v < m) (h : Vis E m (List.replicate m false) (List.range m) C) : Cls E m C := by
 have v := zxf hb h (y15 ..) fun y hy => y0g.1 hy
 have hall : ∀ y, y < m → y ∈ C := fun y hy => by
  rcases v.all y (y0g.2 hy) with h2 | h2
  ·rw [gB_rep] at h2; cases h2
  ·exact h2
 have h1 := zda (a := C) (b := List.range m) v.nd fun x hx => y0g.2 (v.lt x hx)
 have h2 := zda (a := List.range m) (b := C) y2f fun x hx => hall x (y0g.1 hx)
 rw [y0v] at h1 h2
 refine ⟨v.nd, v.lt, by omega, fun x y hx r => ?_⟩
 obtain ⟨k, w⟩ := r
 have p : Pin E C x y := by
  induction w with
  | refl => exact .refl (hall _ hx)
  | step w e ih => exact .step (ih hx) e (hall _ (hb _ _ e).2)
 obtain ⟨z, q1, q2, q3, q4⟩ := v.kos x y p
 exact ⟨z, ⟨q1.walk, q2.walk⟩, q1.snd, q3, q4⟩
def bsG (g : List Int) : List Bool := g.map fun z => decide (0 ≤ z)
theorem zum (g : List Int) (w : Nat) : gB (bsG g) w = decide (0 ≤ gI g w) := by
 unfold gB bsG gI
 rw [y0c, y0c, y0f]
 cases g[w]? <;> rfl
def zjr (k : Int) (g : List Int) (D : List Nat) : List Int := D.foldl (fun g v => g.set v k) g
theorem zm4 (k : Int) : ∀ (D : List Nat) (g : List Int), (zjr k g D).length = g.length
 | [], _ => rfl
 | d :: D, g => by
  show (zjr k (g.set d k) D).length = _
  rw [zm4 k D, y18]
theorem zup (k : Int) : ∀ (D : List Nat) (g : List Int), (∀ d ∈ D, d < g.length) → ∀ w, gI (zjr k g D) w = if w ∈ D then k else gI g w
 | [], g, _, w => by rw [if_neg y0i]; rfl
 | d :: D, g, hD, w => by
  show gI (zjr k (g.set d k) D) w = _
  rw [zup k D _ (fun x hx => by rw [y18]; exact hD x (y04 _ hx)), zel (hD d (y05 ..))]
  by_cases c : w ∈ D
  ·rw [if_pos c, if_pos (y04 _ c)]
  ·rw [if_neg c]
   by_cases e : d = w
   ·rw [if_pos e, if_pos (by rw [e]; exact y05 ..)]
   ·rw [if_neg e, if_neg fun h => ?_]
    rcases y0j.1 h with h | h
    ·exact e h.symm
    ·exact c h
theorem zpz {k : Int} (hk : 0 ≤ k) : ∀ (D : List Nat) (g : List Int), bsG (zjr k g D) = mrk (bsG g) D
 | [], _ => rfl
 | d :: D, g => by
  show bsG (zjr k (g.set d k) D) = mrk ((bsG g).set d true) D
  rw [zpz hk D]
  congr 1
  unfold bsG
  rw [List.map_set]
  congr 1
  exact decide_eq_true hk
structure Grp (E : List (Nat × Nat)) (m : Nat) (C : List Nat) (k : Nat) (g : List Int) : Prop where
 len : g.length = m
 low : ∀ v, gI g v = -1 ∨ ((k : Int) ≤ gI g v ∧ gI g v < m)
 pre : ∀ x y, (x, y) ∈ E → 0 ≤ gI g y → 0 ≤ gI g x
 same : ∀ x y, 0 ≤ gI g x → 0 ≤ gI g y → (gI g x = gI g y ↔ Mut E x y)
 done : ∀ i, k ≤ i → i < m → 0 ≤ gI g (gN C i)
theorem Grp.start {E : List (Nat × Nat)} {m : Nat} {C : List Nat} : Grp E m C m (List.replicate m (-1)) := by
 have hr : ∀ v, gI (List.replicate m (-1 : Int)) v = -1 := fun v => by
  unfold gI
  rw [y0c, y2q]
  split <;> rfl
 exact ⟨y15 .., fun v => .inl (hr v), fun x y _ h => by rw [hr] at h; omega, fun x y h => by rw [hr] at h; omega, fun i h1 h2 => by omega⟩
theorem Grp.back {E : List (Nat × Nat)} {m k : Nat} {C : List Nat} {g : List Int} (h : Grp E m C k g) {x y : Nat} (r : Rch E x y) : 0 ≤ gI g y → 0 ≤ gI g x := by
 obtain ⟨j, w⟩ := r
 induction w with
 | refl => exact id
 | step w e ih => exact fun hy => ih (h.pre _ _ e hy)
theorem Grp.step {E : List (Nat × Nat)} {m k : Nat} {C D : List Nat} {g : List Int} (hb : ∀ u v, (u, v) ∈ E → u < m ∧ v < m) (hC : Cls E m C) (hk : k < m) (h : Grp E m C (k + 1) g) (hD : Vis (rvE E) m (bsG g) [gN C k] D) : Grp E m C k (zjr k g D) := by
 have hkC : k < C.length := by rw [hC.len]; exact hk
 have hck : gN C k = C[k] := by
  unfold gN
  rw [y0c, y06 hkC]
  rfl
 have hcm : gN C k < m := by rw [hck]; exact hC.lt _ (y0y hkC)
 have hidx : C.idxOf (gN C k) = k := by rw [hck]; exact hC.nd.idxOf_getElem k hkC
 generalize hv : gN C k = v at *
 have P := zxf (zkr hb) hD (by unfold bsG; rw [y07]; exact h.len) fun y hy => by rw [y0e.1 hy]; exact hcm
 have hset := zup (k : Int) D g fun d hd => by rw [h.len]; exact P.lt d hd
 have hnew : ∀ d ∈ D, gI g d = -1 := fun d hd => by
  have := P.new d hd
  rw [zum, decide_eq_false_iff_not] at this
  rcases h.low d with h2 | h2
  ·exact h2
  ·omega
 -- what is found leads to the vertex
 have hto : ∀ d ∈ D, Rch E d v := fun d hd => by
  obtain ⟨y, hy, p⟩ := P.src d hd
  rw [y0e.1 hy] at p
  obtain ⟨j, w⟩ := p.walk
  exact ⟨j, w.rev fun a b h => zlt.1 h⟩
 -- what leads to what is found is grouped, or found
 have hpre : ∀ x y, (x, y) ∈ E → y ∈ D → 0 ≤ gI g x ∨ x ∈ D := fun x y e hy => by
  rcases P.out y hy x (zlt.2 e) with h2 | h2
  ·rw [zum, decide_eq_true_eq] at h2; exact .inl h2
  ·exact .inr h2
 -- and all that is found is led to from the vertex
 have hfrom : ∀ d ∈ D, Mut E d v := fun d hd => by
  refine ⟨hto d hd, ?_⟩
  obtain ⟨y, my, hyC, h1, h2⟩ := hC.kos d v (P.lt d hd) (hto d hd)
  have hyg : ¬ 0 ≤ gI g y := fun h3 => by
   have := h.back my.1 h3
   rw [hnew d hd] at this
   omega
  have hyk : C.idxOf y ≤ k := by
   refine Nat.le_of_not_lt fun hlt => hyg ?_
   have hlen := zhm hyC
   have := h.done (C.idxOf y) hlt (by rw [hC.len] at hlen; exact hlen)
   rw [show gN C (C.idxOf y) = y from by
    unfold gN
    rw [y0c, y06 hlen, List.getElem_idxOf hlen]
    rfl] at this
   exact this
  have hyv : y = v := by
   have hlen := zhm hyC
   have e : C.idxOf y = C.idxOf v := by omega
   have a1 := List.getElem_idxOf hlen
   rw [← a1]
   have hvC : v ∈ C := by rw [hck]; exact y0y hkC
   have a2 := List.getElem_idxOf (zhm hvC)
   rw [← a2]
   congr 1
  rw [← hyv]
  exact my.2
 have hvD : 0 ≤ gI g v ∨ v ∈ D := by
  rcases P.all v (by simp) with h2 | h2
  ·rw [zum, decide_eq_true_eq] at h2; exact .inl h2
  ·exact .inr h2
 have hval : ∀ x, 0 ≤ gI (zjr k g D) x → x ∈ D ∨ (x ∉ D ∧ 0 ≤ gI g x ∧ gI (zjr k g D) x = gI g x) := fun x hx => by
  by_cases c : x ∈ D
  ·exact .inl c
  ·rw [hset, if_neg c] at hx
   exact .inr ⟨c, hx, by rw [hset, if_neg c]⟩
 have hno : ∀ x y, x ∈ D → 0 ≤ gI g y → ¬ Mut E x y := fun x y hx hy mu => by
  have := h.back mu.1 hy
  rw [hnew x hx] at this
  omega
 refine ⟨by rw [zm4]; exact h.len, fun x => ?_, fun x y e hy => ?_, fun x y hx hy => ?_, fun i h1 h2 => ?_⟩
 ·rw [hset]
  split
  ·right; omega
  ·rcases h.low x with h2 | h2
   ·exact .inl h2
   ·right; omega
 ·rcases hval y hy with h2 | ⟨_, h2, _⟩
  ·rcases hpre x y e h2 with h3 | h3
   ·rw [hset]; split <;> omega
   ·rw [hset, if_pos h3]; omega
  ·have h3 := h.pre x y e h2
   rw [hset]; split <;> omega
 ·rcases hval x hx with h2 | ⟨h2, h3, h4⟩
  ·rcases hval y hy with h5 | ⟨h5, h6, h7⟩
   ·rw [hset, hset, if_pos h2, if_pos h5]
    exact ⟨fun _ => (hfrom x h2).trans (hfrom y h5).symm, fun _ => rfl⟩
   ·rw [hset, if_pos h2, h7]
    constructor
    ·intro e
     rcases h.low y with h8 | h8 <;> omega
    ·intro mu
     exact absurd mu (hno x y h2 h6)
  ·rcases hval y hy with h5 | ⟨h5, h6, h7⟩
   ·rw [h4, hset, if_pos h5]
    constructor
    ·intro e
     rcases h.low x with h8 | h8 <;> omega
    ·intro mu
     exact absurd mu.symm (hno y x h5 h3)
   ·rw [h4, h7]
    exact h.same x y h3 h6
 ·by_cases e : i = k
  ·subst e
   rw [hv]
   rw [hset]
   split
   ·omega
   ·rename_i c
    exact hvD.resolve_right c
  ·have := h.done i (by omega) h2
   rw [hset]
   split <;> omega
section
variable {P : Program} {w0 : World} {N0 : Nat} {k : List Fr} {Q : Exit → AS → Prop} {pf : Kn} {ios : List Opr} {n nx ck : Nat} {mk : List (Nat × Nat)} {md : Md} {l : List (Nat × AV)} {hp : List (Nat × Nat × AObj)}
theorem o_mks {d sz bytes : Nat} {z : List AV} {a c : Arg} {lv cv : Int} {kd kc : IntKind} (ha : zaw a l = some (.int kd lv)) (hc : zaw c l = some (.int kc cv)) (hb : 0 ≤ lv ∧ lv ≤ cv ∧ cv ≤ 1048576 ∧ bytes ≤ 16777216)
  (go : Om P w0 N0 md pf ios (st n ((d, .ms nx ck sz 0 lv.toNat (some cv.toNat)) :: l) ((nx, ck, .cells (zf9 cv.toNat z)) :: hp) (nx + 1) (ck + 1) mk) k Q) (hx : Ops pf (st n l hp nx ck mk) (.mkslice sz bytes z a c) := by exact trivial) :
  Om P w0 N0 md pf (⟨some d, .mkslice sz bytes z a c, none⟩ :: ios) (st n l hp nx ck mk) k Q :=
 zdl (by simp only [iop, zal, ha, hc, if_pos hb]; rfl) go hx
theorem zq {ic : IC} {q : Nat} (hq : mk.length = q) (live : zfz) (fz : List (Nat × Nat × List AV)) (l' : List (Nat × AV)) (hok : okW (fz.map (·.1)) live = true) (hf : RnF hp fz) (h1 : RnH live fz hp live) (h2 : RnA live fz l l') (h : Zm P w0 N0 none ic (st n l' (zew 0 live ++ zf6 live.length q) (q + live.length) 1 (zho live.length q)) k Q) : Zm P w0 N0 none ic (st n l hp nx ck mk) k Q := by
 subst hq
 exact zxr live fz l' hok hf h1 h2 h
theorem sq {l' : List (Nat × AV)} {hp' : List (Nat × Nat × AObj)} {nx' q : Nat} {mk' : List (Nat × Nat)} (hq : mk.length = q) (live : zfz) (fz : List (Nat × Nat × List AV)) (hh : hp' = zew 0 live ++ zf6 live.length q) (hx : nx' = q + live.length) (hm : mk' = zho live.length q) (hok : okW (fz.map (·.1)) live = true) (hf : RnF hp fz) (h1 : RnH live fz hp live) (h2 : RnA live fz l l') : Sub0 w0 N0 (st n l hp nx ck mk) (st n l' hp' nx' 1 mk') := by
 subst hq hm
 exact zgz live fz hh hx hok hf h1 h2
end
def zbr : IC → List (Code × Code)
 | .seq a b => zbr a ++ zbr b
 | .cond _ a b => zbr a ++ zbr b
 | .block _ b => zbr b
 | .loop b => zbr b
 | .rangeFunc _ _ ca cb _ _ => [(ca, cb)]
 | _ => []
theorem ze8 {S : AS} {id sp off : Nat} {v : AV} {cs ws : List AV} (h : Am.look id S.heap = some (sp, .cells cs)) (hlt : id < S.next) (hd : cs.drop off = v :: ws) : S.deref (.mptr id sp off) = some (v :: ws) := by
 simp only [AS.deref, h]
 rw [if_pos ⟨trivial, hlt⟩, hd]
theorem zhe {S : AS} {a b : Nat} {pa pb va vb : AV} {ra rb : List AV} (h1 : S.get a = some pa) (d1 : S.deref pa = some (va :: ra)) (h2 : S.get b = some pb) (d2 : S.deref pb = some (vb :: rb)) :
  S.res [.cell a none, .cell b none] = some (.tup [va, vb]) := by
 simp [AS.res, AS.resL, zp5, h1, h2, d1, d2]
theorem zcx : ∀ (ms : List (Nat × Nat)) (hp : List (Nat × Nat × AObj)) (k : Nat), (∀ z ∈ ms, z.1 ≠ k) → Am.look k (zff ms hp) = Am.look k hp
 | [], _, _, _ => rfl
 | z :: ms, hp, k, h => by
  rw [zhl, zcx ms _ k fun y hy => h y (y04 _ hy), zag, if_neg (h z (y05 ..))]
def cE (es : List (Int × Int)) : List (List AV) := es.map fun e => [.int .i64 e.1, .int .i64 e.2]
theorem zco (es : List (Int × Int)) : (cE es).length = es.length := y07 ..
theorem zq0 {es : List (Int × Int)} {i : Nat} (h : i < es.length) : (cE es)[((i : Nat) : Int).toNat]? = some [.int .i64 es[i].1, .int .i64 es[i].2] := by
 rw [y11, cE, y0f, y06 h]
 rfl
def cG (n : Int) (es : List (Int × Int)) : AV := .agg [.int .i64 n, .vs (cE es)]
def zgb (n v : Int) : Bool := decide (v < 0) || decide (v ≥ n)
def zjx (n : Int) (l : List Int) : Int := if l.any (zgb n) = true then 2 else 0
theorem znz (n x : Int) (l : List Int) : zjx n (x :: l) = if zgb n x = true then 2 else zjx n l := by
 unfold zjx
 rw [y2o]
 cases zgb n x <;> rfl
def zoj (n : Int) (es : List (Int × Int)) : Int := if es.any (fun e => zgb n e.1 || zgb n e.2) = true then 2 else 0
theorem zmz (n : Int) (e : Int × Int) (es : List (Int × Int)) : zoj n (e :: es) = if zjx n [e.1, e.2] = 0 then zoj n es else 2 := by
 unfold zoj zjx
 rw [y2o, y2o, y2o, List.any_nil, Bool.or_false]
 cases (zgb n e.1 || zgb n e.2) <;> rfl
theorem verE_two (n a b : Int) : zjx n [a, b] = 0 ∨ zjx n [a, b] = 2 := by
 unfold zjx
 split
 ·exact .inr rfl
 ·exact .inl rfl
def zgc (n : Int) (es : List (Int × Int)) : Int := if n < 0 then 2 else if n > 256 then 2 else if es.length > 4096 then 5 else zoj n es
theorem zl4 {n : Int} {es : List (Int × Int)} (h : n < 0) : zgc n es = 2 := by unfold zgc; rw [if_pos h]
theorem zl3 {n : Int} {es : List (Int × Int)} (h : n > 256) : zgc n es = 2 := by unfold zgc; rw [if_neg (by omega), if_pos h]
theorem zhy {n : Int} {es : List (Int × Int)} (h0 : ¬ n < 0) (h1 : ¬ n > 256) (h : es.length > 4096) : zgc n es = 5 := by unfold zgc; rw [if_neg h0, if_neg h1, if_pos h]
theorem ztv {n : Int} {es : List (Int × Int)} (h0 : ¬ n < 0) (h1 : ¬ n > 256) (h : ¬ es.length > 4096) : zgc n es = zoj n es := by unfold zgc; rw [if_neg h0, if_neg h1, if_neg h]
def b57_0 : IC := .seq (.region [oM 10 (.bin .lss (.t 9) (.t 8))] none)
 (.seq (.cond (.t 10) (.skip)
 (.exit 0))
 (.seq (.block 1 (.seq (.region [oM 11 (.idxs 1 (.t 7) (.t 9)),
  oN 12 11,
  oT 6 12] none)
 (.seq (.region [oT 13 6,
  oM 14 (.bin .lss (.t 13) (.c (.int .i64 0))),
  oT 15 14,
  ⟨(some 16), .mov (.t 6), some (15, false)⟩,
  ⟨(some 17), .faddr 0 (.t 2), some (15, false)⟩,
  ⟨(some 18), .load none (.t 17), some (15, false)⟩,
  ⟨(some 19), .bin .geq (.t 16) (.t 18), some (15, false)⟩,
  oM 20 (.pick (.t 15) (.c (.bool true)) (.t 19))] none)
 (.cond (.t 20) (.seq (.region [oM 4 (.mov (.c (.int .i64 2)))] none)
 (.ret))
 (.skip)))))
 (.region [oM 21 (.bin .add (.t 9) (.c (.int .i64 1))),
  oT 9 21] none)))
-- pneumatic/digraph.vertex
def ic57 : IC := .seq (.region [oM 2 (.box (.t 0)),
  oM 4 (.mov (.c (.int .i64 0)))] none)
 (.seq (.seq (.region [oT 7 1,
  oM 8 (.len false (.t 7)),
  oM 9 (.mov (.c (.int .i64 0)))] none)
 (.block 0 (.loop b57_0)))
 (.seq (.region [oM 4 (.mov (.c (.int .i64 0)))] none)
 (.ret)))
theorem fn57 : env0.fn 57 = some ⟨22, ic57, [.t 4]⟩ := by kernel_rfl
set_option maxHeartbeats 1000000 in
theorem zrf (n : Int) (es : List (Int × Int)) (l : List Int) (hl : l.length ≤ 1000000) : PF Try.prog 57 [cG n es, vsI l] (.int .i64 (zjx n l)) := by
 refine zb0 env0_ok fn57 [(0, .agg [.int .i64 n, .vs (cE es)]), (1, vsI l)] (by show 2 ≤ 22; decide) rfl fun w0 N0 => ?_
 unfold ic57
 refine zsr rfl (zcz rfl rfl (za3 rfl (onu ?_)))
 refine zbm [] [(0, 0, [.int .i64 n, .vs (cE es)])] [(1, vsI l), (2, .vptr [.int .i64 n, .vs (cE es)])] rfl (.cons rfl rfl .nil) .nil (.cons rfl (.same rfl) (.cons rfl (.fptr rfl rfl) .nil)) ?_
 have hlen : (l.map fun z => ([.int .i64 z] : List AV)).length = l.length := y07 ..
 repeat (first | refine za7 ?_ | refine za0 rfl ?_ | refine za5 ?_ | refine za4 ?_ | refine zab ?_ | refine za3 rfl ?_ | refine zbo rfl rfl ?_)
 refine zbv (fun mm S => ∃ i, mm = l.length - i ∧ i ≤ l.length ∧ zjx n (l.drop i) = zjx n l ∧ S = st 22 [(2, .vptr [.int .i64 n, .vs (cE es)]), (7, vsI l), (8, .int .i64 ((l.map fun z => ([.int .i64 z] : List AV)).length : Nat)), (9, .int .i64 (i : Nat))] [] 0 1) l.length
  (zaa (.cons rfl (.cons rfl (.cons rfl (.cons rfl .nil))))) ⟨0, rfl, y12 _, rfl, rfl⟩ ?_
 rintro mm S ⟨i, rfl, hi, hv, rfl⟩
 unfold b57_0
 repeat (first | refine za7 ?_ | refine za0 rfl ?_)
 refine zax rfl rfl rfl (fun h3 => ?_) fun h3 => ?_
 ·have hlt : i < l.length := by
   have h4 : ((i : Nat) : Int) < (((l.map fun z => ([.int .i64 z] : List AV)).length : Nat) : Int) := of_decide_eq_true h3
   omega
  have w1 : IntKind.wrap .i64 (((i : Nat) : Int) + 1) = ((i + 1 : Nat) : Int) := zam i (by omega)
  have hg := zei hlt
  have hs : zjx n (l.drop i) = if zgb n l[i] = true then 2 else zjx n (l.drop (i + 1)) := by rw [y1n hlt, znz]
  unfold zgb at hs
  generalize l[i] = x at *
  repeat (first | refine za7 ?_ | refine za0 rfl ?_ | refine za5 ?_ | refine za4 ?_ | refine zab ?_ | refine zaf ?_ | refine zc8 rfl ?_ | refine za3 rfl ?_ | refine zad rfl rfl ?_ | refine zb7 rfl rfl (by omega) (by assumption) rfl ?_)
  refine zax rfl rfl rfl (fun h5 => ?_) fun h5 => ?_
  ·have h5 : decide (x < 0) = true := h5
   rw [h5, Bool.true_or, if_pos rfl, hv] at hs
   repeat (first | refine za7 ?_ | refine za0 rfl ?_ | refine za5 ?_ | refine za4 ?_ | refine zc8 rfl ?_ | refine zao ?_ | refine za9 ?_ | refine zaj ?_ | refine zkk rfl rfl ?_ | refine za3 rfl ?_ | refine zbk rfl rfl ?_)
   exact zak ⟨.inr rfl, _, rfl, by rw [hs]; rfl⟩
  ·have h5 : decide (x < 0) = false := h5
   repeat (first | refine zh4 rfl ?_ | refine za3 rfl ?_ | refine zad rfl rfl ?_ | refine zai rfl rfl rfl ?_)
   refine zax rfl rfl rfl (fun h6 => ?_) fun h6 => ?_
   ·have h6 : decide (x ≥ n) = true := h6
    rw [h5, h6, y2y, if_pos rfl, hv] at hs
    repeat (first | refine za7 ?_ | refine za0 rfl ?_ | refine za5 ?_ | refine za4 ?_ | refine zc8 rfl ?_ | refine zao ?_ | refine za9 ?_ | refine zaj ?_ | refine za3 rfl ?_ | refine zbb rfl rfl ?_)
    exact zak ⟨.inr rfl, _, rfl, by rw [hs]; rfl⟩
   ·have h6 : decide (x ≥ n) = false := h6
    rw [h5, h6, if_neg (by decide), hv] at hs
    repeat (first | refine za0 rfl ?_ | refine za5 ?_ | refine za4 ?_ | refine zbl ?_ | refine zaf ?_ | refine zc7 rfl ?_ | refine za3 rfl ?_ | refine zbb rfl rfl ?_ | refine zb1 (op := .add) rfl rfl rfl ?_)
    rw [w1]
    exact zay (show l.length - (i + 1) < l.length - i by omega) (zaa (.cons rfl (.cons rfl (.cons rfl (.cons rfl .nil))))) ⟨i + 1, rfl, hlt, hs.symm, rfl⟩
 ·have hie : i = l.length := by
   have h4 : ¬ ((i : Nat) : Int) < (((l.map fun z => ([.int .i64 z] : List AV)).length : Nat) : Int) := of_decide_eq_false h3
   omega
  rw [hie, List.drop_length] at hv
  repeat (first | refine za7 ?_ | refine za5 ?_ | refine za4 ?_ | refine zc7 rfl ?_ | refine zbg ?_ | refine zac ?_)
  refine zdb ?_
  repeat (first | refine za7 ?_ | refine za0 rfl ?_ | refine za5 ?_ | refine za4 ?_ | refine zao ?_ | refine zbf ?_ | refine za3 rfl ?_)
  exact zak ⟨.inr rfl, _, rfl, by rw [← hv]; rfl⟩
def b40_1 : IC := .seq (.region [oM 24 (.bin .lss (.t 23) (.t 22))] none)
 (.seq (.cond (.t 24) (.skip)
 (.exit 1))
 (.seq (.block 2 (.seq (.region [oM 25 (.idxs 2 (.t 21) (.t 23)),
  oL 26 2 25,
  oM 4 (.alloc [.int .i64 0, .int .i64 0]),
  ⟨none, .store 2 (.t 4) (.t 26), none⟩] none)
 (.seq (.region [oL 27 2 1,
  oF 28 0 4,
  oN 29 28,
  oF 30 1 4,
  oN 31 30,
  oM 32 (.bslice 1 2 [.int .i64 0, .int .i64 0] [(0, 1, (.t 29)), (1, 1, (.t 31))]),
  oM 33 (.call (.c (.fn 57 [] [])) [(.t 27), (.t 32)]),
  oT 5 33] none)
 (.seq (.region [oT 34 5,
  oM 35 (.bin .neq (.t 34) (.c (.int .i64 0)))] none)
 (.cond (.t 35) (.seq (.region [oT 36 5,
  oT 2 36] none)
 (.ret))
 (.skip))))))
 (.region [oM 37 (.bin .add (.t 23) (.c (.int .i64 1))),
  oT 23 37] none)))
-- pneumatic/digraph.Check
def ic40 : IC := .seq (.region [oM 1 (.box (.t 0)),
  oM 2 (.mov (.c (.int .i64 0)))] none)
 (.seq (.block 0 (.seq (.region [oF 7 0 1,
  oN 8 7,
  oM 9 (.bin .lss (.t 8) (.c (.int .i64 0))),
  oT 10 9,
  ⟨(some 11), .faddr 0 (.t 1), some (10, false)⟩,
  ⟨(some 12), .load none (.t 11), some (10, false)⟩,
  ⟨(some 13), .bin .gtr (.t 12) (.c (.int .i64 256)), some (10, false)⟩,
  oM 14 (.pick (.t 10) (.c (.bool true)) (.t 13)),
  oT 6 14] none)
 (.cond (.t 6) (.seq (.region [oM 2 (.mov (.c (.int .i64 2)))] none)
 (.ret))
 (.seq (.region [oF 16 1 1,
  oN 17 16,
  oM 18 (.len false (.t 17)),
  oM 19 (.bin .gtr (.t 18) (.c (.int .i64 4096))),
  oT 15 19] none)
 (.cond (.t 15) (.seq (.region [oM 2 (.mov (.c (.int .i64 5)))] none)
 (.ret))
 (.skip))))))
 (.seq (.seq (.region [oF 20 1 1,
  oN 21 20,
  oM 22 (.len false (.t 21)),
  oM 23 (.mov (.c (.int .i64 0)))] none)
 (.block 1 (.loop b40_1)))
 (.seq (.region [oM 2 (.mov (.c (.int .i64 0)))] none)
 (.ret))))
theorem fn40 : env0.fn 40 = some ⟨38, ic40, [.t 2]⟩ := by kernel_rfl
set_option maxHeartbeats 2000000 in
theorem ztu (n : Int) (es : List (Int × Int)) : PF Try.prog 40 [cG n es] (.int .i64 (zgc n es)) := by
 have hcl := zco es
 refine zb0 env0_ok fn40 [(0, .agg [.int .i64 n, .vs (cE es)])] (by show 1 ≤ 38; decide) rfl fun w0 N0 => ?_
 unfold ic40
 refine zsr rfl (zcz rfl rfl (za3 rfl (onu ?_)))
 refine zbm [] [(0, 0, [.int .i64 n, .vs (cE es)])] [(1, .vptr [.int .i64 n, .vs (cE es)])] rfl (.cons rfl rfl .nil) .nil (.cons rfl (.fptr rfl rfl) .nil) ?_
 repeat (first | refine za7 ?_ | refine za0 rfl ?_ | refine zab ?_ | refine zad rfl rfl ?_ | refine zai rfl rfl rfl ?_)
 refine zax rfl rfl rfl (fun h => ?_) fun h => ?_
 ·repeat (first | refine za7 ?_ | refine za0 rfl ?_ | refine za5 ?_ | refine za4 ?_ | refine zc8 rfl ?_ | refine zao ?_ | refine za9 ?_ | refine zaj ?_ | refine zkk rfl rfl ?_ | refine za3 rfl ?_ | refine zbk rfl rfl ?_)
  exact zak ⟨.inr rfl, _, rfl, by rw [zl4 (of_decide_eq_true h)]; rfl⟩
 have h0 : ¬ n < 0 := of_decide_eq_false h
 repeat (first | refine zh4 rfl ?_ | refine za3 rfl ?_ | refine zad rfl rfl ?_ | refine zai rfl rfl rfl ?_)
 refine zax rfl rfl rfl (fun h => ?_) fun h => ?_
 ·repeat (first | refine za7 ?_ | refine za0 rfl ?_ | refine za5 ?_ | refine za4 ?_ | refine zc8 rfl ?_ | refine zao ?_ | refine za9 ?_ | refine zaj ?_ | refine za3 rfl ?_ | refine zbb rfl rfl ?_)
  exact zak ⟨.inr rfl, _, rfl, by rw [zl3 (of_decide_eq_true h)]; rfl⟩
 have h1 : ¬ n > 256 := of_decide_eq_false h
 repeat (first | refine za7 ?_ | refine za0 rfl ?_ | refine za5 ?_ | refine za4 ?_ | refine zc7 rfl ?_ | refine za3 rfl ?_ | refine zad rfl rfl ?_ | refine zai rfl rfl rfl ?_ | refine zbb rfl rfl ?_ | refine zbo rfl rfl ?_)
 refine zax rfl rfl rfl (fun h => ?_) fun h => ?_
 ·have h2 : (((cE es).length : Nat) : Int) > 4096 := of_decide_eq_true h
  repeat (first | refine za7 ?_ | refine za0 rfl ?_ | refine za5 ?_ | refine za4 ?_ | refine zc8 rfl ?_ | refine zao ?_ | refine za9 ?_ | refine zaj ?_ | refine za3 rfl ?_)
  exact zak ⟨.inr rfl, _, rfl, by rw [zhy h0 h1 (by omega)]; rfl⟩
 have h2 : ¬ (((cE es).length : Nat) : Int) > 4096 := of_decide_eq_false h
 rw [ztv h0 h1 (by omega)]
 repeat (first | refine za7 ?_ | refine za0 rfl ?_ | refine za5 ?_ | refine za4 ?_ | refine zbl ?_ | refine zab ?_ | refine zaf ?_ | refine zc7 rfl ?_ | refine za3 rfl ?_ | refine zad rfl rfl ?_ | refine zai rfl rfl rfl ?_ | refine zbo rfl rfl ?_)
 refine zbv (fun mm S => ∃ i, mm = es.length - i ∧ i ≤ es.length ∧ zoj n (es.drop i) = zoj n es ∧ S = st 38 [(1, .vptr [.int .i64 n, .vs (cE es)]), (21, .vs (cE es)), (22, .int .i64 ((cE es).length : Nat)), (23, .int .i64 (i : Nat))] [] 0 1) es.length
  (zaa (.cons rfl (.cons rfl (.cons rfl (.cons rfl .nil))))) ⟨0, rfl, y12 _, rfl, rfl⟩ ?_
 rintro mm S ⟨i, rfl, hi, hv, rfl⟩
 unfold b40_1
 repeat (first | refine za7 ?_ | refine za0 rfl ?_)
 refine zax rfl rfl rfl (fun h3 => ?_) fun h3 => ?_
 ·have hlt : i < es.length := by
   have h4 : ((i : Nat) : Int) < (((cE es).length : Nat) : Int) := of_decide_eq_true h3
   omega
  have w1 : IntKind.wrap .i64 (((i : Nat) : Int) + 1) = ((i + 1 : Nat) : Int) := zam i (by omega)
  have hg := zq0 hlt
  have hs : zoj n (es.drop i) = if zjx n [es[i].1, es[i].2] = 0 then zoj n (es.drop (i + 1)) else 2 := by rw [y1n hlt, zmz]
  generalize es[i].1 = a at *
  generalize es[i].2 = b at *
  have p56 := zrf n es [a, b] (by simp)
  repeat (first | refine za7 ?_ | refine za0 rfl ?_ | refine za5 ?_ | refine za4 ?_ | refine zab ?_ | refine zaf ?_ | refine zc8 rfl ?_ | refine zad rfl rfl ?_ | refine zb2 rfl rfl rfl rfl ?_ | refine zb3 rfl rfl rfl rfl rfl rfl rfl ?_ | refine zar rfl ?_ | refine zba ?_ | refine zb6 rfl rfl ?_ | refine zb7 rfl rfl (by omega) (by assumption) rfl ?_)
  refine zb9 rfl rfl p56 (fun _ => rfl) ?_
  rcases verE_two n a b with e | e
  ·rw [e] at hs
   rw [if_pos rfl, hv] at hs
   rw [e]
   repeat (first | refine za7 ?_ | refine za0 rfl ?_ | refine za5 ?_ | refine za4 ?_ | refine zbl ?_ | refine zaf ?_ | refine zc7 rfl ?_ | refine za3 rfl ?_ | refine zb1 (op := .add) rfl rfl rfl ?_ | refine zd5 rfl rfl rfl ?_)
   rw [w1]
   refine zay (show es.length - (i + 1) < es.length - i by omega) ?_ ⟨i + 1, rfl, hlt, hs.symm, rfl⟩
   exact zfv [] [] rfl rfl rfl .nil .nil (.cons rfl (.same rfl) (.cons rfl (.same rfl) (.cons rfl (.same rfl) (.cons rfl (.same rfl) .nil))))
  ·rw [e] at hs
   rw [if_neg (by decide), hv] at hs
   rw [e]
   repeat (first | refine za7 ?_ | refine za0 rfl ?_ | refine za5 ?_ | refine za4 ?_ | refine zc8 rfl ?_ | refine zao ?_ | refine za9 ?_ | refine zaj ?_ | refine za3 rfl ?_ | refine zf5 rfl rfl rfl ?_)
   exact zak ⟨.inr rfl, _, rfl, by rw [hs]; rfl⟩
 ·have hie : i = es.length := by
   have h4 : ¬ ((i : Nat) : Int) < (((cE es).length : Nat) : Int) := of_decide_eq_false h3
   omega
  rw [hie, List.drop_length] at hv
  repeat (first | refine za7 ?_ | refine za5 ?_ | refine za4 ?_ | refine zc7 rfl ?_ | refine zbg ?_ | refine zac ?_)
  refine zdb ?_
  repeat (first | refine za7 ?_ | refine za0 rfl ?_ | refine za5 ?_ | refine za4 ?_ | refine zao ?_ | refine zbf ?_ | refine za3 rfl ?_)
  exact zak ⟨.inr rfl, _, rfl, by rw [← hv]; rfl⟩
def upd {α : Type} (f : Nat → α) (a : Nat) (x : α) : Nat → α := fun v => if v = a then x else f v
theorem zb4 {α : Type} (f : Nat → α) (a : Nat) (x : α) : upd f a x a = x := if_pos rfl
theorem zae {α : Type} (f : Nat → α) {a v : Nat} (x : α) (h : v ≠ a) : upd f a x v = f v := if_neg h
theorem map_set {α : Type} (f : Nat → α) (m a : Nat) (x : α) : ((List.range m).map f).set a x = (List.range m).map (upd f a x) := by
 refine List.ext_getElem (by simp) fun i h1 h2 => ?_
 rw [List.getElem_set, List.getElem_map, List.getElem_map, List.getElem_range]
 by_cases h : a = i
 ·subst h
  rw [if_pos rfl, zb4]
 ·rw [if_neg h, zae _ _ (fun e => h e.symm)]
structure Jn (m : Nat) (nz : Nat → Bool) (cv : Nat → AV) (C : Nat → List Int) (ids sps : Nat → Nat) (hp : List (Nat × Nat × AObj)) (nx : Nat) : Prop where
 top : Am.look 0 hp = some (1, .cells ((List.range m).map cv))
 cell : ∀ v, v < m → nz v = true → Am.look (ids v) hp = some (sps v, .cells ((C v).map (AV.int .i64)))
 pos : ∀ v, v < m → nz v = true → 0 < ids v ∧ ids v < nx
 inj : ∀ u v, u < m → v < m → nz u = true → nz v = true → ids u = ids v → u = v
 nx0 : 0 < nx
section
variable {m : Nat} {nz : Nat → Bool} {cv : Nat → AV} {C : Nat → List Int} {ids sps : Nat → Nat} {hp : List (Nat × Nat × AObj)} {nx : Nat}
theorem Jn.fresh (h : Jn m nz cv C ids sps hp nx) (ck : Nat) (o : AObj) : Jn m nz cv C ids sps ((nx, ck, o) :: hp) (nx + 1) :=
 ⟨by rw [za8, if_neg (by have := h.nx0; omega)]; exact h.top, fun v hv hz => by rw [za8, if_neg (by have := h.pos v hv hz; omega)]; exact h.cell v hv hz,
  fun v hv hz => by have := h.pos v hv hz; omega, h.inj, Nat.succ_pos _⟩
theorem Jn.junk (h : Jn m nz cv C ids sps hp nx) {j : Nat} (h0 : j ≠ 0) (hj : ∀ v, v < m → nz v = true → ids v ≠ j) (x : Nat × AObj) : Jn m nz cv C ids sps (zaz j x hp) nx :=
 ⟨by rw [za1, if_neg h0]; exact h.top, fun v hv hz => by rw [za1, if_neg fun e => hj v hv hz e.symm]; exact h.cell v hv hz, h.pos, h.inj, h.nx0⟩
theorem Jn.block (h : Jn m nz cv C ids sps hp nx) {a : Nat} (ha : a < m) (hz : nz a = true) (sp : Nat) (D : List Int) : Jn m nz cv (upd C a D) ids (upd sps a sp) (zaz (ids a) (sp, .cells (D.map (AV.int .i64))) hp) nx := by
 refine ⟨by rw [za1, if_neg (by have := h.pos a ha hz; omega)]; exact h.top, fun v hv hzv => ?_, h.pos, h.inj, h.nx0⟩
 rw [za1]
 by_cases e : v = a
 ·subst e
  rw [if_pos rfl, zb4, zb4]
 ·rw [if_neg fun e2 => e (h.inj v a hv ha hzv hz e2.symm), zae _ _ e, zae _ _ e]
  exact h.cell v hv hzv
theorem Jn.cset (h : Jn m nz cv C ids sps hp nx) (a : Nat) (x : AV) : Jn m nz (upd cv a x) C ids sps (zaz 0 (1, .cells (((List.range m).map cv).set a x)) hp) nx :=
 ⟨by rw [za1, if_pos rfl, map_set], fun v hv hz => by rw [za1, if_neg (by have := h.pos v hv hz; omega)]; exact h.cell v hv hz, h.pos, h.inj, h.nx0⟩
theorem Jn.add (h : Jn m nz cv C ids sps hp nx) (a ck : Nat) (D : List Int) : Jn m (upd nz a true) cv (upd C a D) (upd ids a nx) (upd sps a ck) ((nx, ck, .cells (D.map (AV.int .i64))) :: hp) (nx + 1) := by
 refine ⟨by rw [za8, if_neg (by have := h.nx0; omega)]; exact h.top, fun v hv hz => ?_, fun v hv hz => ?_, fun u v hu hv hzu hzv e => ?_, Nat.succ_pos _⟩
 ·by_cases e : v = a
  ·subst e
   rw [zb4, zb4, zb4, za8, if_pos rfl]
  ·rw [zae _ _ e] at hz
   rw [zae _ _ e, zae _ _ e, zae _ _ e, za8, if_neg (by have := h.pos v hv hz; omega)]
   exact h.cell v hv hz
 ·by_cases e : v = a
  ·subst e
   rw [zb4]
   have := h.nx0
   omega
  ·rw [zae _ _ e] at hz ⊢
   have := h.pos v hv hz
   omega
 ·by_cases e1 : u = a
  ·by_cases e2 : v = a
   ·rw [e1, e2]
   ·rw [zae _ _ e2] at hzv
    subst e1
    rw [zb4, zae _ _ e2] at e
    have := h.pos v hv hzv
    omega
  ·rw [zae _ _ e1] at hzu
   by_cases e2 : v = a
   ·subst e2
    rw [zb4, zae _ _ e1] at e
    have := h.pos u hu hzu
    omega
   ·rw [zae _ _ e2] at hzv
    rw [zae _ _ e1, zae _ _ e2] at e
    exact h.inj u v hu hv hzu hzv e
theorem Jn.get (h : Jn m nz cv C ids sps hp nx) {a : Nat} (ha : a < m) : ((List.range m).map cv)[a]? = some (cv a) := by
 rw [y0f, y2j ha]
 rfl
def fzJ (m : Nat) (nz : Nat → Bool) (C : Nat → List Int) (ids sps : Nat → Nat) : List (Nat × Nat × List AV) := ((List.range m).filter nz).map fun v => (ids v, sps v, (C v).map (AV.int .i64))
theorem fzl_of {id sp : Nat} {cs : List AV} : ∀ {l : List (Nat × Nat × List AV)}, (id, sp, cs) ∈ l → (∀ x ∈ l, x.1 = id → x.2.2 = cs) → fzl id sp l = some cs
 | [], h, _ => by cases h
 | (i, s, ds) :: l, h, hu => by
  rw [fzl]
  cases hb : Nat.beq i id && Nat.beq s sp with
  | true =>
   rw [y0h] at hb
   have := hu (i, s, ds) (y05 ..) (y0n hb.1)
   exact congrArg some this
  | false =>
   refine fzl_of ((y0j.1 h).resolve_left fun e => ?_) fun x hx => hu x (y04 _ hx)
   injection e with e1 e2
   injection e2 with e2 e3
   subst e1 e2
   rw [y25, y25] at hb
   cases hb
theorem rnF_of {hp : List (Nat × Nat × AObj)} : ∀ {l : List (Nat × Nat × List AV)}, (∀ x ∈ l, Am.look x.1 hp = some (x.2.1, .cells x.2.2) ∧ hasM.hasML x.2.2 = false) → RnF hp l
 | [], _ => .nil
 | (_, _, _) :: l, h => .cons (h _ (y05 ..)).1 (h _ (y05 ..)).2 (rnF_of fun x hx => h x (y04 _ hx))
theorem rnC_of {live : zfz} {fz : List (Nat × Nat × List AV)} {f g : Nat → AV} : ∀ {l : List Nat}, (∀ v ∈ l, RenW live fz (f v) (g v)) → RnC live fz (l.map f) (l.map g)
 | [], _ => .nil
 | v :: l, h => .cons (h v (y05 ..)) (rnC_of fun x hx => h x (y04 _ hx))
theorem Jn.fzl (h : Jn m nz cv C ids sps hp nx) {v : Nat} (hv : v < m) (hz : nz v = true) : Am.fzl (ids v) (sps v) (fzJ m nz C ids sps) = some ((C v).map (AV.int .i64)) := by
 refine fzl_of (y0o.2 ⟨v, y0t.2 ⟨y0g.2 hv, hz⟩, rfl⟩) fun x hx e => ?_
 obtain ⟨u, hu, rfl⟩ := y0o.1 hx
 obtain ⟨h1, h2⟩ := y0t.1 hu
 rw [h.inj u v (y0g.1 h1) hv h2 hz e]
theorem Jn.rnF (h : Jn m nz cv C ids sps hp nx) : RnF hp (fzJ m nz C ids sps) := rnF_of fun x hx => by
 obtain ⟨u, hu, rfl⟩ := y0o.1 hx
 obtain ⟨h1, h2⟩ := y0t.1 hu
 exact ⟨h.cell u (y0g.1 h1) h2, zcm _⟩
theorem Jn.ok (h : Jn m nz cv C ids sps hp nx) (cs : List AV) : okW ((fzJ m nz C ids sps).map (·.1)) [(some (0, 1), cs)] = true := by
 show (!zls 0 ((fzJ m nz C ids sps).map (·.1)) && true) = true
 have : zls 0 ((fzJ m nz C ids sps).map (·.1)) = false := by
  cases hb : zls 0 ((fzJ m nz C ids sps).map (·.1)) with
  | false => rfl
  | true =>
   obtain ⟨x, hx, e⟩ := y0o.1 (zfr.1 hb)
   obtain ⟨u, hu, rfl⟩ := y0o.1 hx
   obtain ⟨h1, h2⟩ := y0t.1 hu
   have := (h.pos u (y0g.1 h1) h2).1
   exact absurd e (Nat.ne_of_gt this)
 rw [this]
 rfl
end
theorem zsh (m : Nat) (x : AV) : zf9 m [x] = (List.range m).map fun _ => x := by
 have h : ∀ m : Nat, zf9 m [x] = List.replicate m x := by
  intro m
  induction m with
  | zero => rfl
  | succ m ih => exact (congrArg ([x] ++ ·) ih)
 rw [h, List.map_const', y0v]
def zav (E : List (Nat × Nat)) : List (Int × Int) := E.map fun e => ((e.1 : Nat), (e.2 : Nat))
theorem zmq {E : List (Nat × Nat)} {i : Nat} (h : i < E.length) : (cE (zav E))[((i : Nat) : Int).toNat]? = some [.int .i64 (E[i].1 : Nat), .int .i64 (E[i].2 : Nat)] := by
 unfold cE zav
 rw [y11, y0f, y0f, y06 h]
 rfl
def vN (l : List Nat) : AV := .vs (l.map fun w => [.int .i64 (w : Nat)])
def cN (E : List (Nat × Nat)) (m : Nat) : AV := .vs ((List.range m).map fun v => [vN (nbr E m v)])
theorem raw_step {E : List (Nat × Nat)} {i : Nat} (h : i < E.length) (v : Nat) : raw (E.take (i + 1)) v = if E[i].1 = v then raw (E.take i) v ++ [((E[i].2 : Nat) : Int)] else raw (E.take i) v := by
 unfold raw
 rw [y1x, y06 h]
 show ((E.take i ++ [E[i]]).filter _).map _ = _
 rw [List.filter_append, y16, y14]
 by_cases e : E[i].1 = v
 ·rw [if_pos (by simpa using e), if_pos e]
  rfl
 ·rw [if_neg (by simpa using e), if_neg e, List.filter_nil, List.map_nil, y0r]
def own61 : List (List AV × List AV) := (List.range 13).map fun m => ([.vs [[.int .i64 (-1)]], .int .i64 (m : Nat)], List.replicate m (AV.int .i64 (-1)))
theorem own61_ok : ownRun Try.prog (env0.tab [] []) 80 58 some own61 = true := by kernel_rfl
theorem zqx {m : Nat} (h : m ≤ 12) : PFo Try.prog 58 [.vs [[.int .i64 (-1)]], .int .i64 (m : Nat)] 1 m (some m) ((List.replicate m (-1 : Int)).map (AV.int .i64)) := by
 have := own_rows (env0_ok.tab TabOk.nil) own61_ok ([.vs [[.int .i64 (-1)]], .int .i64 (m : Nat)], List.replicate m (AV.int .i64 (-1))) (y0o.2 ⟨m, y0g.2 (by omega), rfl⟩)
 simp only [y15] at this
 rw [List.map_replicate]
 exact this
end Go.Proofs.Ytfbeableaihooaa
