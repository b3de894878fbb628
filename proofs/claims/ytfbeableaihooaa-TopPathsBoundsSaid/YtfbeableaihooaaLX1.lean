/-
  THE SEAT's CODE, READ.; DISTANCES IN A GRAPH: labels that are right are the only ones; the search and the rounds both find them. Neighbours.; PATHS IN PLAIN LEAN: walks; the distance to a vertex is the distance from it in the reversed graph; the next vertex.; ORDERS IN PLAIN LEAN: the least vertex whose predecessors are all out; no order exactly if there is a cycle; layers.; LAYERS IN PLAIN LEAN: 
-/
import Derived.Test.YtfbeableaihooaaLA11
import Derived.KernelRfl
import Derived.Test.YtfbeableaihooaaChecked
namespace Go.Proofs.Ytfbeableaihooaa
open Go Go.Am
abbrev oF (d i a : Nat) : Opr := ⟨some d, .faddr i (.t a), none⟩
abbrev oL (d m a : Nat) : Opr := ⟨some d, .load (some m) (.t a), none⟩
abbrev oM (d : Nat) (op : IOp) : Opr := ⟨some d, op, none⟩
abbrev oN (d a : Nat) : Opr := ⟨some d, .load none (.t a), none⟩
abbrev oT (d a : Nat) : Opr := ⟨some d, .mov (.t a), none⟩
theorem noC {p : Prop} (h : false = true) : p := Bool.noConfusion h
section
variable {P : Program} {w0 : World} {N0 : Nat} {S : AS} {k : List Fr} {Q : Exit → AS → Prop} {pf : Kn} {ios : List Opr} {md : Md} {y : IC}
theorem zsr (hd : (ios.all fun io => zbt S.size io.dst) = true) (h : Om P w0 N0 md (KnP P w0 N0) ios S (.seq y :: k) Q) : Zm P w0 N0 md (.seq (.region ios none) y) S k Q := za9 (za1 hd h)
theorem onu (h : Zm P w0 N0 md y S k Q) : Om P w0 N0 md pf [] S (.seq y :: k) Q := za8 (za7 h)
theorem onr (hd : (ios.all fun io => zbt S.size io.dst) = true) (h : Om P w0 N0 md (KnP P w0 N0) ios S (.seq y :: k) Q) : Om P w0 N0 md pf [] S (.seq (.seq (.region ios none) y) :: k) Q := za8 (za7 (za9 (za1 hd h)))
theorem onR (hd : (ios.all fun io => zbt S.size io.dst) = true) (h : Om P w0 N0 md (KnP P w0 N0) ios S k Q) : Om P w0 N0 md pf [] S (.seq (.region ios none) :: k) Q := za8 (za7 (za1 hd h))
end
noncomputable def env0 : Env := envOf Try.prog 10000
theorem env0_ok : EnvOk Try.prog env0 := envOf_ok 10000 (by kernel_rfl)
def vsI (l : List Int) : AV := .vs (l.map fun z => [.int .i64 z])
theorem zj4 {D : List Int} {k : Nat} (hk : k < D.length) : (D.map fun z => ([.int .i64 z] : List AV))[((k : Nat) : Int).toNat]? = some [.int .i64 D[k]] := by
 rw [y0y, y0a, y09 hk]
 rfl
theorem zby : ∀ l : List Int, hasM.hasML (l.map (AV.int .i64)) = false
 | [] => rfl
 | b :: l => by
  have := zby l
  simpa [hasM.hasML, hasM] using this
theorem zg2 (l : List Int) : (l.map (AV.int .i64)) = (l.map fun z => ([.int .i64 z] : List AV)).flatten := by
 induction l with
 | nil => rfl
 | cons z l ih => simpa using ih
theorem zj2 {S : AS} {d id sp len : Nat} {cap : Option Nat} {J : List AV} (a : List Int) (hn : a.length = len) (hl : Am.look id S.heap = some (sp, .cells (a.map (AV.int .i64) ++ J))) : S.view (d + 1) (.ms id sp 1 0 len cap) = vsI a := by
 subst hn
 have e : S.elems 1 (.ms id sp 1 0 a.length cap) = some (a.map fun z => ([.int .i64 z] : List AV)) := by
  obtain ⟨n, t, hp, nx, ck, mk⟩ := S
  exact zd3 (ys := J) (cap := cap) (n := n) (nx := nx) (ck := ck) (mk := mk) (l := []) (hp := hp) (by rw [← zg2]; exact hl) (y0e ..) (fun x hx => by obtain ⟨s, _, rfl⟩ := y0k.1 hx; rfl)
 simp only [AS.view, e]
 unfold vsI
 congr 1
 rw [y1t]
 apply y1n
 intro s _
 cases d <;> rfl
theorem zdq {S : AS} {d id sp len : Nat} {cap : Option Nat} (a : List Int) (hn : a.length = len) (hl : Am.look id S.heap = some (sp, .cells (a.map (AV.int .i64)))) : S.view (d + 1) (.ms id sp 1 0 len cap) = vsI a :=
 zj2 (J := []) a hn (by rw [y13]; exact hl)
section
variable {σ τ : Type} (M : Nat → Prop) (I : σ → HS → Prop) (J : τ → HS → Prop)
end
theorem Keep.mono {M M' : Nat → Prop} {H H' : HS} (h : Keep M H H') (hm : ∀ i, M i → M' i) : Keep M' H H' :=
 ⟨h.next, h.clk, fun i hi => h.look i fun h => hi (hm i h)⟩
theorem zuc {a b c d : AV} (h1 : a = c) (h2 : b = d) : [a, b] = [c, d] := by rw [h1, h2]
def gI (o : List Int) (v : Nat) : Int := o.getD v (-1)
theorem zer {o : List Int} {v : Nat} {d : Int} (hv : v < o.length) (w : Nat) : gI (o.set v d) w = if v = w then d else gI o w := by
 unfold gI
 rw [y0d, y0d, List.getElem?_set]
 by_cases h : v = w
 ·subst h
  rw [if_pos rfl, if_pos hv, if_pos rfl]
  rfl
 ·rw [if_neg h, if_neg h]
theorem gI_out {o : List Int} {v : Nat} (h : o.length ≤ v) : gI o v = -1 := by
 unfold gI
 rw [y0d, y1z h]
 rfl
theorem gI_lt {o : List Int} {v : Nat} (h : 0 ≤ gI o v) : v < o.length := by
 refine Nat.lt_of_not_le fun hv => ?_
 rw [gI_out hv] at h
 omega
theorem gI_ext {o o' : List Int} (hl : o.length = o'.length) (h : ∀ v, gI o v = gI o' v) : o = o' := by
 refine List.ext_getElem hl fun i h1 h2 => ?_
 have := h i
 unfold gI at this
 rw [y0d, y0d, y09 h1, y09 h2] at this
 exact this
theorem zhj {α : Type} {P : List α → Prop} (h0 : P []) (h1 : ∀ l a, P l → P (l ++ [a])) (l : List α) : P l := by
 have key : ∀ l : List α, P l.reverse := by
  intro l
  induction l with
  | nil => exact h0
  | cons a l ih => rw [List.reverse_cons]; exact h1 _ a ih
 have := key l.reverse
 rwa [List.reverse_reverse] at this
structure Lab (es : List (Nat × Nat)) (N f : Nat) (o : List Int) : Prop where
 len : o.length = N
 zero : gI o f = 0
 up : ∀ u v, (u, v) ∈ es → 0 ≤ gI o u → 0 ≤ gI o v ∧ gI o v ≤ gI o u + 1
 down : ∀ v, 0 < gI o v → ∃ u, (u, v) ∈ es ∧ gI o u = gI o v - 1
 root : ∀ v, gI o v = 0 → v = f
 low : ∀ v, -1 ≤ gI o v
theorem Lab.le {es : List (Nat × Nat)} {N f : Nat} {o o' : List Int} (h : Lab es N f o) (h' : Lab es N f o') : ∀ (k : Nat) (v : Nat), gI o v = (k : Int) → 0 ≤ gI o' v ∧ gI o' v ≤ (k : Int)
 | 0, v, e => by
  rw [h.root v e, h'.zero]
  omega
 | k + 1, v, e => by
  obtain ⟨u, hu, e2⟩ := h.down v (by omega)
  obtain ⟨h1, h2⟩ := Lab.le h h' k u (by omega)
  obtain ⟨h3, h4⟩ := h'.up u v hu h1
  omega
theorem Lab.unique {es : List (Nat × Nat)} {N f : Nat} {o o' : List Int} (h : Lab es N f o) (h' : Lab es N f o') : o = o' := by
 refine gI_ext (h.len.trans h'.len.symm) fun v => ?_
 have l1 := h.low v
 have l2 := h'.low v
 by_cases c1 : 0 ≤ gI o v
 ·have a := Lab.le h h' (gI o v).toNat v (by omega)
  have b := Lab.le h' h (gI o' v).toNat v (by omega)
  omega
 ·by_cases c2 : 0 ≤ gI o' v
  ·have b := Lab.le h' h (gI o' v).toNat v (by omega)
   omega
  ·omega
def vis (d : Int) (b : List Int × List Nat) (v : Nat) : List Int × List Nat := if gI b.1 v < 0 then (b.1.set v d, b.2 ++ [v]) else b
def unl (o : List Int) : Nat := (o.filter fun x => decide (x < 0)).length
theorem zv7 : ∀ {o : List Int} {v : Nat} {d : Int}, v < o.length → gI o v < 0 → 0 ≤ d → unl (o.set v d) + 1 = unl o
 | [], _, _, h, _, _ => absurd h (y2g _)
 | x :: o, 0, d, _, h, hd => by
  have hx : x < 0 := h
  unfold unl
  rw [List.set_cons_zero, y1h, y1h, if_neg (by rw [decide_eq_true_eq]; omega), if_pos (by rw [decide_eq_true_eq]; exact hx), y0q]
 | x :: o, v + 1, d, hv, h, hd => by
  have ih := zv7 (o := o) (v := v) (d := d) (by simpa using hv) h hd
  unfold unl at ih ⊢
  rw [List.set_cons_succ, y1h, y1h]
  split
  ·rw [y0q, y0q]; omega
  ·exact ih
structure Ext (o : List Int) (l : List Nat) (d : Int) (o' : List Int) (new : List Nat) : Prop where
 len : o'.length = o.length
 old : ∀ v, 0 ≤ gI o v → gI o' v = gI o v
 fresh : ∀ v, gI o v < 0 → 0 ≤ gI o' v → gI o' v = d ∧ v ∈ new
 mem : ∀ v ∈ new, gI o' v = d ∧ v ∈ l ∧ gI o v < 0
 done : ∀ v ∈ l, 0 ≤ gI o' v
 low : (∀ v, -1 ≤ gI o v) → ∀ v, -1 ≤ gI o' v
 cnt : unl o' + new.length = unl o
theorem zpz {d : Int} (hd : 0 ≤ d) (o : List Int) (qs : List Nat) : ∀ (l : List Nat), (∀ v ∈ l, v < o.length) → ∃ o' new, l.foldl (vis d) (o, qs) = (o', qs ++ new) ∧ Ext o l d o' new := by
 intro l
 -- by the last element
 induction l using zhj with
 | h0 => exact fun _ => ⟨o, [], by simp, ⟨rfl, fun _ _ => rfl, fun v h1 h2 => absurd h2 (by omega), fun v h => absurd h y0f, fun v h => absurd h y0f, fun h => h, by simp⟩⟩
 | h1 l w ih =>
  intro hl
  obtain ⟨o', new, e, h⟩ := ih fun v hv => hl v (y0l _ hv)
  have hw : w < o'.length := by rw [h.len]; exact hl w (by simp)
  rw [y2e, e, y2r, List.foldl_nil]
  unfold vis
  by_cases c : gI o' w < 0
  ·rw [if_pos c]
   refine ⟨o'.set w d, new ++ [w], by simp, ?_⟩
   have c0 : gI o w < 0 := by
    refine Int.not_le.1 fun h0 => ?_
    rw [h.old w h0] at c
    omega
   refine ⟨by rw [y1o, h.len], fun v hv => ?_, fun v h1 h2 => ?_, fun v hv => ?_, fun v hv => ?_, fun hlo v => ?_, ?_⟩
   ·rw [zer hw, if_neg (fun e => by subst e; omega)]
    exact h.old v hv
   ·rw [zer hw] at h2 ⊢
    by_cases e : w = v
    ·subst e
     rw [if_pos rfl]
     exact ⟨rfl, by simp⟩
    ·rw [if_neg e] at h2 ⊢
     obtain ⟨a, b⟩ := h.fresh v h1 h2
     exact ⟨a, y0l _ b⟩
   ·rw [zer hw]
    rcases y0n.1 hv with hv | hv
    ·obtain ⟨a, b, c1⟩ := h.mem v hv
     refine ⟨?_, y0l _ b, c1⟩
     split
     ·rfl
     ·exact a
    ·obtain rfl := y0h.1 hv
     rw [if_pos rfl]
     exact ⟨rfl, by simp, c0⟩
   ·rw [zer hw]
    split
    ·exact hd
    ·rename_i e
     rcases y0n.1 hv with hv | hv
     ·exact h.done v hv
     ·exact absurd (y0h.1 hv).symm e
   ·rw [zer hw]
    split
    ·omega
    ·exact h.low hlo v
   ·have := zv7 hw c hd
    have := h.cnt
    rw [y0p, y1c]
    omega
  ·rw [if_neg c]
   refine ⟨o', new, rfl, h.len, h.old, h.fresh, fun v hv => ?_, fun v hv => ?_, h.low, h.cnt⟩
   ·obtain ⟨a, b, c1⟩ := h.mem v hv
    exact ⟨a, y0l _ b, c1⟩
   ·rcases y0n.1 hv with hv | hv
    ·exact h.done v hv
    ·obtain rfl := y0h.1 hv
     omega
structure Bfs (es : List (Nat × Nat)) (N f : Nat) (o : List Int) (qu : List Nat) : Prop where
 len : o.length = N
 zero : gI o f = 0
 low : ∀ v, -1 ≤ gI o v
 root : ∀ v, gI o v = 0 → v = f
 down : ∀ v, 0 < gI o v → ∃ u, (u, v) ∈ es ∧ gI o u = gI o v - 1
 inq : ∀ v ∈ qu, 0 ≤ gI o v
 asc : qu.Pairwise fun a b => gI o a ≤ gI o b
 bound : ∀ h, qu.head? = some h → ∀ v, gI o v ≤ gI o h + 1
 done : ∀ u, 0 ≤ gI o u → u ∉ qu → ∀ v, (u, v) ∈ es → 0 ≤ gI o v ∧ gI o v ≤ gI o u + 1
theorem Bfs.end {es : List (Nat × Nat)} {N f : Nat} {o : List Int} (h : Bfs es N f o []) : Lab es N f o :=
 ⟨h.len, h.zero, fun u v hm hu => h.done u hu y0f v hm, h.down, h.root, h.low⟩
theorem Bfs.start (es : List (Nat × Nat)) {N f : Nat} (hf : f < N) : Bfs es N f ((List.replicate N (-1 : Int)).set f 0) [f] := by
 have hl : f < (List.replicate N (-1 : Int)).length := by rw [y1q]; exact hf
 have hr : ∀ v, gI (List.replicate N (-1 : Int)) v = -1 := fun v => by
  unfold gI
  rw [y0d, List.getElem?_replicate]
  split <;> rfl
 have hg : ∀ v, gI ((List.replicate N (-1 : Int)).set f 0) v = if f = v then 0 else -1 := fun v => by rw [zer hl, hr]
 refine ⟨by rw [y1o, y1q], by rw [hg, if_pos rfl], fun v => ?_, fun v hv => ?_, fun v hv => ?_, fun v hv => ?_, List.pairwise_singleton .., fun h hh v => ?_, fun u hu hn => ?_⟩
 ·rw [hg]; split <;> omega
 ·rw [hg] at hv
  split at hv
  ·rename_i e; exact e.symm
  ·omega
 ·rw [hg] at hv
  split at hv <;> omega
 ·obtain rfl := y0h.1 hv
  rw [hg, if_pos rfl]
  omega
 ·obtain rfl := Option.some.inj hh
  rw [hg, hg, if_pos rfl]
  split <;> omega
 ·rw [hg] at hu
  split at hu
  ·rename_i e
   exact absurd (by rw [e]; simp) hn
  ·omega
theorem Bfs.step {es : List (Nat × Nat)} {N f q : Nat} {o : List Int} {qs : List Nat} {l : List Nat} (h : Bfs es N f o (q :: qs)) (hl : ∀ v, v ∈ l ↔ (q, v) ∈ es) (hN : ∀ v ∈ l, v < N) :
  ∃ o' new, l.foldl (vis (gI o q + 1)) (o, qs) = (o', qs ++ new) ∧ Bfs es N f o' (qs ++ new) ∧ 2 * unl o' + (qs ++ new).length < 2 * unl o + (q :: qs).length ∧ gI o' q = gI o q := by
 have hq := h.inq q (y06 ..)
 obtain ⟨o', new, e, x⟩ := zpz (d := gI o q + 1) (by omega) o qs l fun v hv => by rw [h.len]; exact hN v hv
 obtain ⟨a1, a2⟩ := y2n.1 h.asc
 have hb := h.bound q rfl
 have val : ∀ v, 0 ≤ gI o' v → (0 ≤ gI o v ∧ gI o' v = gI o v) ∨ (gI o v < 0 ∧ gI o' v = gI o q + 1 ∧ v ∈ new) := fun v hv => by
  by_cases c : 0 ≤ gI o v
  ·exact .inl ⟨c, x.old v c⟩
  ·exact .inr ⟨by omega, x.fresh v (by omega) hv⟩
 have up1 : ∀ v, gI o' v ≤ gI o q + 1 := fun v => by
  by_cases c : 0 ≤ gI o' v
  ·rcases val v c with ⟨_, e⟩ | ⟨_, e, _⟩
   ·rw [e]; exact hb v
   ·omega
  ·omega
 refine ⟨o', new, e, ⟨x.len.trans h.len, (x.old f (by rw [h.zero]; omega)).trans h.zero, x.low h.low, fun v hv => ?_, fun v hv => ?_, fun v hv => ?_, ?_, fun z hz v => ?_, fun u hu hn v hv => ?_⟩, ?_, x.old q hq⟩
 ·rcases val v (by omega) with ⟨_, e⟩ | ⟨_, e, _⟩
  ·exact h.root v (by omega)
  ·omega
 ·rcases val v (by omega) with ⟨c, e⟩ | ⟨_, e, hm⟩
  ·obtain ⟨u, hu, e2⟩ := h.down v (by omega)
   exact ⟨u, hu, by rw [x.old u (by omega), e2, e]⟩
  ·refine ⟨q, (hl v).1 (x.mem v hm).2.1, ?_⟩
   rw [x.old q hq]
   omega
 ·rcases y0n.1 hv with hv | hv
  ·have := h.inq v (y04 _ hv)
   rw [x.old v this]
   exact this
  ·rw [(x.mem v hv).1]
   omega
 ·rw [List.pairwise_append]
  refine ⟨a2.imp_of_mem fun {a b} ha hb2 hab => ?_, ?_, fun a ha b hb2 => ?_⟩
  ·rw [x.old a (h.inq a (y04 _ ha)), x.old b (h.inq b (y04 _ hb2))]
   exact hab
  ·refine List.Pairwise.imp_of_mem (R := fun _ _ => True) (fun {a b} ha hb2 _ => ?_) (List.pairwise_of_forall fun _ _ => trivial)
   rw [(x.mem a ha).1, (x.mem b hb2).1]
   exact y2a _
  ·rw [(x.mem b hb2).1]
   exact up1 a
 ·have hz2 : z ∈ qs ++ new := List.mem_of_mem_head? hz
  have : gI o q ≤ gI o' z := by
   rcases y0n.1 hz2 with hz2 | hz2
   ·rw [x.old z (h.inq z (y04 _ hz2))]
    exact a1 z hz2
   ·rw [(x.mem z hz2).1]
    omega
  have := up1 v
  omega
 ·rw [y0n] at hn
  rcases val u hu with ⟨c, e3⟩ | ⟨_, _, hm⟩
  ·by_cases hqu : u = q
   ·have := x.done v ((hl v).2 (hqu ▸ hv))
    have := up1 v
    rw [e3, hqu]
    omega
   ·have := h.done u c (fun hm => by
     rcases y0i.1 hm with hm | hm
     ·exact hqu hm
     ·exact hn (.inl hm)) v hv
    rw [x.old v this.1, e3]
    exact this
  ·exact absurd (.inr hm) hn
 ·have := x.cnt
  rw [y0p, y0q]
  omega
def rndE (r : Int) (o : List Int) (e : Nat × Nat) : List Int := if gI o e.1 = r ∧ gI o e.2 < 0 then o.set e.2 (r + 1) else o
def zsq (es : List (Nat × Nat)) (N f : Nat) (m : Nat) : List Int := (List.range m).foldl (fun (o : List Int) (r : Nat) => es.foldl (rndE (r : Int)) o) ((List.replicate N (-1 : Int)).set f 0)
structure Rnd (es : List (Nat × Nat)) (N f : Nat) (r : Int) (o : List Int) : Prop where
 len : o.length = N
 zero : gI o f = 0
 low : ∀ v, -1 ≤ gI o v
 most : ∀ v, gI o v ≤ r
 root : ∀ v, gI o v = 0 → v = f
 down : ∀ v, 0 < gI o v → ∃ u, (u, v) ∈ es ∧ gI o u = gI o v - 1
 up : ∀ u v, (u, v) ∈ es → 0 ≤ gI o u → gI o u < r → 0 ≤ gI o v ∧ gI o v ≤ gI o u + 1
structure Mid (es p : List (Nat × Nat)) (N : Nat) (r : Int) (o o' : List Int) : Prop where
 len : o'.length = N
 old : ∀ v, 0 ≤ gI o v → gI o' v = gI o v
 fresh : ∀ v, gI o v < 0 → 0 ≤ gI o' v → gI o' v = r + 1 ∧ ∃ u, (u, v) ∈ es ∧ gI o u = r
 done : ∀ u v, (u, v) ∈ p → gI o u = r → 0 ≤ gI o' v
 low : ∀ v, -1 ≤ gI o' v
theorem rnd_mid {es : List (Nat × Nat)} {N : Nat} {r : Int} {o : List Int} (hr : 0 ≤ r) (hlen : o.length = N) (hlow : ∀ v, -1 ≤ gI o v) (hN : ∀ u v, (u, v) ∈ es → v < N) : ∀ p : List (Nat × Nat), (∀ e ∈ p, e ∈ es) → Mid es p N r o (p.foldl (rndE r) o) := by
 intro p
 induction p using zhj with
 | h0 => exact fun _ => ⟨hlen, fun _ _ => rfl, fun v h1 h2 => absurd h2 (by show ¬ 0 ≤ gI o v; omega), fun u v h => absurd h y0f, hlow⟩
 | h1 p e ih =>
  intro hp
  have h := ih fun x hx => hp x (y0l _ hx)
  have he : (e.1, e.2) ∈ es := hp e (by simp)
  rw [y2e, y2r, List.foldl_nil]
  generalize p.foldl (rndE r) o = o' at h
  have hw : e.2 < o'.length := by rw [h.len]; exact hN _ _ he
  have hsame : gI o' e.1 = r ↔ gI o e.1 = r := by
   by_cases c : 0 ≤ gI o e.1
   ·rw [h.old _ c]
   ·constructor
    ·intro x
     have := (h.fresh e.1 (by omega) (by omega)).1
     omega
    ·intro x; omega
  unfold rndE
  by_cases c : gI o' e.1 = r ∧ gI o' e.2 < 0
  ·rw [if_pos c]
   have c0 : gI o e.2 < 0 := by
    refine Int.not_le.1 fun h0 => ?_
    have := h.old _ h0
    omega
   refine ⟨by rw [y1o]; exact h.len, fun v hv => ?_, fun v h1 h2 => ?_, fun u v hm hu => ?_, fun v => ?_⟩
   ·rw [zer hw, if_neg (fun e => by subst e; omega)]
    exact h.old v hv
   ·rw [zer hw] at h2 ⊢
    by_cases ev : e.2 = v
    ·subst ev
     rw [if_pos rfl]
     exact ⟨rfl, e.1, he, hsame.1 c.1⟩
    ·rw [if_neg ev] at h2 ⊢
     exact h.fresh v h1 h2
   ·rw [zer hw]
    split
    ·omega
    ·rename_i ev
     rcases y0n.1 hm with hm | hm
     ·exact h.done u v hm hu
     ·have := y0h.1 hm
      exact absurd (by rw [← this]) ev
   ·rw [zer hw]
    split
    ·omega
    ·exact h.low v
  ·rw [if_neg c]
   refine ⟨h.len, h.old, h.fresh, fun u v hm hu => ?_, h.low⟩
   rcases y0n.1 hm with hm | hm
   ·exact h.done u v hm hu
   ·have := y0h.1 hm
    subst this
    refine Int.not_lt.1 fun hlt => c ⟨hsame.2 hu, hlt⟩
theorem Rnd.next {es : List (Nat × Nat)} {N f : Nat} {r : Int} {o : List Int} (hr : 0 ≤ r) (hN : ∀ u v, (u, v) ∈ es → v < N) (h : Rnd es N f r o) : Rnd es N f (r + 1) (es.foldl (rndE r) o) := by
 have m := rnd_mid (es := es) hr h.len h.low hN es fun _ h => h
 generalize es.foldl (rndE r) o = o' at m
 have val : ∀ v, 0 ≤ gI o' v → (0 ≤ gI o v ∧ gI o' v = gI o v) ∨ (gI o v < 0 ∧ gI o' v = r + 1 ∧ ∃ u, (u, v) ∈ es ∧ gI o u = r) := fun v hv => by
  by_cases c : 0 ≤ gI o v
  ·exact .inl ⟨c, m.old v c⟩
  ·exact .inr ⟨by omega, m.fresh v (by omega) hv⟩
 have mo : ∀ v, gI o' v ≤ r + 1 := fun v => by
  by_cases c : 0 ≤ gI o' v
  ·rcases val v c with ⟨_, e⟩ | ⟨_, e, _⟩
   ·have := h.most v; omega
   ·omega
  ·omega
 refine ⟨m.len, (m.old f (by rw [h.zero]; omega)).trans h.zero, m.low, mo, fun v hv => ?_, fun v hv => ?_, fun u v hm hu hlt => ?_⟩
 ·rcases val v (by omega) with ⟨_, e⟩ | ⟨_, e, _⟩
  ·exact h.root v (by omega)
  ·omega
 ·rcases val v (by omega) with ⟨c, e⟩ | ⟨_, e, u, hu, e2⟩
  ·obtain ⟨u, hu, e2⟩ := h.down v (by omega)
   exact ⟨u, hu, by rw [m.old u (by omega), e2, e]⟩
  ·exact ⟨u, hu, by rw [m.old u (by omega), e2, e]; omega⟩
 ·rcases val u hu with ⟨c, e⟩ | ⟨_, e, _⟩
  ·by_cases hlt2 : gI o u < r
   ·have := h.up u v hm c hlt2
    rw [m.old v this.1, e]
    exact this
   ·have : gI o u = r := by have := h.most u; omega
    have := m.done u v hm this
    have := mo v
    omega
  ·omega
theorem zcq : ∀ {a b : List Int}, a.Nodup → (∀ x ∈ a, x ∈ b) → a.length ≤ b.length
 | [], _, _, _ => y19 _
 | x :: a, b, hn, hs => by
  obtain ⟨h1, h2⟩ := y2q.1 hn
  have hx := hs x (y06 ..)
  have := zcq (a := a) (b := b.erase x) h2 fun y hy => (List.mem_erase_of_ne (fun e => h1 (by rw [← e]; exact hy))).2 (hs y (y04 _ hy))
  rw [List.length_erase_of_mem hx] at this
  have := List.length_pos_of_mem hx
  rw [y0q]
  omega
theorem zlq {es : List (Nat × Nat)} {o : List Int} (down : ∀ v, 0 < gI o v → ∃ u, (u, v) ∈ es ∧ gI o u = gI o v - 1) : ∀ (k : Nat) (v : Nat), gI o v = (k : Int) → ∀ j : Nat, j ≤ k → ∃ u, gI o u = (j : Int)
 | 0, v, e, j, hj => ⟨v, by rw [e]; omega⟩
 | k + 1, v, e, j, hj => by
  by_cases hjk : j = k + 1
  ·exact ⟨v, by rw [e, hjk]⟩
  ·obtain ⟨u, _, e2⟩ := down v (by omega)
   exact zlq down k u (by omega) j (by omega)
theorem ztu {es : List (Nat × Nat)} {N : Nat} {o : List Int} (hl : o.length = N) (down : ∀ v, 0 < gI o v → ∃ u, (u, v) ∈ es ∧ gI o u = gI o v - 1) (v : Nat) : gI o v < N := by
 refine Int.not_le.1 fun hle => ?_
 have h := zlq down (gI o v).toNat v (by omega)
 have := zcq (a := (List.range (N + 1)).map fun j => ((j : Nat) : Int)) (b := o) ?_ ?_
 ·rw [y0e, y12] at this
  omega
 ·exact List.pairwise_map.2 (List.nodup_range.imp fun {a b} h e => h (by omega))
 ·intro x hx
  obtain ⟨j, hj, rfl⟩ := y0k.1 hx
  rw [y0j] at hj
  obtain ⟨u, hu⟩ := h j (by omega)
  have hlt : u < o.length := gI_lt (by omega)
  unfold gI at hu
  rw [y0d, y09 hlt] at hu
  rw [← hu]
  exact y17 hlt
theorem zkb {es : List (Nat × Nat)} {N f : Nat} (hf : f < N) (hN : ∀ u v, (u, v) ∈ es → v < N) : Lab es N f (zsq es N f N) := by
 have key : ∀ m : Nat, Rnd es N f (m : Int) (zsq es N f m) := by
  intro m
  induction m with
  | zero =>
   have b := Bfs.start es hf
   show Rnd es N f 0 ((List.replicate N (-1 : Int)).set f 0)
   refine ⟨b.len, b.zero, b.low, fun v => ?_, b.root, b.down, fun u v _ h1 h2 => ?_⟩
   ·show gI ((List.replicate N (-1 : Int)).set f 0) v ≤ 0
    refine Int.not_lt.1 fun h => ?_
    have := b.bound f rfl v
    rw [b.zero] at this
    have hv : gI ((List.replicate N (-1 : Int)).set f 0) v = 1 := by omega
    obtain ⟨u, _, e⟩ := b.down v h
    rw [zer (by rw [y1q]; exact hf)] at hv
    split at hv
    ·omega
    ·unfold gI at hv
     rw [y0d, List.getElem?_replicate] at hv
     split at hv <;> (simp at hv)
   ·exact absurd h2 (by show ¬ gI ((List.replicate N (-1 : Int)).set f 0) u < ((0 : Nat) : Int); have : 0 ≤ gI ((List.replicate N (-1 : Int)).set f 0) u := h1; omega)
  | succ m ih =>
   unfold zsq
   rw [List.range_succ, y2e, y2r, List.foldl_nil]
   have := Rnd.next (by omega) hN ih
   exact this
 have h := key N
 refine ⟨h.len, h.zero, fun u v hm hu => h.up u v hm hu (ztu h.len h.down u), h.down, h.root, h.low⟩
theorem asc_eq : ∀ {a b : List Int}, a.Pairwise (· < ·) → b.Pairwise (· < ·) → (∀ x, x ∈ a ↔ x ∈ b) → a = b
 | [], [], _, _, _ => rfl
 | [], y :: b, _, _, h => absurd ((h y).2 (y06 ..)) y0f
 | x :: a, [], _, _, h => absurd ((h x).1 (y06 ..)) y0f
 | x :: a, y :: b, ha, hb, h => by
  obtain ⟨a1, a2⟩ := y2n.1 ha
  obtain ⟨b1, b2⟩ := y2n.1 hb
  have hxy : x = y := by
   have h1 := (h x).1 (y06 ..)
   have h2 := (h y).2 (y06 ..)
   rcases y0i.1 h1 with e | h1
   ·exact e
   ·rcases y0i.1 h2 with e | h2
    ·exact e.symm
    ·have := a1 y h2
     have := b1 x h1
     omega
  subst hxy
  rw [asc_eq a2 b2 fun z => ?_]
  constructor
  ·intro hz
   rcases y0i.1 ((h z).1 (y04 _ hz)) with e | hz2
   ·have := a1 z hz; omega
   ·exact hz2
  ·intro hz
   rcases y0i.1 ((h z).2 (y04 _ hz)) with e | hz2
   ·have := b1 z hz; omega
   ·exact hz2
theorem zk8 : ∀ {l : List Int} {p z : Int}, z ∈ p :: zon p l ↔ z ∈ p :: l
 | [], _, _ => Iff.rfl
 | y :: l, p, z => by
  rw [zon]
  split
  ·rename_i e
   rw [zk8 (l := l), y0i, y0i, y0i, e]
   constructor
   ·rintro (h | h)
    ·exact .inl h
    ·exact .inr (.inr h)
   ·rintro (h | h | h)
    ·exact .inl h
    ·exact .inl h
    ·exact .inr h
  ·have := zk8 (l := l) (p := y) (z := z)
   rw [y0i, this, y0i, y0i, y0i]
theorem zk7 : ∀ {l : List Int} {p : Int}, (p :: l).Pairwise (· ≤ ·) → (p :: zon p l).Pairwise (· < ·)
 | [], _, _ => List.pairwise_singleton ..
 | y :: l, p, h => by
  obtain ⟨h1, h2⟩ := y2n.1 h
  rw [zon]
  split
  ·rename_i e
   subst e
   exact zk7 h2
  ·rename_i e
   have ih := zk7 h2
   rw [y2n]
   refine ⟨fun z hz => ?_, ih⟩
   have hy := h1 y (y06 ..)
   rcases y0i.1 hz with rfl | hz2
   ·omega
   ·have := (y2n.1 ih).1 z hz2
    omega
theorem cpt_asc {l : List Int} (h : l.Pairwise (· ≤ ·)) : (cpt l).Pairwise (· < ·) := by
 cases l with
 | nil => exact List.Pairwise.nil
 | cons x l => exact zk7 h
theorem cpt_mem {l : List Int} {z : Int} : z ∈ cpt l ↔ z ∈ l := by
 cases l with
 | nil => exact Iff.rfl
 | cons x l => exact zk8
def raw (es : List (Nat × Nat)) (v : Nat) : List Int := (es.filter fun e => e.1 == v).map fun e => ((e.2 : Nat) : Int)
def nbr (es : List (Nat × Nat)) (N v : Nat) : List Nat := (List.range N).filter fun w => es.contains (v, w)
theorem ze2 {es : List (Nat × Nat)} {N v w : Nat} (hN : ∀ u v, (u, v) ∈ es → v < N) : w ∈ nbr es N v ↔ (v, w) ∈ es := by
 unfold nbr
 rw [y0t, y0j, y0w]
 exact ⟨fun h => h.2, fun h => ⟨hN _ _ h, h⟩⟩
theorem nbr_cpt {es : List (Nat × Nat)} {N v : Nat} (hN : ∀ u v, (u, v) ∈ es → v < N) : cpt ((raw es v).mergeSort fun x y => decide (x ≤ y)) = (nbr es N v).map fun w => ((w : Nat) : Int) := by
 refine asc_eq (cpt_asc ?_) ?_ fun x => ?_
 ·have := List.pairwise_mergeSort (le := fun x y : Int => decide (x ≤ y)) (fun a b c h1 h2 => by rw [decide_eq_true_eq] at *; omega) (fun a b => by rw [y0z, decide_eq_true_eq, decide_eq_true_eq]; omega) (raw es v)
  exact this.imp fun h => of_decide_eq_true h
 ·unfold nbr
  rw [List.pairwise_map]
  refine List.Pairwise.imp (R := fun a b : Nat => a < b) (fun h => by omega) (List.Pairwise.filter _ List.pairwise_lt_range)
 ·rw [cpt_mem, List.mem_mergeSort]
  unfold raw
  rw [y0k, y0k]
  constructor
  ·rintro ⟨e, he, rfl⟩
   obtain ⟨h1, h2⟩ := y0t.1 he
   refine ⟨e.2, (ze2 hN).2 ?_, rfl⟩
   rw [← eq_of_beq h2]
   exact h1
  ·rintro ⟨w, hw, rfl⟩
   exact ⟨(v, w), y0t.2 ⟨(ze2 hN).1 hw, by simp⟩, rfl⟩
theorem zsa {es : List (Nat × Nat)} {N v : Nat} (hN : ∀ u v, (u, v) ∈ es → v < N) : cps (srt (raw es v)) = (nbr es N v).map fun w => ((w : Nat) : Int) := by
 rw [cps_eq]
 exact nbr_cpt hN
inductive Wk (E : List (Nat × Nat)) : Nat → Nat → Nat → Prop
 | refl (u : Nat) : Wk E 0 u u
 | step {k u v w : Nat} (h : Wk E k u v) (e : (v, w) ∈ E) : Wk E (k + 1) u w
theorem Wk.cons {E : List (Nat × Nat)} {u v w k : Nat} (e : (u, v) ∈ E) (h : Wk E k v w) : Wk E (k + 1) u w := by
 induction h with
 | refl => exact .step (.refl u) e
 | step h e2 ih => exact .step (ih e) e2
theorem Wk.rev {E E' : List (Nat × Nat)} (hE : ∀ a b, (a, b) ∈ E → (b, a) ∈ E') {u v k : Nat} (h : Wk E k u v) : Wk E' k v u := by
 induction h with
 | refl => exact .refl _
 | step h e ih => exact .cons (hE _ _ e) ih
def rvE (E : List (Nat × Nat)) : List (Nat × Nat) := E.map fun e => (e.2, e.1)
theorem zkt {E : List (Nat × Nat)} {a b : Nat} : (a, b) ∈ rvE E ↔ (b, a) ∈ E := by
 unfold rvE
 rw [y0k]
 constructor
 ·rintro ⟨⟨x, y⟩, h, e⟩
  injection e with e1 e2
  subst e1 e2
  exact h
 ·intro h
  exact ⟨(b, a), h, rfl⟩
theorem rvE_len (E : List (Nat × Nat)) : (rvE E).length = E.length := y0e ..
theorem zpo {E : List (Nat × Nat)} {m : Nat} (hb : ∀ u v, (u, v) ∈ E → u < m ∧ v < m) : ∀ u v, (u, v) ∈ rvE E → u < m ∧ v < m := fun u v h => (hb v u (zkt.1 h)).symm
theorem Lab.walk {E : List (Nat × Nat)} {N f : Nat} {o : List Int} (h : Lab E N f o) : ∀ (k v : Nat), gI o v = (k : Int) → Wk E k f v
 | 0, v, e => by
  rw [h.root v e]
  exact .refl _
 | k + 1, v, e => by
  obtain ⟨u, hu, e2⟩ := h.down v (by omega)
  exact .step (Lab.walk h k u (by omega)) hu
def prB (back : List Int) (v w : Nat) : Bool := decide (gI back w ≥ 0) && (gI back w == gI back v - 1)
def nxt (E : List (Nat × Nat)) (m : Nat) (back : List Int) (v : Nat) : Nat := ((nbr E m v).find? (prB back v)).getD 0
def zh1 (E : List (Nat × Nat)) (m : Nat) (back : List Int) : Nat → Nat → List Nat
 | 0, _ => []
 | k + 1, v => nxt E m back v :: zh1 E m back k (nxt E m back v)
theorem nxt_ok {E : List (Nat × Nat)} {m t v : Nat} {back : List Int} (hL : Lab (rvE E) m t back) (hb : ∀ u v, (u, v) ∈ E → u < m ∧ v < m) (h : 0 < gI back v) :
  (nbr E m v).find? (prB back v) = some (nxt E m back v) ∧ (v, nxt E m back v) ∈ E ∧ nxt E m back v < m ∧ gI back (nxt E m back v) = gI back v - 1 := by
 obtain ⟨u, hu, e⟩ := hL.down v h
 have hu := zkt.1 hu
 have hm : u ∈ nbr E m v := (ze2 fun u v h => (hb u v h).2).2 hu
 have hp : prB back v u = true := by
  unfold prB
  rw [y0g, decide_eq_true_eq, beq_iff_eq]
  omega
 unfold nxt
 cases hf : (nbr E m v).find? (prB back v) with
 | none =>
  have := List.find?_eq_none.1 hf u hm
  exact absurd hp this
 | some w =>
  have h1 := List.find?_some hf
  have h2 := (ze2 fun u v h => (hb u v h).2).1 (List.mem_of_find?_eq_some hf)
  unfold prB at h1
  rw [y0g, decide_eq_true_eq, beq_iff_eq] at h1
  exact ⟨rfl, h2, (hb _ _ h2).2, h1.2⟩
theorem zml (E : List (Nat × Nat)) (m : Nat) (back : List Int) : ∀ k v, (zh1 E m back k v).length = k
 | 0, _ => rfl
 | k + 1, v => by
  rw [zh1, y0q, zml E m back k]
theorem zos {α : Type} {p : α → Bool} : ∀ {l : List α} {w : α}, l.find? p = some w → ∃ k, ∃ h : k < l.length, l[k] = w ∧ p w = true ∧ ∀ i (h2 : i < k), p (l[i]'(Nat.lt_trans h2 h)) = false
 | [], _, h => by cases h
 | x :: l, w, h => by
  rw [List.find?_cons] at h
  cases hx : p x with
  | true =>
   rw [hx] at h
   obtain rfl := Option.some.inj h
   exact ⟨0, Nat.succ_pos _, rfl, hx, fun i h2 => absurd h2 (y2g _)⟩
  | false =>
   rw [hx] at h
   obtain ⟨k, hk, e, hp, hn⟩ := zos h
   refine ⟨k + 1, Nat.succ_lt_succ hk, e, hp, fun i h2 => ?_⟩
   cases i with
   | zero => exact hx
   | succ i => exact hn i (Nat.lt_of_succ_lt_succ h2)
def rdyB (E : List (Nat × Nat)) (out : List Nat) (v : Nat) : Bool := E.all (fun e => !(e.2 == v) || out.contains e.1) && !(out.contains v)
theorem zpe {E : List (Nat × Nat)} {out : List Nat} {v : Nat} : rdyB E out v = true ↔ (∀ u, (u, v) ∈ E → u ∈ out) ∧ v ∉ out := by
 unfold rdyB
 rw [y0g, y0b]
 constructor
 ·rintro ⟨h1, h2⟩
  refine ⟨fun u hu => ?_, fun hv => ?_⟩
  ·have := h1 _ hu
   simpa using this
  ·have := y0w.2 hv
   rw [this] at h2
   cases h2
 ·rintro ⟨h1, h2⟩
  refine ⟨fun e he => ?_, ?_⟩
  ·by_cases c : e.2 = v
   ·subst c
    have := h1 e.1 he
    simp [this]
   ·simp [c]
  ·simp [h2]
def nxS (E : List (Nat × Nat)) (m : Nat) (out : List Nat) : Option Nat := (List.range m).find? (rdyB E out)
structure Top (E : List (Nat × Nat)) (m : Nat) (out : List Nat) : Prop where
 nd : out.Nodup
 lt : ∀ v ∈ out, v < m
 pre : ∀ p v s, out = p ++ v :: s → ∀ u, (u, v) ∈ E → u ∈ p
theorem Top.nil (E : List (Nat × Nat)) (m : Nat) : Top E m [] := ⟨List.nodup_nil, fun v h => absurd h y0f, fun p v s h => by simp at h⟩
theorem nxS_ok {E : List (Nat × Nat)} {m v : Nat} {out : List Nat} (h : nxS E m out = some v) : v < m ∧ (∀ u, (u, v) ∈ E → u ∈ out) ∧ v ∉ out := by
 unfold nxS at h
 exact ⟨y0j.1 (List.mem_of_find?_eq_some h), zpe.1 (List.find?_some h)⟩
theorem zjq {out : List Nat} {v : Nat} (h : out.Nodup) (hv : v ∉ out) : (out ++ [v]).Nodup := by
 rw [List.nodup_append]
 refine ⟨h, y2q.2 ⟨y0f, List.nodup_nil⟩, fun a ha b hb => ?_⟩
 obtain rfl := y0h.1 hb
 exact fun e => hv (e ▸ ha)
theorem Top.snoc {E : List (Nat × Nat)} {m v : Nat} {out : List Nat} (h : Top E m out) (hv : nxS E m out = some v) : Top E m (out ++ [v]) := by
 obtain ⟨a, b, c⟩ := nxS_ok hv
 refine ⟨zjq h.nd c, fun w hw => ?_, fun p w s e u hu => ?_⟩
 ·rcases y0n.1 hw with hw | hw
  ·exact h.lt w hw
  ·obtain rfl := y0h.1 hw
   exact a
 ·rcases List.append_eq_append_iff.1 e with ⟨xs, e1, e2⟩ | ⟨cs, e1, e2⟩
  ·-- p = out ++ xs, [v] = xs ++ w :: s
   cases xs with
   | nil =>
    rw [y2j] at e2
    injection e2 with e3 e4
    subst e3
    rw [e1, y13]
    exact b u hu
   | cons x xs =>
    rw [List.cons_append] at e2
    injection e2 with e3 e4
    simp at e4
  ·-- out = p ++ cs, w :: s = cs ++ [v]
   cases cs with
   | nil =>
    rw [y2j] at e2
    injection e2 with e3 e4
    subst e3
    rw [y13] at e1
    rw [← e1]
    exact b u hu
   | cons x cs =>
    rw [List.cons_append] at e2
    injection e2 with e3 e4
    subst e3
    exact h.pre p w cs e1 u hu
theorem Wk.trans {E : List (Nat × Nat)} {a b c j k : Nat} (h : Wk E j a b) (h2 : Wk E k b c) : Wk E (j + k) a c := by
 induction h2 with
 | refl => exact h
 | step h2 e ih => exact .step (ih h) e
theorem zto {l : List Nat} {v : Nat} (h : v ∈ l) : ∃ p s, l = p ++ v :: s ∧ v ∉ p ∧ l.idxOf v = p.length := by
 induction l with
 | nil => exact absurd h y0f
 | cons x l ih =>
  by_cases c : x = v
  ·subst c
   exact ⟨[], l, rfl, y0f, by rw [List.idxOf_cons_self]; rfl⟩
  ·rcases y0i.1 h with h | h
   ·exact absurd h.symm c
   ·obtain ⟨p, s, e, hn, hi⟩ := ih h
    refine ⟨x :: p, s, by rw [e]; rfl, fun hm => ?_, ?_⟩
    ·rcases y0i.1 hm with hm | hm
     ·exact c hm.symm
     ·exact hn hm
    ·rw [List.idxOf_cons, show (x == v) = false from beq_eq_false_iff_ne.2 c, hi]
     rfl
theorem Top.edge {E : List (Nat × Nat)} {m : Nat} {l : List Nat} (h : Top E m l) {u v : Nat} (he : (u, v) ∈ E) (hv : v ∈ l) : u ∈ l ∧ l.idxOf u < l.idxOf v := by
 obtain ⟨p, s, e, hn, hi⟩ := zto hv
 have hu := h.pre p v s e u he
 refine ⟨by rw [e]; exact y0l _ hu, ?_⟩
 rw [hi, e, List.idxOf_append, if_pos hu]
 exact List.idxOf_lt_length_iff.2 hu
theorem Top.walk {E : List (Nat × Nat)} {m : Nat} {l : List Nat} (h : Top E m l) {k u v : Nat} (w : Wk E k u v) : v ∈ l → u ∈ l ∧ l.idxOf u + k ≤ l.idxOf v := by
 induction w with
 | refl => exact fun h => ⟨h, y0c _⟩
 | step w e ih =>
  intro hv
  obtain ⟨a, b⟩ := h.edge e hv
  obtain ⟨c, d⟩ := ih a
  exact ⟨c, by omega⟩
def rlx (o : List Int) (e : Nat × Nat) : List Int := o.set e.2 (max (o.getD e.2 0) (o.getD e.1 0 + 1))
def gZ (o : List Int) (v : Nat) : Int := o.getD v 0
theorem zov {o : List Int} {v : Nat} {d : Int} (hv : v < o.length) (w : Nat) : gZ (o.set v d) w = if v = w then d else gZ o w := by
 unfold gZ
 rw [y0d, y0d, List.getElem?_set]
 by_cases h : v = w
 ·subst h
  rw [if_pos rfl, if_pos hv, if_pos rfl]
  rfl
 ·rw [if_neg h, if_neg h]
theorem gZ_ext {o o' : List Int} (hl : o.length = o'.length) (h : ∀ v, gZ o v = gZ o' v) : o = o' := by
 refine List.ext_getElem hl fun i h1 h2 => ?_
 have := h i
 unfold gZ at this
 rw [y0d, y0d, y09 h1, y09 h2] at this
 exact this
theorem rlx_len (o : List Int) (e : Nat × Nat) : (rlx o e).length = o.length := y1o ..
theorem rlx_at {o : List Int} {e : Nat × Nat} (h : e.2 < o.length) (w : Nat) : gZ (rlx o e) w = if e.2 = w then max (gZ o e.2) (gZ o e.1 + 1) else gZ o w := zov h w
structure Lay (E : List (Nat × Nat)) (m : Nat) (o : List Int) : Prop where
 len : o.length = m
 low : ∀ v, 0 ≤ gZ o v
 up : ∀ u v, (u, v) ∈ E → gZ o u + 1 ≤ gZ o v
 down : ∀ v, 0 < gZ o v → ∃ u, (u, v) ∈ E ∧ gZ o u = gZ o v - 1
theorem Lay.le {E : List (Nat × Nat)} {m : Nat} {o o' : List Int} (h : Lay E m o) (h' : Lay E m o') : ∀ (k v : Nat), gZ o v = (k : Int) → (k : Int) ≤ gZ o' v
 | 0, v, _ => h'.low v
 | k + 1, v, e => by
  obtain ⟨u, hu, e2⟩ := h.down v (by omega)
  have := Lay.le h h' k u (by omega)
  have := h'.up u v hu
  omega
theorem Lay.unique {E : List (Nat × Nat)} {m : Nat} {o o' : List Int} (h : Lay E m o) (h' : Lay E m o') : o = o' := by
 refine gZ_ext (h.len.trans h'.len.symm) fun v => ?_
 have a := Lay.le h h' (gZ o v).toNat v (by have := h.low v; omega)
 have b := Lay.le h' h (gZ o' v).toNat v (by have := h'.low v; omega)
 have := h.low v
 have := h'.low v
 omega
structure LyP (E : List (Nat × Nat)) (m : Nat) (p : List Nat) (o : List Int) : Prop where
 len : o.length = m
 low : ∀ v, 0 ≤ gZ o v
 up : ∀ u v, (u, v) ∈ E → u ∈ p → gZ o u + 1 ≤ gZ o v
 down : ∀ v, 0 < gZ o v → ∃ u, u ∈ p ∧ (u, v) ∈ E ∧ gZ o u = gZ o v - 1
structure LyQ (E : List (Nat × Nat)) (m : Nat) (x : Nat) (d : List Nat) (o o' : List Int) : Prop where
 len : o'.length = m
 same : ∀ v, v ∉ d → gZ o' v = gZ o v
 new : ∀ v, v ∈ d → gZ o' v = max (gZ o v) (gZ o x + 1)
theorem lyq {E : List (Nat × Nat)} {m x : Nat} {o : List Int} (hl : o.length = m) : ∀ d : List Nat, x ∉ d → (∀ v ∈ d, v < m) → LyQ E m x d o (d.foldl (fun o w => rlx o (x, w)) o) := by
 intro d
 induction d using zhj with
 | h0 => exact fun _ _ => ⟨hl, fun _ _ => rfl, fun v h => absurd h y0f⟩
 | h1 d w ih =>
  intro hx hd
  have h := ih (fun h => hx (y0l _ h)) fun v hv => hd v (y0l _ hv)
  rw [y2e, y2r, List.foldl_nil]
  generalize d.foldl (fun o w => rlx o (x, w)) o = o' at h
  have hw : w < o'.length := by rw [h.len]; exact hd w (by simp)
  have hxw : w ≠ x := fun e => hx (by rw [e]; simp)
  refine ⟨by rw [rlx_len]; exact h.len, fun v hv => ?_, fun v hv => ?_⟩
  ·rw [rlx_at (e := (x, w)) hw, if_neg (fun e => hv (by rw [← e]; simp))]
   exact h.same v fun c => hv (y0l _ c)
  ·rw [rlx_at (e := (x, w)) hw]
   have hxs := h.same x fun c => hx (y0l _ c)
   by_cases c : w = v
   ·subst c
    rw [if_pos rfl]
    show max (gZ o' w) (gZ o' x + 1) = _
    rw [hxs]
    by_cases c2 : w ∈ d
    ·rw [h.new w c2]
     omega
    ·rw [h.same w c2]
   ·rw [if_neg c]
    rcases y0n.1 hv with hv | hv
    ·exact h.new v hv
    ·exact absurd (y0h.1 hv).symm c
theorem LyP.step {E : List (Nat × Nat)} {m x : Nat} {l p s : List Nat} {o : List Int} (hb : ∀ u v, (u, v) ∈ E → u < m ∧ v < m) (ht : Top E m l) (e : l = p ++ x :: s) (h : LyP E m p o) : LyP E m (p ++ [x]) ((nbr E m x).foldl (fun o w => rlx o (x, w)) o) := by
 have hmem : ∀ w, w ∈ nbr E m x ↔ (x, w) ∈ E := fun w => ze2 fun u v h => (hb u v h).2
 have hnd : (p ++ x :: s).Nodup := e ▸ ht.nd
 have hxp : x ∉ p := fun hx => (List.nodup_append.1 hnd).2.2 x hx x (y06 ..) rfl
 have hno : ∀ w, (x, w) ∈ E → w ∉ p ∧ w ≠ x := fun w hw => by
  constructor
  ·intro hp
   obtain ⟨a, b, e2⟩ := List.append_of_mem hp
   have h2 := ht.pre a w (b ++ x :: s) (by rw [e, e2]; simp) x hw
   exact hxp (by rw [e2]; exact y0l _ h2)
  ·rintro rfl
   exact hxp (ht.pre p w s e w hw)
 have q := lyq (E := E) (x := x) h.len (nbr E m x) (fun hx => (hno x ((hmem x).1 hx)).2 rfl) fun v hv => (hb _ _ ((hmem v).1 hv)).2
 generalize (nbr E m x).foldl (fun o w => rlx o (x, w)) o = o' at q
 have old : ∀ u, u ∈ p ++ [x] → gZ o' u = gZ o u := fun u hu => q.same u fun hm => by
  have := hno u ((hmem u).1 hm)
  rcases y0n.1 hu with hu | hu
  ·exact this.1 hu
  ·exact this.2 (y0h.1 hu)
 have ge : ∀ v, gZ o v ≤ gZ o' v := fun v => by
  by_cases c : v ∈ nbr E m x
  ·rw [q.new v c]; omega
  ·rw [q.same v c]; exact y2a _
 refine ⟨q.len, fun v => by have := ge v; have := h.low v; omega, fun u v huv hu => ?_, fun v hv => ?_⟩
 ·rw [old u hu]
  rcases y0n.1 hu with hu | hu
  ·have := h.up u v huv hu
   have := ge v
   omega
  ·obtain rfl := y0h.1 hu
   rw [q.new v ((hmem v).2 huv)]
   omega
 ·by_cases c : v ∈ nbr E m x ∧ gZ o v < gZ o x + 1
  ·refine ⟨x, by simp, (hmem v).1 c.1, ?_⟩
   rw [old x (by simp), q.new v c.1]
   omega
  ·have ev : gZ o' v = gZ o v := by
    by_cases c2 : v ∈ nbr E m x
    ·rw [q.new v c2]
     have : ¬ gZ o v < gZ o x + 1 := fun h => c ⟨c2, h⟩
     omega
    ·exact q.same v c2
   rw [ev] at hv ⊢
   obtain ⟨u, h1, h2, h3⟩ := h.down v hv
   refine ⟨u, y0l _ h1, h2, ?_⟩
   rw [old u (y0l _ h1)]
   exact h3
theorem low_le {m : Nat} {o : List Int} (hlen : o.length = m) (low : ∀ v, 0 ≤ gZ o v) (down : ∀ v, 0 < gZ o v → ∃ u, gZ o u = gZ o v - 1) (v : Nat) : gZ o v ≤ m := by
 have chain : ∀ (k : Nat) (v : Nat), gZ o v = (k : Int) → ∀ j : Nat, j ≤ k → ∃ u, gZ o u = (j : Int) := by
  intro k
  induction k with
  | zero => exact fun v e j hj => ⟨v, by rw [e]; omega⟩
  | succ k ih =>
   intro v e j hj
   by_cases hjk : j = k + 1
   ·exact ⟨v, by rw [e, hjk]⟩
   ·obtain ⟨u, e2⟩ := down v (by omega)
    exact ih u (by omega) j (by omega)
 have h0 := low v
 have hc := chain (gZ o v).toNat v (by omega)
 have := zcq (a := (List.range (gZ o v).toNat).map fun j => ((j + 1 : Nat) : Int)) (b := o) ?_ ?_
 ·rw [y0e, y12, hlen] at this
  omega
 ·exact List.pairwise_map.2 (List.nodup_range.imp fun {a b} h e => h (by omega))
 ·intro x hx
  obtain ⟨j, hj, rfl⟩ := y0k.1 hx
  rw [y0j] at hj
  obtain ⟨u, hu⟩ := hc (j + 1) (by omega)
  have hlt : u < o.length := by
   refine Nat.lt_of_not_le fun hle => ?_
   unfold gZ at hu
   rw [y0d, y1z hle] at hu
   have hu : (0 : Int) = ((j + 1 : Nat) : Int) := hu
   omega
  unfold gZ at hu
  rw [y0d, y09 hlt] at hu
  rw [← hu]
  exact y17 hlt
theorem LyP.le {E : List (Nat × Nat)} {m : Nat} {p : List Nat} {o : List Int} (h : LyP E m p o) (v : Nat) : gZ o v ≤ m :=
 low_le h.len h.low (fun v hv => by obtain ⟨u, _, _, e⟩ := h.down v hv; exact ⟨u, e⟩) v
def addL (c : Int) (o : List Int) (w : Nat) : List Int := o.set w (gZ o w + c)
structure AddF (c : Int) (l : List Nat) (o o' : List Int) : Prop where
 len : o'.length = o.length
 at_ : ∀ v, gZ o' v = gZ o v + if v ∈ l then c else 0
theorem addF (c : Int) (o : List Int) : ∀ l : List Nat, l.Nodup → (∀ v ∈ l, v < o.length) → AddF c l o (l.foldl (addL c) o) := by
 intro l
 induction l using zhj with
 | h0 => exact fun _ _ => ⟨rfl, fun v => by show gZ o v = _; rw [if_neg y0f]; omega⟩
 | h1 l w ih =>
  intro hn hl
  have hw : w ∉ l := fun h => (List.nodup_append.1 hn).2.2 w h w (by simp) rfl
  obtain ⟨a, b⟩ := ih (List.nodup_append.1 hn).1 fun v hv => hl v (y0l _ hv)
  rw [y2e, y2r, List.foldl_nil]
  generalize l.foldl (addL c) o = o' at *
  have hlt : w < o'.length := by rw [a]; exact hl w (by simp)
  refine ⟨by unfold addL; rw [y1o]; exact a, fun v => ?_⟩
  unfold addL
  rw [zov hlt]
  by_cases e : w = v
  ·subst e
   rw [if_pos rfl, b, if_neg hw, if_pos (by simp)]
   omega
  ·rw [if_neg e, b]
   by_cases h : v ∈ l
   ·rw [if_pos h, if_pos (y0l _ h)]
   ·rw [if_neg h, if_neg fun h2 => ?_]
    rcases y0n.1 h2 with h2 | h2
    ·exact h h2
    ·exact e (y0h.1 h2).symm
theorem zlx {P Q : Nat → Bool} {v : Nat} (hPQ : ∀ u, u ≠ v → Q u = P u) (hQ : Q v = false) : ∀ {L : List Nat}, L.Nodup → v ∈ L → (L.filter Q).length + (if P v = true then 1 else 0) = (L.filter P).length
 | [], _, h => absurd h y0f
 | x :: L, hn, h => by
  obtain ⟨h1, h2⟩ := y2q.1 hn
  by_cases e : x = v
  ·subst e
   have hs : L.filter Q = L.filter P := List.filter_congr fun u hu => hPQ u fun e => h1 (e ▸ hu)
   rw [y1h, y1h, if_neg (by rw [hQ]; exact y2o), hs]
   by_cases c : P x = true
   ·rw [if_pos c, if_pos c, y0q]
   ·rw [if_neg c, if_neg c]; rfl
  ·have ih := zlx hPQ hQ (L := L) h2 ((y0i.1 h).resolve_left fun e2 => e e2.symm)
   rw [y1h, y1h, hPQ x e]
   by_cases c : P x = true
   ·rw [if_pos c, if_pos c, y0q, y0q]
    omega
   ·rw [if_neg c, if_neg c]
    exact ih
def cntO (E : List (Nat × Nat)) (m : Nat) (out : List Nat) (v : Nat) : Nat := ((List.range m).filter fun u => !(out.contains u) && E.contains (u, v)).length
theorem zs8 {E : List (Nat × Nat)} {m x : Nat} {out : List Nat} (hx : x < m) (hxo : x ∉ out) (v : Nat) : cntO E m (out ++ [x]) v + (if (x, v) ∈ E then 1 else 0) = cntO E m out v := by
 unfold cntO
 have h := zlx (P := fun u => !(out.contains u) && E.contains (u, v)) (Q := fun u => !((out ++ [x]).contains u) && E.contains (u, v)) (v := x) (fun u hu => ?_) ?_ (L := List.range m) List.nodup_range (y0j.2 hx)
 ·rw [← h]
  congr 1
  by_cases c : (x, v) ∈ E
  ·rw [if_pos c, if_pos]
   have := y0w.2 c
   simp only [this, Bool.and_true]
   simpa using hxo
  ·rw [if_neg c, if_neg]
   intro h
   rw [y0g] at h
   exact c (y0w.1 h.2)
 ·show (!((out ++ [x]).contains u) && E.contains (u, v)) = (!(out.contains u) && E.contains (u, v))
  congr 2
  rw [y2i, y0w, y0w, y0n]
  exact ⟨fun h => h.resolve_right fun h => hu (y0h.1 h), fun h => .inl h⟩
 ·show (!((out ++ [x]).contains x) && E.contains (x, v)) = false
  rw [y0w.2 (by simp : x ∈ out ++ [x])]
  rfl
theorem zlt {E : List (Nat × Nat)} {m : Nat} (hb : ∀ u v, (u, v) ∈ E → u < m ∧ v < m) {out : List Nat} {v : Nat} : cntO E m out v = 0 ↔ ∀ u, (u, v) ∈ E → u ∈ out := by
 unfold cntO
 rw [y1r, List.filter_eq_nil_iff]
 constructor
 ·intro h u hu
  have := h u (y0j.2 (hb u v hu).1)
  rw [y0g] at this
  refine Classical.byContradiction fun hc => this ⟨?_, y0w.2 hu⟩
  simpa using hc
 ·intro h u _ hc
  rw [y0g] at hc
  have := h u (y0w.1 hc.2)
  have h2 := hc.1
  rw [y0w.2 this] at h2
  cases h2
structure Opn (E : List (Nat × Nat)) (m : Nat) (out : List Nat) (op : List Int) : Prop where
 len : op.length = m
 cnt : ∀ v, v < m → v ∉ out → gZ op v = (cntO E m out v : Nat)
 gone : ∀ v, v ∈ out → gZ op v = -1
theorem Opn.rdy {E : List (Nat × Nat)} {m : Nat} {out : List Nat} {op : List Int} (hb : ∀ u v, (u, v) ∈ E → u < m ∧ v < m) (h : Opn E m out op) {v : Nat} (hv : v < m) : (gZ op v == 0) = rdyB E out v := by
 rw [y2i, beq_iff_eq, zpe]
 by_cases c : v ∈ out
 ·rw [h.gone v c]
  exact ⟨fun h => absurd h (by decide), fun h => absurd c h.2⟩
 ·rw [h.cnt v hv c]
  constructor
  ·intro h0
   exact ⟨(zlt hb).1 (by omega), c⟩
  ·intro h0
   rw [(zlt hb).2 h0.1]
   rfl
theorem Opn.find {E : List (Nat × Nat)} {m : Nat} {out : List Nat} {op : List Int} (hb : ∀ u v, (u, v) ∈ E → u < m ∧ v < m) (h : Opn E m out op) : (List.range op.length).find? (fun i => gZ op i == 0) = nxS E m out := by
 unfold nxS
 rw [h.len]
 have : ∀ l : List Nat, (∀ x ∈ l, x < m) → l.find? (fun i => gZ op i == 0) = l.find? (rdyB E out) := by
  intro l
  induction l with
  | nil => exact fun _ => rfl
  | cons x l ih =>
   intro hl
   rw [List.find?_cons, List.find?_cons, h.rdy hb (hl x (y06 ..)), ih fun y hy => hl y (y04 _ hy)]
 exact this _ fun x hx => y0j.1 hx
theorem zu3 (E : List (Nat × Nat)) (m v : Nat) : (nbr E m v).Nodup := List.Pairwise.filter _ List.nodup_range
theorem Opn.step {E : List (Nat × Nat)} {m x : Nat} {out : List Nat} {op : List Int} (hb : ∀ u v, (u, v) ∈ E → u < m ∧ v < m) (ht : Top E m out) (h : Opn E m out op) (hx : nxS E m out = some x) : Opn E m (out ++ [x]) ((nbr E m x).foldl (addL (-1)) (op.set x (-1))) := by
 obtain ⟨hxm, hpre, hxo⟩ := nxS_ok hx
 have hmem : ∀ w, w ∈ nbr E m x ↔ (x, w) ∈ E := fun w => ze2 fun u v h => (hb u v h).2
 have hxl : x < op.length := by rw [h.len]; exact hxm
 obtain ⟨a, b⟩ := addF (-1) (op.set x (-1)) (nbr E m x) (zu3 ..) fun v hv => by rw [y1o, h.len]; exact (hb _ _ ((hmem v).1 hv)).2
 rw [y1o] at a
 -- an edge leads to nothing that is out
 have hno : ∀ w, (x, w) ∈ E → w ∉ out ++ [x] := fun w hw hm => by
  have ht2 := ht.snoc hx
  obtain ⟨p, s, e⟩ := List.append_of_mem hm
  have hp := ht2.pre p w s e x hw
  rcases y0n.1 hm with hm | hm
  ·obtain ⟨p2, s2, e2⟩ := List.append_of_mem hm
   exact hxo (by rw [e2]; exact y0l _ (ht.pre p2 w s2 e2 x hw))
  ·obtain rfl := y0h.1 hm
   exact hxo (hpre w hw)
 refine ⟨a.trans h.len, fun v hv hvo => ?_, fun v hv => ?_⟩
 ·rw [b, zov hxl, if_neg (fun e => hvo (by rw [e]; simp)), h.cnt v hv fun c => hvo (y0l _ c)]
  have := zs8 (E := E) hxm hxo v
  by_cases c : (x, v) ∈ E
  ·rw [if_pos ((hmem v).2 c)]
   rw [if_pos c] at this
   omega
  ·rw [if_neg fun c2 => c ((hmem v).1 c2)]
   rw [if_neg c] at this
   omega
 ·rw [b, if_neg fun c => hno v ((hmem v).1 c) hv, zov hxl]
  rcases y0n.1 hv with hv | hv
  ·rw [if_neg (fun e : x = v => hxo (by rw [e]; exact hv)), h.gone v hv]
   rfl
  ·rw [if_pos (y0h.1 hv).symm]
   rfl
def cntI (E : List (Nat × Nat)) (i v : Nat) : Nat := ((List.range i).filter fun u => E.contains (u, v)).length
theorem cntI_end (E : List (Nat × Nat)) (m v : Nat) : cntI E m v = cntO E m [] v := by
 unfold cntI cntO
 rfl
theorem Opn.start {E : List (Nat × Nat)} {m : Nat} {op : List Int} (hl : op.length = m) (h : ∀ v, v < m → gZ op v = (cntI E m v : Nat)) : Opn E m [] op :=
 ⟨hl, fun v hv _ => by rw [h v hv, cntI_end], fun v hv => absurd hv y0f⟩
def nnB : Int := -1099511627776
def fwP (k : Nat) (D : Nat → Nat → Int) (i j : Nat) : Int := if D i k ≠ nnB ∧ D k j ≠ nnB ∧ (D i j = nnB ∨ D i k + D k j < D i j) then D i k + D k j else D i j
structure FwI (B : List (Nat × Nat)) (K k : Nat) (D : Nat → Nat → Int) : Prop where
 rng : ∀ i j, i < K → j < K → D i j = nnB ∨ (0 ≤ D i j ∧ D i j ≤ ((2 ^ k : Nat) : Int))
 way : ∀ i j, i < K → j < K → ∀ d : Nat, D i j = (d : Int) → Wk B d i j
 dia : ∀ i, i < K → D i i = 0
 low : ∀ i j, i < K → j < K → (i, j) ∈ B → D i j ≠ nnB ∧ D i j ≤ 1
 tri : ∀ m i j, m < k → m < K → i < K → j < K → D i m ≠ nnB → D m j ≠ nnB → D i j ≠ nnB ∧ D i j ≤ D i m + D m j
theorem zp7 {x : Int} (h : 0 ≤ x) : x ≠ nnB := by
 unfold nnB
 omega
section
variable {B : List (Nat × Nat)} {K k : Nat} {D : Nat → Nat → Int}
theorem FwI.pos (h : FwI B K k D) {i j : Nat} (hi : i < K) (hj : j < K) (hn : D i j ≠ nnB) : 0 ≤ D i j ∧ D i j ≤ ((2 ^ k : Nat) : Int) := by
 rcases h.rng i j hi hj with e | e
 ·exact absurd e hn
 ·exact e
theorem fw_le {i j : Nat} (h : D i j ≠ nnB) : fwP k D i j ≤ D i j ∧ (fwP k D i j = D i j ∨ (D i k ≠ nnB ∧ D k j ≠ nnB ∧ fwP k D i j = D i k + D k j)) := by
 unfold fwP
 split
 ·rename_i c
  rcases c.2.2 with e | e
  ·exact absurd e h
  ·exact ⟨by omega, .inr ⟨c.1, c.2.1, rfl⟩⟩
 ·exact ⟨y2a _, .inl rfl⟩
theorem FwI.row (h : FwI B K k D) (hk : k < K) {j : Nat} (hj : j < K) : fwP k D k j = D k j := by
 unfold fwP
 rw [if_neg]
 rintro ⟨_, a, b | b⟩
 ·exact a b
 ·rw [h.dia k hk] at b
  omega
theorem FwI.col (h : FwI B K k D) (hk : k < K) {i : Nat} (hi : i < K) : fwP k D i k = D i k := by
 unfold fwP
 rw [if_neg]
 rintro ⟨a, _, b | b⟩
 ·exact a b
 ·rw [h.dia k hk] at b
  omega
theorem FwI.min (h : FwI B K k D) (hk : k < K) {i j : Nat} (hi : i < K) (hj : j < K) (a : D i k ≠ nnB) (b : D k j ≠ nnB) : fwP k D i j ≠ nnB ∧ fwP k D i j ≤ D i k + D k j := by
 have h1 := h.pos hi hk a
 have h2 := h.pos hk hj b
 unfold fwP
 split
 ·exact ⟨zp7 (by omega), y2a _⟩
 ·rename_i c
  have c1 : ¬ (D i j = nnB ∨ D i k + D k j < D i j) := fun x => c ⟨a, b, x⟩
  exact ⟨fun e => c1 (.inl e), by omega⟩
theorem FwI.keep (h : FwI B K k D) (hk : k < K) {i j : Nat} (hi : i < K) (hj : j < K) (a : D i j ≠ nnB) : fwP k D i j ≠ nnB ∧ fwP k D i j ≤ D i j := by
 obtain ⟨h1, h2 | ⟨c, d, e⟩⟩ := fw_le (k := k) a
 ·rw [h2]
  exact ⟨a, y2a _⟩
 ·refine ⟨?_, h1⟩
  rw [e]
  have x := h.pos hi hk c
  have y := h.pos hk hj d
  exact zp7 (by omega)
theorem zf4 (k : Nat) (D : Nat → Nat → Int) (i j : Nat) : fwP k D i j = D i j ∨ (D i k ≠ nnB ∧ D k j ≠ nnB ∧ fwP k D i j = D i k + D k j) := by
 unfold fwP
 split
 ·rename_i c
  exact .inr ⟨c.1, c.2.1, rfl⟩
 ·exact .inl rfl
theorem FwI.step (h : FwI B K k D) (hk : k < K) : FwI B K (k + 1) (fwP k D) := by
 have h2k : ((2 ^ (k + 1) : Nat) : Int) = ((2 ^ k : Nat) : Int) + ((2 ^ k : Nat) : Int) := by
  rw [Nat.pow_succ]
  omega
 refine ⟨fun i j hi hj => ?_, fun i j hi hj d hd => ?_, fun i hi => ?_, fun i j hi hj he => ?_, fun m i j hm hmK hi hj a b => ?_⟩
 ·rcases zf4 k D i j with e | ⟨a, b, e⟩
  ·rw [e]
   rcases h.rng i j hi hj with c | c
   ·exact .inl c
   ·exact .inr ⟨c.1, by omega⟩
  ·have x := h.pos hi hk a
   have y := h.pos hk hj b
   rw [e]
   exact .inr ⟨by omega, by omega⟩
 ·rcases zf4 k D i j with e | ⟨a, b, e⟩
  ·exact h.way i j hi hj d (e.symm.trans hd)
  ·have x := h.pos hi hk a
   have y := h.pos hk hj b
   have p := h.way i k hi hk (D i k).toNat (by omega)
   have q := h.way k j hk hj (D k j).toNat (by omega)
   have := Wk.trans p q
   rwa [show (D i k).toNat + (D k j).toNat = d by omega] at this
 ·rcases zf4 k D i i with e | ⟨a, b, e⟩
  ·rw [e]
   exact h.dia i hi
  ·have x := h.pos hi hk a
   have y := h.pos hk hi b
   have z := h.dia i hi
   have := (h.keep hk hi hi (zp7 (by omega))).2
   omega
 ·obtain ⟨a, b⟩ := h.low i j hi hj he
  obtain ⟨c, d⟩ := h.keep hk hi hj a
  exact ⟨c, by omega⟩
 ·by_cases e : m = k
  ·subst e
   rw [h.col hk hi] at a ⊢
   rw [h.row hk hj] at b ⊢
   exact h.min hk hi hj a b
  have hmk : m < k := by omega
  rcases zf4 k D i m with e1 | ⟨a1, a2, e1⟩
  ·rw [e1] at a ⊢
   rcases zf4 k D m j with e2 | ⟨b1, b2, e2⟩
   ·rw [e2] at b ⊢
    obtain ⟨c, d⟩ := h.tri m i j hmk hmK hi hj a b
    obtain ⟨f, g⟩ := h.keep hk hi hj c
    exact ⟨f, by omega⟩
   ·rw [e2]
    obtain ⟨c, d⟩ := h.tri m i k hmk hmK hi hk a b1
    obtain ⟨f, g⟩ := h.min hk hi hj c b2
    exact ⟨f, by omega⟩
  ·rw [e1]
   rcases zf4 k D m j with e2 | ⟨b1, b2, e2⟩
   ·rw [e2] at b ⊢
    obtain ⟨c, d⟩ := h.tri m k j hmk hmK hk hj a2 b
    obtain ⟨f, g⟩ := h.min hk hi hj a1 c
    exact ⟨f, by omega⟩
   ·rw [e2]
    obtain ⟨f, g⟩ := h.min hk hi hj a1 b2
    have x := h.pos hk hmK a2
    have y := h.pos hmK hk b1
    exact ⟨f, by omega⟩
end
def fwK (D : Nat → Nat → Int) : Nat → Nat → Nat → Int
 | 0 => D
 | k + 1 => fwP k (fwK D k)
theorem FwI.all {B : List (Nat × Nat)} {K : Nat} {D : Nat → Nat → Int} (h : FwI B K 0 D) : ∀ k, k ≤ K → FwI B K k (fwK D k)
 | 0, _ => h
 | k + 1, hk => (FwI.all h k (by omega)).step (by omega)
structure BndE (E : List (Nat × Nat)) (m : Nat) (D : Nat → Nat → Int) : Prop where
 dia : ∀ i, i < m + 1 → D i i = 0
 one : ∀ u v, (u, v) ∈ E → u ≠ v → D (u + 1) (v + 1) = 1
 non : ∀ i j, i < m + 1 → j < m + 1 → i ≠ j → (∀ u v, (u, v) ∈ E → ¬ (i = u + 1 ∧ j = v + 1)) → D i j = nnB
def shE (E : List (Nat × Nat)) : List (Nat × Nat) := E.map fun e => (e.1 + 1, e.2 + 1)
theorem zpt {E : List (Nat × Nat)} {i j : Nat} : (i, j) ∈ shE E ↔ ∃ u v, (u, v) ∈ E ∧ i = u + 1 ∧ j = v + 1 := by
 unfold shE
 rw [y0k]
 constructor
 ·rintro ⟨⟨u, v⟩, h, e⟩
  obtain ⟨rfl, rfl⟩ := Prod.mk.inj e
  exact ⟨u, v, h, rfl, rfl⟩
 ·rintro ⟨u, v, h, rfl, rfl⟩
  exact ⟨(u, v), h, rfl⟩
theorem BndE.val {E : List (Nat × Nat)} {m : Nat} {D : Nat → Nat → Int} (h : BndE E m D) {i j : Nat} (hi : i < m + 1) (hj : j < m + 1) : (i = j ∧ D i j = 0) ∨ (i ≠ j ∧ (i, j) ∈ shE E ∧ D i j = 1) ∨ (i ≠ j ∧ (i, j) ∉ shE E ∧ D i j = nnB) := by
 by_cases e : i = j
 ·subst e
  exact .inl ⟨rfl, h.dia i hi⟩
 by_cases c : (i, j) ∈ shE E
 ·obtain ⟨u, v, hm, rfl, rfl⟩ := zpt.1 c
  exact .inr (.inl ⟨e, c, h.one u v hm (fun x => e (by rw [x]))⟩)
 ·exact .inr (.inr ⟨e, c, h.non i j hi hj e fun u v hm x => c (zpt.2 ⟨u, v, hm, x.1, x.2⟩)⟩)
theorem BndE.start {E : List (Nat × Nat)} {m : Nat} {D : Nat → Nat → Int} (h : BndE E m D) : FwI (shE E) (m + 1) 0 D := by
 refine ⟨fun i j hi hj => ?_, fun i j hi hj d hd => ?_, h.dia, fun i j hi hj he => ?_, fun m i j hm => absurd hm (y2g _)⟩
 ·rcases h.val hi hj with ⟨_, e⟩ | ⟨_, _, e⟩ | ⟨_, _, e⟩
  ·rw [e]; exact .inr ⟨by decide, by decide⟩
  ·rw [e]; exact .inr ⟨by decide, by decide⟩
  ·exact .inl e
 ·rcases h.val hi hj with ⟨e1, e⟩ | ⟨_, c, e⟩ | ⟨_, _, e⟩
  ·obtain rfl : d = 0 := by omega
   subst e1
   exact .refl i
  ·obtain rfl : d = 1 := by omega
   exact .step (.refl i) c
  ·rw [e] at hd
   unfold nnB at hd
   omega
 ·rcases h.val hi hj with ⟨_, e⟩ | ⟨_, _, e⟩ | ⟨_, c, e⟩
  ·rw [e]; exact ⟨by decide, by decide⟩
  ·rw [e]; exact ⟨by decide, by decide⟩
  ·exact absurd he c
theorem zux {E : List (Nat × Nat)} {d i j : Nat} (h : Wk (shE E) d i j) : ∀ u, i = u + 1 → ∃ v, j = v + 1 ∧ Wk E d u v := by
 induction h with
 | refl => exact fun u e => ⟨u, e, .refl u⟩
 | step _ e ih =>
  intro u hu
  obtain ⟨v, hv, w⟩ := ih u hu
  obtain ⟨x, y, hm, hx, hy⟩ := zpt.1 e
  obtain rfl : x = v := by omega
  exact ⟨y, hy, .step w hm⟩
def zqb (D : Nat → Nat → Int) (m v : Nat) : List Int := (List.range m).map fun w => if D (v + 1) (w + 1) = nnB then -1 else D (v + 1) (w + 1)
theorem zn9 {D : Nat → Nat → Int} {m v w : Nat} : gI (zqb D m v) w = if w < m then (if D (v + 1) (w + 1) = nnB then -1 else D (v + 1) (w + 1)) else -1 := by
 unfold gI zqb
 rw [y0d, y0a]
 by_cases h : w < m
 ·rw [y1a h, if_pos h]
  rfl
 ·rw [y1z (by rw [y12]; omega), if_neg h]
  rfl
section
variable {E : List (Nat × Nat)} {m : Nat} {D : Nat → Nat → Int} (hb : ∀ u v, (u, v) ∈ E → u < m ∧ v < m) (h : FwI (shE E) (m + 1) (m + 1) D)
include hb h
theorem znf {v x w : Nat} (hv : v < m) (e : (x, w) ∈ E) (hn : D (v + 1) (x + 1) ≠ nnB) : D (v + 1) (w + 1) ≠ nnB ∧ D (v + 1) (w + 1) ≤ D (v + 1) (x + 1) + 1 := by
 obtain ⟨hx, hw⟩ := hb x w e
 by_cases c : x = w
 ·subst c
  exact ⟨hn, by omega⟩
 ·obtain ⟨a, b⟩ := h.low (x + 1) (w + 1) (by omega) (by omega) (zpt.2 ⟨x, w, e, rfl, rfl⟩)
  obtain ⟨f, g⟩ := h.tri (x + 1) (v + 1) (w + 1) (by omega) (by omega) (by omega) (by omega) hn a
  exact ⟨f, by omega⟩
theorem fw_walk {d v w : Nat} (k : Wk E d v w) : v < m → D (v + 1) (w + 1) ≠ nnB ∧ D (v + 1) (w + 1) ≤ (d : Int) := by
 induction k with
 | refl u =>
  intro hv
  rw [h.dia (u + 1) (by omega)]
  exact ⟨by decide, by decide⟩
 | step _ e ih =>
  intro hv
  obtain ⟨a, b⟩ := ih hv
  obtain ⟨f, g⟩ := znf hb h hv e a
  exact ⟨f, by omega⟩
theorem dis_lab {v : Nat} (hv : v < m) : Lab E m v (zqb D m v) := by
 have hval : ∀ w, w < m → D (v + 1) (w + 1) = nnB ∨ (0 ≤ D (v + 1) (w + 1)) := fun w hw => by
  rcases h.rng (v + 1) (w + 1) (by omega) (by omega) with e | e
  ·exact .inl e
  ·exact .inr e.1
 have hpos : ∀ w, 0 ≤ gI (zqb D m v) w → w < m ∧ D (v + 1) (w + 1) ≠ nnB ∧ gI (zqb D m v) w = D (v + 1) (w + 1) ∧ 0 ≤ D (v + 1) (w + 1) := fun w hw => by
  rw [zn9] at hw ⊢
  by_cases c : w < m
  ·rw [if_pos c] at hw ⊢
   by_cases n : D (v + 1) (w + 1) = nnB
   ·rw [if_pos n] at hw
    omega
   ·rw [if_neg n] at hw ⊢
    exact ⟨c, n, rfl, hw⟩
  ·rw [if_neg c] at hw
   omega
 have hof : ∀ w, w < m → D (v + 1) (w + 1) ≠ nnB → gI (zqb D m v) w = D (v + 1) (w + 1) ∧ 0 ≤ D (v + 1) (w + 1) := fun w hw hn => by
  rw [zn9, if_pos hw, if_neg hn]
  rcases hval w hw with e | e
  ·exact absurd e hn
  ·exact ⟨rfl, e⟩
 refine ⟨by unfold zqb; rw [y0e, y12], ?_, fun u w e hu => ?_, fun w hw => ?_, fun w hw => ?_, fun w => ?_⟩
 ·have := h.dia (v + 1) (by omega)
  rw [(hof v hv (by rw [this]; decide)).1, this]
 ·obtain ⟨a, b, c, d⟩ := hpos u hu
  obtain ⟨f, g⟩ := znf hb h hv e b
  obtain ⟨x, y⟩ := hof w (hb u w e).2 f
  rw [x, c]
  exact ⟨y, g⟩
 ·obtain ⟨a, b, c, d⟩ := hpos w (by omega)
  rw [c] at hw ⊢
  obtain ⟨k, hk⟩ : ∃ k : Nat, D (v + 1) (w + 1) = ((k + 1 : Nat) : Int) := ⟨(D (v + 1) (w + 1)).toNat - 1, by omega⟩
  have wk := h.way (v + 1) (w + 1) (by omega) (by omega) (k + 1) hk
  obtain ⟨w', hw', wk⟩ := zux wk v rfl
  obtain rfl : w = w' := by omega
  cases wk with
  | step wk e =>
   rename_i x
   obtain ⟨f, g⟩ := fw_walk hb h wk hv
   obtain ⟨p, q⟩ := znf hb h hv e f
   obtain ⟨r, s⟩ := hof x (hb x w e).1 f
   exact ⟨x, e, by rw [r, hk]; omega⟩
 ·obtain ⟨a, b, c, d⟩ := hpos w (by omega)
  rw [c] at hw
  have wk := h.way (v + 1) (w + 1) (by omega) (by omega) 0 hw
  obtain ⟨w', hw', wk⟩ := zux wk v rfl
  cases wk
  omega
 ·rw [zn9]
  split
  ·rename_i c
   split
   ·decide
   ·rename_i n
    rcases hval w c with e | e
    ·exact absurd e n
    ·omega
  ·decide
end
theorem dis_far {E : List (Nat × Nat)} {m v : Nat} {D : Nat → Nat → Int} (hb : ∀ u v, (u, v) ∈ E → u < m ∧ v < m) (hD : BndE E m D) (hv : v < m) : zsq E m v m = zqb (fwK D (m + 1)) m v :=
 Lab.unique (zkb hv fun u w e => (hb u w e).2) (dis_lab hb (hD.start.all (m + 1) (y0c _)) hv)
def zd2 (D : Nat → Nat → Int) (K i : Nat) : List Int := (List.range K).map (D i)
def zc7 (D : Nat → Nat → Int) (K : Nat) : List (List Int) := (List.range K).map (zd2 D K)
def cM (M : List (List Int)) : AV := .vs (M.map fun r => [vsI r])
def cB (n : Int) (M : List (List Int)) : AV := .agg [.int .i64 n, cM M]
theorem zl3 (D : Nat → Nat → Int) (K i : Nat) : (zd2 D K i).length = K := by
 unfold zd2
 rw [y0e, y12]
theorem zdy (D : Nat → Nat → Int) (K i : Nat) : ((zd2 D K i).map fun z => ([.int .i64 z] : List AV)).length = K := by rw [y0e, zl3]
theorem zej (D : Nat → Nat → Int) (K : Nat) : ((zc7 D K).map fun r => ([vsI r] : List AV)).length = K := by
 unfold zc7
 rw [y0e, y0e, y12]
theorem zex {D : Nat → Nat → Int} {K i : Nat} (h : i < K) : ((zc7 D K).map fun r => ([vsI r] : List AV))[((i : Nat) : Int).toNat]? = some [vsI (zd2 D K i)] := by
 unfold zc7
 rw [y0y, y0a, y0a, y1a h]
 rfl
theorem ziw {D : Nat → Nat → Int} {K i j : Nat} (h : j < K) : ((zd2 D K i).map fun z => ([.int .i64 z] : List AV))[((j : Nat) : Int).toNat]? = some [.int .i64 (D i j)] := by
 unfold zd2
 rw [y0y, y0a, y0a, y1a h]
 rfl
def insB (x : Int) : Bool := decide (x ≥ -64000000) && decide (x ≤ 64000000)
structure OkB (D : Nat → Nat → Int) (K : Nat) : Prop where
 rng : ∀ i j, i < K → j < K → D i j = nnB ∨ (0 ≤ D i j ∧ D i j ≤ 64000000)
 dia : ∀ i, i < K → D i i = 0
theorem OkB.ins {D : Nat → Nat → Int} {K i j : Nat} (h : OkB D K) (hi : i < K) (hj : j < K) (hn : D i j ≠ nnB) : insB (D i j) = true := by
 rcases h.rng i j hi hj with e | ⟨a, b⟩
 ·exact absurd e hn
 ·unfold insB
  rw [decide_eq_true (by omega), decide_eq_true (by omega)]
  rfl
-- pneumatic/bounds.inside
def ic50 : IC := .seq (.region [oM 2 (.mov (.c (.bool false)))] none)
 (.seq (.region [oT 3 0,
  oM 4 (.bin .geq (.t 3) (.c (.int .i64 (-64000000)))),
  oT 5 4,
  ⟨(some 6), .mov (.t 0), some (5, true)⟩,
  ⟨(some 7), .bin .leq (.t 6) (.c (.int .i64 64000000)), some (5, true)⟩,
  oM 8 (.pick (.t 5) (.t 7) (.c (.bool false))),
  oT 2 8] none)
 (.ret))
theorem fn50 : env0.fn 50 = some ⟨9, ic50, [.t 2]⟩ := by kernel_rfl
theorem zoy (x : Int) : PF Try.prog 50 [.int .i64 x] (.bool (insB x)) := by
 refine zb2 env0_ok fn50 [(0, .int .i64 x)] (by show 1 ≤ 9; decide) rfl fun w0 N0 => ?_
 unfold ic50 insB
 refine zsr rfl (za3 rfl (onr rfl (za3 rfl ?_)))
 refine zao rfl rfl rfl (fun h1 => ?_) fun h1 => ?_
 all_goals
  rw [h1]
  repeat (first | refine za8 ?_ | refine za7 ?_ | refine zaz ?_ | refine zd1 rfl ?_ | refine zfd rfl rfl ?_ | refine za3 rfl ?_ | refine zaq rfl rfl ?_)
 ·refine zao rfl rfl rfl (fun h2 => ?_) fun h2 => ?_
  all_goals
   rw [h2]
   refine zb3 rfl rfl (za3 rfl (onu (zaz ?_)))
   exact zam ⟨.inr rfl, _, rfl, rfl⟩
 ·exact zam ⟨.inr rfl, _, rfl, rfl⟩
-- pneumatic/pneumaticref11.In
def ic35 : IC := .seq (.region [oM 2 (.mov (.c (.bool false)))] none)
 (.seq (.region [oT 3 0,
  oM 4 (.bin .geq (.t 3) (.c (.int .i64 (-64000000)))),
  oT 5 4,
  ⟨(some 6), .mov (.t 0), some (5, true)⟩,
  ⟨(some 7), .bin .leq (.t 6) (.c (.int .i64 64000000)), some (5, true)⟩,
  oM 8 (.pick (.t 5) (.t 7) (.c (.bool false))),
  oT 2 8] none)
 (.ret))
theorem fn35 : env0.fn 35 = some ⟨9, ic35, [.t 2]⟩ := by kernel_rfl
theorem in35 (x : Int) : PF Try.prog 35 [.int .i64 x] (.bool (insB x)) := by
 refine zb2 env0_ok fn35 [(0, .int .i64 x)] (by show 1 ≤ 9; decide) rfl fun w0 N0 => ?_
 unfold ic35 insB
 refine zsr rfl (za3 rfl (onr rfl (za3 rfl ?_)))
 refine zao rfl rfl rfl (fun h1 => ?_) fun h1 => ?_
 all_goals
  rw [h1]
  repeat (first | refine za8 ?_ | refine za7 ?_ | refine zaz ?_ | refine zd1 rfl ?_ | refine zfd rfl rfl ?_ | refine za3 rfl ?_ | refine zaq rfl rfl ?_)
 ·refine zao rfl rfl rfl (fun h2 => ?_) fun h2 => ?_
  all_goals
   rw [h2]
   refine zb3 rfl rfl (za3 rfl (onu (zaz ?_)))
   exact zam ⟨.inr rfl, _, rfl, rfl⟩
 ·exact zam ⟨.inr rfl, _, rfl, rfl⟩
def b30_0 : IC := .seq (.region [oM 28 (.bin .lss (.t 27) (.t 26))] none)
 (.seq (.cond (.t 28) (.skip)
 (.exit 0))
 (.seq (.block 1 (.seq (.region [oM 29 (.idxs 1 (.t 25) (.t 27)),
  oN 30 29,
  oT 4 30] none)
 (.seq (.region [oT 31 4,
  oM 32 (.len false (.t 31)),
  oF 33 0 1,
  oN 34 33,
  oM 35 (.bin .add (.t 34) (.c (.int .i64 1))),
  oM 36 (.bin .neq (.t 32) (.t 35))] none)
 (.cond (.t 36) (.seq (.region [oM 2 (.mov (.c (.int .i64 8)))] none)
 (.ret))
 (.skip)))))
 (.region [oM 37 (.bin .add (.t 27) (.c (.int .i64 1))),
  oT 27 37] none)))
def b30_4 : IC := .seq (.region [oM 49 (.bin .lss (.t 48) (.t 47))] none)
 (.seq (.cond (.t 49) (.skip)
 (.exit 4))
 (.seq (.block 5 (.seq (.region [oT 50 48,
  oM 51 (.idxs 1 (.t 46) (.t 48)),
  oN 52 51,
  oT 7 50,
  oT 8 52] none)
 (.block 6 (.seq (.region [oT 54 8,
  oM 55 (.bin .neq (.t 54) (.c (.int .i64 (-1099511627776)))),
  oT 56 55,
  ⟨(some 57), .mov (.t 8), some (56, true)⟩,
  ⟨(some 58), .call (.c (.fn 50 [] [])) [(.t 57)], some (56, true)⟩,
  ⟨(some 59), .un .not (.t 58), some (56, true)⟩,
  oM 60 (.pick (.t 56) (.t 59) (.c (.bool false))),
  oT 53 60] none)
 (.cond (.t 53) (.seq (.region [oM 2 (.mov (.c (.int .i64 2)))] none)
 (.ret))
 (.seq (.region [oT 62 5,
  oT 63 7,
  oM 64 (.bin .eql (.t 62) (.t 63)),
  oT 65 64,
  ⟨(some 66), .mov (.t 8), some (65, true)⟩,
  ⟨(some 67), .bin .neq (.t 66) (.c (.int .i64 0)), some (65, true)⟩,
  oM 68 (.pick (.t 65) (.t 67) (.c (.bool false))),
  oT 61 68] none)
 (.cond (.t 61) (.seq (.region [oM 2 (.mov (.c (.int .i64 3)))] none)
 (.ret))
 (.skip))))))))
 (.region [oM 69 (.bin .add (.t 48) (.c (.int .i64 1))),
  oT 48 69] none)))
def b30_2 : IC := .seq (.region [oM 42 (.bin .lss (.t 41) (.t 40))] none)
 (.seq (.cond (.t 42) (.skip)
 (.exit 2))
 (.seq (.block 3 (.seq (.region [oT 43 41,
  oM 44 (.idxs 1 (.t 39) (.t 41)),
  oN 45 44,
  oT 5 43,
  oT 6 45] none)
 (.seq (.region [oT 46 6,
  oM 47 (.len false (.t 46)),
  oM 48 (.mov (.c (.int .i64 0)))] none)
 (.block 4 (.loop b30_4)))))
 (.region [oM 70 (.bin .add (.t 41) (.c (.int .i64 1))),
  oT 41 70] none)))
-- pneumatic/bounds.Check
def ic30 : IC := .seq (.region [oM 1 (.box (.t 0)),
  oM 2 (.mov (.c (.int .i64 0)))] none)
 (.seq (.seq (.region [oF 9 0 1,
  oN 10 9,
  oM 11 (.bin .lss (.t 10) (.c (.int .i64 0))),
  oT 12 11,
  ⟨(some 13), .faddr 0 (.t 1), some (12, false)⟩,
  ⟨(some 14), .load none (.t 13), some (12, false)⟩,
  ⟨(some 15), .bin .gtr (.t 14) (.c (.int .i64 12)), some (12, false)⟩,
  oM 16 (.pick (.t 12) (.c (.bool true)) (.t 15))] none)
 (.cond (.t 16) (.seq (.region [oM 2 (.mov (.c (.int .i64 2)))] none)
 (.ret))
 (.skip)))
 (.seq (.seq (.region [oF 17 1 1,
  oN 18 17,
  oM 19 (.len false (.t 18)),
  oF 20 0 1,
  oN 21 20,
  oM 22 (.bin .add (.t 21) (.c (.int .i64 1))),
  oM 23 (.bin .neq (.t 19) (.t 22))] none)
 (.cond (.t 23) (.seq (.region [oM 2 (.mov (.c (.int .i64 8)))] none)
 (.ret))
 (.skip)))
 (.seq (.seq (.region [oF 24 1 1,
  oN 25 24,
  oM 26 (.len false (.t 25)),
  oM 27 (.mov (.c (.int .i64 0)))] none)
 (.block 0 (.loop b30_0)))
 (.seq (.seq (.region [oF 38 1 1,
  oN 39 38,
  oM 40 (.len false (.t 39)),
  oM 41 (.mov (.c (.int .i64 0)))] none)
 (.block 2 (.loop b30_2)))
 (.seq (.region [oM 2 (.mov (.c (.int .i64 0)))] none)
 (.ret))))))
theorem fn30 : env0.fn 30 = some ⟨71, ic30, [.t 2]⟩ := by kernel_rfl
set_option maxHeartbeats 2000000 in
theorem check30 {D : Nat → Nat → Int} {n : Nat} (hn : n ≤ 12) (hD : OkB D (n + 1)) : PF Try.prog 30 [cB (n : Nat) (zc7 D (n + 1))] (.int .i64 0) := by
 have hml := zej D (n + 1)
 refine zb2 env0_ok fn30 [(0, .agg [.int .i64 (n : Nat), cM (zc7 D (n + 1))])] (by show 1 ≤ 71; decide) rfl fun w0 N0 => ?_
 unfold ic30 cM
 repeat (first | refine za9 ?_ | refine za1 rfl ?_ | refine za8 ?_ | refine za7 ?_ | refine zd1 rfl ?_ | refine za3 rfl ?_ | refine zad rfl rfl ?_ | refine zae rfl ?_ | refine zdg rfl rfl ?_ | refine ze9 rfl rfl rfl ?_)
 refine zao rfl rfl rfl (fun h1 => ?_) fun h1 => ?_
 ·have := of_decide_eq_true h1
  omega
 refine zaq rfl rfl (onu (zc3 rfl (zaf (za7 (za9 (zsr rfl (zae rfl (zad rfl rfl (zcr rfl rfl (zae rfl (zad rfl rfl ?_)))))))))))
 refine zb5 (op := .add) rfl rfl rfl ?_
 rw [hml, zab n (by omega)]
 refine zao rfl rfl rfl (fun h2 => ?_) fun h2 => ?_
 ·simp at h2
 refine onu (zc3 rfl (zaf (za7 (za9 (zsr rfl (zae rfl (zad rfl rfl (zcr rfl rfl (za3 rfl (onu ?_))))))))))
 refine zah ?_
 rw [hml]
 refine zbo [] [(0, 0, [.int .i64 (n : Nat), cM (zc7 D (n + 1))])] [(1, .vptr [.int .i64 (n : Nat), cM (zc7 D (n + 1))]), (2, .int .i64 0), (25, cM (zc7 D (n + 1))), (26, .int .i64 ((n + 1 : Nat) : Int)), (27, .int .i64 0)] rfl (.cons rfl rfl .nil) .nil (.cons rfl (.fptr rfl rfl) (.cons rfl (.same rfl) (.cons rfl (.same rfl) (.cons rfl (.same rfl) (.cons rfl (.same rfl) .nil))))) ?_
 refine zbn (fun mm S => ∃ i, mm = n + 1 - i ∧ i ≤ n + 1 ∧ S = st 71 [(1, .vptr [.int .i64 (n : Nat), cM (zc7 D (n + 1))]), (2, .int .i64 0), (25, cM (zc7 D (n + 1))), (26, .int .i64 ((n + 1 : Nat) : Int)), (27, .int .i64 (i : Nat))] [] 0 1) (n + 1)
  (zaa (.cons rfl (.cons rfl (.cons rfl (.cons rfl (.cons rfl .nil)))))) ⟨0, rfl, y19 _, rfl⟩ ?_
 rintro mm S ⟨i, rfl, hi, rfl⟩
 unfold b30_0
 refine zsr rfl ?_
 refine zao rfl rfl rfl (fun h3 => ?_) fun h3 => ?_
 ·have hlt : i < n + 1 := y18.1 (of_decide_eq_true h3)
  have hge := zex (D := D) hlt
  have hrl := zdy D (n + 1) i
  unfold cM
  refine onu (za9 (zd8 rfl (zaf (za7 (za9 (zah (zsr rfl (zba rfl rfl (by omega) (by assumption) rfl (zad rfl rfl (za3 rfl (za8 ?_)))))))))))
  refine za7 (zsr rfl (za3 rfl (zcr rfl rfl (zal rfl rfl rfl (zad rfl rfl (zb5 (op := .add) rfl rfl rfl ?_))))))
  rw [hrl, zab n (by omega)]
  refine zao rfl rfl rfl (fun h4 => ?_) fun h4 => ?_
  ·simp at h4
  refine onu (zc3 rfl (zaf (zbm (za7 (za1 rfl (zb5 (op := .add) rfl rfl rfl (za3 rfl (za8 ?_))))))))
  rw [zab i (by omega)]
  exact zat (show n + 1 - (i + 1) < n + 1 - i by omega) (zaa (.cons rfl (.cons rfl (.cons rfl (.cons rfl (.cons rfl .nil)))))) ⟨i + 1, rfl, hlt, rfl⟩
 refine onu (za9 (zc3 rfl (zbw (zak ?_))))
 refine zdb ?_
 unfold cM
 refine zbu (za7 (za9 (zsr rfl (zal rfl rfl rfl (zad rfl rfl (zcr rfl rfl (za3 rfl (onu (zah ?_)))))))))
 rw [hml]
 refine zbn (fun mm S => ∃ i, mm = n + 1 - i ∧ i ≤ n + 1 ∧ S = st 71 [(1, .vptr [.int .i64 (n : Nat), cM (zc7 D (n + 1))]), (2, .int .i64 0), (39, cM (zc7 D (n + 1))), (40, .int .i64 ((n + 1 : Nat) : Int)), (41, .int .i64 (i : Nat))] [] 0 1) (n + 1)
  (zaa (.cons rfl (.cons rfl (.cons rfl (.cons rfl (.cons rfl .nil)))))) ⟨0, rfl, y19 _, rfl⟩ ?_
 rintro mm S ⟨i, rfl, hi, rfl⟩
 unfold b30_2
 refine zsr rfl ?_
 refine zao rfl rfl rfl (fun h3 => ?_) fun h3 => ?_
 ·have hlt : i < n + 1 := y18.1 (of_decide_eq_true h3)
  have hge := zex (D := D) hlt
  have hrl := zdy D (n + 1) i
  unfold cM
  repeat (first | refine za9 ?_ | refine za1 rfl ?_ | refine za8 ?_ | refine za7 ?_ | refine zah ?_ | refine zaf ?_ | refine zd8 rfl ?_ | refine za3 rfl ?_ | refine zad rfl rfl ?_ | refine zcr rfl rfl ?_ | refine zba rfl rfl (by omega) (by assumption) rfl ?_)
  rw [hrl]
  refine zbn (fun mm S => ∃ j, mm = n + 1 - j ∧ j ≤ n + 1 ∧ S = st 71 [(1, .vptr [.int .i64 (n : Nat), cM (zc7 D (n + 1))]), (2, .int .i64 0), (39, cM (zc7 D (n + 1))), (40, .int .i64 ((n + 1 : Nat) : Int)), (41, .int .i64 (i : Nat)), (5, .int .i64 (i : Nat)), (46, vsI (zd2 D (n + 1) i)), (47, .int .i64 ((n + 1 : Nat) : Int)), (48, .int .i64 (j : Nat))] [] 0 1) (n + 1)
   (zaa (.cons rfl (.cons rfl (.cons rfl (.cons rfl (.cons rfl (.cons rfl (.cons rfl (.cons rfl (.cons rfl .nil)))))))))) ⟨0, rfl, y19 _, rfl⟩ ?_
  rintro mm S ⟨j, rfl, hj, rfl⟩
  unfold b30_4
  refine zsr rfl ?_
  refine zao rfl rfl rfl (fun h5 => ?_) fun h5 => ?_
  ·have hlt2 : j < n + 1 := y18.1 (of_decide_eq_true h5)
   have hgj := ziw (D := D) (i := i) hlt2
   have p50 := zoy (D i j)
   have hin := hD.ins hlt hlt2
   have hdi : i = j → D i j = 0 := fun e => by rw [← e]; exact hD.dia i hlt
   generalize D i j = x at *
   repeat (first | refine za9 ?_ | refine za1 rfl ?_ | refine za8 ?_ | refine za7 ?_ | refine zah ?_ | refine zaf ?_ | refine zd8 rfl ?_ | refine za3 rfl ?_ | refine zad rfl rfl ?_ | refine zba rfl rfl (by omega) (by assumption) rfl ?_)
   refine zao rfl rfl rfl (fun h6 => ?_) fun h6 => ?_
   ·have hx : x ≠ nnB := by unfold nnB; simpa using h6
    rw [hin hx] at p50
    refine za3 rfl (zd1 rfl (za3 rfl (zd1 rfl ?_)))
    refine zb4 rfl rfl p50 noC ?_
    refine zd1 rfl (o_un rfl rfl (zb3 rfl rfl (za3 rfl (onu (zc3 rfl (zsr rfl (za3 rfl (za3 rfl ?_))))))))
    refine zao rfl rfl rfl (fun h7 => ?_) fun h7 => ?_
    ·have h8 : ((i : Nat) : Int) = (j : Nat) := by simpa using h7
     have hij : i = j := by omega
     rw [hdi hij]
     refine za3 rfl (zd1 rfl (za3 rfl (zd1 rfl (ze9 rfl rfl rfl (zb3 rfl rfl (za3 rfl (onu (zc3 rfl (zaf (zbm (zbm (za7 ?_))))))))))))
     refine za1 rfl (zb5 (op := .add) rfl rfl rfl (za3 rfl (za8 ?_)))
     rw [zab j (by omega)]
     exact zat (show n + 1 - (j + 1) < n + 1 - j by omega) (zaa (.cons rfl (.cons rfl (.cons rfl (.cons rfl (.cons rfl (.cons rfl (.cons rfl (.cons rfl (.cons rfl .nil)))))))))) ⟨j + 1, rfl, hlt2, rfl⟩
    ·refine za3 rfl (zfd rfl rfl (zfd rfl rfl (zaq rfl rfl (za3 rfl (onu (zc3 rfl (zaf (zbm (zbm (za7 (za1 rfl (zb5 (op := .add) rfl rfl rfl ?_))))))))))))
     refine za3 rfl (za8 ?_)
     rw [zab j (by omega)]
     exact zat (show n + 1 - (j + 1) < n + 1 - j by omega) (zaa (.cons rfl (.cons rfl (.cons rfl (.cons rfl (.cons rfl (.cons rfl (.cons rfl (.cons rfl (.cons rfl .nil)))))))))) ⟨j + 1, rfl, hlt2, rfl⟩
   ·have hx : x = nnB := by unfold nnB; simpa using h6
    have hij : i ≠ j := fun e => by
     have := hdi e
     rw [hx] at this
     exact absurd this (by decide)
    refine za3 rfl (zfd rfl rfl (zfd rfl rfl (zfd rfl rfl (zaq rfl rfl (za3 rfl (onu (zc3 rfl (zsr rfl (za3 rfl (za3 rfl ?_))))))))))
    refine zao rfl rfl rfl (fun h7 => ?_) fun h7 => ?_
    ·have h8 : ((i : Nat) : Int) = (j : Nat) := by simpa using h7
     omega
    refine za3 rfl (zfd rfl rfl (zfd rfl rfl (zaq rfl rfl (za3 rfl (onu (zc3 rfl (zaf (zbm (zbm (za7 (za1 rfl (zb5 (op := .add) rfl rfl rfl ?_))))))))))))
    refine za3 rfl (za8 ?_)
    rw [zab j (by omega)]
    exact zat (show n + 1 - (j + 1) < n + 1 - j by omega) (zaa (.cons rfl (.cons rfl (.cons rfl (.cons rfl (.cons rfl (.cons rfl (.cons rfl (.cons rfl (.cons rfl .nil)))))))))) ⟨j + 1, rfl, hlt2, rfl⟩
  ·refine onu (za9 (zc3 rfl (zbw (zak ?_))))
   refine zdb ?_
   refine zbu (zbm (za7 (za1 rfl (zb5 (op := .add) rfl rfl rfl (za3 rfl (za8 ?_))))))
   rw [zab i (by omega)]
   exact zat (show n + 1 - (i + 1) < n + 1 - i by omega) (zaa (.cons rfl (.cons rfl (.cons rfl (.cons rfl (.cons rfl .nil)))))) ⟨i + 1, rfl, hlt, rfl⟩
 ·refine onu (za9 (zc3 rfl (zbw (zak ?_))))
  refine zdb ?_
  refine zbu (za7 (zsr rfl (za3 rfl (onu (zaz ?_)))))
  exact zam ⟨.inr rfl, _, rfl, rfl⟩
def b12_0 : IC := .seq (.seq (.region [oT 22 3,
  oF 23 1 1,
  oN 24 23,
  oM 25 (.len false (.t 24)),
  oM 26 (.bin .lss (.t 22) (.t 25))] none)
 (.cond (.t 26) (.skip)
 (.exit 0)))
 (.seq (.block 1 (.seq (.region [oF 29 1 1,
  oN 30 29,
  oT 31 3,
  oM 32 (.idxs 1 (.t 30) (.t 31)),
  oN 33 32,
  oM 34 (.len false (.t 33)),
  oF 35 0 1,
  oN 36 35,
  oM 37 (.bin .add (.t 36) (.c (.int .i64 1))),
  oM 38 (.bin .neq (.t 34) (.t 37))] (some [[], [0], [], [1, 2], [3], [4], [], [6], [7], [5, 8]]))
 (.cond (.t 38) (.seq (.region [oM 2 (.mov (.c (.int .i64 8)))] none)
 (.ret))
 (.skip))))
 (.region [oT 27 3,
  oM 28 (.bin .add (.t 27) (.c (.int .i64 1))),
  oT 3 28] none))
def b12_4 : IC := .seq (.seq (.region [oT 45 5,
  oF 46 0 1,
  oN 47 46,
  oM 48 (.bin .leq (.t 45) (.t 47))] none)
 (.cond (.t 48) (.skip)
 (.exit 4)))
 (.seq (.block 5 (.seq (.seq (.region [oF 51 1 1,
  oN 52 51,
  oT 53 4,
  oM 54 (.idxs 1 (.t 52) (.t 53)),
  oN 55 54,
  oT 56 5,
  oM 57 (.idxs 1 (.t 55) (.t 56)),
  oN 58 57,
  oT 6 58] none)
 (.seq (.region [oT 59 6,
  oM 60 (.bin .neq (.t 59) (.c (.int .i64 (-1099511627776)))),
  oT 61 60,
  ⟨(some 62), .mov (.t 6), some (61, true)⟩,
  ⟨(some 63), .call (.c (.fn 35 [] [])) [(.t 62)], some (61, true)⟩,
  ⟨(some 64), .un .not (.t 63), some (61, true)⟩,
  oM 65 (.pick (.t 61) (.t 64) (.c (.bool false)))] none)
 (.cond (.t 65) (.seq (.region [oM 2 (.mov (.c (.int .i64 2)))] none)
 (.ret))
 (.skip))))
 (.seq (.region [oT 66 4,
  oT 67 5,
  oM 68 (.bin .eql (.t 66) (.t 67)),
  oT 69 68,
  ⟨(some 70), .faddr 1 (.t 1), some (69, true)⟩,
  ⟨(some 71), .load none (.t 70), some (69, true)⟩,
  ⟨(some 72), .mov (.t 4), some (69, true)⟩,
  ⟨(some 73), .idxs 1 (.t 71) (.t 72), some (69, true)⟩,
  ⟨(some 74), .load none (.t 73), some (69, true)⟩,
  ⟨(some 75), .mov (.t 5), some (69, true)⟩,
  ⟨(some 76), .idxs 1 (.t 74) (.t 75), some (69, true)⟩,
  ⟨(some 77), .load none (.t 76), some (69, true)⟩,
  ⟨(some 78), .bin .neq (.t 77) (.c (.int .i64 0)), some (69, true)⟩,
  oM 79 (.pick (.t 69) (.t 78) (.c (.bool false)))] none)
 (.cond (.t 79) (.seq (.region [oM 2 (.mov (.c (.int .i64 3)))] none)
 (.ret))
 (.skip)))))
 (.region [oT 49 5,
  oM 50 (.bin .add (.t 49) (.c (.int .i64 1))),
  oT 5 50] none))
def b12_2 : IC := .seq (.seq (.region [oT 39 4,
  oF 40 0 1,
  oN 41 40,
  oM 42 (.bin .leq (.t 39) (.t 41))] none)
 (.cond (.t 42) (.skip)
 (.exit 2)))
 (.seq (.block 3 (.seq (.region [oM 5 (.mov (.c (.int .i64 0)))] none)
 (.block 4 (.loop b12_4))))
 (.region [oT 43 4,
  oM 44 (.bin .add (.t 43) (.c (.int .i64 1))),
  oT 4 44] none))
-- pneumatic/pneumaticref11.Check
def ic12 : IC := .seq (.region [oM 1 (.box (.t 0)),
  oM 2 (.mov (.c (.int .i64 0)))] none)
 (.seq (.seq (.region [oF 7 0 1,
  oN 8 7,
  oM 9 (.bin .lss (.t 8) (.c (.int .i64 0))),
  oT 10 9,
  ⟨(some 11), .faddr 0 (.t 1), some (10, false)⟩,
  ⟨(some 12), .load none (.t 11), some (10, false)⟩,
  ⟨(some 13), .bin .gtr (.t 12) (.c (.int .i64 12)), some (10, false)⟩,
  oM 14 (.pick (.t 10) (.c (.bool true)) (.t 13))] none)
 (.cond (.t 14) (.seq (.region [oM 2 (.mov (.c (.int .i64 2)))] none)
 (.ret))
 (.skip)))
 (.seq (.seq (.region [oF 15 1 1,
  oN 16 15,
  oM 17 (.len false (.t 16)),
  oF 18 0 1,
  oN 19 18,
  oM 20 (.bin .add (.t 19) (.c (.int .i64 1))),
  oM 21 (.bin .neq (.t 17) (.t 20))] none)
 (.cond (.t 21) (.seq (.region [oM 2 (.mov (.c (.int .i64 8)))] none)
 (.ret))
 (.skip)))
 (.seq (.seq (.region [oM 3 (.mov (.c (.int .i64 0)))] none)
 (.block 0 (.loop b12_0)))
 (.seq (.seq (.region [oM 4 (.mov (.c (.int .i64 0)))] none)
 (.block 2 (.loop b12_2)))
 (.seq (.region [oM 2 (.mov (.c (.int .i64 0)))] none)
 (.ret))))))
theorem fn12 : env0.fn 12 = some ⟨80, ic12, [.t 2]⟩ := by kernel_rfl
set_option maxHeartbeats 4000000 in
theorem check12 {D : Nat → Nat → Int} {n : Nat} (hn : n ≤ 12) (hD : OkB D (n + 1)) : PF Try.prog 12 [cB (n : Nat) (zc7 D (n + 1))] (.int .i64 0) := by
 have hml := zej D (n + 1)
 refine zb2 env0_ok fn12 [(0, .agg [.int .i64 (n : Nat), cM (zc7 D (n + 1))])] (by show 1 ≤ 80; decide) rfl fun w0 N0 => ?_
 unfold ic12 cM
 repeat (first | refine za9 ?_ | refine za1 rfl ?_ | refine za8 ?_ | refine za7 ?_ | refine zd1 rfl ?_ | refine za3 rfl ?_ | refine zad rfl rfl ?_ | refine zae rfl ?_ | refine zdg rfl rfl ?_ | refine ze9 rfl rfl rfl ?_)
 refine zao rfl rfl rfl (fun h1 => ?_) fun h1 => ?_
 ·have := of_decide_eq_true h1
  omega
 refine zaq rfl rfl (onu (zc3 rfl (zaf (za7 (za9 (zsr rfl (zae rfl (zad rfl rfl (zcr rfl rfl (zae rfl (zad rfl rfl ?_)))))))))))
 refine zb5 (op := .add) rfl rfl rfl ?_
 rw [hml, zab n (by omega)]
 refine zao rfl rfl rfl (fun h2 => ?_) fun h2 => ?_
 ·simp at h2
 refine onu (zc3 rfl (zaf (za7 (za9 (zsr rfl (za3 rfl (onu (zah ?_))))))))
 refine zbo [] [(0, 0, [.int .i64 (n : Nat), cM (zc7 D (n + 1))])] [(1, .vptr [.int .i64 (n : Nat), cM (zc7 D (n + 1))]), (2, .int .i64 0), (3, .int .i64 0)] rfl (.cons rfl rfl .nil) .nil (.cons rfl (.fptr rfl rfl) (.cons rfl (.same rfl) (.cons rfl (.same rfl) .nil))) ?_
 refine zbn (fun mm S => ∃ i, mm = n + 1 - i ∧ i ≤ n + 1 ∧ S = st 80 [(1, .vptr [.int .i64 (n : Nat), cM (zc7 D (n + 1))]), (2, .int .i64 0), (3, .int .i64 (i : Nat))] [] 0 1) (n + 1)
  (zaa (.cons rfl (.cons rfl (.cons rfl .nil)))) ⟨0, rfl, y19 _, rfl⟩ ?_
 rintro mm S ⟨i, rfl, hi, rfl⟩
 unfold b12_0 cM
 refine za9 (zsr rfl (za3 rfl (zal rfl rfl rfl (zad rfl rfl (zcr rfl rfl ?_)))))
 rw [hml]
 refine zao rfl rfl rfl (fun h3 => ?_) fun h3 => ?_
 ·have hlt : i < n + 1 := y18.1 (of_decide_eq_true h3)
  have hge := zex (D := D) hlt
  have hrl := zdy D (n + 1) i
  refine onu (zd8 rfl (zaf (za7 (za9 (zah (za9 (zgg env0_ok rfl rfl rfl (zal rfl rfl rfl (zad rfl rfl (za3 rfl (zba rfl rfl (by omega) (by assumption) rfl (zad rfl rfl ?_))))))))))))
  refine zcr rfl rfl (zal rfl rfl rfl (zad rfl rfl (zb5 (op := .add) rfl rfl rfl ?_)))
  rw [hrl, zab n (by omega)]
  refine zao rfl rfl rfl (fun h4 => ?_) fun h4 => ?_
  ·simp at h4
  refine onu (zc3 rfl (zaf (zbm (za7 (za1 rfl (za3 rfl (zb5 (op := .add) rfl rfl rfl (za3 rfl (za8 ?_)))))))))
  rw [zab i (by omega)]
  exact zat (show n + 1 - (i + 1) < n + 1 - i by omega) (zaa (.cons rfl (.cons rfl (.cons rfl .nil)))) ⟨i + 1, rfl, hlt, rfl⟩
 refine onu (zc3 rfl (zbw (zak ?_)))
 refine zdb ?_
 refine zbu (za7 (za9 (zsr rfl (za3 rfl (onu (zah ?_))))))
 refine zbn (fun mm S => ∃ i, mm = n + 1 - i ∧ i ≤ n + 1 ∧ S = st 80 [(1, .vptr [.int .i64 (n : Nat), cM (zc7 D (n + 1))]), (2, .int .i64 0), (4, .int .i64 (i : Nat))] [] 0 1) (n + 1)
  (zaa (.cons rfl (.cons rfl (.cons rfl .nil)))) ⟨0, rfl, y19 _, rfl⟩ ?_
 rintro mm S ⟨i, rfl, hi, rfl⟩
 unfold b12_2 cM
 refine za9 (zsr rfl (za3 rfl (zal rfl rfl rfl (zad rfl rfl ?_))))
 refine zao rfl rfl rfl (fun h3 => ?_) fun h3 => ?_
 ·have hlt : i < n + 1 := by have := of_decide_eq_true h3; omega
  have hge := zex (D := D) hlt
  refine onu (zd8 rfl (zaf (za7 (za9 (zah (zsr rfl (za3 rfl (onu (zah ?_)))))))))
  refine zbn (fun mm S => ∃ j, mm = n + 1 - j ∧ j ≤ n + 1 ∧ S = st 80 [(1, .vptr [.int .i64 (n : Nat), cM (zc7 D (n + 1))]), (2, .int .i64 0), (4, .int .i64 (i : Nat)), (5, .int .i64 (j : Nat))] [] 0 1) (n + 1)
   (zaa (.cons rfl (.cons rfl (.cons rfl (.cons rfl .nil))))) ⟨0, rfl, y19 _, rfl⟩ ?_
  rintro mm S ⟨j, rfl, hj, rfl⟩
  unfold b12_4 cM
  refine za9 (zsr rfl (za3 rfl (zal rfl rfl rfl (zad rfl rfl ?_))))
  refine zao rfl rfl rfl (fun h5 => ?_) fun h5 => ?_
  ·have hlt2 : j < n + 1 := by have := of_decide_eq_true h5; omega
   have hgj := ziw (D := D) (i := i) hlt2
   have p35 := in35 (D i j)
   have hin := hD.ins hlt hlt2
   have hdi : i = j → D i j = 0 := fun e => by rw [← e]; exact hD.dia i hlt
   generalize D i j = x at *
   repeat (first | refine za9 ?_ | refine za1 rfl ?_ | refine za8 ?_ | refine za7 ?_ | refine zah ?_ | refine zaf ?_ | refine zd8 rfl ?_ | refine za3 rfl ?_ | refine zad rfl rfl ?_ | refine zal rfl rfl rfl ?_ | refine zba rfl rfl (by omega) (by assumption) rfl ?_)
   refine zao rfl rfl rfl (fun h6 => ?_) fun h6 => ?_
   ·have hx : x ≠ nnB := by unfold nnB; simpa using h6
    rw [hin hx] at p35
    refine za3 rfl (zd1 rfl (za3 rfl (zd1 rfl ?_)))
    refine zb4 rfl rfl p35 noC ?_
    refine zd1 rfl (o_un rfl rfl (zb3 rfl rfl (onu (zc3 rfl (zaf (za7 (zsr rfl (za3 rfl (za3 rfl ?_)))))))))
    refine zao rfl rfl rfl (fun h7 => ?_) fun h7 => ?_
    ·have h8 : ((i : Nat) : Int) = (j : Nat) := by simpa using h7
     have hij : i = j := by omega
     have hx0 := hdi hij
     subst hx0
     repeat (first | refine za1 rfl ?_ | refine za8 ?_ | refine za7 ?_ | refine zbm ?_ | refine zaf ?_ | refine zc3 rfl ?_ | refine zd1 rfl ?_ | refine za3 rfl ?_ | refine zad rfl rfl ?_ | refine zal rfl rfl rfl ?_ | refine zb3 rfl rfl ?_ | refine zb5 (op := .add) rfl rfl rfl ?_ | refine ze9 rfl rfl rfl ?_ | refine zba rfl rfl (by omega) (by assumption) rfl ?_)
     rw [zab j (by omega)]
     exact zat (show n + 1 - (j + 1) < n + 1 - j by omega) (zaa (.cons rfl (.cons rfl (.cons rfl (.cons rfl .nil))))) ⟨j + 1, rfl, hlt2, rfl⟩
    ·repeat (first | refine za1 rfl ?_ | refine za8 ?_ | refine za7 ?_ | refine zbm ?_ | refine zaf ?_ | refine zc3 rfl ?_ | refine zfd rfl rfl ?_ | refine za3 rfl ?_ | refine zaq rfl rfl ?_ | refine zb5 (op := .add) rfl rfl rfl ?_)
     rw [zab j (by omega)]
     exact zat (show n + 1 - (j + 1) < n + 1 - j by omega) (zaa (.cons rfl (.cons rfl (.cons rfl (.cons rfl .nil))))) ⟨j + 1, rfl, hlt2, rfl⟩
   ·have hx : x = nnB := by unfold nnB; simpa using h6
    have hij : i ≠ j := fun e => by
     have := hdi e
     rw [hx] at this
     exact absurd this (by decide)
    refine za3 rfl (zfd rfl rfl (zfd rfl rfl (zfd rfl rfl (zaq rfl rfl (onu (zc3 rfl (zaf (za7 (zsr rfl (za3 rfl (za3 rfl ?_)))))))))))
    refine zao rfl rfl rfl (fun h7 => ?_) fun h7 => ?_
    ·have h8 : ((i : Nat) : Int) = (j : Nat) := by simpa using h7
     omega
    repeat (first | refine za1 rfl ?_ | refine za8 ?_ | refine za7 ?_ | refine zbm ?_ | refine zaf ?_ | refine zc3 rfl ?_ | refine zfd rfl rfl ?_ | refine za3 rfl ?_ | refine zaq rfl rfl ?_ | refine zb5 (op := .add) rfl rfl rfl ?_)
    rw [zab j (by omega)]
    exact zat (show n + 1 - (j + 1) < n + 1 - j by omega) (zaa (.cons rfl (.cons rfl (.cons rfl (.cons rfl .nil))))) ⟨j + 1, rfl, hlt2, rfl⟩
  ·refine onu (zc3 rfl (zbw (zak ?_)))
   refine zdb ?_
   refine zbu (zbm (za7 (za1 rfl (za3 rfl (zb5 (op := .add) rfl rfl rfl (za3 rfl (za8 ?_)))))))
   rw [zab i (by omega)]
   exact zat (show n + 1 - (i + 1) < n + 1 - i by omega) (zaa (.cons rfl (.cons rfl (.cons rfl .nil)))) ⟨i + 1, rfl, hlt, rfl⟩
 ·refine onu (zc3 rfl (zbw (zak ?_)))
  refine zdb ?_
  refine zbu (za7 (zsr rfl (za3 rfl (onu (zaz ?_)))))
  exact zam ⟨.inr rfl, _, rfl, rfl⟩
end Go.Proofs.Ytfbeableaihooaa
