/-
  THE SEAT's CODE, READ.; DISTANCES IN A GRAPH: labels that are right are the only ones; the search and the rounds both find them. Neighbours.; PATHS IN PLAIN LEAN: walks; the distance to a vertex is the distance from it in the reversed graph; the next vertex.; ORDERS IN PLAIN LEAN: the least vertex whose predecessors are all out; no order exactly if there is a cycle; layers.; LAYERS IN PLAIN LEAN: 
-/
import Derived.Test.YtfbeableaihooaaNA11
import Derived.KernelRfl
import Derived.Test.YtfbeableaihooaaChecked
namespace Go.Proofs.Ytfbeableaihooaa
open Go Go.Am
abbrev oF (d i a : Nat) : Opr := ⟨some d, .faddr i (.t a), none⟩
abbrev oL (d m a : Nat) : Opr := ⟨some d, .load (some m) (.t a), none⟩
abbrev oM (d : Nat) (op : IOp) : Opr := ⟨some d, op, none⟩
abbrev oN (d a : Nat) : Opr := ⟨some d, .load none (.t a), none⟩
abbrev oT (d a : Nat) : Opr := ⟨some d, .mov (.t a), none⟩
theorem noC {p : Prop} (h : false = true) : p := Bool.noConfusion h
section
variable {P : Program} {w0 : World} {N0 : Nat} {S : AS} {k : List Fr} {Q : Exit → AS → Prop} {pf : Kn} {ios : List Opr} {md : Md} {y : IC}
theorem zsr (hd : (ios.all fun io => zc1 S.size io.dst) = true) (h : Om P w0 N0 md (KnP P w0 N0) ios S (.seq y :: k) Q) : Zm P w0 N0 md (.seq (.region ios none) y) S k Q := za7 (za0 hd h)
theorem onu (h : Zm P w0 N0 md y S k Q) : Om P w0 N0 md pf [] S (.seq y :: k) Q := za8 (za5 h)
theorem onr (hd : (ios.all fun io => zc1 S.size io.dst) = true) (h : Om P w0 N0 md (KnP P w0 N0) ios S (.seq y :: k) Q) : Om P w0 N0 md pf [] S (.seq (.seq (.region ios none) y) :: k) Q := za8 (za5 (za7 (za0 hd h)))
theorem onR (hd : (ios.all fun io => zc1 S.size io.dst) = true) (h : Om P w0 N0 md (KnP P w0 N0) ios S k Q) : Om P w0 N0 md pf [] S (.seq (.region ios none) :: k) Q := za8 (za5 (za0 hd h))
end
noncomputable def env0 : Env := envOf Try.prog 10000
theorem env0_ok : EnvOk Try.prog env0 := envOf_ok 10000 (by kernel_rfl)
def vsI (l : List Int) : AV := .vs (l.map fun z => [.int .i64 z])
theorem ze5 {D : List Int} {k : Nat} (hk : k < D.length) : (D.map fun z => ([.int .i64 z] : List AV))[((k : Nat) : Int).toNat]? = some [.int .i64 D[k]] := by
 rw [y0t, y0d, y07 hk]
 rfl
theorem zc4 : ∀ l : List Int, hasM.hasML (l.map (AV.int .i64)) = false
 | [] => rfl
 | b :: l => by
  have := zc4 l
  simpa [hasM.hasML, hasM] using this
theorem zg9 (l : List Int) : (l.map (AV.int .i64)) = (l.map fun z => ([.int .i64 z] : List AV)).flatten := by
 induction l with
 | nil => rfl
 | cons z l ih => simpa using ih
theorem zj7 {S : AS} {d id sp len : Nat} {cap : Option Nat} {J : List AV} (a : List Int) (hn : a.length = len) (hl : Am.look id S.heap = some (sp, .cells (a.map (AV.int .i64) ++ J))) : S.view (d + 1) (.ms id sp 1 0 len cap) = vsI a := by
 subst hn
 have e : S.elems 1 (.ms id sp 1 0 a.length cap) = some (a.map fun z => ([.int .i64 z] : List AV)) := by
  obtain ⟨n, t, hp, nx, ck, mk⟩ := S
  exact zcv (ys := J) (cap := cap) (n := n) (nx := nx) (ck := ck) (mk := mk) (l := []) (hp := hp) (by rw [← zg9]; exact hl) (y04 ..) (fun x hx => by obtain ⟨s, _, rfl⟩ := y0i.1 hx; rfl)
 simp only [AS.view, e]
 unfold vsI
 congr 1
 rw [y1v]
 apply y1x
 intro s _
 cases d <;> rfl
theorem zce {S : AS} {d id sp len : Nat} {cap : Option Nat} (a : List Int) (hn : a.length = len) (hl : Am.look id S.heap = some (sp, .cells (a.map (AV.int .i64)))) : S.view (d + 1) (.ms id sp 1 0 len cap) = vsI a :=
 zj7 (J := []) a hn (by rw [y18]; exact hl)
section
variable {σ τ : Type} (M : Nat → Prop) (I : σ → HS → Prop) (J : τ → HS → Prop)
end
theorem Keep.mono {M M' : Nat → Prop} {H H' : HS} (h : Keep M H H') (hm : ∀ i, M i → M' i) : Keep M' H H' :=
 ⟨h.next, h.clk, fun i hi => h.look i fun h => hi (hm i h)⟩
theorem zf1 {a b c d : AV} (h1 : a = c) (h2 : b = d) : [a, b] = [c, d] := by rw [h1, h2]
def gI (o : List Int) (v : Nat) : Int := o.getD v (-1)
theorem zeu {o : List Int} {v : Nat} {d : Int} (hv : v < o.length) (w : Nat) : gI (o.set v d) w = if v = w then d else gI o w := by
 unfold gI
 rw [y0b, y0b, List.getElem?_set]
 by_cases h : v = w
 ·subst h
  rw [if_pos rfl, if_pos hv, if_pos rfl]
  rfl
 ·rw [if_neg h, if_neg h]
theorem gI_out {o : List Int} {v : Nat} (h : o.length ≤ v) : gI o v = -1 := by
 unfold gI
 rw [y0b, y25 h]
 rfl
theorem gI_lt {o : List Int} {v : Nat} (h : 0 ≤ gI o v) : v < o.length := by
 refine Nat.lt_of_not_le fun hv => ?_
 rw [gI_out hv] at h
 omega
theorem gI_ext {o o' : List Int} (hl : o.length = o'.length) (h : ∀ v, gI o v = gI o' v) : o = o' := by
 refine y2t hl fun i h1 h2 => ?_
 have := h i
 unfold gI at this
 rw [y0b, y0b, y07 h1, y07 h2] at this
 exact this
theorem zfj {α : Type} {P : List α → Prop} (h0 : P []) (h1 : ∀ l a, P l → P (l ++ [a])) (l : List α) : P l := by
 have key : ∀ l : List α, P l.reverse := by
  intro l
  induction l with
  | nil => exact h0
  | cons a l ih => rw [List.reverse_cons]; exact h1 _ a ih
 have := key l.reverse
 rwa [List.reverse_reverse] at this
structure Lab (es : List (Nat × Nat)) (N f : Nat) (o : List Int) : Prop where
 len : o.length = N
 zero : gI o f = 0
 up : ∀ u v, (u, v) ∈ es → 0 ≤ gI o u → 0 ≤ gI o v ∧ gI o v ≤ gI o u + 1
 down : ∀ v, 0 < gI o v → ∃ u, (u, v) ∈ es ∧ gI o u = gI o v - 1
 root : ∀ v, gI o v = 0 → v = f
 low : ∀ v, -1 ≤ gI o v
theorem Lab.le {es : List (Nat × Nat)} {N f : Nat} {o o' : List Int} (h : Lab es N f o) (h' : Lab es N f o') : ∀ (k : Nat) (v : Nat), gI o v = (k : Int) → 0 ≤ gI o' v ∧ gI o' v ≤ (k : Int)
 | 0, v, e => by
  rw [h.root v e, h'.zero]
  omega
 | k + 1, v, e => by
  obtain ⟨u, hu, e2⟩ := h.down v (by omega)
  obtain ⟨h1, h2⟩ := Lab.le h h' k u (by omega)
  obtain ⟨h3, h4⟩ := h'.up u v hu h1
  omega
theorem Lab.unique {es : List (Nat × Nat)} {N f : Nat} {o o' : List Int} (h : Lab es N f o) (h' : Lab es N f o') : o = o' := by
 refine gI_ext (h.len.trans h'.len.symm) fun v => ?_
 have l1 := h.low v
 have l2 := h'.low v
 by_cases c1 : 0 ≤ gI o v
 ·have a := Lab.le h h' (gI o v).toNat v (by omega)
  have b := Lab.le h' h (gI o' v).toNat v (by omega)
  omega
 ·by_cases c2 : 0 ≤ gI o' v
  ·have b := Lab.le h' h (gI o' v).toNat v (by omega)
   omega
  ·omega
def vis (d : Int) (b : List Int × List Nat) (v : Nat) : List Int × List Nat := if gI b.1 v < 0 then (b.1.set v d, b.2 ++ [v]) else b
def unl (o : List Int) : Nat := (o.filter fun x => decide (x < 0)).length
theorem zwd : ∀ {o : List Int} {v : Nat} {d : Int}, v < o.length → gI o v < 0 → 0 ≤ d → unl (o.set v d) + 1 = unl o
 | [], _, _, h, _, _ => absurd h (y28 _)
 | x :: o, 0, d, _, h, hd => by
  have hx : x < 0 := h
  unfold unl
  rw [List.set_cons_zero, y1r, y1r, if_neg (by rw [decide_eq_true_eq]; omega), if_pos (by rw [decide_eq_true_eq]; exact hx), y0r]
 | x :: o, v + 1, d, hv, h, hd => by
  have ih := zwd (o := o) (v := v) (d := d) (by simpa using hv) h hd
  unfold unl at ih ⊢
  rw [List.set_cons_succ, y1r, y1r]
  split
  ·rw [y0r, y0r]; omega
  ·exact ih
structure Ext (o : List Int) (l : List Nat) (d : Int) (o' : List Int) (new : List Nat) : Prop where
 len : o'.length = o.length
 old : ∀ v, 0 ≤ gI o v → gI o' v = gI o v
 fresh : ∀ v, gI o v < 0 → 0 ≤ gI o' v → gI o' v = d ∧ v ∈ new
 mem : ∀ v ∈ new, gI o' v = d ∧ v ∈ l ∧ gI o v < 0
 done : ∀ v ∈ l, 0 ≤ gI o' v
 low : (∀ v, -1 ≤ gI o v) → ∀ v, -1 ≤ gI o' v
 cnt : unl o' + new.length = unl o
theorem zqt {d : Int} (hd : 0 ≤ d) (o : List Int) (qs : List Nat) : ∀ (l : List Nat), (∀ v ∈ l, v < o.length) → ∃ o' new, l.foldl (vis d) (o, qs) = (o', qs ++ new) ∧ Ext o l d o' new := by
 intro l
 -- by the last element
 induction l using zfj with
 | h0 => exact fun _ => ⟨o, [], by simp, ⟨rfl, fun _ _ => rfl, fun v h1 h2 => absurd h2 (by omega), fun v h => absurd h y0h, fun v h => absurd h y0h, fun h => h, by simp⟩⟩
 | h1 l w ih =>
  intro hl
  obtain ⟨o', new, e, h⟩ := ih fun v hv => hl v (y0k _ hv)
  have hw : w < o'.length := by rw [h.len]; exact hl w (by simp)
  rw [y1y, e, y23, List.foldl_nil]
  unfold vis
  by_cases c : gI o' w < 0
  ·rw [if_pos c]
   refine ⟨o'.set w d, new ++ [w], by simp, ?_⟩
   have c0 : gI o w < 0 := by
    refine Int.not_le.1 fun h0 => ?_
    rw [h.old w h0] at c
    omega
   refine ⟨by rw [y1n, h.len], fun v hv => ?_, fun v h1 h2 => ?_, fun v hv => ?_, fun v hv => ?_, fun hlo v => ?_, ?_⟩
   ·rw [zeu hw, if_neg (fun e => by subst e; omega)]
    exact h.old v hv
   ·rw [zeu hw] at h2 ⊢
    by_cases e : w = v
    ·subst e
     rw [if_pos rfl]
     exact ⟨rfl, by simp⟩
    ·rw [if_neg e] at h2 ⊢
     obtain ⟨a, b⟩ := h.fresh v h1 h2
     exact ⟨a, y0k _ b⟩
   ·rw [zeu hw]
    rcases y0p.1 hv with hv | hv
    ·obtain ⟨a, b, c1⟩ := h.mem v hv
     refine ⟨?_, y0k _ b, c1⟩
     split
     ·rfl
     ·exact a
    ·obtain rfl := y0f.1 hv
     rw [if_pos rfl]
     exact ⟨rfl, by simp, c0⟩
   ·rw [zeu hw]
    split
    ·exact hd
    ·rename_i e
     rcases y0p.1 hv with hv | hv
     ·exact h.done v hv
     ·exact absurd (y0f.1 hv).symm e
   ·rw [zeu hw]
    split
    ·omega
    ·exact h.low hlo v
   ·have := zwd hw c hd
    have := h.cnt
    rw [y0l, y11]
    omega
  ·rw [if_neg c]
   refine ⟨o', new, rfl, h.len, h.old, h.fresh, fun v hv => ?_, fun v hv => ?_, h.low, h.cnt⟩
   ·obtain ⟨a, b, c1⟩ := h.mem v hv
    exact ⟨a, y0k _ b, c1⟩
   ·rcases y0p.1 hv with hv | hv
    ·exact h.done v hv
    ·obtain rfl := y0f.1 hv
     omega
structure Bfs (es : List (Nat × Nat)) (N f : Nat) (o : List Int) (qu : List Nat) : Prop where
 len : o.length = N
 zero : gI o f = 0
 low : ∀ v, -1 ≤ gI o v
 root : ∀ v, gI o v = 0 → v = f
 down : ∀ v, 0 < gI o v → ∃ u, (u, v) ∈ es ∧ gI o u = gI o v - 1
 inq : ∀ v ∈ qu, 0 ≤ gI o v
 asc : qu.Pairwise fun a b => gI o a ≤ gI o b
 bound : ∀ h, qu.head? = some h → ∀ v, gI o v ≤ gI o h + 1
 done : ∀ u, 0 ≤ gI o u → u ∉ qu → ∀ v, (u, v) ∈ es → 0 ≤ gI o v ∧ gI o v ≤ gI o u + 1
theorem Bfs.end {es : List (Nat × Nat)} {N f : Nat} {o : List Int} (h : Bfs es N f o []) : Lab es N f o :=
 ⟨h.len, h.zero, fun u v hm hu => h.done u hu y0h v hm, h.down, h.root, h.low⟩
theorem Bfs.start (es : List (Nat × Nat)) {N f : Nat} (hf : f < N) : Bfs es N f ((List.replicate N (-1 : Int)).set f 0) [f] := by
 have hl : f < (List.replicate N (-1 : Int)).length := by rw [y1j]; exact hf
 have hr : ∀ v, gI (List.replicate N (-1 : Int)) v = -1 := fun v => by
  unfold gI
  rw [y0b, List.getElem?_replicate]
  split <;> rfl
 have hg : ∀ v, gI ((List.replicate N (-1 : Int)).set f 0) v = if f = v then 0 else -1 := fun v => by rw [zeu hl, hr]
 refine ⟨by rw [y1n, y1j], by rw [hg, if_pos rfl], fun v => ?_, fun v hv => ?_, fun v hv => ?_, fun v hv => ?_, List.pairwise_singleton .., fun h hh v => ?_, fun u hu hn => ?_⟩
 ·rw [hg]; split <;> omega
 ·rw [hg] at hv
  split at hv
  ·rename_i e; exact e.symm
  ·omega
 ·rw [hg] at hv
  split at hv <;> omega
 ·obtain rfl := y0f.1 hv
  rw [hg, if_pos rfl]
  omega
 ·obtain rfl := Option.some.inj hh
  rw [hg, hg, if_pos rfl]
  split <;> omega
 ·rw [hg] at hu
  split at hu
  ·rename_i e
   exact absurd (by rw [e]; simp) hn
  ·omega
theorem Bfs.step {es : List (Nat × Nat)} {N f q : Nat} {o : List Int} {qs : List Nat} {l : List Nat} (h : Bfs es N f o (q :: qs)) (hl : ∀ v, v ∈ l ↔ (q, v) ∈ es) (hN : ∀ v ∈ l, v < N) :
  ∃ o' new, l.foldl (vis (gI o q + 1)) (o, qs) = (o', qs ++ new) ∧ Bfs es N f o' (qs ++ new) ∧ 2 * unl o' + (qs ++ new).length < 2 * unl o + (q :: qs).length ∧ gI o' q = gI o q := by
 have hq := h.inq q (y08 ..)
 obtain ⟨o', new, e, x⟩ := zqt (d := gI o q + 1) (by omega) o qs l fun v hv => by rw [h.len]; exact hN v hv
 obtain ⟨a1, a2⟩ := y2v.1 h.asc
 have hb := h.bound q rfl
 have val : ∀ v, 0 ≤ gI o' v → (0 ≤ gI o v ∧ gI o' v = gI o v) ∨ (gI o v < 0 ∧ gI o' v = gI o q + 1 ∧ v ∈ new) := fun v hv => by
  by_cases c : 0 ≤ gI o v
  ·exact .inl ⟨c, x.old v c⟩
  ·exact .inr ⟨by omega, x.fresh v (by omega) hv⟩
 have up1 : ∀ v, gI o' v ≤ gI o q + 1 := fun v => by
  by_cases c : 0 ≤ gI o' v
  ·rcases val v c with ⟨_, e⟩ | ⟨_, e, _⟩
   ·rw [e]; exact hb v
   ·omega
  ·omega
 refine ⟨o', new, e, ⟨x.len.trans h.len, (x.old f (by rw [h.zero]; omega)).trans h.zero, x.low h.low, fun v hv => ?_, fun v hv => ?_, fun v hv => ?_, ?_, fun z hz v => ?_, fun u hu hn v hv => ?_⟩, ?_, x.old q hq⟩
 ·rcases val v (by omega) with ⟨_, e⟩ | ⟨_, e, _⟩
  ·exact h.root v (by omega)
  ·omega
 ·rcases val v (by omega) with ⟨c, e⟩ | ⟨_, e, hm⟩
  ·obtain ⟨u, hu, e2⟩ := h.down v (by omega)
   exact ⟨u, hu, by rw [x.old u (by omega), e2, e]⟩
  ·refine ⟨q, (hl v).1 (x.mem v hm).2.1, ?_⟩
   rw [x.old q hq]
   omega
 ·rcases y0p.1 hv with hv | hv
  ·have := h.inq v (y06 _ hv)
   rw [x.old v this]
   exact this
  ·rw [(x.mem v hv).1]
   omega
 ·rw [List.pairwise_append]
  refine ⟨a2.imp_of_mem fun {a b} ha hb2 hab => ?_, ?_, fun a ha b hb2 => ?_⟩
  ·rw [x.old a (h.inq a (y06 _ ha)), x.old b (h.inq b (y06 _ hb2))]
   exact hab
  ·refine List.Pairwise.imp_of_mem (R := fun _ _ => True) (fun {a b} ha hb2 _ => ?_) (List.pairwise_of_forall fun _ _ => trivial)
   rw [(x.mem a ha).1, (x.mem b hb2).1]
   exact y1e _
  ·rw [(x.mem b hb2).1]
   exact up1 a
 ·have hz2 : z ∈ qs ++ new := List.mem_of_mem_head? hz
  have : gI o q ≤ gI o' z := by
   rcases y0p.1 hz2 with hz2 | hz2
   ·rw [x.old z (h.inq z (y06 _ hz2))]
    exact a1 z hz2
   ·rw [(x.mem z hz2).1]
    omega
  have := up1 v
  omega
 ·rw [y0p] at hn
  rcases val u hu with ⟨c, e3⟩ | ⟨_, _, hm⟩
  ·by_cases hqu : u = q
   ·have := x.done v ((hl v).2 (hqu ▸ hv))
    have := up1 v
    rw [e3, hqu]
    omega
   ·have := h.done u c (fun hm => by
     rcases y0n.1 hm with hm | hm
     ·exact hqu hm
     ·exact hn (.inl hm)) v hv
    rw [x.old v this.1, e3]
    exact this
  ·exact absurd (.inr hm) hn
 ·have := x.cnt
  rw [y0l, y0r]
  omega
def rndE (r : Int) (o : List Int) (e : Nat × Nat) : List Int := if gI o e.1 = r ∧ gI o e.2 < 0 then o.set e.2 (r + 1) else o
def zet (es : List (Nat × Nat)) (N f : Nat) (m : Nat) : List Int := (List.range m).foldl (fun (o : List Int) (r : Nat) => es.foldl (rndE (r : Int)) o) ((List.replicate N (-1 : Int)).set f 0)
structure Rnd (es : List (Nat × Nat)) (N f : Nat) (r : Int) (o : List Int) : Prop where
 len : o.length = N
 zero : gI o f = 0
 low : ∀ v, -1 ≤ gI o v
 most : ∀ v, gI o v ≤ r
 root : ∀ v, gI o v = 0 → v = f
 down : ∀ v, 0 < gI o v → ∃ u, (u, v) ∈ es ∧ gI o u = gI o v - 1
 up : ∀ u v, (u, v) ∈ es → 0 ≤ gI o u → gI o u < r → 0 ≤ gI o v ∧ gI o v ≤ gI o u + 1
structure Mid (es p : List (Nat × Nat)) (N : Nat) (r : Int) (o o' : List Int) : Prop where
 len : o'.length = N
 old : ∀ v, 0 ≤ gI o v → gI o' v = gI o v
 fresh : ∀ v, gI o v < 0 → 0 ≤ gI o' v → gI o' v = r + 1 ∧ ∃ u, (u, v) ∈ es ∧ gI o u = r
 done : ∀ u v, (u, v) ∈ p → gI o u = r → 0 ≤ gI o' v
 low : ∀ v, -1 ≤ gI o' v
theorem rnd_mid {es : List (Nat × Nat)} {N : Nat} {r : Int} {o : List Int} (hr : 0 ≤ r) (hlen : o.length = N) (hlow : ∀ v, -1 ≤ gI o v) (hN : ∀ u v, (u, v) ∈ es → v < N) : ∀ p : List (Nat × Nat), (∀ e ∈ p, e ∈ es) → Mid es p N r o (p.foldl (rndE r) o) := by
 intro p
 induction p using zfj with
 | h0 => exact fun _ => ⟨hlen, fun _ _ => rfl, fun v h1 h2 => absurd h2 (by show ¬ 0 ≤ gI o v; omega), fun u v h => absurd h y0h, hlow⟩
 | h1 p e ih =>
  intro hp
  have h := ih fun x hx => hp x (y0k _ hx)
  have he : (e.1, e.2) ∈ es := hp e (by simp)
  rw [y1y, y23, List.foldl_nil]
  generalize p.foldl (rndE r) o = o' at h
  have hw : e.2 < o'.length := by rw [h.len]; exact hN _ _ he
  have hsame : gI o' e.1 = r ↔ gI o e.1 = r := by
   by_cases c : 0 ≤ gI o e.1
   ·rw [h.old _ c]
   ·constructor
    ·intro x
     have := (h.fresh e.1 (by omega) (by omega)).1
     omega
    ·intro x; omega
  unfold rndE
  by_cases c : gI o' e.1 = r ∧ gI o' e.2 < 0
  ·rw [if_pos c]
   have c0 : gI o e.2 < 0 := by
    refine Int.not_le.1 fun h0 => ?_
    have := h.old _ h0
    omega
   refine ⟨by rw [y1n]; exact h.len, fun v hv => ?_, fun v h1 h2 => ?_, fun u v hm hu => ?_, fun v => ?_⟩
   ·rw [zeu hw, if_neg (fun e => by subst e; omega)]
    exact h.old v hv
   ·rw [zeu hw] at h2 ⊢
    by_cases ev : e.2 = v
    ·subst ev
     rw [if_pos rfl]
     exact ⟨rfl, e.1, he, hsame.1 c.1⟩
    ·rw [if_neg ev] at h2 ⊢
     exact h.fresh v h1 h2
   ·rw [zeu hw]
    split
    ·omega
    ·rename_i ev
     rcases y0p.1 hm with hm | hm
     ·exact h.done u v hm hu
     ·have := y0f.1 hm
      exact absurd (by rw [← this]) ev
   ·rw [zeu hw]
    split
    ·omega
    ·exact h.low v
  ·rw [if_neg c]
   refine ⟨h.len, h.old, h.fresh, fun u v hm hu => ?_, h.low⟩
   rcases y0p.1 hm with hm | hm
   ·exact h.done u v hm hu
   ·have := y0f.1 hm
    subst this
    refine Int.not_lt.1 fun hlt => c ⟨hsame.2 hu, hlt⟩
theorem Rnd.next {es : List (Nat × Nat)} {N f : Nat} {r : Int} {o : List Int} (hr : 0 ≤ r) (hN : ∀ u v, (u, v) ∈ es → v < N) (h : Rnd es N f r o) : Rnd es N f (r + 1) (es.foldl (rndE r) o) := by
 have m := rnd_mid (es := es) hr h.len h.low hN es fun _ h => h
 generalize es.foldl (rndE r) o = o' at m
 have val : ∀ v, 0 ≤ gI o' v → (0 ≤ gI o v ∧ gI o' v = gI o v) ∨ (gI o v < 0 ∧ gI o' v = r + 1 ∧ ∃ u, (u, v) ∈ es ∧ gI o u = r) := fun v hv => by
  by_cases c : 0 ≤ gI o v
  ·exact .inl ⟨c, m.old v c⟩
  ·exact .inr ⟨by omega, m.fresh v (by omega) hv⟩
 have mo : ∀ v, gI o' v ≤ r + 1 := fun v => by
  by_cases c : 0 ≤ gI o' v
  ·rcases val v c with ⟨_, e⟩ | ⟨_, e, _⟩
   ·have := h.most v; omega
   ·omega
  ·omega
 refine ⟨m.len, (m.old f (by rw [h.zero]; omega)).trans h.zero, m.low, mo, fun v hv => ?_, fun v hv => ?_, fun u v hm hu hlt => ?_⟩
 ·rcases val v (by omega) with ⟨_, e⟩ | ⟨_, e, _⟩
  ·exact h.root v (by omega)
  ·omega
 ·rcases val v (by omega) with ⟨c, e⟩ | ⟨_, e, u, hu, e2⟩
  ·obtain ⟨u, hu, e2⟩ := h.down v (by omega)
   exact ⟨u, hu, by rw [m.old u (by omega), e2, e]⟩
  ·exact ⟨u, hu, by rw [m.old u (by omega), e2, e]; omega⟩
 ·rcases val u hu with ⟨c, e⟩ | ⟨_, e, _⟩
  ·by_cases hlt2 : gI o u < r
   ·have := h.up u v hm c hlt2
    rw [m.old v this.1, e]
    exact this
   ·have : gI o u = r := by have := h.most u; omega
    have := m.done u v hm this
    have := mo v
    omega
  ·omega
theorem zc9 : ∀ {a b : List Int}, a.Nodup → (∀ x ∈ a, x ∈ b) → a.length ≤ b.length
 | [], _, _, _ => y0s _
 | x :: a, b, hn, hs => by
  obtain ⟨h1, h2⟩ := y2l.1 hn
  have hx := hs x (y08 ..)
  have := zc9 (a := a) (b := b.erase x) h2 fun y hy => (List.mem_erase_of_ne (fun e => h1 (by rw [← e]; exact hy))).2 (hs y (y06 _ hy))
  rw [List.length_erase_of_mem hx] at this
  have := List.length_pos_of_mem hx
  rw [y0r]
  omega
theorem zm6 {es : List (Nat × Nat)} {o : List Int} (down : ∀ v, 0 < gI o v → ∃ u, (u, v) ∈ es ∧ gI o u = gI o v - 1) : ∀ (k : Nat) (v : Nat), gI o v = (k : Int) → ∀ j : Nat, j ≤ k → ∃ u, gI o u = (j : Int)
 | 0, v, e, j, hj => ⟨v, by rw [e]; omega⟩
 | k + 1, v, e, j, hj => by
  by_cases hjk : j = k + 1
  ·exact ⟨v, by rw [e, hjk]⟩
  ·obtain ⟨u, _, e2⟩ := down v (by omega)
   exact zm6 down k u (by omega) j (by omega)
theorem zmn {es : List (Nat × Nat)} {N : Nat} {o : List Int} (hl : o.length = N) (down : ∀ v, 0 < gI o v → ∃ u, (u, v) ∈ es ∧ gI o u = gI o v - 1) (v : Nat) : gI o v < N := by
 refine Int.not_le.1 fun hle => ?_
 have h := zm6 down (gI o v).toNat v (by omega)
 have := zc9 (a := (List.range (N + 1)).map fun j => ((j : Nat) : Int)) (b := o) ?_ ?_
 ·rw [y04, y0m] at this
  omega
 ·exact List.pairwise_map.2 (List.nodup_range.imp fun {a b} h e => h (by omega))
 ·intro x hx
  obtain ⟨j, hj, rfl⟩ := y0i.1 hx
  rw [y0j] at hj
  obtain ⟨u, hu⟩ := h j (by omega)
  have hlt : u < o.length := gI_lt (by omega)
  unfold gI at hu
  rw [y0b, y07 hlt] at hu
  rw [← hu]
  exact y0z hlt
theorem zek {es : List (Nat × Nat)} {N f : Nat} (hf : f < N) (hN : ∀ u v, (u, v) ∈ es → v < N) : Lab es N f (zet es N f N) := by
 have key : ∀ m : Nat, Rnd es N f (m : Int) (zet es N f m) := by
  intro m
  induction m with
  | zero =>
   have b := Bfs.start es hf
   show Rnd es N f 0 ((List.replicate N (-1 : Int)).set f 0)
   refine ⟨b.len, b.zero, b.low, fun v => ?_, b.root, b.down, fun u v _ h1 h2 => ?_⟩
   ·show gI ((List.replicate N (-1 : Int)).set f 0) v ≤ 0
    refine Int.not_lt.1 fun h => ?_
    have := b.bound f rfl v
    rw [b.zero] at this
    have hv : gI ((List.replicate N (-1 : Int)).set f 0) v = 1 := by omega
    obtain ⟨u, _, e⟩ := b.down v h
    rw [zeu (by rw [y1j]; exact hf)] at hv
    split at hv
    ·omega
    ·unfold gI at hv
     rw [y0b, List.getElem?_replicate] at hv
     split at hv <;> (simp at hv)
   ·exact absurd h2 (by show ¬ gI ((List.replicate N (-1 : Int)).set f 0) u < ((0 : Nat) : Int); have : 0 ≤ gI ((List.replicate N (-1 : Int)).set f 0) u := h1; omega)
  | succ m ih =>
   unfold zet
   rw [y2x, y1y, y23, List.foldl_nil]
   have := Rnd.next (by omega) hN ih
   exact this
 have h := key N
 refine ⟨h.len, h.zero, fun u v hm hu => h.up u v hm hu (zmn h.len h.down u), h.down, h.root, h.low⟩
theorem asc_eq : ∀ {a b : List Int}, a.Pairwise (· < ·) → b.Pairwise (· < ·) → (∀ x, x ∈ a ↔ x ∈ b) → a = b
 | [], [], _, _, _ => rfl
 | [], y :: b, _, _, h => absurd ((h y).2 (y08 ..)) y0h
 | x :: a, [], _, _, h => absurd ((h x).1 (y08 ..)) y0h
 | x :: a, y :: b, ha, hb, h => by
  obtain ⟨a1, a2⟩ := y2v.1 ha
  obtain ⟨b1, b2⟩ := y2v.1 hb
  have hxy : x = y := by
   have h1 := (h x).1 (y08 ..)
   have h2 := (h y).2 (y08 ..)
   rcases y0n.1 h1 with e | h1
   ·exact e
   ·rcases y0n.1 h2 with e | h2
    ·exact e.symm
    ·have := a1 y h2
     have := b1 x h1
     omega
  subst hxy
  rw [asc_eq a2 b2 fun z => ?_]
  constructor
  ·intro hz
   rcases y0n.1 ((h z).1 (y06 _ hz)) with e | hz2
   ·have := a1 z hz; omega
   ·exact hz2
  ·intro hz
   rcases y0n.1 ((h z).2 (y06 _ hz)) with e | hz2
   ·have := b1 z hz; omega
   ·exact hz2
theorem zkk : ∀ {l : List Int} {p z : Int}, z ∈ p :: zpc p l ↔ z ∈ p :: l
 | [], _, _ => Iff.rfl
 | y :: l, p, z => by
  rw [zpc]
  split
  ·rename_i e
   rw [zkk (l := l), y0n, y0n, y0n, e]
   constructor
   ·rintro (h | h)
    ·exact .inl h
    ·exact .inr (.inr h)
   ·rintro (h | h | h)
    ·exact .inl h
    ·exact .inl h
    ·exact .inr h
  ·have := zkk (l := l) (p := y) (z := z)
   rw [y0n, this, y0n, y0n, y0n]
theorem zkj : ∀ {l : List Int} {p : Int}, (p :: l).Pairwise (· ≤ ·) → (p :: zpc p l).Pairwise (· < ·)
 | [], _, _ => List.pairwise_singleton ..
 | y :: l, p, h => by
  obtain ⟨h1, h2⟩ := y2v.1 h
  rw [zpc]
  split
  ·rename_i e
   subst e
   exact zkj h2
  ·rename_i e
   have ih := zkj h2
   rw [y2v]
   refine ⟨fun z hz => ?_, ih⟩
   have hy := h1 y (y08 ..)
   rcases y0n.1 hz with rfl | hz2
   ·omega
   ·have := (y2v.1 ih).1 z hz2
    omega
theorem cpt_asc {l : List Int} (h : l.Pairwise (· ≤ ·)) : (cpt l).Pairwise (· < ·) := by
 cases l with
 | nil => exact List.Pairwise.nil
 | cons x l => exact zkj h
theorem cpt_mem {l : List Int} {z : Int} : z ∈ cpt l ↔ z ∈ l := by
 cases l with
 | nil => exact Iff.rfl
 | cons x l => exact zkk
def raw (es : List (Nat × Nat)) (v : Nat) : List Int := (es.filter fun e => e.1 == v).map fun e => ((e.2 : Nat) : Int)
def nbr (es : List (Nat × Nat)) (N v : Nat) : List Nat := (List.range N).filter fun w => es.contains (v, w)
theorem zbx {es : List (Nat × Nat)} {N v w : Nat} (hN : ∀ u v, (u, v) ∈ es → v < N) : w ∈ nbr es N v ↔ (v, w) ∈ es := by
 unfold nbr
 rw [y13, y0j, y1a]
 exact ⟨fun h => h.2, fun h => ⟨hN _ _ h, h⟩⟩
theorem nbr_cpt {es : List (Nat × Nat)} {N v : Nat} (hN : ∀ u v, (u, v) ∈ es → v < N) : cpt ((raw es v).mergeSort fun x y => decide (x ≤ y)) = (nbr es N v).map fun w => ((w : Nat) : Int) := by
 refine asc_eq (cpt_asc ?_) ?_ fun x => ?_
 ·have := List.pairwise_mergeSort (le := fun x y : Int => decide (x ≤ y)) (fun a b c h1 h2 => by rw [decide_eq_true_eq] at *; omega) (fun a b => by rw [y14, decide_eq_true_eq, decide_eq_true_eq]; omega) (raw es v)
  exact this.imp fun h => of_decide_eq_true h
 ·unfold nbr
  rw [List.pairwise_map]
  refine List.Pairwise.imp (R := fun a b : Nat => a < b) (fun h => by omega) (List.Pairwise.filter _ List.pairwise_lt_range)
 ·rw [cpt_mem, List.mem_mergeSort]
  unfold raw
  rw [y0i, y0i]
  constructor
  ·rintro ⟨e, he, rfl⟩
   obtain ⟨h1, h2⟩ := y13.1 he
   refine ⟨e.2, (zbx hN).2 ?_, rfl⟩
   rw [← eq_of_beq h2]
   exact h1
  ·rintro ⟨w, hw, rfl⟩
   exact ⟨(v, w), y13.2 ⟨(zbx hN).1 hw, by simp⟩, rfl⟩
theorem zt7 {es : List (Nat × Nat)} {N v : Nat} (hN : ∀ u v, (u, v) ∈ es → v < N) : cps (srt (raw es v)) = (nbr es N v).map fun w => ((w : Nat) : Int) := by
 rw [cps_eq]
 exact nbr_cpt hN
inductive Wk (E : List (Nat × Nat)) : Nat → Nat → Nat → Prop
 | refl (u : Nat) : Wk E 0 u u
 | step {k u v w : Nat} (h : Wk E k u v) (e : (v, w) ∈ E) : Wk E (k + 1) u w
theorem Wk.cons {E : List (Nat × Nat)} {u v w k : Nat} (e : (u, v) ∈ E) (h : Wk E k v w) : Wk E (k + 1) u w := by
 induction h with
 | refl => exact .step (.refl u) e
 | step h e2 ih => exact .step (ih e) e2
theorem Wk.rev {E E' : List (Nat × Nat)} (hE : ∀ a b, (a, b) ∈ E → (b, a) ∈ E') {u v k : Nat} (h : Wk E k u v) : Wk E' k v u := by
 induction h with
 | refl => exact .refl _
 | step h e ih => exact .cons (hE _ _ e) ih
def rvE (E : List (Nat × Nat)) : List (Nat × Nat) := E.map fun e => (e.2, e.1)
theorem zem {E : List (Nat × Nat)} {a b : Nat} : (a, b) ∈ rvE E ↔ (b, a) ∈ E := by
 unfold rvE
 rw [y0i]
 constructor
 ·rintro ⟨⟨x, y⟩, h, e⟩
  injection e with e1 e2
  subst e1 e2
  exact h
 ·intro h
  exact ⟨(b, a), h, rfl⟩
theorem zvw (E : List (Nat × Nat)) : (rvE E).length = E.length := y04 ..
theorem zf5 {E : List (Nat × Nat)} {m : Nat} (hb : ∀ u v, (u, v) ∈ E → u < m ∧ v < m) : ∀ u v, (u, v) ∈ rvE E → u < m ∧ v < m := fun u v h => (hb v u (zem.1 h)).symm
theorem Lab.walk {E : List (Nat × Nat)} {N f : Nat} {o : List Int} (h : Lab E N f o) : ∀ (k v : Nat), gI o v = (k : Int) → Wk E k f v
 | 0, v, e => by
  rw [h.root v e]
  exact .refl _
 | k + 1, v, e => by
  obtain ⟨u, hu, e2⟩ := h.down v (by omega)
  exact .step (Lab.walk h k u (by omega)) hu
theorem Lab.walk_le {E : List (Nat × Nat)} {N f : Nat} {o : List Int} (h : Lab E N f o) {k u v : Nat} (w : Wk E k u v) : u = f → 0 ≤ gI o v ∧ gI o v ≤ (k : Int) := by
 induction w with
 | refl =>
  intro e
  rw [e, h.zero]
  omega
 | step w e ih =>
  intro e2
  have a := ih e2
  have b := h.up _ _ e a.1
  omega
theorem zto {E : List (Nat × Nat)} {m t v : Nat} (hb : ∀ u v, (u, v) ∈ E → u < m ∧ v < m) (ht : t < m) (hv : v < m) : gI (zet (rvE E) m t m) v = gI (zet E m v m) t := by
 have a := zek (es := rvE E) ht fun u v h => (zf5 hb u v h).2
 have b := zek (es := E) hv fun u v h => (hb u v h).2
 generalize zet (rvE E) m t m = x at *
 generalize zet E m v m = y at *
 have la := a.low v
 have lb := b.low t
 have k1 : 0 ≤ gI x v → 0 ≤ gI y t ∧ gI y t ≤ gI x v := fun h => by
  have w := (a.walk (gI x v).toNat v (by omega)).rev fun p q h => zem.1 h
  have := b.walk_le w rfl
  omega
 have k2 : 0 ≤ gI y t → 0 ≤ gI x v ∧ gI x v ≤ gI y t := fun h => by
  have w := (b.walk (gI y t).toNat t (by omega)).rev (E' := rvE E) fun p q h => zem.2 h
  have := a.walk_le w rfl
  omega
 by_cases h : 0 ≤ gI x v
 ·have := k1 h
  have := k2 this.1
  omega
 ·by_cases h2 : 0 ≤ gI y t
  ·have := k2 h2
   omega
  ·omega
def prB (back : List Int) (v w : Nat) : Bool := decide (gI back w ≥ 0) && (gI back w == gI back v - 1)
def nxt (E : List (Nat × Nat)) (m : Nat) (back : List Int) (v : Nat) : Nat := ((nbr E m v).find? (prB back v)).getD 0
def zd7 (E : List (Nat × Nat)) (m : Nat) (back : List Int) : Nat → Nat → List Nat
 | 0, _ => []
 | k + 1, v => nxt E m back v :: zd7 E m back k (nxt E m back v)
theorem nxt_ok {E : List (Nat × Nat)} {m t v : Nat} {back : List Int} (hL : Lab (rvE E) m t back) (hb : ∀ u v, (u, v) ∈ E → u < m ∧ v < m) (h : 0 < gI back v) :
  (nbr E m v).find? (prB back v) = some (nxt E m back v) ∧ (v, nxt E m back v) ∈ E ∧ nxt E m back v < m ∧ gI back (nxt E m back v) = gI back v - 1 := by
 obtain ⟨u, hu, e⟩ := hL.down v h
 have hu := zem.1 hu
 have hm : u ∈ nbr E m v := (zbx fun u v h => (hb u v h).2).2 hu
 have hp : prB back v u = true := by
  unfold prB
  rw [y0g, decide_eq_true_eq, beq_iff_eq]
  omega
 unfold nxt
 cases hf : (nbr E m v).find? (prB back v) with
 | none =>
  have := List.find?_eq_none.1 hf u hm
  exact absurd hp this
 | some w =>
  have h1 := List.find?_some hf
  have h2 := (zbx fun u v h => (hb u v h).2).1 (List.mem_of_find?_eq_some hf)
  unfold prB at h1
  rw [y0g, decide_eq_true_eq, beq_iff_eq] at h1
  exact ⟨rfl, h2, (hb _ _ h2).2, h1.2⟩
theorem zgh (E : List (Nat × Nat)) (m : Nat) (back : List Int) : ∀ k v, (zd7 E m back k v).length = k
 | 0, _ => rfl
 | k + 1, v => by
  rw [zd7, y0r, zgh E m back k]
theorem zpk {α : Type} {p : α → Bool} : ∀ {l : List α} {w : α}, l.find? p = some w → ∃ k, ∃ h : k < l.length, l[k] = w ∧ p w = true ∧ ∀ i (h2 : i < k), p (l[i]'(Nat.lt_trans h2 h)) = false
 | [], _, h => by cases h
 | x :: l, w, h => by
  rw [List.find?_cons] at h
  cases hx : p x with
  | true =>
   rw [hx] at h
   obtain rfl := Option.some.inj h
   exact ⟨0, Nat.succ_pos _, rfl, hx, fun i h2 => absurd h2 (y28 _)⟩
  | false =>
   rw [hx] at h
   obtain ⟨k, hk, e, hp, hn⟩ := zpk h
   refine ⟨k + 1, Nat.succ_lt_succ hk, e, hp, fun i h2 => ?_⟩
   cases i with
   | zero => exact hx
   | succ i => exact hn i (Nat.lt_of_succ_lt_succ h2)
def rdyB (E : List (Nat × Nat)) (out : List Nat) (v : Nat) : Bool := E.all (fun e => !(e.2 == v) || out.contains e.1) && !(out.contains v)
theorem zle {E : List (Nat × Nat)} {out : List Nat} {v : Nat} : rdyB E out v = true ↔ (∀ u, (u, v) ∈ E → u ∈ out) ∧ v ∉ out := by
 unfold rdyB
 rw [y0g, y0e]
 constructor
 ·rintro ⟨h1, h2⟩
  refine ⟨fun u hu => ?_, fun hv => ?_⟩
  ·have := h1 _ hu
   simpa using this
  ·have := y1a.2 hv
   rw [this] at h2
   cases h2
 ·rintro ⟨h1, h2⟩
  refine ⟨fun e he => ?_, ?_⟩
  ·by_cases c : e.2 = v
   ·subst c
    have := h1 e.1 he
    simp [this]
   ·simp [c]
  ·simp [h2]
def nxS (E : List (Nat × Nat)) (m : Nat) (out : List Nat) : Option Nat := (List.range m).find? (rdyB E out)
def zlq (E : List (Nat × Nat)) (m : Nat) : Nat → List Nat → Option (List Nat)
 | 0, out => some out
 | k + 1, out => match nxS E m out with
  | some v => zlq E m k (out ++ [v])
  | none => none
structure Top (E : List (Nat × Nat)) (m : Nat) (out : List Nat) : Prop where
 nd : out.Nodup
 lt : ∀ v ∈ out, v < m
 pre : ∀ p v s, out = p ++ v :: s → ∀ u, (u, v) ∈ E → u ∈ p
theorem Top.nil (E : List (Nat × Nat)) (m : Nat) : Top E m [] := ⟨List.nodup_nil, fun v h => absurd h y0h, fun p v s h => by simp at h⟩
theorem zv2 {E : List (Nat × Nat)} {m v : Nat} {out : List Nat} (h : nxS E m out = some v) : v < m ∧ (∀ u, (u, v) ∈ E → u ∈ out) ∧ v ∉ out := by
 unfold nxS at h
 exact ⟨y0j.1 (List.mem_of_find?_eq_some h), zle.1 (List.find?_some h)⟩
theorem zjw {out : List Nat} {v : Nat} (h : out.Nodup) (hv : v ∉ out) : (out ++ [v]).Nodup := by
 rw [List.nodup_append]
 refine ⟨h, y2l.2 ⟨y0h, List.nodup_nil⟩, fun a ha b hb => ?_⟩
 obtain rfl := y0f.1 hb
 exact fun e => hv (e ▸ ha)
theorem Top.snoc {E : List (Nat × Nat)} {m v : Nat} {out : List Nat} (h : Top E m out) (hv : nxS E m out = some v) : Top E m (out ++ [v]) := by
 obtain ⟨a, b, c⟩ := zv2 hv
 refine ⟨zjw h.nd c, fun w hw => ?_, fun p w s e u hu => ?_⟩
 ·rcases y0p.1 hw with hw | hw
  ·exact h.lt w hw
  ·obtain rfl := y0f.1 hw
   exact a
 ·rcases List.append_eq_append_iff.1 e with ⟨xs, e1, e2⟩ | ⟨cs, e1, e2⟩
  ·-- p = out ++ xs, [v] = xs ++ w :: s
   cases xs with
   | nil =>
    rw [y2m] at e2
    injection e2 with e3 e4
    subst e3
    rw [e1, y18]
    exact b u hu
   | cons x xs =>
    rw [List.cons_append] at e2
    injection e2 with e3 e4
    simp at e4
  ·-- out = p ++ cs, w :: s = cs ++ [v]
   cases cs with
   | nil =>
    rw [y2m] at e2
    injection e2 with e3 e4
    subst e3
    rw [y18] at e1
    rw [← e1]
    exact b u hu
   | cons x cs =>
    rw [List.cons_append] at e2
    injection e2 with e3 e4
    subst e3
    exact h.pre p w cs e1 u hu
theorem zqn {E : List (Nat × Nat)} {m : Nat} : ∀ {k : Nat} {out l : List Nat}, Top E m out → zlq E m k out = some l → Top E m l ∧ l.length = out.length + k
 | 0, out, l, h, e => by
  injection e with e
  subst e
  exact ⟨h, rfl⟩
 | k + 1, out, l, h, e => by
  rw [zlq] at e
  split at e
  ·rename_i v hv
   obtain ⟨a, b⟩ := zqn (h.snoc hv) e
   refine ⟨a, ?_⟩
   rw [b, y0l, y11]
   omega
  ·cases e
theorem zn7 {E : List (Nat × Nat)} {m : Nat} : ∀ {k : Nat} {out : List Nat}, Top E m out → out.length + k ≤ m → zlq E m k out = none → ∃ out', Top E m out' ∧ out'.length < m ∧ nxS E m out' = none
 | 0, out, h, _, e => by cases e
 | k + 1, out, h, hl, e => by
  rw [zlq] at e
  split at e
  ·rename_i v hv
   exact zn7 (h.snoc hv) (by rw [y0l, y11]; omega) e
  ·rename_i hv
   exact ⟨out, h, by omega, hv⟩
theorem zdp : ∀ {a b : List Nat}, a.Nodup → (∀ x ∈ a, x ∈ b) → a.length ≤ b.length
 | [], _, _, _ => y0s _
 | x :: a, b, hn, hs => by
  obtain ⟨h1, h2⟩ := y2l.1 hn
  have hx := hs x (y08 ..)
  have := zdp (a := a) (b := b.erase x) h2 fun y hy => (List.mem_erase_of_ne (fun e => h1 (by rw [← e]; exact hy))).2 (hs y (y06 _ hy))
  rw [List.length_erase_of_mem hx] at this
  have := List.length_pos_of_mem hx
  rw [y0r]
  omega
theorem zsc {m : Nat} {l : List Nat} (nd : l.Nodup) (lt : ∀ v ∈ l, v < m) (hl : m ≤ l.length) : ∀ v, v < m → v ∈ l := by
 intro v hv
 by_cases c : v ∈ l
 ·exact c
 ·have := zdp (a := v :: l) (b := List.range m) (y2l.2 ⟨c, nd⟩) fun x hx => by
   rw [y0j]
   rcases y0n.1 hx with rfl | hx
   ·exact hv
   ·exact lt x hx
  rw [y0r, y0m] at this
  omega
theorem some_out {m : Nat} {l : List Nat} (hl : l.length < m) : ∃ v, v < m ∧ v ∉ l := by
 refine y1z fun h => ?_
 have := zdp (a := List.range m) (b := l) List.nodup_range fun x hx => by
  refine y1z fun c => h ⟨x, y0j.1 hx, c⟩
 rw [y0m] at this
 omega
def Cyc (E : List (Nat × Nat)) (v : Nat) : Prop := ∃ k, Wk E (k + 1) v v
theorem Wk.trans {E : List (Nat × Nat)} {a b c j k : Nat} (h : Wk E j a b) (h2 : Wk E k b c) : Wk E (j + k) a c := by
 induction h2 with
 | refl => exact h
 | step h2 e ih => exact .step (ih h) e
def bk (f : Nat → Nat) : Nat → Nat → Nat
 | 0, v => v
 | k + 1, v => f (bk f k v)
theorem zkc {E : List (Nat × Nat)} {R : Nat → Prop} {f : Nat → Nat} (hf : ∀ v, R v → R (f v) ∧ (f v, v) ∈ E) {v : Nat} (hv : R v) : ∀ k, R (bk f k v)
 | 0 => hv
 | k + 1 => (hf _ (zkc hf hv k)).1
theorem bk_wk {E : List (Nat × Nat)} {R : Nat → Prop} {f : Nat → Nat} (hf : ∀ v, R v → R (f v) ∧ (f v, v) ∈ E) {v : Nat} (hv : R v) (i : Nat) : ∀ j, Wk E j (bk f (i + j) v) (bk f i v)
 | 0 => .refl _
 | j + 1 => Wk.cons (hf _ (zkc hf hv (i + j))).2 (bk_wk hf hv i j)
theorem cyc_of {E : List (Nat × Nat)} {m : Nat} {R : Nat → Prop} (hR : ∀ v, R v → v < m) (hp : ∀ v, R v → ∃ u, R u ∧ (u, v) ∈ E) {v : Nat} (hv : R v) : ∃ w, R w ∧ Cyc E w := by
 have hf : ∃ f : Nat → Nat, ∀ v, R v → R (f v) ∧ (f v, v) ∈ E := by
  have hc : ∀ v, ∃ u, R v → R u ∧ (u, v) ∈ E := fun v => by
   by_cases c : R v
   ·obtain ⟨u, h⟩ := hp v c
    exact ⟨u, fun _ => h⟩
   ·exact ⟨0, fun h => absurd h c⟩
  exact ⟨fun v => Classical.choose (hc v), fun v h => Classical.choose_spec (hc v) h⟩
 obtain ⟨f, hf⟩ := hf
 -- two of m + 1 are the same
 have hd : ¬ ((List.range (m + 1)).map fun k => bk f k v).Nodup := fun nd => by
  have := zdp (b := List.range m) nd fun x hx => by
   obtain ⟨k, _, rfl⟩ := y0i.1 hx
   exact y0j.2 (hR _ (zkc hf hv k))
  rw [y04, y0m, y0m] at this
  omega
 have hex : ∃ i j, i < j ∧ bk f i v = bk f j v := by
  refine y1z fun h => hd ?_
  refine List.pairwise_map.2 (List.pairwise_lt_range.imp fun {a b} hab e => h ⟨a, b, hab, e⟩)
 obtain ⟨i, j, hij, e⟩ := hex
 have w := bk_wk hf hv i (j - i)
 rw [show i + (j - i) = j by omega, ← e] at w
 exact ⟨bk f i v, zkc hf hv i, j - i - 1, by rw [show j - i - 1 + 1 = j - i by omega]; exact w⟩
theorem zw2 {E : List (Nat × Nat)} {m : Nat} (hb : ∀ u v, (u, v) ∈ E → u < m ∧ v < m) (h : zlq E m m [] = none) : ∃ w, w < m ∧ Cyc E w := by
 obtain ⟨out, ht, hl, hn⟩ := zn7 (Top.nil E m) (Nat.le_of_eq (y1h m)) h
 obtain ⟨v, hv, hvo⟩ := some_out hl
 obtain ⟨w, h1, h2⟩ := cyc_of (E := E) (m := m) (R := fun v => v < m ∧ v ∉ out) (fun v h => h.1) (fun v ⟨h1, h2⟩ => by
  unfold nxS at hn
  have h3 := List.find?_eq_none.1 hn v (y0j.2 h1)
  refine y1z fun hx => h3 (zle.2 ⟨fun u hu => ?_, h2⟩)
  exact y1z fun hc => hx ⟨u, ⟨(hb u v hu).1, hc⟩, hu⟩) ⟨hv, hvo⟩
 exact ⟨w, h1.1, h2⟩
theorem zui {l : List Nat} {v : Nat} (h : v ∈ l) : ∃ p s, l = p ++ v :: s ∧ v ∉ p ∧ l.idxOf v = p.length := by
 induction l with
 | nil => exact absurd h y0h
 | cons x l ih =>
  by_cases c : x = v
  ·subst c
   exact ⟨[], l, rfl, y0h, by rw [List.idxOf_cons_self]; rfl⟩
  ·rcases y0n.1 h with h | h
   ·exact absurd h.symm c
   ·obtain ⟨p, s, e, hn, hi⟩ := ih h
    refine ⟨x :: p, s, by rw [e]; rfl, fun hm => ?_, ?_⟩
    ·rcases y0n.1 hm with hm | hm
     ·exact c hm.symm
     ·exact hn hm
    ·rw [List.idxOf_cons, show (x == v) = false from beq_eq_false_iff_ne.2 c, hi]
     rfl
theorem Top.edge {E : List (Nat × Nat)} {m : Nat} {l : List Nat} (h : Top E m l) {u v : Nat} (he : (u, v) ∈ E) (hv : v ∈ l) : u ∈ l ∧ l.idxOf u < l.idxOf v := by
 obtain ⟨p, s, e, hn, hi⟩ := zui hv
 have hu := h.pre p v s e u he
 refine ⟨by rw [e]; exact y0k _ hu, ?_⟩
 rw [hi, e, List.idxOf_append, if_pos hu]
 exact List.idxOf_lt_length_iff.2 hu
theorem Top.walk {E : List (Nat × Nat)} {m : Nat} {l : List Nat} (h : Top E m l) {k u v : Nat} (w : Wk E k u v) : v ∈ l → u ∈ l ∧ l.idxOf u + k ≤ l.idxOf v := by
 induction w with
 | refl => exact fun h => ⟨h, y0c _⟩
 | step w e ih =>
  intro hv
  obtain ⟨a, b⟩ := h.edge e hv
  obtain ⟨c, d⟩ := ih a
  exact ⟨c, by omega⟩
theorem zfk {E : List (Nat × Nat)} {m : Nat} {l : List Nat} (h : zlq E m m [] = some l) : Top E m l ∧ l.length = m ∧ ∀ v, v < m → ¬ Cyc E v := by
 obtain ⟨a, b⟩ := zqn (Top.nil E m) h
 have b : l.length = m := by rw [b]; exact y1h m
 refine ⟨a, b, fun v hv ⟨k, w⟩ => ?_⟩
 have := a.walk w (zsc a.nd a.lt (by omega) v hv)
 omega
def rlx (o : List Int) (e : Nat × Nat) : List Int := o.set e.2 (max (o.getD e.2 0) (o.getD e.1 0 + 1))
def gZ (o : List Int) (v : Nat) : Int := o.getD v 0
theorem zmf {o : List Int} {v : Nat} {d : Int} (hv : v < o.length) (w : Nat) : gZ (o.set v d) w = if v = w then d else gZ o w := by
 unfold gZ
 rw [y0b, y0b, List.getElem?_set]
 by_cases h : v = w
 ·subst h
  rw [if_pos rfl, if_pos hv, if_pos rfl]
  rfl
 ·rw [if_neg h, if_neg h]
theorem gZ_ext {o o' : List Int} (hl : o.length = o'.length) (h : ∀ v, gZ o v = gZ o' v) : o = o' := by
 refine y2t hl fun i h1 h2 => ?_
 have := h i
 unfold gZ at this
 rw [y0b, y0b, y07 h1, y07 h2] at this
 exact this
theorem zvq (o : List Int) (e : Nat × Nat) : (rlx o e).length = o.length := y1n ..
theorem rlx_at {o : List Int} {e : Nat × Nat} (h : e.2 < o.length) (w : Nat) : gZ (rlx o e) w = if e.2 = w then max (gZ o e.2) (gZ o e.1 + 1) else gZ o w := zmf h w
structure Lay (E : List (Nat × Nat)) (m : Nat) (o : List Int) : Prop where
 len : o.length = m
 low : ∀ v, 0 ≤ gZ o v
 up : ∀ u v, (u, v) ∈ E → gZ o u + 1 ≤ gZ o v
 down : ∀ v, 0 < gZ o v → ∃ u, (u, v) ∈ E ∧ gZ o u = gZ o v - 1
theorem Lay.le {E : List (Nat × Nat)} {m : Nat} {o o' : List Int} (h : Lay E m o) (h' : Lay E m o') : ∀ (k v : Nat), gZ o v = (k : Int) → (k : Int) ≤ gZ o' v
 | 0, v, _ => h'.low v
 | k + 1, v, e => by
  obtain ⟨u, hu, e2⟩ := h.down v (by omega)
  have := Lay.le h h' k u (by omega)
  have := h'.up u v hu
  omega
theorem Lay.unique {E : List (Nat × Nat)} {m : Nat} {o o' : List Int} (h : Lay E m o) (h' : Lay E m o') : o = o' := by
 refine gZ_ext (h.len.trans h'.len.symm) fun v => ?_
 have a := Lay.le h h' (gZ o v).toNat v (by have := h.low v; omega)
 have b := Lay.le h' h (gZ o' v).toNat v (by have := h'.low v; omega)
 have := h.low v
 have := h'.low v
 omega
structure LyP (E : List (Nat × Nat)) (m : Nat) (p : List Nat) (o : List Int) : Prop where
 len : o.length = m
 low : ∀ v, 0 ≤ gZ o v
 up : ∀ u v, (u, v) ∈ E → u ∈ p → gZ o u + 1 ≤ gZ o v
 down : ∀ v, 0 < gZ o v → ∃ u, u ∈ p ∧ (u, v) ∈ E ∧ gZ o u = gZ o v - 1
structure LyQ (E : List (Nat × Nat)) (m : Nat) (x : Nat) (d : List Nat) (o o' : List Int) : Prop where
 len : o'.length = m
 same : ∀ v, v ∉ d → gZ o' v = gZ o v
 new : ∀ v, v ∈ d → gZ o' v = max (gZ o v) (gZ o x + 1)
theorem lyq {E : List (Nat × Nat)} {m x : Nat} {o : List Int} (hl : o.length = m) : ∀ d : List Nat, x ∉ d → (∀ v ∈ d, v < m) → LyQ E m x d o (d.foldl (fun o w => rlx o (x, w)) o) := by
 intro d
 induction d using zfj with
 | h0 => exact fun _ _ => ⟨hl, fun _ _ => rfl, fun v h => absurd h y0h⟩
 | h1 d w ih =>
  intro hx hd
  have h := ih (fun h => hx (y0k _ h)) fun v hv => hd v (y0k _ hv)
  rw [y1y, y23, List.foldl_nil]
  generalize d.foldl (fun o w => rlx o (x, w)) o = o' at h
  have hw : w < o'.length := by rw [h.len]; exact hd w (by simp)
  have hxw : w ≠ x := fun e => hx (by rw [e]; simp)
  refine ⟨by rw [zvq]; exact h.len, fun v hv => ?_, fun v hv => ?_⟩
  ·rw [rlx_at (e := (x, w)) hw, if_neg (fun e => hv (by rw [← e]; simp))]
   exact h.same v fun c => hv (y0k _ c)
  ·rw [rlx_at (e := (x, w)) hw]
   have hxs := h.same x fun c => hx (y0k _ c)
   by_cases c : w = v
   ·subst c
    rw [if_pos rfl]
    show max (gZ o' w) (gZ o' x + 1) = _
    rw [hxs]
    by_cases c2 : w ∈ d
    ·rw [h.new w c2]
     omega
    ·rw [h.same w c2]
   ·rw [if_neg c]
    rcases y0p.1 hv with hv | hv
    ·exact h.new v hv
    ·exact absurd (y0f.1 hv).symm c
theorem LyP.step {E : List (Nat × Nat)} {m x : Nat} {l p s : List Nat} {o : List Int} (hb : ∀ u v, (u, v) ∈ E → u < m ∧ v < m) (ht : Top E m l) (e : l = p ++ x :: s) (h : LyP E m p o) : LyP E m (p ++ [x]) ((nbr E m x).foldl (fun o w => rlx o (x, w)) o) := by
 have hmem : ∀ w, w ∈ nbr E m x ↔ (x, w) ∈ E := fun w => zbx fun u v h => (hb u v h).2
 have hnd : (p ++ x :: s).Nodup := e ▸ ht.nd
 have hxp : x ∉ p := fun hx => (List.nodup_append.1 hnd).2.2 x hx x (y08 ..) rfl
 have hno : ∀ w, (x, w) ∈ E → w ∉ p ∧ w ≠ x := fun w hw => by
  constructor
  ·intro hp
   obtain ⟨a, b, e2⟩ := List.append_of_mem hp
   have h2 := ht.pre a w (b ++ x :: s) (by rw [e, e2]; simp) x hw
   exact hxp (by rw [e2]; exact y0k _ h2)
  ·rintro rfl
   exact hxp (ht.pre p w s e w hw)
 have q := lyq (E := E) (x := x) h.len (nbr E m x) (fun hx => (hno x ((hmem x).1 hx)).2 rfl) fun v hv => (hb _ _ ((hmem v).1 hv)).2
 generalize (nbr E m x).foldl (fun o w => rlx o (x, w)) o = o' at q
 have old : ∀ u, u ∈ p ++ [x] → gZ o' u = gZ o u := fun u hu => q.same u fun hm => by
  have := hno u ((hmem u).1 hm)
  rcases y0p.1 hu with hu | hu
  ·exact this.1 hu
  ·exact this.2 (y0f.1 hu)
 have ge : ∀ v, gZ o v ≤ gZ o' v := fun v => by
  by_cases c : v ∈ nbr E m x
  ·rw [q.new v c]; omega
  ·rw [q.same v c]; exact y1e _
 refine ⟨q.len, fun v => by have := ge v; have := h.low v; omega, fun u v huv hu => ?_, fun v hv => ?_⟩
 ·rw [old u hu]
  rcases y0p.1 hu with hu | hu
  ·have := h.up u v huv hu
   have := ge v
   omega
  ·obtain rfl := y0f.1 hu
   rw [q.new v ((hmem v).2 huv)]
   omega
 ·by_cases c : v ∈ nbr E m x ∧ gZ o v < gZ o x + 1
  ·refine ⟨x, by simp, (hmem v).1 c.1, ?_⟩
   rw [old x (by simp), q.new v c.1]
   omega
  ·have ev : gZ o' v = gZ o v := by
    by_cases c2 : v ∈ nbr E m x
    ·rw [q.new v c2]
     have : ¬ gZ o v < gZ o x + 1 := fun h => c ⟨c2, h⟩
     omega
    ·exact q.same v c2
   rw [ev] at hv ⊢
   obtain ⟨u, h1, h2, h3⟩ := h.down v hv
   refine ⟨u, y0k _ h1, h2, ?_⟩
   rw [old u (y0k _ h1)]
   exact h3
def zuq (E : List (Nat × Nat)) (m : Nat) (l : List Nat) : List Int := l.foldl (fun o x => (nbr E m x).foldl (fun o w => rlx o (x, w)) o) (List.replicate m 0)
theorem gZ_rep (m v : Nat) : gZ (List.replicate m (0 : Int)) v = 0 := by
 unfold gZ
 rw [y0b, List.getElem?_replicate]
 split <;> rfl
theorem zps {E : List (Nat × Nat)} {m : Nat} {l : List Nat} (hb : ∀ u v, (u, v) ∈ E → u < m ∧ v < m) (ht : Top E m l) : ∀ p s, l = p ++ s → LyP E m p (zuq E m p) := by
 intro p
 induction p using zfj with
 | h0 =>
  intro s _
  have g := gZ_rep m
  refine ⟨y1j .., fun v => by show 0 ≤ gZ (List.replicate m 0) v; rw [g]; exact y1e _, fun u v _ h => absurd h y0h, fun v hv => ?_⟩
  have : gZ (List.replicate m 0) v > 0 := hv
  rw [g] at this
  omega
 | h1 p x ih =>
  intro s e
  have h := ih (x :: s) (by rw [e]; simp)
  unfold zuq at h ⊢
  rw [y1y, y23, List.foldl_nil]
  exact h.step (s := s) hb ht (by rw [e]; simp)
theorem zl3 {E : List (Nat × Nat)} {m : Nat} {l : List Nat} (hb : ∀ u v, (u, v) ∈ E → u < m ∧ v < m) (ht : Top E m l) (hl : m ≤ l.length) : Lay E m (zuq E m l) := by
 have h := zps hb ht l [] (by simp)
 have ha := zsc ht.nd ht.lt hl
 exact ⟨h.len, h.low, fun u v huv => h.up u v huv (ha u (hb u v huv).1), fun v hv => by obtain ⟨u, _, b, c⟩ := h.down v hv; exact ⟨u, b, c⟩⟩
theorem low_le {m : Nat} {o : List Int} (hlen : o.length = m) (low : ∀ v, 0 ≤ gZ o v) (down : ∀ v, 0 < gZ o v → ∃ u, gZ o u = gZ o v - 1) (v : Nat) : gZ o v ≤ m := by
 have chain : ∀ (k : Nat) (v : Nat), gZ o v = (k : Int) → ∀ j : Nat, j ≤ k → ∃ u, gZ o u = (j : Int) := by
  intro k
  induction k with
  | zero => exact fun v e j hj => ⟨v, by rw [e]; omega⟩
  | succ k ih =>
   intro v e j hj
   by_cases hjk : j = k + 1
   ·exact ⟨v, by rw [e, hjk]⟩
   ·obtain ⟨u, e2⟩ := down v (by omega)
    exact ih u (by omega) j (by omega)
 have h0 := low v
 have hc := chain (gZ o v).toNat v (by omega)
 have := zc9 (a := (List.range (gZ o v).toNat).map fun j => ((j + 1 : Nat) : Int)) (b := o) ?_ ?_
 ·rw [y04, y0m, hlen] at this
  omega
 ·exact List.pairwise_map.2 (List.nodup_range.imp fun {a b} h e => h (by omega))
 ·intro x hx
  obtain ⟨j, hj, rfl⟩ := y0i.1 hx
  rw [y0j] at hj
  obtain ⟨u, hu⟩ := hc (j + 1) (by omega)
  have hlt : u < o.length := by
   refine Nat.lt_of_not_le fun hle => ?_
   unfold gZ at hu
   rw [y0b, y25 hle] at hu
   have hu : (0 : Int) = ((j + 1 : Nat) : Int) := hu
   omega
  unfold gZ at hu
  rw [y0b, y07 hlt] at hu
  rw [← hu]
  exact y0z hlt
theorem lay_le {E : List (Nat × Nat)} {m : Nat} {o : List Int} (h : Lay E m o) (v : Nat) : gZ o v ≤ m :=
 low_le h.len h.low (fun v hv => by obtain ⟨u, _, e⟩ := h.down v hv; exact ⟨u, e⟩) v
theorem LyP.le {E : List (Nat × Nat)} {m : Nat} {p : List Nat} {o : List Int} (h : LyP E m p o) (v : Nat) : gZ o v ≤ m :=
 low_le h.len h.low (fun v hv => by obtain ⟨u, _, _, e⟩ := h.down v hv; exact ⟨u, e⟩) v
def zlu (c : Int) (o : List Int) (w : Nat) : List Int := o.set w (gZ o w + c)
structure AddF (c : Int) (l : List Nat) (o o' : List Int) : Prop where
 len : o'.length = o.length
 at_ : ∀ v, gZ o' v = gZ o v + if v ∈ l then c else 0
theorem addF (c : Int) (o : List Int) : ∀ l : List Nat, l.Nodup → (∀ v ∈ l, v < o.length) → AddF c l o (l.foldl (zlu c) o) := by
 intro l
 induction l using zfj with
 | h0 => exact fun _ _ => ⟨rfl, fun v => by show gZ o v = _; rw [if_neg y0h]; omega⟩
 | h1 l w ih =>
  intro hn hl
  have hw : w ∉ l := fun h => (List.nodup_append.1 hn).2.2 w h w (by simp) rfl
  obtain ⟨a, b⟩ := ih (List.nodup_append.1 hn).1 fun v hv => hl v (y0k _ hv)
  rw [y1y, y23, List.foldl_nil]
  generalize l.foldl (zlu c) o = o' at *
  have hlt : w < o'.length := by rw [a]; exact hl w (by simp)
  refine ⟨by unfold zlu; rw [y1n]; exact a, fun v => ?_⟩
  unfold zlu
  rw [zmf hlt]
  by_cases e : w = v
  ·subst e
   rw [if_pos rfl, b, if_neg hw, if_pos (by simp)]
   omega
  ·rw [if_neg e, b]
   by_cases h : v ∈ l
   ·rw [if_pos h, if_pos (y0k _ h)]
   ·rw [if_neg h, if_neg fun h2 => ?_]
    rcases y0p.1 h2 with h2 | h2
    ·exact h h2
    ·exact e (y0f.1 h2).symm
theorem zmc {P Q : Nat → Bool} {v : Nat} (hPQ : ∀ u, u ≠ v → Q u = P u) (hQ : Q v = false) : ∀ {L : List Nat}, L.Nodup → v ∈ L → (L.filter Q).length + (if P v = true then 1 else 0) = (L.filter P).length
 | [], _, h => absurd h y0h
 | x :: L, hn, h => by
  obtain ⟨h1, h2⟩ := y2l.1 hn
  by_cases e : x = v
  ·subst e
   have hs : L.filter Q = L.filter P := List.filter_congr fun u hu => hPQ u fun e => h1 (e ▸ hu)
   rw [y1r, y1r, if_neg (by rw [hQ]; exact Bool.false_ne_true), hs]
   by_cases c : P x = true
   ·rw [if_pos c, if_pos c, y0r]
   ·rw [if_neg c, if_neg c]; rfl
  ·have ih := zmc hPQ hQ (L := L) h2 ((y0n.1 h).resolve_left fun e2 => e e2.symm)
   rw [y1r, y1r, hPQ x e]
   by_cases c : P x = true
   ·rw [if_pos c, if_pos c, y0r, y0r]
    omega
   ·rw [if_neg c, if_neg c]
    exact ih
def cntO (E : List (Nat × Nat)) (m : Nat) (out : List Nat) (v : Nat) : Nat := ((List.range m).filter fun u => !(out.contains u) && E.contains (u, v)).length
theorem cntO_le (E : List (Nat × Nat)) (m : Nat) (out : List Nat) (v : Nat) : cntO E m out v ≤ m := y0w (y1m ..) (by rw [y0m]; exact y0c _)
theorem zt4 {E : List (Nat × Nat)} {m x : Nat} {out : List Nat} (hx : x < m) (hxo : x ∉ out) (v : Nat) : cntO E m (out ++ [x]) v + (if (x, v) ∈ E then 1 else 0) = cntO E m out v := by
 unfold cntO
 have h := zmc (P := fun u => !(out.contains u) && E.contains (u, v)) (Q := fun u => !((out ++ [x]).contains u) && E.contains (u, v)) (v := x) (fun u hu => ?_) ?_ (L := List.range m) List.nodup_range (y0j.2 hx)
 ·rw [← h]
  congr 1
  by_cases c : (x, v) ∈ E
  ·rw [if_pos c, if_pos]
   have := y1a.2 c
   simp only [this, Bool.and_true]
   simpa using hxo
  ·rw [if_neg c, if_neg]
   intro h
   rw [y0g] at h
   exact c (y1a.1 h.2)
 ·show (!((out ++ [x]).contains u) && E.contains (u, v)) = (!(out.contains u) && E.contains (u, v))
  congr 2
  rw [Bool.eq_iff_iff, y1a, y1a, y0p]
  exact ⟨fun h => h.resolve_right fun h => hu (y0f.1 h), fun h => .inl h⟩
 ·show (!((out ++ [x]).contains x) && E.contains (x, v)) = false
  rw [y1a.2 (by simp : x ∈ out ++ [x])]
  rfl
theorem zm8 {E : List (Nat × Nat)} {m : Nat} (hb : ∀ u v, (u, v) ∈ E → u < m ∧ v < m) {out : List Nat} {v : Nat} : cntO E m out v = 0 ↔ ∀ u, (u, v) ∈ E → u ∈ out := by
 unfold cntO
 rw [y20, List.filter_eq_nil_iff]
 constructor
 ·intro h u hu
  have := h u (y0j.2 (hb u v hu).1)
  rw [y0g] at this
  refine y1z fun hc => this ⟨?_, y1a.2 hu⟩
  simpa using hc
 ·intro h u _ hc
  rw [y0g] at hc
  have := h u (y1a.1 hc.2)
  have h2 := hc.1
  rw [y1a.2 this] at h2
  cases h2
structure Opn (E : List (Nat × Nat)) (m : Nat) (out : List Nat) (op : List Int) : Prop where
 len : op.length = m
 cnt : ∀ v, v < m → v ∉ out → gZ op v = (cntO E m out v : Nat)
 gone : ∀ v, v ∈ out → gZ op v = -1
theorem Opn.rdy {E : List (Nat × Nat)} {m : Nat} {out : List Nat} {op : List Int} (hb : ∀ u v, (u, v) ∈ E → u < m ∧ v < m) (h : Opn E m out op) {v : Nat} (hv : v < m) : (gZ op v == 0) = rdyB E out v := by
 rw [Bool.eq_iff_iff, beq_iff_eq, zle]
 by_cases c : v ∈ out
 ·rw [h.gone v c]
  exact ⟨fun h => absurd h (by decide), fun h => absurd c h.2⟩
 ·rw [h.cnt v hv c]
  constructor
  ·intro h0
   exact ⟨(zm8 hb).1 (by omega), c⟩
  ·intro h0
   rw [(zm8 hb).2 h0.1]
   rfl
theorem Opn.find {E : List (Nat × Nat)} {m : Nat} {out : List Nat} {op : List Int} (hb : ∀ u v, (u, v) ∈ E → u < m ∧ v < m) (h : Opn E m out op) : (List.range op.length).find? (fun i => gZ op i == 0) = nxS E m out := by
 unfold nxS
 rw [h.len]
 have : ∀ l : List Nat, (∀ x ∈ l, x < m) → l.find? (fun i => gZ op i == 0) = l.find? (rdyB E out) := by
  intro l
  induction l with
  | nil => exact fun _ => rfl
  | cons x l ih =>
   intro hl
   rw [List.find?_cons, List.find?_cons, h.rdy hb (hl x (y08 ..)), ih fun y hy => hl y (y06 _ hy)]
 exact this _ fun x hx => y0j.1 hx
theorem ziz (E : List (Nat × Nat)) (m v : Nat) : (nbr E m v).Nodup := List.Pairwise.filter _ List.nodup_range
theorem Opn.step {E : List (Nat × Nat)} {m x : Nat} {out : List Nat} {op : List Int} (hb : ∀ u v, (u, v) ∈ E → u < m ∧ v < m) (ht : Top E m out) (h : Opn E m out op) (hx : nxS E m out = some x) : Opn E m (out ++ [x]) ((nbr E m x).foldl (zlu (-1)) (op.set x (-1))) := by
 obtain ⟨hxm, hpre, hxo⟩ := zv2 hx
 have hmem : ∀ w, w ∈ nbr E m x ↔ (x, w) ∈ E := fun w => zbx fun u v h => (hb u v h).2
 have hxl : x < op.length := by rw [h.len]; exact hxm
 obtain ⟨a, b⟩ := addF (-1) (op.set x (-1)) (nbr E m x) (ziz ..) fun v hv => by rw [y1n, h.len]; exact (hb _ _ ((hmem v).1 hv)).2
 rw [y1n] at a
 -- an edge leads to nothing that is out
 have hno : ∀ w, (x, w) ∈ E → w ∉ out ++ [x] := fun w hw hm => by
  have ht2 := ht.snoc hx
  obtain ⟨p, s, e⟩ := List.append_of_mem hm
  have hp := ht2.pre p w s e x hw
  rcases y0p.1 hm with hm | hm
  ·obtain ⟨p2, s2, e2⟩ := List.append_of_mem hm
   exact hxo (by rw [e2]; exact y0k _ (ht.pre p2 w s2 e2 x hw))
  ·obtain rfl := y0f.1 hm
   exact hxo (hpre w hw)
 refine ⟨a.trans h.len, fun v hv hvo => ?_, fun v hv => ?_⟩
 ·rw [b, zmf hxl, if_neg (fun e => hvo (by rw [e]; simp)), h.cnt v hv fun c => hvo (y0k _ c)]
  have := zt4 (E := E) hxm hxo v
  by_cases c : (x, v) ∈ E
  ·rw [if_pos ((hmem v).2 c)]
   rw [if_pos c] at this
   omega
  ·rw [if_neg fun c2 => c ((hmem v).1 c2)]
   rw [if_neg c] at this
   omega
 ·rw [b, if_neg fun c => hno v ((hmem v).1 c) hv, zmf hxl]
  rcases y0p.1 hv with hv | hv
  ·rw [if_neg (fun e : x = v => hxo (by rw [e]; exact hv)), h.gone v hv]
   rfl
  ·rw [if_pos (y0f.1 hv).symm]
   rfl
def cntI (E : List (Nat × Nat)) (i v : Nat) : Nat := ((List.range i).filter fun u => E.contains (u, v)).length
theorem zt3 (E : List (Nat × Nat)) (i v : Nat) : cntI E (i + 1) v = cntI E i v + if (i, v) ∈ E then 1 else 0 := by
 unfold cntI
 rw [y2x, List.filter_append, y0l, y1r]
 congr 1
 by_cases c : (i, v) ∈ E
 ·rw [if_pos c, if_pos (y1a.2 c)]
  rfl
 ·rw [if_neg c, if_neg fun h => c (y1a.1 h)]
  rfl
theorem cntI_le (E : List (Nat × Nat)) (i v : Nat) : cntI E i v ≤ i := y0w (y1m ..) (by rw [y0m]; exact y0c _)
theorem cntI_end (E : List (Nat × Nat)) (m v : Nat) : cntI E m v = cntO E m [] v := by
 unfold cntI cntO
 rfl
theorem Opn.start {E : List (Nat × Nat)} {m : Nat} {op : List Int} (hl : op.length = m) (h : ∀ v, v < m → gZ op v = (cntI E m v : Nat)) : Opn E m [] op :=
 ⟨hl, fun v hv _ => by rw [h v hv, cntI_end], fun v hv => absurd hv y0h⟩
theorem Wk.uncons {E : List (Nat × Nat)} : ∀ {k u w : Nat}, Wk E (k + 1) u w → ∃ x, (u, x) ∈ E ∧ Wk E k x w
 | 0, u, w, h => by
  cases h with
  | step h e => cases h with | refl => exact ⟨_, e, .refl _⟩
 | k + 1, u, w, h => by
  cases h with
  | step h e =>
   obtain ⟨x, hx, h2⟩ := Wk.uncons h
   exact ⟨x, hx, .step h2 e⟩
theorem zpj {E : List (Nat × Nat)} {m f v : Nat} (hb : ∀ u v, (u, v) ∈ E → u < m ∧ v < m) (hf : f < m) : 0 ≤ gI (zet E m f m) v ↔ ∃ k, Wk E k f v := by
 have L := zek (es := E) hf fun u v h => (hb u v h).2
 constructor
 ·intro h
  exact ⟨_, L.walk (gI (zet E m f m) v).toNat v (by omega)⟩
 ·rintro ⟨k, w⟩
  exact (L.walk_le w rfl).1
def ldB (E : List (Nat × Nat)) (m v t : Nat) : Bool := E.any fun e => e.1 == v && decide (gI (zet E m e.2 m) t ≥ 0)
theorem zus {E : List (Nat × Nat)} {m v : Nat} (hb : ∀ u v, (u, v) ∈ E → u < m ∧ v < m) : ldB E m v v = true ↔ Cyc E v := by
 unfold ldB Cyc
 rw [y2q]
 constructor
 ·rintro ⟨e, he, h⟩
  rw [y0g, beq_iff_eq, decide_eq_true_eq] at h
  obtain ⟨h1, h2⟩ := h
  have he : (e.1, e.2) ∈ E := he
  obtain ⟨k, w⟩ := (zpj hb (hb _ _ he).2).1 h2
  exact ⟨k, Wk.cons (h1 ▸ he) w⟩
 ·rintro ⟨k, w⟩
  obtain ⟨x, hx, w⟩ := w.uncons
  refine ⟨(v, x), hx, ?_⟩
  rw [y0g, beq_iff_eq, decide_eq_true_eq]
  exact ⟨rfl, (zpj hb (hb _ _ hx).2).2 ⟨k, w⟩⟩
def lpS (E : List (Nat × Nat)) (m : Nat) : Option Nat := (List.range m).find? fun v => ldB E m v v
theorem lp_srt {E : List (Nat × Nat)} {m : Nat} (hb : ∀ u v, (u, v) ∈ E → u < m ∧ v < m) : lpS E m = none ↔ ∃ l, zlq E m m [] = some l := by
 constructor
 ·intro h
  cases hs : zlq E m m [] with
  | some l => exact ⟨l, rfl⟩
  | none =>
   obtain ⟨w, hw, hc⟩ := zw2 hb hs
   exact absurd ((zus hb).2 hc) (List.find?_eq_none.1 h w (y0j.2 hw))
 ·rintro ⟨l, hl⟩
  obtain ⟨_, _, h⟩ := zfk hl
  exact List.find?_eq_none.2 fun v hv hc => h v (y0j.1 hv) ((zus hb).1 hc)
def nnB : Int := -1099511627776
def fwP (k : Nat) (D : Nat → Nat → Int) (i j : Nat) : Int := if D i k ≠ nnB ∧ D k j ≠ nnB ∧ (D i j = nnB ∨ D i k + D k j < D i j) then D i k + D k j else D i j
structure FwI (B : List (Nat × Nat)) (K k : Nat) (D : Nat → Nat → Int) : Prop where
 rng : ∀ i j, i < K → j < K → D i j = nnB ∨ (0 ≤ D i j ∧ D i j ≤ ((2 ^ k : Nat) : Int))
 way : ∀ i j, i < K → j < K → ∀ d : Nat, D i j = (d : Int) → Wk B d i j
 dia : ∀ i, i < K → D i i = 0
 low : ∀ i j, i < K → j < K → (i, j) ∈ B → D i j ≠ nnB ∧ D i j ≤ 1
 tri : ∀ m i j, m < k → m < K → i < K → j < K → D i m ≠ nnB → D m j ≠ nnB → D i j ≠ nnB ∧ D i j ≤ D i m + D m j
theorem zuz {x : Int} (h : 0 ≤ x) : x ≠ nnB := by
 unfold nnB
 omega
section
variable {B : List (Nat × Nat)} {K k : Nat} {D : Nat → Nat → Int}
theorem FwI.pos (h : FwI B K k D) {i j : Nat} (hi : i < K) (hj : j < K) (hn : D i j ≠ nnB) : 0 ≤ D i j ∧ D i j ≤ ((2 ^ k : Nat) : Int) := by
 rcases h.rng i j hi hj with e | e
 ·exact absurd e hn
 ·exact e
theorem fw_le {i j : Nat} (h : D i j ≠ nnB) : fwP k D i j ≤ D i j ∧ (fwP k D i j = D i j ∨ (D i k ≠ nnB ∧ D k j ≠ nnB ∧ fwP k D i j = D i k + D k j)) := by
 unfold fwP
 split
 ·rename_i c
  rcases c.2.2 with e | e
  ·exact absurd e h
  ·exact ⟨by omega, .inr ⟨c.1, c.2.1, rfl⟩⟩
 ·exact ⟨y1e _, .inl rfl⟩
theorem FwI.row (h : FwI B K k D) (hk : k < K) {j : Nat} (hj : j < K) : fwP k D k j = D k j := by
 unfold fwP
 rw [if_neg]
 rintro ⟨_, a, b | b⟩
 ·exact a b
 ·rw [h.dia k hk] at b
  omega
theorem FwI.col (h : FwI B K k D) (hk : k < K) {i : Nat} (hi : i < K) : fwP k D i k = D i k := by
 unfold fwP
 rw [if_neg]
 rintro ⟨a, _, b | b⟩
 ·exact a b
 ·rw [h.dia k hk] at b
  omega
theorem FwI.min (h : FwI B K k D) (hk : k < K) {i j : Nat} (hi : i < K) (hj : j < K) (a : D i k ≠ nnB) (b : D k j ≠ nnB) : fwP k D i j ≠ nnB ∧ fwP k D i j ≤ D i k + D k j := by
 have h1 := h.pos hi hk a
 have h2 := h.pos hk hj b
 unfold fwP
 split
 ·exact ⟨zuz (by omega), y1e _⟩
 ·rename_i c
  have c1 : ¬ (D i j = nnB ∨ D i k + D k j < D i j) := fun x => c ⟨a, b, x⟩
  exact ⟨fun e => c1 (.inl e), by omega⟩
theorem FwI.keep (h : FwI B K k D) (hk : k < K) {i j : Nat} (hi : i < K) (hj : j < K) (a : D i j ≠ nnB) : fwP k D i j ≠ nnB ∧ fwP k D i j ≤ D i j := by
 obtain ⟨h1, h2 | ⟨c, d, e⟩⟩ := fw_le (k := k) a
 ·rw [h2]
  exact ⟨a, y1e _⟩
 ·refine ⟨?_, h1⟩
  rw [e]
  have x := h.pos hi hk c
  have y := h.pos hk hj d
  exact zuz (by omega)
theorem zcn (k : Nat) (D : Nat → Nat → Int) (i j : Nat) : fwP k D i j = D i j ∨ (D i k ≠ nnB ∧ D k j ≠ nnB ∧ fwP k D i j = D i k + D k j) := by
 unfold fwP
 split
 ·rename_i c
  exact .inr ⟨c.1, c.2.1, rfl⟩
 ·exact .inl rfl
theorem FwI.step (h : FwI B K k D) (hk : k < K) : FwI B K (k + 1) (fwP k D) := by
 have h2k : ((2 ^ (k + 1) : Nat) : Int) = ((2 ^ k : Nat) : Int) + ((2 ^ k : Nat) : Int) := by
  rw [Nat.pow_succ]
  omega
 refine ⟨fun i j hi hj => ?_, fun i j hi hj d hd => ?_, fun i hi => ?_, fun i j hi hj he => ?_, fun m i j hm hmK hi hj a b => ?_⟩
 ·rcases zcn k D i j with e | ⟨a, b, e⟩
  ·rw [e]
   rcases h.rng i j hi hj with c | c
   ·exact .inl c
   ·exact .inr ⟨c.1, by omega⟩
  ·have x := h.pos hi hk a
   have y := h.pos hk hj b
   rw [e]
   exact .inr ⟨by omega, by omega⟩
 ·rcases zcn k D i j with e | ⟨a, b, e⟩
  ·exact h.way i j hi hj d (e.symm.trans hd)
  ·have x := h.pos hi hk a
   have y := h.pos hk hj b
   have p := h.way i k hi hk (D i k).toNat (by omega)
   have q := h.way k j hk hj (D k j).toNat (by omega)
   have := Wk.trans p q
   rwa [show (D i k).toNat + (D k j).toNat = d by omega] at this
 ·rcases zcn k D i i with e | ⟨a, b, e⟩
  ·rw [e]
   exact h.dia i hi
  ·have x := h.pos hi hk a
   have y := h.pos hk hi b
   have z := h.dia i hi
   have := (h.keep hk hi hi (zuz (by omega))).2
   omega
 ·obtain ⟨a, b⟩ := h.low i j hi hj he
  obtain ⟨c, d⟩ := h.keep hk hi hj a
  exact ⟨c, by omega⟩
 ·by_cases e : m = k
  ·subst e
   rw [h.col hk hi] at a ⊢
   rw [h.row hk hj] at b ⊢
   exact h.min hk hi hj a b
  have hmk : m < k := by omega
  rcases zcn k D i m with e1 | ⟨a1, a2, e1⟩
  ·rw [e1] at a ⊢
   rcases zcn k D m j with e2 | ⟨b1, b2, e2⟩
   ·rw [e2] at b ⊢
    obtain ⟨c, d⟩ := h.tri m i j hmk hmK hi hj a b
    obtain ⟨f, g⟩ := h.keep hk hi hj c
    exact ⟨f, by omega⟩
   ·rw [e2]
    obtain ⟨c, d⟩ := h.tri m i k hmk hmK hi hk a b1
    obtain ⟨f, g⟩ := h.min hk hi hj c b2
    exact ⟨f, by omega⟩
  ·rw [e1]
   rcases zcn k D m j with e2 | ⟨b1, b2, e2⟩
   ·rw [e2] at b ⊢
    obtain ⟨c, d⟩ := h.tri m k j hmk hmK hk hj a2 b
    obtain ⟨f, g⟩ := h.min hk hi hj a1 c
    exact ⟨f, by omega⟩
   ·rw [e2]
    obtain ⟨f, g⟩ := h.min hk hi hj a1 b2
    have x := h.pos hk hmK a2
    have y := h.pos hmK hk b1
    exact ⟨f, by omega⟩
end
def fwK (D : Nat → Nat → Int) : Nat → Nat → Nat → Int
 | 0 => D
 | k + 1 => fwP k (fwK D k)
theorem FwI.all {B : List (Nat × Nat)} {K : Nat} {D : Nat → Nat → Int} (h : FwI B K 0 D) : ∀ k, k ≤ K → FwI B K k (fwK D k)
 | 0, _ => h
 | k + 1, hk => (FwI.all h k (by omega)).step (by omega)
structure BndE (E : List (Nat × Nat)) (m : Nat) (D : Nat → Nat → Int) : Prop where
 dia : ∀ i, i < m + 1 → D i i = 0
 one : ∀ u v, (u, v) ∈ E → u ≠ v → D (u + 1) (v + 1) = 1
 non : ∀ i j, i < m + 1 → j < m + 1 → i ≠ j → (∀ u v, (u, v) ∈ E → ¬ (i = u + 1 ∧ j = v + 1)) → D i j = nnB
def shE (E : List (Nat × Nat)) : List (Nat × Nat) := E.map fun e => (e.1 + 1, e.2 + 1)
theorem sh_mem {E : List (Nat × Nat)} {i j : Nat} : (i, j) ∈ shE E ↔ ∃ u v, (u, v) ∈ E ∧ i = u + 1 ∧ j = v + 1 := by
 unfold shE
 rw [y0i]
 constructor
 ·rintro ⟨⟨u, v⟩, h, e⟩
  obtain ⟨rfl, rfl⟩ := Prod.mk.inj e
  exact ⟨u, v, h, rfl, rfl⟩
 ·rintro ⟨u, v, h, rfl, rfl⟩
  exact ⟨(u, v), h, rfl⟩
theorem BndE.val {E : List (Nat × Nat)} {m : Nat} {D : Nat → Nat → Int} (h : BndE E m D) {i j : Nat} (hi : i < m + 1) (hj : j < m + 1) : (i = j ∧ D i j = 0) ∨ (i ≠ j ∧ (i, j) ∈ shE E ∧ D i j = 1) ∨ (i ≠ j ∧ (i, j) ∉ shE E ∧ D i j = nnB) := by
 by_cases e : i = j
 ·subst e
  exact .inl ⟨rfl, h.dia i hi⟩
 by_cases c : (i, j) ∈ shE E
 ·obtain ⟨u, v, hm, rfl, rfl⟩ := sh_mem.1 c
  exact .inr (.inl ⟨e, c, h.one u v hm (fun x => e (by rw [x]))⟩)
 ·exact .inr (.inr ⟨e, c, h.non i j hi hj e fun u v hm x => c (sh_mem.2 ⟨u, v, hm, x.1, x.2⟩)⟩)
theorem BndE.start {E : List (Nat × Nat)} {m : Nat} {D : Nat → Nat → Int} (h : BndE E m D) : FwI (shE E) (m + 1) 0 D := by
 refine ⟨fun i j hi hj => ?_, fun i j hi hj d hd => ?_, h.dia, fun i j hi hj he => ?_, fun m i j hm => absurd hm (y28 _)⟩
 ·rcases h.val hi hj with ⟨_, e⟩ | ⟨_, _, e⟩ | ⟨_, _, e⟩
  ·rw [e]; exact .inr ⟨by decide, by decide⟩
  ·rw [e]; exact .inr ⟨by decide, by decide⟩
  ·exact .inl e
 ·rcases h.val hi hj with ⟨e1, e⟩ | ⟨_, c, e⟩ | ⟨_, _, e⟩
  ·obtain rfl : d = 0 := by omega
   subst e1
   exact .refl i
  ·obtain rfl : d = 1 := by omega
   exact .step (.refl i) c
  ·rw [e] at hd
   unfold nnB at hd
   omega
 ·rcases h.val hi hj with ⟨_, e⟩ | ⟨_, _, e⟩ | ⟨_, c, e⟩
  ·rw [e]; exact ⟨by decide, by decide⟩
  ·rw [e]; exact ⟨by decide, by decide⟩
  ·exact absurd he c
section
variable {E : List (Nat × Nat)} {m : Nat} {D : Nat → Nat → Int} (hb : ∀ u v, (u, v) ∈ E → u < m ∧ v < m) (h : FwI (shE E) (m + 1) (m + 1) D)
include hb h
end
def ze0 (D : Nat → Nat → Int) (K i : Nat) : List Int := (List.range K).map (D i)
def zca (D : Nat → Nat → Int) (K : Nat) : List (List Int) := (List.range K).map (ze0 D K)
def cM (M : List (List Int)) : AV := .vs (M.map fun r => [vsI r])
def cB (n : Int) (M : List (List Int)) : AV := .agg [.int .i64 n, cM M]
theorem zvr (D : Nat → Nat → Int) (K i : Nat) : (ze0 D K i).length = K := by
 unfold ze0
 rw [y04, y0m]
theorem zff (D : Nat → Nat → Int) (K i : Nat) : ((ze0 D K i).map fun z => ([.int .i64 z] : List AV)).length = K := by rw [y04, zvr]
theorem zge (D : Nat → Nat → Int) (K : Nat) : ((zca D K).map fun r => ([vsI r] : List AV)).length = K := by
 unfold zca
 rw [y04, y04, y0m]
theorem zgw {D : Nat → Nat → Int} {K i : Nat} (h : i < K) : ((zca D K).map fun r => ([vsI r] : List AV))[((i : Nat) : Int).toNat]? = some [vsI (ze0 D K i)] := by
 unfold zca
 rw [y0t, y0d, y0d, y1c h]
 rfl
theorem zlg {D : Nat → Nat → Int} {K i j : Nat} (h : j < K) : ((ze0 D K i).map fun z => ([.int .i64 z] : List AV))[((j : Nat) : Int).toNat]? = some [.int .i64 (D i j)] := by
 unfold ze0
 rw [y0t, y0d, y0d, y1c h]
 rfl
def insB (x : Int) : Bool := decide (x ≥ -64000000) && decide (x ≤ 64000000)
structure OkB (D : Nat → Nat → Int) (K : Nat) : Prop where
 rng : ∀ i j, i < K → j < K → D i j = nnB ∨ (0 ≤ D i j ∧ D i j ≤ 64000000)
 dia : ∀ i, i < K → D i i = 0
theorem OkB.ins {D : Nat → Nat → Int} {K i j : Nat} (h : OkB D K) (hi : i < K) (hj : j < K) (hn : D i j ≠ nnB) : insB (D i j) = true := by
 rcases h.rng i j hi hj with e | ⟨a, b⟩
 ·exact absurd e hn
 ·unfold insB
  rw [decide_eq_true (by omega), decide_eq_true (by omega)]
  rfl
structure OkN (D : Nat → Nat → Int) (K : Nat) : Prop where
 ins : ∀ i j, i < K → j < K → D i j ≠ nnB → insB (D i j) = true
 dia : ∀ i, i < K → D i i = 0
-- pneumatic/bounds.inside
def ic50 : IC := .seq (.region [oM 2 (.mov (.c (.bool false)))] none)
 (.seq (.region [oT 3 0,
  oM 4 (.bin .geq (.t 3) (.c (.int .i64 (-64000000)))),
  oT 5 4,
  ⟨(some 6), .mov (.t 0), some (5, true)⟩,
  ⟨(some 7), .bin .leq (.t 6) (.c (.int .i64 64000000)), some (5, true)⟩,
  oM 8 (.pick (.t 5) (.t 7) (.c (.bool false))),
  oT 2 8] none)
 (.ret))
theorem fn50 : env0.fn 50 = some ⟨9, ic50, [.t 2]⟩ := by kernel_rfl
theorem inside50 (x : Int) : PF Try.prog 50 [.int .i64 x] (.bool (insB x)) := by
 refine zaw env0_ok fn50 [(0, .int .i64 x)] (by show 1 ≤ 9; decide) rfl fun w0 N0 => ?_
 unfold ic50 insB
 refine zsr rfl (za1 rfl (onr rfl (za1 rfl ?_)))
 refine zam rfl rfl rfl (fun h1 => ?_) fun h1 => ?_
 all_goals
  rw [h1]
  repeat (first | refine za8 ?_ | refine za5 ?_ | refine zau ?_ | refine ze4 rfl ?_ | refine zgo rfl rfl ?_ | refine za1 rfl ?_ | refine zb4 rfl rfl ?_)
 ·refine zam rfl rfl rfl (fun h2 => ?_) fun h2 => ?_
  all_goals
   rw [h2]
   refine zb9 rfl rfl (za1 rfl (onu (zau ?_)))
   exact zao ⟨.inr rfl, _, rfl, rfl⟩
 ·exact zao ⟨.inr rfl, _, rfl, rfl⟩
def b30_0 : IC := .seq (.region [oM 28 (.bin .lss (.t 27) (.t 26))] none)
 (.seq (.cond (.t 28) (.skip)
 (.exit 0))
 (.seq (.block 1 (.seq (.region [oM 29 (.idxs 1 (.t 25) (.t 27)),
  oN 30 29,
  oT 4 30] none)
 (.seq (.region [oT 31 4,
  oM 32 (.len false (.t 31)),
  oF 33 0 1,
  oN 34 33,
  oM 35 (.bin .add (.t 34) (.c (.int .i64 1))),
  oM 36 (.bin .neq (.t 32) (.t 35))] none)
 (.cond (.t 36) (.seq (.region [oM 2 (.mov (.c (.int .i64 8)))] none)
 (.ret))
 (.skip)))))
 (.region [oM 37 (.bin .add (.t 27) (.c (.int .i64 1))),
  oT 27 37] none)))
def b30_4 : IC := .seq (.region [oM 49 (.bin .lss (.t 48) (.t 47))] none)
 (.seq (.cond (.t 49) (.skip)
 (.exit 4))
 (.seq (.block 5 (.seq (.region [oT 50 48,
  oM 51 (.idxs 1 (.t 46) (.t 48)),
  oN 52 51,
  oT 7 50,
  oT 8 52] none)
 (.block 6 (.seq (.region [oT 54 8,
  oM 55 (.bin .neq (.t 54) (.c (.int .i64 (-1099511627776)))),
  oT 56 55,
  ⟨(some 57), .mov (.t 8), some (56, true)⟩,
  ⟨(some 58), .call (.c (.fn 50 [] [])) [(.t 57)], some (56, true)⟩,
  ⟨(some 59), .un .not (.t 58), some (56, true)⟩,
  oM 60 (.pick (.t 56) (.t 59) (.c (.bool false))),
  oT 53 60] none)
 (.cond (.t 53) (.seq (.region [oM 2 (.mov (.c (.int .i64 2)))] none)
 (.ret))
 (.seq (.region [oT 62 5,
  oT 63 7,
  oM 64 (.bin .eql (.t 62) (.t 63)),
  oT 65 64,
  ⟨(some 66), .mov (.t 8), some (65, true)⟩,
  ⟨(some 67), .bin .neq (.t 66) (.c (.int .i64 0)), some (65, true)⟩,
  oM 68 (.pick (.t 65) (.t 67) (.c (.bool false))),
  oT 61 68] none)
 (.cond (.t 61) (.seq (.region [oM 2 (.mov (.c (.int .i64 3)))] none)
 (.ret))
 (.skip))))))))
 (.region [oM 69 (.bin .add (.t 48) (.c (.int .i64 1))),
  oT 48 69] none)))
def b30_2 : IC := .seq (.region [oM 42 (.bin .lss (.t 41) (.t 40))] none)
 (.seq (.cond (.t 42) (.skip)
 (.exit 2))
 (.seq (.block 3 (.seq (.region [oT 43 41,
  oM 44 (.idxs 1 (.t 39) (.t 41)),
  oN 45 44,
  oT 5 43,
  oT 6 45] none)
 (.seq (.region [oT 46 6,
  oM 47 (.len false (.t 46)),
  oM 48 (.mov (.c (.int .i64 0)))] none)
 (.block 4 (.loop b30_4)))))
 (.region [oM 70 (.bin .add (.t 41) (.c (.int .i64 1))),
  oT 41 70] none)))
-- pneumatic/bounds.Check
def ic30 : IC := .seq (.region [oM 1 (.box (.t 0)),
  oM 2 (.mov (.c (.int .i64 0)))] none)
 (.seq (.seq (.region [oF 9 0 1,
  oN 10 9,
  oM 11 (.bin .lss (.t 10) (.c (.int .i64 0))),
  oT 12 11,
  ⟨(some 13), .faddr 0 (.t 1), some (12, false)⟩,
  ⟨(some 14), .load none (.t 13), some (12, false)⟩,
  ⟨(some 15), .bin .gtr (.t 14) (.c (.int .i64 12)), some (12, false)⟩,
  oM 16 (.pick (.t 12) (.c (.bool true)) (.t 15))] none)
 (.cond (.t 16) (.seq (.region [oM 2 (.mov (.c (.int .i64 2)))] none)
 (.ret))
 (.skip)))
 (.seq (.seq (.region [oF 17 1 1,
  oN 18 17,
  oM 19 (.len false (.t 18)),
  oF 20 0 1,
  oN 21 20,
  oM 22 (.bin .add (.t 21) (.c (.int .i64 1))),
  oM 23 (.bin .neq (.t 19) (.t 22))] none)
 (.cond (.t 23) (.seq (.region [oM 2 (.mov (.c (.int .i64 8)))] none)
 (.ret))
 (.skip)))
 (.seq (.seq (.region [oF 24 1 1,
  oN 25 24,
  oM 26 (.len false (.t 25)),
  oM 27 (.mov (.c (.int .i64 0)))] none)
 (.block 0 (.loop b30_0)))
 (.seq (.seq (.region [oF 38 1 1,
  oN 39 38,
  oM 40 (.len false (.t 39)),
  oM 41 (.mov (.c (.int .i64 0)))] none)
 (.block 2 (.loop b30_2)))
 (.seq (.region [oM 2 (.mov (.c (.int .i64 0)))] none)
 (.ret))))))
theorem fn30 : env0.fn 30 = some ⟨71, ic30, [.t 2]⟩ := by kernel_rfl
set_option maxHeartbeats 2000000 in
theorem zkh {D : Nat → Nat → Int} {n : Nat} (hn : n ≤ 12) (hD : OkN D (n + 1)) : PF Try.prog 30 [cB (n : Nat) (zca D (n + 1))] (.int .i64 0) := by
 have hml := zge D (n + 1)
 refine zaw env0_ok fn30 [(0, .agg [.int .i64 (n : Nat), cM (zca D (n + 1))])] (by show 1 ≤ 71; decide) rfl fun w0 N0 => ?_
 unfold ic30 cM
 repeat (first | refine za7 ?_ | refine za0 rfl ?_ | refine za8 ?_ | refine za5 ?_ | refine ze4 rfl ?_ | refine za1 rfl ?_ | refine zag rfl rfl ?_ | refine zai rfl ?_ | refine zd6 rfl rfl ?_ | refine zdc rfl rfl rfl ?_)
 refine zam rfl rfl rfl (fun h1 => ?_) fun h1 => ?_
 ·have := of_decide_eq_true h1
  omega
 refine zb4 rfl rfl (onu (zbn rfl (zae (za5 (za7 (zsr rfl (zai rfl (zag rfl rfl (zbl rfl rfl (zai rfl (zag rfl rfl ?_)))))))))))
 refine zav (op := .add) rfl rfl rfl ?_
 rw [hml, zab n (by omega)]
 refine zam rfl rfl rfl (fun h2 => ?_) fun h2 => ?_
 ·simp at h2
 refine onu (zbn rfl (zae (za5 (za7 (zsr rfl (zai rfl (zag rfl rfl (zbl rfl rfl (za1 rfl (onu ?_))))))))))
 refine zac ?_
 rw [hml]
 refine zcc [] [(0, 0, [.int .i64 (n : Nat), cM (zca D (n + 1))])] [(1, .vptr [.int .i64 (n : Nat), cM (zca D (n + 1))]), (2, .int .i64 0), (25, cM (zca D (n + 1))), (26, .int .i64 ((n + 1 : Nat) : Int)), (27, .int .i64 0)] rfl (.cons rfl rfl .nil) .nil (.cons rfl (.fptr rfl rfl) (.cons rfl (.same rfl) (.cons rfl (.same rfl) (.cons rfl (.same rfl) (.cons rfl (.same rfl) .nil))))) ?_
 refine zb8 (fun mm S => ∃ i, mm = n + 1 - i ∧ i ≤ n + 1 ∧ S = st 71 [(1, .vptr [.int .i64 (n : Nat), cM (zca D (n + 1))]), (2, .int .i64 0), (25, cM (zca D (n + 1))), (26, .int .i64 ((n + 1 : Nat) : Int)), (27, .int .i64 (i : Nat))] [] 0 1) (n + 1)
  (za9 (.cons rfl (.cons rfl (.cons rfl (.cons rfl (.cons rfl .nil)))))) ⟨0, rfl, y0s _, rfl⟩ ?_
 rintro mm S ⟨i, rfl, hi, rfl⟩
 unfold b30_0
 refine zsr rfl ?_
 refine zam rfl rfl rfl (fun h3 => ?_) fun h3 => ?_
 ·have hlt : i < n + 1 := y0x.1 (of_decide_eq_true h3)
  have hge := zgw (D := D) hlt
  have hrl := zff D (n + 1) i
  unfold cM
  refine onu (za7 (zbz rfl (zae (za5 (za7 (zac (zsr rfl (zb1 rfl rfl (by omega) (by assumption) rfl (zag rfl rfl (za1 rfl (za8 ?_)))))))))))
  refine za5 (zsr rfl (za1 rfl (zbl rfl rfl (zaz rfl rfl rfl (zag rfl rfl (zav (op := .add) rfl rfl rfl ?_))))))
  rw [hrl, zab n (by omega)]
  refine zam rfl rfl rfl (fun h4 => ?_) fun h4 => ?_
  ·simp at h4
  refine onu (zbn rfl (zae (zbd (za5 (za0 rfl (zav (op := .add) rfl rfl rfl (za1 rfl (za8 ?_))))))))
  rw [zab i (by omega)]
  exact zal (show n + 1 - (i + 1) < n + 1 - i by omega) (za9 (.cons rfl (.cons rfl (.cons rfl (.cons rfl (.cons rfl .nil)))))) ⟨i + 1, rfl, hlt, rfl⟩
 refine onu (za7 (zbn rfl (zbb (zad ?_))))
 refine zby ?_
 unfold cM
 refine zb7 (za5 (za7 (zsr rfl (zaz rfl rfl rfl (zag rfl rfl (zbl rfl rfl (za1 rfl (onu (zac ?_)))))))))
 rw [hml]
 refine zb8 (fun mm S => ∃ i, mm = n + 1 - i ∧ i ≤ n + 1 ∧ S = st 71 [(1, .vptr [.int .i64 (n : Nat), cM (zca D (n + 1))]), (2, .int .i64 0), (39, cM (zca D (n + 1))), (40, .int .i64 ((n + 1 : Nat) : Int)), (41, .int .i64 (i : Nat))] [] 0 1) (n + 1)
  (za9 (.cons rfl (.cons rfl (.cons rfl (.cons rfl (.cons rfl .nil)))))) ⟨0, rfl, y0s _, rfl⟩ ?_
 rintro mm S ⟨i, rfl, hi, rfl⟩
 unfold b30_2
 refine zsr rfl ?_
 refine zam rfl rfl rfl (fun h3 => ?_) fun h3 => ?_
 ·have hlt : i < n + 1 := y0x.1 (of_decide_eq_true h3)
  have hge := zgw (D := D) hlt
  have hrl := zff D (n + 1) i
  unfold cM
  repeat (first | refine za7 ?_ | refine za0 rfl ?_ | refine za8 ?_ | refine za5 ?_ | refine zac ?_ | refine zae ?_ | refine zbz rfl ?_ | refine za1 rfl ?_ | refine zag rfl rfl ?_ | refine zbl rfl rfl ?_ | refine zb1 rfl rfl (by omega) (by assumption) rfl ?_)
  rw [hrl]
  refine zb8 (fun mm S => ∃ j, mm = n + 1 - j ∧ j ≤ n + 1 ∧ S = st 71 [(1, .vptr [.int .i64 (n : Nat), cM (zca D (n + 1))]), (2, .int .i64 0), (39, cM (zca D (n + 1))), (40, .int .i64 ((n + 1 : Nat) : Int)), (41, .int .i64 (i : Nat)), (5, .int .i64 (i : Nat)), (46, vsI (ze0 D (n + 1) i)), (47, .int .i64 ((n + 1 : Nat) : Int)), (48, .int .i64 (j : Nat))] [] 0 1) (n + 1)
   (za9 (.cons rfl (.cons rfl (.cons rfl (.cons rfl (.cons rfl (.cons rfl (.cons rfl (.cons rfl (.cons rfl .nil)))))))))) ⟨0, rfl, y0s _, rfl⟩ ?_
  rintro mm S ⟨j, rfl, hj, rfl⟩
  unfold b30_4
  refine zsr rfl ?_
  refine zam rfl rfl rfl (fun h5 => ?_) fun h5 => ?_
  ·have hlt2 : j < n + 1 := y0x.1 (of_decide_eq_true h5)
   have hgj := zlg (D := D) (i := i) hlt2
   have p50 := inside50 (D i j)
   have hin := hD.ins i j hlt hlt2
   have hdi : i = j → D i j = 0 := fun e => by rw [← e]; exact hD.dia i hlt
   generalize D i j = x at *
   repeat (first | refine za7 ?_ | refine za0 rfl ?_ | refine za8 ?_ | refine za5 ?_ | refine zac ?_ | refine zae ?_ | refine zbz rfl ?_ | refine za1 rfl ?_ | refine zag rfl rfl ?_ | refine zb1 rfl rfl (by omega) (by assumption) rfl ?_)
   refine zam rfl rfl rfl (fun h6 => ?_) fun h6 => ?_
   ·have hx : x ≠ nnB := by unfold nnB; simpa using h6
    rw [hin hx] at p50
    refine za1 rfl (ze4 rfl (za1 rfl (ze4 rfl ?_)))
    refine zat rfl rfl p50 noC ?_
    refine ze4 rfl (o_un rfl rfl (zb9 rfl rfl (za1 rfl (onu (zbn rfl (zsr rfl (za1 rfl (za1 rfl ?_))))))))
    refine zam rfl rfl rfl (fun h7 => ?_) fun h7 => ?_
    ·have h8 : ((i : Nat) : Int) = (j : Nat) := by simpa using h7
     have hij : i = j := by omega
     rw [hdi hij]
     refine za1 rfl (ze4 rfl (za1 rfl (ze4 rfl (zdc rfl rfl rfl (zb9 rfl rfl (za1 rfl (onu (zbn rfl (zae (zbd (zbd (za5 ?_))))))))))))
     refine za0 rfl (zav (op := .add) rfl rfl rfl (za1 rfl (za8 ?_)))
     rw [zab j (by omega)]
     exact zal (show n + 1 - (j + 1) < n + 1 - j by omega) (za9 (.cons rfl (.cons rfl (.cons rfl (.cons rfl (.cons rfl (.cons rfl (.cons rfl (.cons rfl (.cons rfl .nil)))))))))) ⟨j + 1, rfl, hlt2, rfl⟩
    ·refine za1 rfl (zgo rfl rfl (zgo rfl rfl (zb4 rfl rfl (za1 rfl (onu (zbn rfl (zae (zbd (zbd (za5 (za0 rfl (zav (op := .add) rfl rfl rfl ?_))))))))))))
     refine za1 rfl (za8 ?_)
     rw [zab j (by omega)]
     exact zal (show n + 1 - (j + 1) < n + 1 - j by omega) (za9 (.cons rfl (.cons rfl (.cons rfl (.cons rfl (.cons rfl (.cons rfl (.cons rfl (.cons rfl (.cons rfl .nil)))))))))) ⟨j + 1, rfl, hlt2, rfl⟩
   ·have hx : x = nnB := by unfold nnB; simpa using h6
    have hij : i ≠ j := fun e => by
     have := hdi e
     rw [hx] at this
     exact absurd this (by decide)
    refine za1 rfl (zgo rfl rfl (zgo rfl rfl (zgo rfl rfl (zb4 rfl rfl (za1 rfl (onu (zbn rfl (zsr rfl (za1 rfl (za1 rfl ?_))))))))))
    refine zam rfl rfl rfl (fun h7 => ?_) fun h7 => ?_
    ·have h8 : ((i : Nat) : Int) = (j : Nat) := by simpa using h7
     omega
    refine za1 rfl (zgo rfl rfl (zgo rfl rfl (zb4 rfl rfl (za1 rfl (onu (zbn rfl (zae (zbd (zbd (za5 (za0 rfl (zav (op := .add) rfl rfl rfl ?_))))))))))))
    refine za1 rfl (za8 ?_)
    rw [zab j (by omega)]
    exact zal (show n + 1 - (j + 1) < n + 1 - j by omega) (za9 (.cons rfl (.cons rfl (.cons rfl (.cons rfl (.cons rfl (.cons rfl (.cons rfl (.cons rfl (.cons rfl .nil)))))))))) ⟨j + 1, rfl, hlt2, rfl⟩
  ·refine onu (za7 (zbn rfl (zbb (zad ?_))))
   refine zby ?_
   refine zb7 (zbd (za5 (za0 rfl (zav (op := .add) rfl rfl rfl (za1 rfl (za8 ?_))))))
   rw [zab i (by omega)]
   exact zal (show n + 1 - (i + 1) < n + 1 - i by omega) (za9 (.cons rfl (.cons rfl (.cons rfl (.cons rfl (.cons rfl .nil)))))) ⟨i + 1, rfl, hlt, rfl⟩
 ·refine onu (za7 (zbn rfl (zbb (zad ?_))))
  refine zby ?_
  refine zb7 (za5 (zsr rfl (za1 rfl (onu (zau ?_)))))
  exact zao ⟨.inr rfl, _, rfl, rfl⟩
section
variable {P : Program} {w0 : World} {N0 : Nat} {k : List Fr} {Q : Exit → AS → Prop} {pf : Kn} {ios : List Opr} {n nx ck : Nat} {mk : List (Nat × Nat)} {md : Md} {l : List (Nat × AV)} {hp : List (Nat × Nat × AObj)}
theorem o_mks {d sz bytes : Nat} {z : List AV} {a c : Arg} {lv cv : Int} {kd kc : IntKind} (ha : zb6 a l = some (.int kd lv)) (hc : zb6 c l = some (.int kc cv)) (hb : 0 ≤ lv ∧ lv ≤ cv ∧ cv ≤ 1048576 ∧ bytes ≤ 16777216)
  (go : Om P w0 N0 md pf ios (st n ((d, .ms nx ck sz 0 lv.toNat (some cv.toNat)) :: l) ((nx, ck, .cells (zed cv.toNat z)) :: hp) (nx + 1) (ck + 1) mk) k Q) (hx : Ops pf (st n l hp nx ck mk) (.mkslice sz bytes z a c) := by exact trivial) :
  Om P w0 N0 md pf (⟨some d, .mkslice sz bytes z a c, none⟩ :: ios) (st n l hp nx ck mk) k Q :=
 zdt (by simp only [iop, zaq, ha, hc, if_pos hb]; rfl) go hx
end
def zbt : IC → List (Code × Code)
 | .seq a b => zbt a ++ zbt b
 | .cond _ a b => zbt a ++ zbt b
 | .block _ b => zbt b
 | .loop b => zbt b
 | .rangeFunc _ _ ca cb _ _ => [(ca, cb)]
 | _ => []
theorem zhb {S : AS} {id sp off : Nat} {v : AV} {cs ws : List AV} (h : Am.look id S.heap = some (sp, .cells cs)) (hlt : id < S.next) (hd : cs.drop off = v :: ws) : S.deref (.mptr id sp off) = some (v :: ws) := by
 simp only [AS.deref, h]
 rw [if_pos ⟨trivial, hlt⟩, hd]
def cE (es : List (Int × Int)) : List (List AV) := es.map fun e => [.int .i64 e.1, .int .i64 e.2]
theorem zd9 (es : List (Int × Int)) : (cE es).length = es.length := y04 ..
theorem zp4 {es : List (Int × Int)} {i : Nat} (h : i < es.length) : (cE es)[((i : Nat) : Int).toNat]? = some [.int .i64 es[i].1, .int .i64 es[i].2] := by
 rw [y0t, cE, y0d, y07 h]
 rfl
def cG (n : Int) (es : List (Int × Int)) : AV := .agg [.int .i64 n, .vs (cE es)]
def zg2 (n v : Int) : Bool := decide (v < 0) || decide (v ≥ n)
def zjb (n : Int) (l : List Int) : Int := if l.any (zg2 n) = true then 2 else 0
theorem zwf (n x : Int) (l : List Int) : zjb n (x :: l) = if zg2 n x = true then 2 else zjb n l := by
 unfold zjb
 rw [List.any_cons]
 cases zg2 n x <;> rfl
def znp (n : Int) (es : List (Int × Int)) : Int := if es.any (fun e => zg2 n e.1 || zg2 n e.2) = true then 2 else 0
theorem zma (n : Int) (e : Int × Int) (es : List (Int × Int)) : znp n (e :: es) = if zjb n [e.1, e.2] = 0 then znp n es else 2 := by
 unfold znp zjb
 rw [List.any_cons, List.any_cons, List.any_cons, List.any_nil, Bool.or_false]
 cases (zg2 n e.1 || zg2 n e.2) <;> rfl
theorem verE_two (n a b : Int) : zjb n [a, b] = 0 ∨ zjb n [a, b] = 2 := by
 unfold zjb
 split
 ·exact .inr rfl
 ·exact .inl rfl
def zf9 (n : Int) (es : List (Int × Int)) : Int := if n < 0 then 2 else if n > 256 then 2 else if es.length > 4096 then 5 else znp n es
theorem znk {n : Int} {es : List (Int × Int)} (h : n < 0) : zf9 n es = 2 := by unfold zf9; rw [if_pos h]
theorem znj {n : Int} {es : List (Int × Int)} (h : n > 256) : zf9 n es = 2 := by unfold zf9; rw [if_neg (by omega), if_pos h]
theorem zki {n : Int} {es : List (Int × Int)} (h0 : ¬ n < 0) (h1 : ¬ n > 256) (h : es.length > 4096) : zf9 n es = 5 := by unfold zf9; rw [if_neg h0, if_neg h1, if_pos h]
theorem zsy {n : Int} {es : List (Int × Int)} (h0 : ¬ n < 0) (h1 : ¬ n > 256) (h : ¬ es.length > 4096) : zf9 n es = znp n es := by unfold zf9; rw [if_neg h0, if_neg h1, if_neg h]
def b57_0 : IC := .seq (.region [oM 10 (.bin .lss (.t 9) (.t 8))] none)
 (.seq (.cond (.t 10) (.skip)
 (.exit 0))
 (.seq (.block 1 (.seq (.region [oM 11 (.idxs 1 (.t 7) (.t 9)),
  oN 12 11,
  oT 6 12] none)
 (.seq (.region [oT 13 6,
  oM 14 (.bin .lss (.t 13) (.c (.int .i64 0))),
  oT 15 14,
  ⟨(some 16), .mov (.t 6), some (15, false)⟩,
  ⟨(some 17), .faddr 0 (.t 2), some (15, false)⟩,
  ⟨(some 18), .load none (.t 17), some (15, false)⟩,
  ⟨(some 19), .bin .geq (.t 16) (.t 18), some (15, false)⟩,
  oM 20 (.pick (.t 15) (.c (.bool true)) (.t 19))] none)
 (.cond (.t 20) (.seq (.region [oM 4 (.mov (.c (.int .i64 2)))] none)
 (.ret))
 (.skip)))))
 (.region [oM 21 (.bin .add (.t 9) (.c (.int .i64 1))),
  oT 9 21] none)))
-- pneumatic/digraph.vertex
def ic57 : IC := .seq (.region [oM 2 (.box (.t 0)),
  oM 4 (.mov (.c (.int .i64 0)))] none)
 (.seq (.seq (.region [oT 7 1,
  oM 8 (.len false (.t 7)),
  oM 9 (.mov (.c (.int .i64 0)))] none)
 (.block 0 (.loop b57_0)))
 (.seq (.region [oM 4 (.mov (.c (.int .i64 0)))] none)
 (.ret)))
theorem fn57 : env0.fn 57 = some ⟨22, ic57, [.t 4]⟩ := by kernel_rfl
set_option maxHeartbeats 1000000 in
theorem zqr (n : Int) (es : List (Int × Int)) (l : List Int) (hl : l.length ≤ 1000000) : PF Try.prog 57 [cG n es, vsI l] (.int .i64 (zjb n l)) := by
 refine zaw env0_ok fn57 [(0, .agg [.int .i64 n, .vs (cE es)]), (1, vsI l)] (by show 2 ≤ 22; decide) rfl fun w0 N0 => ?_
 unfold ic57
 refine zsr rfl (zd6 rfl rfl (za1 rfl (onu ?_)))
 refine zcc [] [(0, 0, [.int .i64 n, .vs (cE es)])] [(1, vsI l), (2, .vptr [.int .i64 n, .vs (cE es)])] rfl (.cons rfl rfl .nil) .nil (.cons rfl (.same rfl) (.cons rfl (.fptr rfl rfl) .nil)) ?_
 have hlen : (l.map fun z => ([.int .i64 z] : List AV)).length = l.length := y04 ..
 repeat (first | refine za7 ?_ | refine za0 rfl ?_ | refine za8 ?_ | refine za5 ?_ | refine zac ?_ | refine za1 rfl ?_ | refine zbl rfl rfl ?_)
 refine zb8 (fun mm S => ∃ i, mm = l.length - i ∧ i ≤ l.length ∧ zjb n (l.drop i) = zjb n l ∧ S = st 22 [(2, .vptr [.int .i64 n, .vs (cE es)]), (7, vsI l), (8, .int .i64 ((l.map fun z => ([.int .i64 z] : List AV)).length : Nat)), (9, .int .i64 (i : Nat))] [] 0 1) l.length
  (za9 (.cons rfl (.cons rfl (.cons rfl (.cons rfl .nil))))) ⟨0, rfl, y0s _, rfl, rfl⟩ ?_
 rintro mm S ⟨i, rfl, hi, hv, rfl⟩
 unfold b57_0
 repeat (first | refine za7 ?_ | refine za0 rfl ?_)
 refine zam rfl rfl rfl (fun h3 => ?_) fun h3 => ?_
 ·have hlt : i < l.length := by
   have h4 : ((i : Nat) : Int) < (((l.map fun z => ([.int .i64 z] : List AV)).length : Nat) : Int) := of_decide_eq_true h3
   omega
  have w1 : IntKind.wrap .i64 (((i : Nat) : Int) + 1) = ((i + 1 : Nat) : Int) := zab i (by omega)
  have hg := ze5 hlt
  have hs : zjb n (l.drop i) = if zg2 n l[i] = true then 2 else zjb n (l.drop (i + 1)) := by rw [y1o hlt, zwf]
  unfold zg2 at hs
  generalize l[i] = x at *
  repeat (first | refine za7 ?_ | refine za0 rfl ?_ | refine za8 ?_ | refine za5 ?_ | refine zac ?_ | refine zae ?_ | refine zbz rfl ?_ | refine za1 rfl ?_ | refine zag rfl rfl ?_ | refine zb1 rfl rfl (by omega) (by assumption) rfl ?_)
  refine zam rfl rfl rfl (fun h5 => ?_) fun h5 => ?_
  ·have h5 : decide (x < 0) = true := h5
   rw [h5, Bool.true_or, if_pos rfl, hv] at hs
   repeat (first | refine za7 ?_ | refine za0 rfl ?_ | refine za8 ?_ | refine za5 ?_ | refine zbz rfl ?_ | refine zau ?_ | refine zak ?_ | refine zbf ?_ | refine zgo rfl rfl ?_ | refine za1 rfl ?_ | refine zb9 rfl rfl ?_)
   exact zao ⟨.inr rfl, _, rfl, by rw [hs]; rfl⟩
  ·have h5 : decide (x < 0) = false := h5
   repeat (first | refine ze4 rfl ?_ | refine za1 rfl ?_ | refine zag rfl rfl ?_ | refine zaz rfl rfl rfl ?_)
   refine zam rfl rfl rfl (fun h6 => ?_) fun h6 => ?_
   ·have h6 : decide (x ≥ n) = true := h6
    rw [h5, h6, Bool.false_or, if_pos rfl, hv] at hs
    repeat (first | refine za7 ?_ | refine za0 rfl ?_ | refine za8 ?_ | refine za5 ?_ | refine zbz rfl ?_ | refine zau ?_ | refine zak ?_ | refine zbf ?_ | refine za1 rfl ?_ | refine zb4 rfl rfl ?_)
    exact zao ⟨.inr rfl, _, rfl, by rw [hs]; rfl⟩
   ·have h6 : decide (x ≥ n) = false := h6
    rw [h5, h6, if_neg (by decide), hv] at hs
    repeat (first | refine za0 rfl ?_ | refine za8 ?_ | refine za5 ?_ | refine zbd ?_ | refine zae ?_ | refine zbn rfl ?_ | refine za1 rfl ?_ | refine zb4 rfl rfl ?_ | refine zav (op := .add) rfl rfl rfl ?_)
    rw [w1]
    exact zal (show l.length - (i + 1) < l.length - i by omega) (za9 (.cons rfl (.cons rfl (.cons rfl (.cons rfl .nil))))) ⟨i + 1, rfl, hlt, hs.symm, rfl⟩
 ·have hie : i = l.length := by
   have h4 : ¬ ((i : Nat) : Int) < (((l.map fun z => ([.int .i64 z] : List AV)).length : Nat) : Int) := of_decide_eq_false h3
   omega
  rw [hie, List.drop_length] at hv
  repeat (first | refine za7 ?_ | refine za8 ?_ | refine za5 ?_ | refine zbn rfl ?_ | refine zbb ?_ | refine zad ?_)
  refine zby ?_
  repeat (first | refine za7 ?_ | refine za0 rfl ?_ | refine za8 ?_ | refine za5 ?_ | refine zau ?_ | refine zb7 ?_ | refine za1 rfl ?_)
  exact zao ⟨.inr rfl, _, rfl, by rw [← hv]; rfl⟩
def b40_1 : IC := .seq (.region [oM 24 (.bin .lss (.t 23) (.t 22))] none)
 (.seq (.cond (.t 24) (.skip)
 (.exit 1))
 (.seq (.block 2 (.seq (.region [oM 25 (.idxs 2 (.t 21) (.t 23)),
  oL 26 2 25,
  oM 4 (.alloc [.int .i64 0, .int .i64 0]),
  ⟨none, .store 2 (.t 4) (.t 26), none⟩] none)
 (.seq (.region [oL 27 2 1,
  oF 28 0 4,
  oN 29 28,
  oF 30 1 4,
  oN 31 30,
  oM 32 (.bslice 1 2 [.int .i64 0, .int .i64 0] [(0, 1, (.t 29)), (1, 1, (.t 31))]),
  oM 33 (.call (.c (.fn 57 [] [])) [(.t 27), (.t 32)]),
  oT 5 33] none)
 (.seq (.region [oT 34 5,
  oM 35 (.bin .neq (.t 34) (.c (.int .i64 0)))] none)
 (.cond (.t 35) (.seq (.region [oT 36 5,
  oT 2 36] none)
 (.ret))
 (.skip))))))
 (.region [oM 37 (.bin .add (.t 23) (.c (.int .i64 1))),
  oT 23 37] none)))
-- pneumatic/digraph.Check
def ic40 : IC := .seq (.region [oM 1 (.box (.t 0)),
  oM 2 (.mov (.c (.int .i64 0)))] none)
 (.seq (.block 0 (.seq (.region [oF 7 0 1,
  oN 8 7,
  oM 9 (.bin .lss (.t 8) (.c (.int .i64 0))),
  oT 10 9,
  ⟨(some 11), .faddr 0 (.t 1), some (10, false)⟩,
  ⟨(some 12), .load none (.t 11), some (10, false)⟩,
  ⟨(some 13), .bin .gtr (.t 12) (.c (.int .i64 256)), some (10, false)⟩,
  oM 14 (.pick (.t 10) (.c (.bool true)) (.t 13)),
  oT 6 14] none)
 (.cond (.t 6) (.seq (.region [oM 2 (.mov (.c (.int .i64 2)))] none)
 (.ret))
 (.seq (.region [oF 16 1 1,
  oN 17 16,
  oM 18 (.len false (.t 17)),
  oM 19 (.bin .gtr (.t 18) (.c (.int .i64 4096))),
  oT 15 19] none)
 (.cond (.t 15) (.seq (.region [oM 2 (.mov (.c (.int .i64 5)))] none)
 (.ret))
 (.skip))))))
 (.seq (.seq (.region [oF 20 1 1,
  oN 21 20,
  oM 22 (.len false (.t 21)),
  oM 23 (.mov (.c (.int .i64 0)))] none)
 (.block 1 (.loop b40_1)))
 (.seq (.region [oM 2 (.mov (.c (.int .i64 0)))] none)
 (.ret))))
theorem fn40 : env0.fn 40 = some ⟨38, ic40, [.t 2]⟩ := by kernel_rfl
set_option maxHeartbeats 2000000 in
theorem check34 (n : Int) (es : List (Int × Int)) : PF Try.prog 40 [cG n es] (.int .i64 (zf9 n es)) := by
 have hcl := zd9 es
 refine zaw env0_ok fn40 [(0, .agg [.int .i64 n, .vs (cE es)])] (by show 1 ≤ 38; decide) rfl fun w0 N0 => ?_
 unfold ic40
 refine zsr rfl (zd6 rfl rfl (za1 rfl (onu ?_)))
 refine zcc [] [(0, 0, [.int .i64 n, .vs (cE es)])] [(1, .vptr [.int .i64 n, .vs (cE es)])] rfl (.cons rfl rfl .nil) .nil (.cons rfl (.fptr rfl rfl) .nil) ?_
 repeat (first | refine za7 ?_ | refine za0 rfl ?_ | refine zac ?_ | refine zag rfl rfl ?_ | refine zaz rfl rfl rfl ?_)
 refine zam rfl rfl rfl (fun h => ?_) fun h => ?_
 ·repeat (first | refine za7 ?_ | refine za0 rfl ?_ | refine za8 ?_ | refine za5 ?_ | refine zbz rfl ?_ | refine zau ?_ | refine zak ?_ | refine zbf ?_ | refine zgo rfl rfl ?_ | refine za1 rfl ?_ | refine zb9 rfl rfl ?_)
  exact zao ⟨.inr rfl, _, rfl, by rw [znk (of_decide_eq_true h)]; rfl⟩
 have h0 : ¬ n < 0 := of_decide_eq_false h
 repeat (first | refine ze4 rfl ?_ | refine za1 rfl ?_ | refine zag rfl rfl ?_ | refine zaz rfl rfl rfl ?_)
 refine zam rfl rfl rfl (fun h => ?_) fun h => ?_
 ·repeat (first | refine za7 ?_ | refine za0 rfl ?_ | refine za8 ?_ | refine za5 ?_ | refine zbz rfl ?_ | refine zau ?_ | refine zak ?_ | refine zbf ?_ | refine za1 rfl ?_ | refine zb4 rfl rfl ?_)
  exact zao ⟨.inr rfl, _, rfl, by rw [znj (of_decide_eq_true h)]; rfl⟩
 have h1 : ¬ n > 256 := of_decide_eq_false h
 repeat (first | refine za7 ?_ | refine za0 rfl ?_ | refine za8 ?_ | refine za5 ?_ | refine zbn rfl ?_ | refine za1 rfl ?_ | refine zag rfl rfl ?_ | refine zaz rfl rfl rfl ?_ | refine zb4 rfl rfl ?_ | refine zbl rfl rfl ?_)
 refine zam rfl rfl rfl (fun h => ?_) fun h => ?_
 ·have h2 : (((cE es).length : Nat) : Int) > 4096 := of_decide_eq_true h
  repeat (first | refine za7 ?_ | refine za0 rfl ?_ | refine za8 ?_ | refine za5 ?_ | refine zbz rfl ?_ | refine zau ?_ | refine zak ?_ | refine zbf ?_ | refine za1 rfl ?_)
  exact zao ⟨.inr rfl, _, rfl, by rw [zki h0 h1 (by omega)]; rfl⟩
 have h2 : ¬ (((cE es).length : Nat) : Int) > 4096 := of_decide_eq_false h
 rw [zsy h0 h1 (by omega)]
 repeat (first | refine za7 ?_ | refine za0 rfl ?_ | refine za8 ?_ | refine za5 ?_ | refine zbd ?_ | refine zac ?_ | refine zae ?_ | refine zbn rfl ?_ | refine za1 rfl ?_ | refine zag rfl rfl ?_ | refine zaz rfl rfl rfl ?_ | refine zbl rfl rfl ?_)
 refine zb8 (fun mm S => ∃ i, mm = es.length - i ∧ i ≤ es.length ∧ znp n (es.drop i) = znp n es ∧ S = st 38 [(1, .vptr [.int .i64 n, .vs (cE es)]), (21, .vs (cE es)), (22, .int .i64 ((cE es).length : Nat)), (23, .int .i64 (i : Nat))] [] 0 1) es.length
  (za9 (.cons rfl (.cons rfl (.cons rfl (.cons rfl .nil))))) ⟨0, rfl, y0s _, rfl, rfl⟩ ?_
 rintro mm S ⟨i, rfl, hi, hv, rfl⟩
 unfold b40_1
 repeat (first | refine za7 ?_ | refine za0 rfl ?_)
 refine zam rfl rfl rfl (fun h3 => ?_) fun h3 => ?_
 ·have hlt : i < es.length := by
   have h4 : ((i : Nat) : Int) < (((cE es).length : Nat) : Int) := of_decide_eq_true h3
   omega
  have w1 : IntKind.wrap .i64 (((i : Nat) : Int) + 1) = ((i + 1 : Nat) : Int) := zab i (by omega)
  have hg := zp4 hlt
  have hs : znp n (es.drop i) = if zjb n [es[i].1, es[i].2] = 0 then znp n (es.drop (i + 1)) else 2 := by rw [y1o hlt, zma]
  generalize es[i].1 = a at *
  generalize es[i].2 = b at *
  have p56 := zqr n es [a, b] (by simp)
  repeat (first | refine za7 ?_ | refine za0 rfl ?_ | refine za8 ?_ | refine za5 ?_ | refine zac ?_ | refine zae ?_ | refine zbz rfl ?_ | refine zag rfl rfl ?_ | refine zb3 rfl rfl rfl rfl ?_ | refine zci rfl rfl rfl rfl rfl rfl rfl ?_ | refine zai rfl ?_ | refine zcp ?_ | refine zbi rfl rfl ?_ | refine zb1 rfl rfl (by omega) (by assumption) rfl ?_)
  refine zat rfl rfl p56 (fun _ => rfl) ?_
  rcases verE_two n a b with e | e
  ·rw [e] at hs
   rw [if_pos rfl, hv] at hs
   rw [e]
   repeat (first | refine za7 ?_ | refine za0 rfl ?_ | refine za8 ?_ | refine za5 ?_ | refine zbd ?_ | refine zae ?_ | refine zbn rfl ?_ | refine za1 rfl ?_ | refine zav (op := .add) rfl rfl rfl ?_ | refine zdc rfl rfl rfl ?_)
   rw [w1]
   refine zal (show es.length - (i + 1) < es.length - i by omega) ?_ ⟨i + 1, rfl, hlt, hs.symm, rfl⟩
   exact zeo [] [] rfl rfl rfl .nil .nil (.cons rfl (.same rfl) (.cons rfl (.same rfl) (.cons rfl (.same rfl) (.cons rfl (.same rfl) .nil))))
  ·rw [e] at hs
   rw [if_neg (by decide), hv] at hs
   rw [e]
   repeat (first | refine za7 ?_ | refine za0 rfl ?_ | refine za8 ?_ | refine za5 ?_ | refine zbz rfl ?_ | refine zau ?_ | refine zak ?_ | refine zbf ?_ | refine za1 rfl ?_ | refine zjx rfl rfl rfl ?_)
   exact zao ⟨.inr rfl, _, rfl, by rw [hs]; rfl⟩
 ·have hie : i = es.length := by
   have h4 : ¬ ((i : Nat) : Int) < (((cE es).length : Nat) : Int) := of_decide_eq_false h3
   omega
  rw [hie, List.drop_length] at hv
  repeat (first | refine za7 ?_ | refine za8 ?_ | refine za5 ?_ | refine zbn rfl ?_ | refine zbb ?_ | refine zad ?_)
  refine zby ?_
  repeat (first | refine za7 ?_ | refine za0 rfl ?_ | refine za8 ?_ | refine za5 ?_ | refine zau ?_ | refine zb7 ?_ | refine za1 rfl ?_)
  exact zao ⟨.inr rfl, _, rfl, by rw [← hv]; rfl⟩
end Go.Proofs.Ytfbeableaihooaa
