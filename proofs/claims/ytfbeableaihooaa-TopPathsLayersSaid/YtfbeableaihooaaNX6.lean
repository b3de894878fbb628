/-
  COMPONENTS, in plain Lean: searched from the last closed vertex on, in the reversed graph.; THE SEARCH INTO THE DEPTH: the closure visit walked.; THE SEARCH IN THE OTHER DIRECTION: the closure collect walked.; COMPONENTS: the region that makes the two lists of neighbours.; THE EXAMPLES OF THE CHAPTER.; THE RANGE over the closed vertices, from the last one on.; THE CONDENSED GRAPH, in plain Lean.; 
-/
import Derived.Test.YtfbeableaihooaaNX5
import Derived.Test.YtfbeableaihooaaRows
import Derived.JoinedCond
namespace Go.Proofs.Ytfbeableaihooaa
open Go Go.Am
def Rch (E : List (Nat × Nat)) (x y : Nat) : Prop := ∃ k, Wk E k x y
theorem Rch.refl (E : List (Nat × Nat)) (x : Nat) : Rch E x x := ⟨0, .refl x⟩
theorem Rch.trans {E : List (Nat × Nat)} {x y z : Nat} (a : Rch E x y) (b : Rch E y z) : Rch E x z := by
 obtain ⟨k, p⟩ := a
 obtain ⟨j, q⟩ := b
 exact ⟨k + j, p.trans q⟩
theorem Rch.edge {E : List (Nat × Nat)} {x y : Nat} (e : (x, y) ∈ E) : Rch E x y := ⟨1, .step (.refl x) e⟩
def Mut (E : List (Nat × Nat)) (x y : Nat) : Prop := Rch E x y ∧ Rch E y x
theorem Mut.symm {E : List (Nat × Nat)} {x y : Nat} (h : Mut E x y) : Mut E y x := ⟨h.2, h.1⟩
theorem Mut.trans {E : List (Nat × Nat)} {x y z : Nat} (a : Mut E x y) (b : Mut E y z) : Mut E x z := ⟨a.1.trans b.1, b.2.trans a.2⟩
structure Cls (E : List (Nat × Nat)) (m : Nat) (C : List Nat) : Prop where
 nd : C.Nodup
 lt : ∀ d ∈ C, d < m
 len : C.length = m
 kos : ∀ x v, x < m → Rch E x v → ∃ y, Mut E x y ∧ y ∈ C ∧ C.idxOf x ≤ C.idxOf y ∧ C.idxOf v ≤ C.idxOf y
def bsG (g : List Int) : List Bool := g.map fun z => decide (0 ≤ z)
theorem gB_bs (g : List Int) (w : Nat) : gB (bsG g) w = decide (0 ≤ gI g w) := by
 unfold gB bsG gI
 rw [y0b, y0b, y0d]
 cases g[w]? <;> rfl
def setG (k : Int) (g : List Int) (D : List Nat) : List Int := D.foldl (fun g v => g.set v k) g
theorem zqi (k : Int) : ∀ (D : List Nat) (g : List Int), (setG k g D).length = g.length
 | [], _ => rfl
 | d :: D, g => by
  show (setG k (g.set d k) D).length = _
  rw [zqi k D, y1n]
theorem ztv (k : Int) : ∀ (D : List Nat) (g : List Int), (∀ d ∈ D, d < g.length) → ∀ w, gI (setG k g D) w = if w ∈ D then k else gI g w
 | [], g, _, w => by rw [if_neg y0h]; rfl
 | d :: D, g, hD, w => by
  show gI (setG k (g.set d k) D) w = _
  rw [ztv k D _ (fun x hx => by rw [y1n]; exact hD x (y06 _ hx)), zeu (hD d (y08 ..))]
  by_cases c : w ∈ D
  ·rw [if_pos c, if_pos (y06 _ c)]
  ·rw [if_neg c]
   by_cases e : d = w
   ·rw [if_pos e, if_pos (by rw [e]; exact y08 ..)]
   ·rw [if_neg e, if_neg fun h => ?_]
    rcases y0n.1 h with h | h
    ·exact e h.symm
    ·exact c h
structure Grp (E : List (Nat × Nat)) (m : Nat) (C : List Nat) (k : Nat) (g : List Int) : Prop where
 len : g.length = m
 low : ∀ v, gI g v = -1 ∨ ((k : Int) ≤ gI g v ∧ gI g v < m)
 pre : ∀ x y, (x, y) ∈ E → 0 ≤ gI g y → 0 ≤ gI g x
 same : ∀ x y, 0 ≤ gI g x → 0 ≤ gI g y → (gI g x = gI g y ↔ Mut E x y)
 done : ∀ i, k ≤ i → i < m → 0 ≤ gI g (gN C i)
theorem Grp.start {E : List (Nat × Nat)} {m : Nat} {C : List Nat} : Grp E m C m (List.replicate m (-1)) := by
 have hr : ∀ v, gI (List.replicate m (-1 : Int)) v = -1 := fun v => by
  unfold gI
  rw [y0b, List.getElem?_replicate]
  split <;> rfl
 exact ⟨y1j .., fun v => .inl (hr v), fun x y _ h => by rw [hr] at h; omega, fun x y h => by rw [hr] at h; omega, fun i h1 h2 => by omega⟩
theorem Grp.back {E : List (Nat × Nat)} {m k : Nat} {C : List Nat} {g : List Int} (h : Grp E m C k g) {x y : Nat} (r : Rch E x y) : 0 ≤ gI g y → 0 ≤ gI g x := by
 obtain ⟨j, w⟩ := r
 induction w with
 | refl => exact id
 | step w e ih => exact fun hy => ih (h.pre _ _ e hy)
theorem Grp.step {E : List (Nat × Nat)} {m k : Nat} {C D : List Nat} {g : List Int} (hb : ∀ u v, (u, v) ∈ E → u < m ∧ v < m) (hC : Cls E m C) (hk : k < m) (h : Grp E m C (k + 1) g) (hD : Vis (rvE E) m (bsG g) [gN C k] D) : Grp E m C k (setG k g D) := by
 have hkC : k < C.length := by rw [hC.len]; exact hk
 have hck : gN C k = C[k] := by
  unfold gN
  rw [y0b, y07 hkC]
  rfl
 have hcm : gN C k < m := by rw [hck]; exact hC.lt _ (y0z hkC)
 have hidx : C.idxOf (gN C k) = k := by rw [hck]; exact hC.nd.idxOf_getElem k hkC
 generalize hv : gN C k = v at *
 have P := vis_ok (zf5 hb) hD (by unfold bsG; rw [y04]; exact h.len) fun y hy => by rw [y0f.1 hy]; exact hcm
 have hset := ztv (k : Int) D g fun d hd => by rw [h.len]; exact P.lt d hd
 have hnew : ∀ d ∈ D, gI g d = -1 := fun d hd => by
  have := P.new d hd
  rw [gB_bs, decide_eq_false_iff_not] at this
  rcases h.low d with h2 | h2
  ·exact h2
  ·omega
 -- what is found leads to the vertex
 have hto : ∀ d ∈ D, Rch E d v := fun d hd => by
  obtain ⟨y, hy, p⟩ := P.src d hd
  rw [y0f.1 hy] at p
  obtain ⟨j, w⟩ := p.walk
  exact ⟨j, w.rev fun a b h => zem.1 h⟩
 -- what leads to what is found is grouped, or found
 have hpre : ∀ x y, (x, y) ∈ E → y ∈ D → 0 ≤ gI g x ∨ x ∈ D := fun x y e hy => by
  rcases P.out y hy x (zem.2 e) with h2 | h2
  ·rw [gB_bs, decide_eq_true_eq] at h2; exact .inl h2
  ·exact .inr h2
 -- and all that is found is led to from the vertex
 have hfrom : ∀ d ∈ D, Mut E d v := fun d hd => by
  refine ⟨hto d hd, ?_⟩
  obtain ⟨y, my, hyC, h1, h2⟩ := hC.kos d v (P.lt d hd) (hto d hd)
  have hyg : ¬ 0 ≤ gI g y := fun h3 => by
   have := h.back my.1 h3
   rw [hnew d hd] at this
   omega
  have hyk : C.idxOf y ≤ k := by
   refine Nat.le_of_not_lt fun hlt => hyg ?_
   have hlen := zjn hyC
   have := h.done (C.idxOf y) hlt (by rw [hC.len] at hlen; exact hlen)
   rw [show gN C (C.idxOf y) = y from by
    unfold gN
    rw [y0b, y07 hlen, List.getElem_idxOf hlen]
    rfl] at this
   exact this
  have hyv : y = v := by
   have hlen := zjn hyC
   have e : C.idxOf y = C.idxOf v := by omega
   have a1 := List.getElem_idxOf hlen
   rw [← a1]
   have hvC : v ∈ C := by rw [hck]; exact y0z hkC
   have a2 := List.getElem_idxOf (zjn hvC)
   rw [← a2]
   congr 1
  rw [← hyv]
  exact my.2
 have hvD : 0 ≤ gI g v ∨ v ∈ D := by
  rcases P.all v (by simp) with h2 | h2
  ·rw [gB_bs, decide_eq_true_eq] at h2; exact .inl h2
  ·exact .inr h2
 have hval : ∀ x, 0 ≤ gI (setG k g D) x → x ∈ D ∨ (x ∉ D ∧ 0 ≤ gI g x ∧ gI (setG k g D) x = gI g x) := fun x hx => by
  by_cases c : x ∈ D
  ·exact .inl c
  ·rw [hset, if_neg c] at hx
   exact .inr ⟨c, hx, by rw [hset, if_neg c]⟩
 have hno : ∀ x y, x ∈ D → 0 ≤ gI g y → ¬ Mut E x y := fun x y hx hy mu => by
  have := h.back mu.1 hy
  rw [hnew x hx] at this
  omega
 refine ⟨by rw [zqi]; exact h.len, fun x => ?_, fun x y e hy => ?_, fun x y hx hy => ?_, fun i h1 h2 => ?_⟩
 ·rw [hset]
  split
  ·right; omega
  ·rcases h.low x with h2 | h2
   ·exact .inl h2
   ·right; omega
 ·rcases hval y hy with h2 | ⟨_, h2, _⟩
  ·rcases hpre x y e h2 with h3 | h3
   ·rw [hset]; split <;> omega
   ·rw [hset, if_pos h3]; omega
  ·have h3 := h.pre x y e h2
   rw [hset]; split <;> omega
 ·rcases hval x hx with h2 | ⟨h2, h3, h4⟩
  ·rcases hval y hy with h5 | ⟨h5, h6, h7⟩
   ·rw [hset, hset, if_pos h2, if_pos h5]
    exact ⟨fun _ => (hfrom x h2).trans (hfrom y h5).symm, fun _ => rfl⟩
   ·rw [hset, if_pos h2, h7]
    constructor
    ·intro e
     rcases h.low y with h8 | h8 <;> omega
    ·intro mu
     exact absurd mu (hno x y h2 h6)
  ·rcases hval y hy with h5 | ⟨h5, h6, h7⟩
   ·rw [h4, hset, if_pos h5]
    constructor
    ·intro e
     rcases h.low x with h8 | h8 <;> omega
    ·intro mu
     exact absurd mu.symm (hno y x h5 h3)
   ·rw [h4, h7]
    exact h.same x y h3 h6
 ·by_cases e : i = k
  ·subst e
   rw [hv]
   rw [hset]
   split
   ·omega
   ·rename_i c
    exact hvD.resolve_right c
  ·have := h.done i (by omega) h2
   rw [hset]
   split <;> omega
theorem zwi {E : List (Nat × Nat)} {m : Nat} {s : List Bool} {l D : List Nat} (h : Vis E m s l D) : l = [] → D = [] := by
 cases h with
 | nil => exact fun _ => rfl
 | skip => exact fun e => by simp at e
 | go => exact fun e => by simp at e
theorem zqk {l : List Nat} {x y : Nat} (e : l ++ [x] = [y]) : l = [] ∧ x = y := by
 cases l with
 | nil => injection e with e; exact ⟨rfl, e⟩
 | cons a l =>
  injection e with _ e
  simp at e
theorem vis_one {E : List (Nat × Nat)} {m : Nat} {s : List Bool} {l D : List Nat} {y : Nat} (h : Vis E m s l D) : l = [y] → (D = [] ∧ gB s y = true) ∨ ∃ D', D = D' ++ [y] ∧ gB s y = false ∧ Vis E m (s.set y true) (nbr E m y) D' := by
 cases h with
 | nil => exact fun e => by cases e
 | skip h hx =>
  intro e
  obtain ⟨e1, e2⟩ := zqk e
  obtain rfl := zwi h e1
  subst e2
  exact .inl ⟨rfl, hx⟩
 | go h hx h' =>
  intro e
  obtain ⟨e1, e2⟩ := zqk e
  obtain rfl := zwi h e1
  subst e2
  exact .inr ⟨_, rfl, hx, h'⟩
theorem Vis.snoc {E : List (Nat × Nat)} {m : Nat} {s : List Bool} {l D D2 : List Nat} {y : Nat} (h : Vis E m s l D) (h2 : Vis E m (mrk s D) [y] D2) : Vis E m s (l ++ [y]) (D ++ D2) := by
 rcases vis_one h2 rfl with ⟨rfl, hg⟩ | ⟨D', rfl, hg, h3⟩
 ·rw [y18]
  exact .skip h hg
 ·exact .go h hg h3
structure VM (E : List (Nat × Nat)) (m sa ss sw sc : Nat) (sn : List Bool) (q : List Int) (hp : List (Nat × Nat × AObj)) (nx : Nat) : Prop where
 ha : Am.look 0 hp = some (sa, .cells [.ms 1 ss 1 0 m (some m)])
 hs : Am.look 1 hp = some (ss, .cells (sn.map AV.bool))
 hw : Am.look 2 hp = some (sw, .cells [.fn 63 [] [.mptr 0 sa 0, .vptr [cN E m], .mptr 2 sw 0, .mptr 3 sc 0]])
 hc : ∃ qv, Am.look 3 hp = some (sc, .cells [qv]) ∧ Gv 3 q qv hp nx
 nx : 3 < nx
theorem VM.set {E : List (Nat × Nat)} {m sa ss sw sc nx : Nat} {sn : List Bool} {q : List Int} {hp : List (Nat × Nat × AObj)} (h : VM E m sa ss sw sc sn q hp nx) (v : Nat) : VM E m sa ss sw sc (sn.set v true) q (zbu 1 (ss, .cells ((sn.map AV.bool).set v (.bool true))) hp) nx := by
 obtain ⟨qv, hc, hG⟩ := h.hc
 exact ⟨by rw [za4, if_neg (by decide)]; exact h.ha, by rw [za4, if_pos rfl, ← List.map_set], by rw [za4, if_neg (by decide)]; exact h.hw, ⟨qv, by rw [za4, if_neg (by decide)]; exact hc, hG.put (by decide) _⟩, h.nx⟩
theorem Gv.cell {b nx : Nat} {q : List Int} {w : AV} {hp : List (Nat × Nat × AObj)} (h : Gv b q w hp nx) : w.isCell = true ∧ w.cells? = some [w] := by
 rcases h with ⟨rfl, rfl⟩ | ⟨id, sp, rfl, _, _, _⟩
 ·exact ⟨rfl, rfl⟩
 ·exact ⟨rfl, rfl⟩
structure GM (E : List (Nat × Nat)) (m : Nat) (g : List Int) (hp : List (Nat × Nat × AObj)) (nx : Nat) : Prop where
 h0 : Am.look 0 hp = some (0, .cells [.ms 1 0 1 0 m (some m)])
 h1 : Am.look 1 hp = some (0, .cells (g.map (AV.int .i64)))
 h2 : Am.look 2 hp = some (0, .cells [.fn 64 [] [.mptr 0 0 0, .vptr [cN E m], .mptr 2 0 0]])
 nx : 2 < nx
theorem GM.keep {E : List (Nat × Nat)} {m : Nat} {g : List Int} {H H' : HS} (h : GM E m g H.heap H.next) (k : Keep (fun j => 2 < j) H H') : GM E m g H'.heap H'.next := by
 have := h.nx
 have := k.next
 exact ⟨(k.look 0 (by decide) (by omega)).trans h.h0, (k.look 1 (by decide) (by omega)).trans h.h1, (k.look 2 (by decide) (by omega)).trans h.h2, by omega⟩
structure N43 where
 i5 : Nat
 s5 : Nat
 i6 : Nat
 s6 : Nat
structure M43 (A B : AV) (D : List Nat) (hp : List (Nat × Nat × AObj)) (nx : Nat) (q : N43) : Prop where
 h5 : 5 ∈ D → Am.look q.i5 hp = some (q.s5, .cells [if D.contains 7 then A else .nils])
 l5 : 5 ∈ D → q.i5 < nx
 h6 : 6 ∈ D → Am.look q.i6 hp = some (q.s6, .cells [if D.contains 8 then B else .nils])
 l6 : 6 ∈ D → q.i6 < nx
 ne : 5 ∈ D → 6 ∈ D → q.i5 ≠ q.i6
 c7 : 7 ∈ D → 5 ∈ D
 c8 : 8 ∈ D → 6 ∈ D
theorem M43.keep {A B : AV} {D : List Nat} {hp : List (Nat × Nat × AObj)} {nx j : Nat} {q : N43} (h : M43 A B D hp nx q) (n5 : j ≠ 5) (n6 : j ≠ 6) (n7 : j ≠ 7) (n8 : j ≠ 8) : M43 A B (j :: D) hp nx q := by
 have e : ∀ k, j ≠ k → k ∈ j :: D → k ∈ D := fun k hk hm => (y0n.1 hm).resolve_left fun e => hk e.symm
 have c : ∀ k, j ≠ k → (j :: D).contains k = D.contains k := fun k hk => by rw [List.contains_cons, show (k == j) = false from beq_eq_false_iff_ne.2 fun e => hk e.symm, Bool.false_or]
 exact ⟨fun a => by rw [c 7 n7]; exact h.h5 (e 5 n5 a), fun a => h.l5 (e 5 n5 a), fun a => by rw [c 8 n8]; exact h.h6 (e 6 n6 a), fun a => h.l6 (e 6 n6 a), fun a b => h.ne (e 5 n5 a) (e 6 n6 b), fun a => y06 _ (h.c7 (e 7 n7 a)), fun a => y06 _ (h.c8 (e 8 n8 a))⟩
noncomputable def ca41_0 : Code := match env0.fn 41 with
 | some i => ((zbt i.ic)[0]?.getD (.skip, .skip)).1
 | none => .skip
noncomputable def cb41_0 : Code := match env0.fn 41 with
 | some i => ((zbt i.ic)[0]?.getD (.skip, .skip)).2
 | none => .skip
-- slices.Backward[[]int,int]
-- slices.Backward[[]int,int]$1
structure QG (E : List (Nat × Nat)) (m s4 s5 : Nat) (ltm : List (Nat × AV)) (stt : LoopState) (g : List Int) (H : HS) : Prop where
 gm : GM E m g H.heap H.next
 h4 : Am.look 4 H.heap = some (s4, .deferred)
 h5 : Am.look 5 H.heap = some (s5, .loop stt none 80 (zjg ltm) [44, 45] ca41_0 cb41_0 (4, s4))
 nx : 5 < H.next
theorem zsw (a : List (Nat × Nat)) : (zbm a).length = a.length := y04 ..
end Go.Proofs.Ytfbeableaihooaa
namespace Go.Proofs.Ytfbeableaihooaa.Sc
open Go Go.Am
def vsI (l : List Int) : AV := .vs (l.map fun z => [.int .i64 z])
theorem ze5 {D : List Int} {k : Nat} (hk : k < D.length) : (D.map fun z => ([.int .i64 z] : List AV))[((k : Nat) : Int).toNat]? = some [.int .i64 D[k]] := by
 rw [y0t, y0d, y07 hk]
 rfl
theorem zc4 : ∀ l : List Int, hasM.hasML (l.map (AV.int .i64)) = false
 | [] => rfl
 | b :: l => by
  have := zc4 l
  simpa [hasM.hasML, hasM] using this
theorem zg9 (l : List Int) : (l.map (AV.int .i64)) = (l.map fun z => ([.int .i64 z] : List AV)).flatten := by
 induction l with
 | nil => rfl
 | cons z l ih => simpa using ih
theorem zj7 {S : AS} {d id sp len : Nat} {cap : Option Nat} {J : List AV} (a : List Int) (hn : a.length = len) (hl : Am.look id S.heap = some (sp, .cells (a.map (AV.int .i64) ++ J))) : S.view (d + 1) (.ms id sp 1 0 len cap) = vsI a := by
 subst hn
 have e : S.elems 1 (.ms id sp 1 0 a.length cap) = some (a.map fun z => ([.int .i64 z] : List AV)) := by
  obtain ⟨n, t, hp, nx, ck, mk⟩ := S
  exact zcv (ys := J) (cap := cap) (n := n) (nx := nx) (ck := ck) (mk := mk) (l := []) (hp := hp) (by rw [← zg9]; exact hl) (y04 ..) (fun x hx => by obtain ⟨s, _, rfl⟩ := y0i.1 hx; rfl)
 simp only [AS.view, e]
 unfold vsI
 congr 1
 rw [y1v]
 apply y1x
 intro s _
 cases d <;> rfl
theorem zce {S : AS} {d id sp len : Nat} {cap : Option Nat} (a : List Int) (hn : a.length = len) (hl : Am.look id S.heap = some (sp, .cells (a.map (AV.int .i64)))) : S.view (d + 1) (.ms id sp 1 0 len cap) = vsI a :=
 zj7 (J := []) a hn (by rw [y18]; exact hl)
section
variable {σ τ : Type} (M : Nat → Prop) (I : σ → HS → Prop) (J : τ → HS → Prop)
end
theorem Keep.mono {M M' : Nat → Prop} {H H' : HS} (h : Keep M H H') (hm : ∀ i, M i → M' i) : Keep M' H H' :=
 ⟨h.next, h.clk, fun i hi => h.look i fun h => hi (hm i h)⟩
theorem zf1 {a b c d : AV} (h1 : a = c) (h2 : b = d) : [a, b] = [c, d] := by rw [h1, h2]
def allB (n : Int) : BitVec 64 := if n ≥ 64 then BitVec.allOnes 64 else (1#64 <<< n.toNat) - 1#64
def badU (n : Int) (x : BitVec 64) : Bool := x &&& ~~~ allB n != 0#64
def setC (n : Int) (s : List (BitVec 64)) : Int := if s.any (badU n) = true then 2 else 0
def zsx (n : Int) (s : List (BitVec 64)) : Int := if n < 0 then 2 else if n > 64 then 2 else if s.length > 64 then 5 else setC n s
def ordE (n : Int) : Int → List Int → Int
 | _, [] => 0
 | p, k :: l => if k < 0 then 2 else if k ≥ n then 2 else if k ≤ p then 9 else ordE n k l
def givE (n : Int) (s : List (BitVec 64)) (l : List Int) (m : Int) : Int := if zsx n s = 0 then ordE m (-1) l else zsx n s
theorem znk {n : Int} {s : List (BitVec 64)} (h : n < 0) : zsx n s = 2 := by unfold zsx; rw [if_pos h]
theorem znj {n : Int} {s : List (BitVec 64)} (h : n > 64) : zsx n s = 2 := by unfold zsx; rw [if_neg (by omega), if_pos h]
theorem zki {n : Int} {s : List (BitVec 64)} (h0 : ¬ n < 0) (h1 : ¬ n > 64) (h : s.length > 64) : zsx n s = 5 := by unfold zsx; rw [if_neg h0, if_neg h1, if_pos h]
theorem zjj {n : Int} {s : List (BitVec 64)} (h : zsx n s = 0) : 0 ≤ n ∧ n ≤ 64 ∧ s.length ≤ 64 ∧ ∀ x ∈ s, badU n x = false := by
 unfold zsx setC at h
 split at h
 ·exact absurd h (by decide)
 split at h
 ·exact absurd h (by decide)
 split at h
 ·exact absurd h (by decide)
 split at h
 ·exact absurd h (by decide)
 rename_i h4
 refine ⟨by omega, by omega, by omega, fun x hx => ?_⟩
 cases hb : badU n x with
 | false => rfl
 | true => exact absurd (y2q.2 ⟨x, hx, hb⟩) h4
theorem giv_ok {n : Int} {s : List (BitVec 64)} {l : List Int} {m : Int} (h : givE n s l m = 0) : zsx n s = 0 ∧ ordE m (-1) l = 0 := by
 unfold givE at h
 split at h
 ·exact ⟨by assumption, h⟩
 ·rename_i hc; exact absurd h hc
def asc (n : Nat) : Nat → Nat → List (List Int)
 | 0, _ => [[]]
 | k + 1, f => (List.range' f (n - f)).flatMap fun i : Nat => (asc n k (i + 1)).map fun c => ((i : Nat) : Int) :: c
structure CW (K N : Int) (id sp yb sy wb sw : Nat) (H : HS) : Prop where
 hy : Am.look yb H.heap = some (sy, .cells [.yield id sp])
 hw : Am.look wb H.heap = some (sw, .cells [.fn 61 [] [.vptr [.int .i64 K], .mptr yb sy 0, .vptr [.int .i64 N], .mptr wb sw 0]])
 ly : yb < H.next
 lw : wb < H.next
theorem CW.keep {M : Nat → Prop} {K N : Int} {id sp yb sy wb sw : Nat} {H H' : HS} (h : CW K N id sp yb sy wb sw H) (k : Keep M H H') (n1 : ¬ M yb) (n2 : ¬ M wb) : CW K N id sp yb sy wb sw H' :=
 ⟨(k.look yb n1 h.ly).trans h.hy, (k.look wb n2 h.lw).trans h.hw, y1g h.ly k.next, y1g h.lw k.next⟩
section
variable {σ τ : Type} {step : σ → List Int → σ ⊕ τ} {M : Nat → Prop} {I : σ → HS → Prop} {J : τ → HS → Prop}
end
section
variable {P : Program} {w0 : World} {N0 : Nat} {k : List Fr} {Q : Exit → AS → Prop} {pf : Kn} {ios : List Opr} {n nx ck : Nat} {mk : List (Nat × Nat)} {md : Md} {l : List (Nat × AV)} {hp : List (Nat × Nat × AObj)}
theorem o_mks {d sz bytes : Nat} {z : List AV} {a c : Arg} {lv cv : Int} {kd kc : IntKind} (ha : zb6 a l = some (.int kd lv)) (hc : zb6 c l = some (.int kc cv)) (hb : 0 ≤ lv ∧ lv ≤ cv ∧ cv ≤ 1048576 ∧ bytes ≤ 16777216)
  (go : Om P w0 N0 md pf ios (st n ((d, .ms nx ck sz 0 lv.toNat (some cv.toNat)) :: l) ((nx, ck, .cells (zed cv.toNat z)) :: hp) (nx + 1) (ck + 1) mk) k Q) (hx : Ops pf (st n l hp nx ck mk) (.mkslice sz bytes z a c) := by exact trivial) :
  Om P w0 N0 md pf (⟨some d, .mkslice sz bytes z a c, none⟩ :: ios) (st n l hp nx ck mk) k Q :=
 zdt (by simp only [iop, zaq, ha, hc, if_pos hb]; rfl) go hx
end
def zbt : IC → List (Code × Code)
 | .seq a b => zbt a ++ zbt b
 | .cond _ a b => zbt a ++ zbt b
 | .block _ b => zbt b
 | .loop b => zbt b
 | .rangeFunc _ _ ca cb _ _ => [(ca, cb)]
 | _ => []
theorem zhb {S : AS} {id sp off : Nat} {v : AV} {cs ws : List AV} (h : Am.look id S.heap = some (sp, .cells cs)) (hlt : id < S.next) (hd : cs.drop off = v :: ws) : S.deref (.mptr id sp off) = some (v :: ws) := by
 simp only [AS.deref, h]
 rw [if_pos ⟨trivial, hlt⟩, hd]
noncomputable def ca14_0 : Code := match env0.fn 14 with
 | some i => ((zbt i.ic)[0]?.getD (.skip, .skip)).1
 | none => .skip
noncomputable def cb14_0 : Code := match env0.fn 14 with
 | some i => ((zbt i.ic)[0]?.getD (.skip, .skip)).2
 | none => .skip
structure I24 (D : Nat) (ltm : List (Nat × AV)) (_ : Unit) (H : HS) : Prop where
 nx : D + 2 ≤ H.next
 h4 : Am.look (D + 1) H.heap = some (2, .loop .ready none 34 (zjg ltm) [24] ca14_0 cb14_0 (D, 1))
 h3 : Am.look D H.heap = some (1, .deferred)
 r0 : Am.look 0 H.heap = some (0, .cells [.nils])
 r1 : Am.look 1 H.heap = some (0, .cells [.int .i64 0])
structure J24 (D : Nat) (p : List Int) (H : HS) : Prop where
 nx : D + 2 ≤ H.next
 h4 : ∃ tm, Am.look (D + 1) H.heap = some (2, .loop .done (some .ret) 34 tm [24] ca14_0 cb14_0 (D, 1))
 h3 : Am.look D H.heap = some (1, .deferred)
 r0 : Am.look 0 H.heap = some (0, .cells [vsI p])
 r1 : Am.look 1 H.heap = some (0, .cells [.int .i64 0])
end Go.Proofs.Ytfbeableaihooaa.Sc
namespace Go.Proofs.Ytfbeableaihooaa
open Go Go.Am
-- pneumatic/pneumatictop.playSmall
def ic6 : IC := .seq (.region [oM 1 (.box (.t 0)),
  oM 2 (.mov (.c (.bool false)))] none)
 (.seq (.region [oF 3 0 1,
  oN 4 3,
  oM 5 (.bin .geq (.t 4) (.c (.int .i64 1))),
  oT 6 5,
  ⟨(some 7), .faddr 0 (.t 1), some (6, true)⟩,
  ⟨(some 8), .load none (.t 7), some (6, true)⟩,
  ⟨(some 9), .bin .leq (.t 8) (.c (.int .i64 8)), some (6, true)⟩,
  oM 10 (.pick (.t 6) (.t 9) (.c (.bool false))),
  oT 11 10,
  ⟨(some 12), .faddr 1 (.t 1), some (11, true)⟩,
  ⟨(some 13), .load none (.t 12), some (11, true)⟩,
  ⟨(some 14), .len false (.t 13), some (11, true)⟩,
  ⟨(some 15), .bin .leq (.t 14) (.c (.int .i64 20)), some (11, true)⟩,
  oM 16 (.pick (.t 11) (.t 15) (.c (.bool false))),
  oT 17 16,
  ⟨(some 18), .load (some 2) (.t 1), some (17, true)⟩,
  ⟨(some 19), .call (.c (.fn 26 [] [])) [(.t 18)], some (17, true)⟩,
  ⟨(some 20), .bin .eql (.t 19) (.c (.int .i64 0)), some (17, true)⟩,
  oM 21 (.pick (.t 17) (.t 20) (.c (.bool false))),
  oT 2 21] none)
 (.ret))
theorem fn6 : env0.fn 6 = some ⟨22, ic6, [.t 2]⟩ := by kernel_rfl
def zqj (n : Int) (es : List (Int × Int)) : Bool := decide (n ≥ 1) && (decide (n ≤ 8) && (decide ((es.length : Int) ≤ 20) && (zf9 n es == 0)))
set_option maxHeartbeats 2000000 in
theorem small6 (n : Int) (es : List (Int × Int)) : PF Try.prog 6 [cG n es] (.bool (zqj n es)) := by
 have hcl : (cE es).length = es.length := zd9 es
 have q1 := check35 n es
 refine zaw env0_ok fn6 [(0, .agg [.int .i64 n, .vs (cE es)])] (by show 1 ≤ 22; decide) rfl fun w0 N0 => ?_
 unfold ic6 zqj
 refine zsr rfl (zd6 rfl rfl (za1 rfl (onr rfl (zai rfl (zag rfl rfl ?_)))))
 refine zam rfl rfl rfl (fun h1 => ?_) fun h1 => ?_
 all_goals
  rw [h1]
  repeat (first | refine za8 ?_ | refine za5 ?_ | refine zau ?_ | refine ze4 rfl ?_ | refine zgo rfl rfl ?_ | refine za1 rfl ?_ | refine zag rfl rfl ?_ | refine zai rfl ?_ | refine zb4 rfl rfl ?_)
 ·refine zam rfl rfl rfl (fun h2 => ?_) fun h2 => ?_
  all_goals
   rw [h2]
   repeat (first | refine za8 ?_ | refine za5 ?_ | refine zau ?_ | refine ze4 rfl ?_ | refine zgo rfl rfl ?_ | refine za1 rfl ?_ | refine zag rfl rfl ?_ | refine zai rfl ?_ | refine zb9 rfl rfl ?_ | refine zb4 rfl rfl ?_ | refine zbl rfl rfl ?_)
  ·rw [hcl]
   refine zam rfl rfl rfl (fun h3 => ?_) fun h3 => ?_
   all_goals
    rw [h3]
    repeat (first | refine za8 ?_ | refine za5 ?_ | refine zau ?_ | refine ze4 rfl ?_ | refine zgo rfl rfl ?_ | refine za1 rfl ?_ | refine zb3 rfl rfl rfl rfl ?_ | refine zb9 rfl rfl ?_ | refine zb4 rfl rfl ?_)
   ·refine zat rfl rfl q1 noC ?_
    refine ze4 rfl ?_
    refine zam rfl rfl rfl (fun h4 => ?_) fun h4 => ?_
    all_goals
     rw [h4]
     refine zb9 rfl rfl (za1 rfl (onu (zau ?_)))
     exact zao ⟨.inr rfl, _, rfl, rfl⟩
   ·exact zao ⟨.inr rfl, _, rfl, rfl⟩
  ·exact zao ⟨.inr rfl, _, rfl, rfl⟩
 ·exact zao ⟨.inr rfl, _, rfl, rfl⟩
def tabQ : Tab := [(23, [([vsI [2, 0, 1], vsI [2, 0, 1]], .bool true)])]
theorem tabQ_ok : TabOk Try.prog tabQ := TabOk.of_run (env0_ok.tab TabOk.nil (pure := [])) (n := 60) (by kernel_rfl)
theorem equal23 : PF Try.prog 23 [vsI [2, 0, 1], vsI [2, 0, 1]] (.bool true) := tabQ_ok _ (y08 ..) _ (y08 ..)
theorem pth_ex : pthV 3 [(2, 0), (0, 1)] 2 1 = .tup [vsI [2, 0, 1], .int .i64 0] := by kernel_rfl
-- pneumatic/pneumatictop.playGraph
def ic7 : IC := .seq (.region [oM 0 (.mov (.c (.bool false)))] none)
 (.seq (.region [oM 4 (.build [.int .i64 0, .int .i64 0] [(0, 1, (.c (.int .i64 2))), (1, 1, (.c (.int .i64 0)))]),
  oM 5 (.build [.int .i64 0, .int .i64 0] [(0, 1, (.c (.int .i64 0))), (1, 1, (.c (.int .i64 1)))]),
  oM 6 (.bslice 2 2 [.int .i64 0, .int .i64 0, .int .i64 0, .int .i64 0] [(0, 2, (.t 4)), (2, 2, (.t 5))]),
  oM 7 (.build [.int .i64 0, .nils] [(0, 1, (.c (.int .i64 3))), (1, 1, (.t 6))]),
  oM 8 (.call (.c (.fn 27 [] [])) [(.t 7), (.c (.int .i64 2)), (.c (.int .i64 1))]),
  oT 3 8,
  oM 9 (.extract (.t 3) 0),
  oM 10 (.extract (.t 3) 1),
  oT 1 9,
  oT 2 10] none)
 (.seq (.region [oT 11 2,
  oM 12 (.bin .eql (.t 11) (.c (.int .i64 0))),
  oT 13 12,
  ⟨(some 14), .mov (.t 1), some (13, true)⟩,
  ⟨(some 15), .bslice 1 3 [.int .i64 0, .int .i64 0, .int .i64 0] [(0, 1, (.c (.int .i64 2))), (1, 1, (.c (.int .i64 0))), (2, 1, (.c (.int .i64 1)))], some (13, true)⟩,
  ⟨(some 16), .call (.c (.fn 23 [] [])) [(.t 14), (.t 15)], some (13, true)⟩,
  oM 17 (.pick (.t 13) (.t 16) (.c (.bool false))),
  oT 0 17] none)
 (.ret)))
theorem fn7 : env0.fn 7 = some ⟨18, ic7, [.t 0]⟩ := by kernel_rfl
theorem zpp : PF Try.prog 7 [] (.bool true) := by
 have q1 := path27 3 [(2, 0), (0, 1)] (fun _ => by decide) 2 1
 rw [pth_ex] at q1
 refine zaw env0_ok fn7 [] (by show 0 ≤ 18; decide) rfl fun w0 N0 => ?_
 unfold ic7
 refine zsr rfl (za1 rfl (onr rfl (zft rfl rfl (zft rfl rfl (o_fsl [[.int .i64 2, .int .i64 0], [.int .i64 0, .int .i64 1]] rfl rfl rfl rfl (zft rfl rfl ?_))))))
 refine zat rfl rfl q1 noC ?_
 repeat (first | refine za7 ?_ | refine za0 rfl ?_ | refine za8 ?_ | refine za5 ?_ | refine ze4 rfl ?_ | refine za1 rfl ?_ | refine zbi rfl rfl ?_ | refine zb0 rfl rfl ?_ | refine zjx rfl rfl rfl ?_)
 refine zat rfl rfl equal23 (fun _ => rfl) ?_
 refine zb9 rfl rfl (za1 rfl (onu (zau ?_)))
 exact zao ⟨.inr rfl, _, rfl, rfl⟩
def ixP {α : Type} (p : α → Bool) : List α → Int → Int
 | [], _ => -1
 | s :: r, b => if p s = true then b else ixP p r (b + 1)
theorem zuo {α : Type} (p : α → Bool) : ∀ (l : List α) (b : Int), 0 ≤ b → decide (ixP p l b ≥ 0) = l.any p
 | [], b, _ => rfl
 | s :: r, b, h => by
  rw [ixP, List.any_cons]
  cases e : p s with
  | true => rw [if_pos rfl, Bool.true_or]; exact decide_eq_true h
  | false => rw [if_neg (by decide), Bool.false_or]; exact zuo p r (b + 1) (by omega)
def b43_0 : IC := .seq (.region [oM 9 (.bin .lss (.t 8) (.t 7))] none)
 (.seq (.cond (.t 9) (.skip)
 (.exit 0))
 (.seq (.block 1 (.seq (.region [oT 10 8,
  oT 5 10] none)
 (.seq (.region [oT 11 1,
  oT 12 0,
  oT 13 5,
  oM 14 (.idxs 2 (.t 12) (.t 13)),
  oL 15 2 14,
  oM 16 (.call (.t 11) [(.t 15)])] none)
 (.cond (.t 16) (.seq (.region [oT 17 5,
  oT 4 17] none)
 (.ret))
 (.skip)))))
 (.region [oM 18 (.bin .add (.t 8) (.c (.int .i64 1))),
  oT 8 18] none)))
-- slices.IndexFunc[[]pneumatic/api.Edge,pneumatic/api.Edge]
def ic43 : IC := .seq (.region [oM 4 (.mov (.c (.int .i64 0)))] none)
 (.seq (.seq (.region [oT 6 0,
  oM 7 (.len false (.t 6)),
  oM 8 (.mov (.c (.int .i64 0)))] none)
 (.block 0 (.loop b43_0)))
 (.seq (.region [oM 4 (.mov (.c (.int .i64 (-1))))] none)
 (.ret)))
theorem fn43 : env0.fn 43 = some ⟨19, ic43, [.t 4]⟩ := by kernel_rfl
-- slices.ContainsFunc[[]pneumatic/api.Edge,pneumatic/api.Edge]
def ic16 : IC := .seq (.region [oM 4 (.mov (.c (.bool false)))] none)
 (.seq (.region [oT 5 0,
  oT 6 1,
  oM 7 (.call (.c (.fn 43 [] [])) [(.t 5), (.t 6)]),
  oM 8 (.bin .geq (.t 7) (.c (.int .i64 0))),
  oT 4 8] none)
 (.ret))
theorem fn16 : env0.fn 16 = some ⟨9, ic16, [.t 4]⟩ := by kernel_rfl
-- slices.ContainsFunc[[]int,int]
-- pneumatic/pneumatictop.TopPathsLayers$1
def ic20 : IC := .seq (.region [oM 1 (.box (.t 0)),
  oM 2 (.mov (.c (.bool false)))] none)
 (.seq (.region [oF 3 0 1,
  oN 4 3,
  oF 5 1 1,
  oN 6 5,
  oM 7 (.bin .eql (.t 4) (.t 6)),
  oT 2 7] none)
 (.ret))
theorem fn20 : env0.fn 20 = some ⟨8, ic20, [.t 2]⟩ := by kernel_rfl
theorem self20 (a b : Int) : PF Try.prog 20 [.agg [.int .i64 a, .int .i64 b]] (.bool (a == b)) := by
 refine zaw env0_ok fn20 [(0, .agg [.int .i64 a, .int .i64 b])] (by show 1 ≤ 8; decide) rfl fun w0 N0 => ?_
 unfold ic20
 refine zsr rfl (zd6 rfl rfl (za1 rfl (onr rfl (zai rfl (zag rfl rfl (zai rfl (zag rfl rfl ?_)))))))
 refine zav (op := .eql) rfl rfl rfl ?_
 refine za1 rfl (onu (zau ?_))
 exact zao ⟨.inr rfl, _, rfl, rfl⟩
def slfB (e : Int × Int) : Bool := e.1 == e.2
set_option maxHeartbeats 2000000 in
theorem index43s (es : List (Int × Int)) (hl : es.length ≤ 1000000) : PF Try.prog 43 [.vs (cE es), .fn 20 [] []] (.int .i64 (ixP slfB es 0)) := by
 have hcl : (cE es).length = es.length := zd9 es
 refine zaw env0_ok fn43 [(0, .vs (cE es)), (1, .fn 20 [] [])] (by show 2 ≤ 19; decide) rfl fun w0 N0 => ?_
 unfold ic43
 refine zsr rfl (za1 rfl (onu (za7 (zsr rfl (za1 rfl (zbl rfl rfl (za1 rfl (onu (zac ?_)))))))))
 rw [hcl]
 refine zb8 (fun mm S => ∃ j, mm = es.length - j ∧ j ≤ es.length ∧ ixP slfB es 0 = ixP slfB (es.drop j) (j : Nat) ∧ S = st 19 [(0, .vs (cE es)), (1, .fn 20 [] []), (7, .int .i64 (es.length : Nat)), (8, .int .i64 (j : Nat))] [] 0 1) es.length
  (zqo (.cons rfl (.same rfl) (.cons rfl (.same rfl) (.cons rfl (.same rfl) (.cons rfl (.same rfl) .nil))))) ⟨0, rfl, y0s _, rfl, rfl⟩ ?_
 rintro mm S ⟨j, rfl, hj, hfx, rfl⟩
 unfold b43_0
 refine zsr rfl ?_
 refine zam rfl rfl rfl (fun h3 => ?_) fun h3 => ?_
 ·have hlt : j < es.length := by have := of_decide_eq_true h3; omega
  rw [y1o hlt, ixP] at hfx
  have hge := zp4 hlt
  have h17 := self20 es[j].1 es[j].2
  unfold slfB at hfx
  generalize es[j].1 = a at *
  generalize es[j].2 = b at *
  repeat (first | refine za7 ?_ | refine za0 rfl ?_ | refine za8 ?_ | refine za5 ?_ | refine zac ?_ | refine zae ?_ | refine zbz rfl ?_ | refine za1 rfl ?_ | refine zb3 rfl rfl rfl rfl ?_ | refine zb1 rfl rfl (by omega) (by assumption) rfl ?_)
  refine zv3 rfl rfl rfl h17 noC ?_
  cases hp : a == b with
  | true =>
   rw [hp, if_pos rfl] at hfx
   unfold slfB
   rw [hfx]
   refine onu (zbz rfl (zsr rfl (za1 rfl (za1 rfl (onu (zau (zbf (zak ?_))))))))
   refine zn8 ?_
   refine zbf (zak ?_)
   exact zao ⟨.inr rfl, _, rfl, rfl⟩
  | false =>
   rw [hp, if_neg (by decide)] at hfx
   refine onu (zbn rfl (zae (zbd (za5 (za0 rfl (zav (op := .add) rfl rfl rfl (za1 rfl (za8 ?_))))))))
   rw [zab j (by omega)]
   exact zal (show es.length - (j + 1) < es.length - j by omega) (zqo (.cons rfl (.same rfl) (.cons rfl (.same rfl) (.cons rfl (.same rfl) (.cons rfl (.same rfl) .nil))))) ⟨j + 1, rfl, hlt, hfx, rfl⟩
 ·have hj2 : j = es.length := by have := of_decide_eq_false h3; omega
  subst hj2
  rw [List.drop_length, ixP] at hfx
  rw [hfx]
  refine onu (za7 (zbn rfl (zbb (zad ?_))))
  refine zby ?_
  refine zb7 (za5 (zsr rfl (za1 rfl (onu (zau ?_)))))
  exact zao ⟨.inr rfl, _, rfl, rfl⟩
theorem znm (es : List (Int × Int)) (hl : es.length ≤ 1000000) : PF Try.prog 16 [.vs (cE es), .fn 20 [] []] (.bool (es.any slfB)) := by
 have h1 := index43s es hl
 refine zaw env0_ok fn16 [(0, .vs (cE es)), (1, .fn 20 [] [])] (by show 2 ≤ 9; decide) rfl fun w0 N0 => ?_
 unfold ic16
 refine zsr rfl (za1 rfl (onr rfl (za1 rfl (za1 rfl ?_))))
 refine zat rfl rfl h1 noC ?_
 refine zav (op := .geq) rfl rfl rfl ?_
 rw [zuo _ es 0 (y1e 0)]
 refine za1 rfl (onu (zau ?_))
 exact zao ⟨.inr rfl, _, rfl, rfl⟩
def b23_0 : IC := .seq (.region [oM 14 (.bin .lss (.t 13) (.t 12))] none)
 (.seq (.cond (.t 14) (.skip)
 (.exit 0))
 (.seq (.block 1 (.seq (.region [oT 15 13,
  oT 5 15] none)
 (.seq (.region [oT 16 0,
  oT 17 5,
  oM 18 (.idxs 1 (.t 16) (.t 17)),
  oN 19 18,
  oT 20 1,
  oT 21 5,
  oM 22 (.idxs 1 (.t 20) (.t 21)),
  oN 23 22,
  oM 24 (.bin .neq (.t 19) (.t 23))] (some [[], [], [0, 1], [2], [], [], [4, 5], [6], [3, 7]]))
 (.cond (.t 24) (.seq (.region [oM 4 (.mov (.c (.bool false)))] none)
 (.ret))
 (.skip)))))
 (.region [oM 25 (.bin .add (.t 13) (.c (.int .i64 1))),
  oT 13 25] none)))
-- slices.Equal[[]int,int]
def ic23 : IC := .seq (.region [oM 4 (.mov (.c (.bool false)))] none)
 (.seq (.seq (.region [oT 6 0,
  oM 7 (.len false (.t 6)),
  oT 8 1,
  oM 9 (.len false (.t 8)),
  oM 10 (.bin .neq (.t 7) (.t 9))] none)
 (.cond (.t 10) (.seq (.region [oM 4 (.mov (.c (.bool false)))] none)
 (.ret))
 (.skip)))
 (.seq (.seq (.region [oT 11 0,
  oM 12 (.len false (.t 11)),
  oM 13 (.mov (.c (.int .i64 0)))] none)
 (.block 0 (.loop b23_0)))
 (.seq (.region [oM 4 (.mov (.c (.bool true)))] none)
 (.ret))))
theorem fn23 : env0.fn 23 = some ⟨26, ic23, [.t 4]⟩ := by kernel_rfl
set_option maxRecDepth 100000 in
theorem equal23i (a : List Int) (ha : a.length ≤ 1000000) : PF Try.prog 23 [vsI a, vsI a] (.bool true) := by
 have hva : (a.map fun z => ([.int .i64 z] : List AV)).length = a.length := y04 ..
 refine zaw env0_ok fn23 [(0, vsI a), (1, vsI a)] (by show 2 ≤ 26; decide) rfl fun w0 N0 => ?_
 unfold ic23
 repeat (first | refine za7 ?_ | refine za0 rfl ?_ | refine za8 ?_ | refine za5 ?_ | refine za1 rfl ?_ | refine zbl rfl rfl ?_)
 refine zdc rfl rfl (by show some (AV.bool (!(_ == _))) = _; simp) ?_
 refine onu (zbn rfl (zae (za5 (za7 (zsr rfl (za1 rfl (zbl rfl rfl (za1 rfl (onu (zac ?_))))))))))
 rw [hva]
 refine zb8 (fun mm S => ∃ i, mm = a.length - i ∧ i ≤ a.length ∧ S = st 26 [(0, vsI a), (1, vsI a), (12, .int .i64 (a.length : Nat)), (13, .int .i64 (i : Nat))] [] 0 0) a.length
  (za9 (.cons rfl (.cons rfl (.cons rfl (.cons rfl .nil))))) ⟨0, rfl, y0s _, rfl⟩ ?_
 rintro mm S ⟨i, rfl, hi, rfl⟩
 unfold b23_0
 refine zsr rfl ?_
 refine zam rfl rfl rfl (fun h3 => ?_) fun h3 => ?_
 ·have hlt : i < a.length := y0x.1 (of_decide_eq_true h3)
  have hg := ze5 hlt
  repeat (first | refine za7 ?_ | refine za0 rfl ?_ | refine za8 ?_ | refine za5 ?_ | refine zac ?_ | refine zae ?_ | refine zbz rfl ?_ | refine za1 rfl ?_ | refine zag rfl rfl ?_ | refine zdl env0_ok rfl rfl rfl ?_ | refine zb1 rfl rfl (by omega) (by assumption) rfl ?_)
  refine zdc rfl rfl (by show some (AV.bool (!(a[i] == a[i]))) = _; simp) ?_
  refine onu (zbn rfl (zae (zbd (za5 (za0 rfl (zav (op := .add) rfl rfl rfl (za1 rfl (za8 ?_))))))))
  rw [zab i (by omega)]
  exact zal (show a.length - (i + 1) < a.length - i by omega) (za9 (.cons rfl (.cons rfl (.cons rfl (.cons rfl .nil))))) ⟨i + 1, rfl, hlt, rfl⟩
 ·refine onu (za7 (zbn rfl (zbb (zad ?_))))
  refine zby ?_
  refine zb7 (za5 (zsr rfl (za1 rfl (onu (zau ?_)))))
  exact zao ⟨.inr rfl, _, rfl, rfl⟩
def dStep (D : Nat → Nat → Int) (e : Nat × Nat) : Nat → Nat → Int := if e.1 = e.2 then D else upG D (e.1 + 1) (e.2 + 1) (zpu (D (e.1 + 1) (e.2 + 1)) 1)
theorem les_one {x : Int} (h : x = nnB ∨ x = 1) : zpu x 1 = 1 := by
 rcases h with rfl | rfl
 ·decide
 ·decide
theorem BndE.snoc {E : List (Nat × Nat)} {m u v : Nat} {D : Nat → Nat → Int} (h : BndE E m D) (hu : u < m) (hv : v < m) : BndE (E ++ [(u, v)]) m (dStep D (u, v)) := by
 unfold dStep
 dsimp only
 by_cases e : u = v
 ·rw [if_pos e]
  refine ⟨h.dia, fun a b hm hne => ?_, fun i j hi hj hne hn => h.non i j hi hj hne fun a b hm => hn a b (y0k _ hm)⟩
  rcases y0p.1 hm with hm | hm
  ·exact h.one a b hm hne
  ·obtain ⟨rfl, rfl⟩ := Prod.mk.inj (y0f.1 hm)
   exact absurd e hne
 ·rw [if_neg e]
  have hx : zpu (D (u + 1) (v + 1)) 1 = 1 := les_one (by
   rcases h.val (i := u + 1) (j := v + 1) (by omega) (by omega) with ⟨x, _⟩ | ⟨_, _, x⟩ | ⟨_, _, x⟩
   ·omega
   ·exact .inr x
   ·exact .inl x)
  rw [hx]
  unfold upG
  refine ⟨fun i hi => ?_, fun a b hm hne => ?_, fun i j hi hj hne hn => ?_⟩
  ·rw [if_neg (by omega)]
   exact h.dia i hi
  ·by_cases c : a + 1 = u + 1 ∧ b + 1 = v + 1
   ·rw [if_pos c]
   ·rw [if_neg c]
    rcases y0p.1 hm with hm | hm
    ·exact h.one a b hm hne
    ·obtain ⟨rfl, rfl⟩ := Prod.mk.inj (y0f.1 hm)
     exact absurd ⟨rfl, rfl⟩ c
  ·rw [if_neg (hn u v (y1b _ (y0f.2 rfl)))]
   exact h.non i j hi hj hne fun a b hm => hn a b (y0k _ hm)
def b5_0 : IC := .seq (.region [oM 32 (.bin .lss (.t 31) (.t 30))] none)
 (.seq (.cond (.t 32) (.skip)
 (.exit 0))
 (.seq (.block 1 (.seq (.region [oT 33 31,
  oT 4 33] none)
 (.region [oL 34 2 3,
  oT 35 4,
  oM 36 (.bin .add (.t 35) (.c (.int .i64 1))),
  oM 37 (.call (.c (.fn 9 [] [])) [(.t 34), (.t 36), (.c (.int .i64 0)), (.c (.int .i64 0))]),
  ⟨none, .store 2 (.t 3) (.t 37), none⟩] none)))
 (.region [oM 38 (.bin .add (.t 31) (.c (.int .i64 1))),
  oT 31 38] none)))
def b5_2 : IC := .seq (.region [oM 43 (.bin .lss (.t 42) (.t 41))] none)
 (.seq (.cond (.t 43) (.skip)
 (.exit 2))
 (.seq (.block 3 (.seq (.region [oM 44 (.idxs 2 (.t 40) (.t 42)),
  oL 45 2 44,
  oM 6 (.alloc [.int .i64 0, .int .i64 0]),
  ⟨none, .store 2 (.t 6) (.t 45), none⟩] none)
 (.region [oL 46 2 3,
  oF 47 1 6,
  oN 48 47,
  oM 49 (.bin .add (.t 48) (.c (.int .i64 1))),
  oF 50 0 6,
  oN 51 50,
  oM 52 (.bin .add (.t 51) (.c (.int .i64 1))),
  oM 53 (.call (.c (.fn 9 [] [])) [(.t 46), (.t 49), (.t 52), (.c (.int .i64 (-1)))]),
  ⟨none, .store 2 (.t 3) (.t 53), none⟩] none)))
 (.region [oM 54 (.bin .add (.t 42) (.c (.int .i64 1))),
  oT 42 54] none)))
def b5_4 : IC := .seq (.region [oM 95 (.bin .lss (.t 94) (.t 93))] none)
 (.seq (.cond (.t 95) (.skip)
 (.exit 4))
 (.seq (.block 5 (.seq (.region [oM 96 (.idxs 1 (.t 92) (.t 94)),
  oN 97 96,
  oT 15 97] none)
 (.region [oT 98 15,
  oM 99 (.bin .add (.t 98) (.c (.int .i64 1))),
  oM 100 (.bslice 1 1 [.int .i64 0] [(0, 1, (.t 99))]),
  oT 101 13,
  oM 102 (.append 1 8 [.int .i64 0] (.t 100) (.t 101)),
  oT 13 102] none)))
 (.region [oM 103 (.bin .add (.t 94) (.c (.int .i64 1))),
  oT 94 103] none)))
-- pneumatic/pneumatictop.TopPathsLayers
def ic5 : IC := .seq (.region [oM 1 (.box (.t 0)),
  oM 2 (.mov (.c (.bool false)))] none)
 (.seq (.seq (.region [oL 17 2 1,
  oM 18 (.call (.c (.fn 6 [] [])) [(.t 17)]),
  oM 19 (.un .not (.t 18)),
  oT 20 19,
  ⟨(some 21), .faddr 1 (.t 1), some (20, false)⟩,
  ⟨(some 22), .load none (.t 21), some (20, false)⟩,
  ⟨(some 23), .call (.c (.fn 16 [] [])) [(.t 22), (.c (.fn 20 [] []))], some (20, false)⟩,
  oM 24 (.pick (.t 20) (.c (.bool true)) (.t 23))] none)
 (.cond (.t 24) (.seq (.region [oM 25 (.call (.c (.fn 7 [] [])) []),
  oT 2 25] none)
 (.ret))
 (.skip)))
 (.seq (.region [oF 26 0 1,
  oN 27 26,
  oM 28 (.call (.c (.fn 8 [] [])) [(.t 27)]),
  oM 3 (.alloc [.int .i64 0, .nils]),
  ⟨none, .store 2 (.t 3) (.t 28), none⟩] none)
 (.seq (.seq (.region [oF 29 0 1,
  oN 30 29,
  oM 31 (.mov (.c (.int .i64 0)))] none)
 (.block 0 (.loop b5_0)))
 (.seq (.seq (.region [oF 39 1 1,
  oN 40 39,
  oM 41 (.len false (.t 40)),
  oM 42 (.mov (.c (.int .i64 0)))] none)
 (.block 2 (.loop b5_2)))
 (.seq (.region [oL 56 2 3,
  oM 57 (.call (.c (.fn 21 [] [])) [(.t 56)]),
  oT 55 57,
  oM 58 (.extract (.t 55) 0),
  oM 59 (.extract (.t 55) 1),
  oT 7 58,
  oT 8 59] none)
 (.seq (.region [oL 61 2 1,
  oM 62 (.call (.c (.fn 22 [] [])) [(.t 61)]),
  oT 60 62,
  oM 63 (.extract (.t 60) 0),
  oM 64 (.extract (.t 60) 1),
  oT 9 63,
  oT 10 64] none)
 (.seq (.seq (.region [oT 65 10,
  oM 66 (.bin .eql (.t 65) (.c (.int .i64 0)))] none)
 (.cond (.t 66) (.seq (.region [oT 67 8,
  oM 68 (.bin .eql (.t 67) (.c (.int .i64 0))),
  oT 69 68,
  ⟨(some 70), .mov (.t 7), some (69, true)⟩,
  ⟨(some 71), .mov (.t 9), some (69, true)⟩,
  ⟨(some 72), .call (.c (.fn 23 [] [])) [(.t 70), (.t 71)], some (69, true)⟩,
  oM 73 (.pick (.t 69) (.t 72) (.c (.bool false))),
  oT 74 73,
  ⟨(some 75), .call (.c (.fn 7 [] [])) [], some (74, true)⟩,
  oM 76 (.pick (.t 74) (.t 75) (.c (.bool false))),
  oT 2 76] none)
 (.ret))
 (.skip)))
 (.seq (.region [oL 78 2 1,
  oM 79 (.call (.c (.fn 24 [] [])) [(.t 78)]),
  oT 77 79,
  oM 80 (.extract (.t 77) 0),
  oM 81 (.extract (.t 77) 1),
  oT 11 80,
  oT 12 81] none)
 (.seq (.seq (.region [oT 82 10,
  oM 83 (.bin .neq (.t 82) (.c (.int .i64 20))),
  oT 84 83,
  ⟨(some 85), .mov (.t 8), some (84, false)⟩,
  ⟨(some 86), .bin .neq (.t 85) (.c (.int .i64 16)), some (84, false)⟩,
  oM 87 (.pick (.t 84) (.c (.bool true)) (.t 86)),
  oT 88 87,
  ⟨(some 89), .mov (.t 12), some (88, false)⟩,
  ⟨(some 90), .bin .neq (.t 89) (.c (.int .i64 0)), some (88, false)⟩,
  oM 91 (.pick (.t 88) (.c (.bool true)) (.t 90))] none)
 (.cond (.t 91) (.seq (.region [oM 2 (.mov (.c (.bool false)))] none)
 (.ret))
 (.skip)))
 (.seq (.region [oM 13 (.mov (.c (.nils)))] none)
 (.seq (.seq (.region [oT 92 11,
  oM 93 (.len false (.t 92)),
  oM 94 (.mov (.c (.int .i64 0)))] none)
 (.block 4 (.loop b5_4)))
 (.seq (.region [oL 105 2 3,
  oT 106 13,
  oM 107 (.call (.c (.fn 25 [] [])) [(.t 105), (.t 106)]),
  oT 104 107,
  oM 108 (.extract (.t 104) 0),
  oM 109 (.extract (.t 104) 1),
  oT 16 108,
  oT 8 109] none)
 (.seq (.region [oT 110 8,
  oM 111 (.bin .eql (.t 110) (.c (.int .i64 0))),
  oT 112 111,
  ⟨(some 113), .mov (.t 16), some (112, true)⟩,
  oM 114 (.pick (.t 112) (.t 113) (.c (.bool false))),
  oT 115 114,
  ⟨(some 116), .call (.c (.fn 7 [] [])) [], some (115, true)⟩,
  oM 117 (.pick (.t 115) (.t 116) (.c (.bool false))),
  oT 2 117] none)
 (.ret))))))))))))))
theorem fn5 : env0.fn 5 = some ⟨118, ic5, [.t 2]⟩ := by kernel_rfl
def lZ5 (m : Nat) (E : List (Nat × Nat)) (i : Nat) : List (Nat × AV) := [(1, .vptr [.int .i64 (m : Nat), .vs (cE (zbm E))]), (3, .mptr 0 0 0), (30, .int .i64 (m : Nat)), (31, .int .i64 (i : Nat))]
def lE5 (m : Nat) (E : List (Nat × Nat)) (i : Nat) : List (Nat × AV) := [(1, .vptr [.int .i64 (m : Nat), .vs (cE (zbm E))]), (3, .mptr 0 0 0), (40, .vs (cE (zbm E))), (41, .int .i64 (E.length : Nat)), (42, .int .i64 (i : Nat))]
def lV5 (n : Nat) (D : Nat → Nat → Int) (c : List Nat) (j : Nat) : List (Nat × AV) := [(3, .vptr [.int .i64 (n : Nat), cM (zca D (n + 1))]), (13, vsI (iL (zjd (c.take j)))), (92, vsI (iL c)), (93, .int .i64 (c.length : Nat)), (94, .int .i64 (j : Nat))]
theorem zsm {c : List Nat} {j : Nat} (h : j < c.length) : iL (zjd (c.take (j + 1))) = ((gN c j + 1 : Nat) : Int) :: iL (zjd (c.take j)) := by
 unfold zjd
 rw [y2b, y07 h, y1u, List.reverse_append, gN_at h]
 rfl
theorem Wq.fz {hp : List (Nat × Nat × AObj)} {nx : Nat} {q : List Int} {w : AV} (h : Wq hp nx q w) : ∃ fz, RnF hp fz ∧ RenW [] fz w (vsI q) := by
 cases h with
 | @lit id sp a hq hl hn =>
  subst hq
  exact ⟨[(id, sp, [.int .i64 a])], .cons hl rfl .nil, .fms0 (znu id sp _) rfl (fun x hx => by obtain rfl := y0f.1 hx; rfl) rfl⟩
 | @gen id sp len hlen hl hn =>
  subst hlen
  exact ⟨[(id, sp, q.map (AV.int .i64))], .cons hl (zc4 _) .nil, .fms0 (znu id sp _) (y04 ..) (fun x hx => by obtain ⟨z, _, rfl⟩ := y0i.1 hx; rfl) (zhg q)⟩
set_option maxHeartbeats 4000000 in
set_option maxRecDepth 20000 in
theorem law5 (n : Int) (es : List (Int × Int)) : PF Try.prog 5 [cG n es] (.bool true) := by
 have q6 := small6 n es
 refine zaw env0_ok fn5 [(0, .agg [.int .i64 n, .vs (cE es)])] (by show 1 ≤ 118; decide) rfl fun w0 N0 => ?_
 unfold ic5
 refine zsr rfl (zd6 rfl rfl (za1 rfl (onu (za7 (zsr rfl (zb3 rfl rfl rfl rfl ?_))))))
 refine zat rfl rfl q6 noC ?_
 cases hs : zqj n es with
 | false =>
  refine o_un rfl rfl (za1 rfl (zgo rfl rfl (zgo rfl rfl (zgo rfl rfl (zb9 rfl rfl (onu (zbz rfl (zsr rfl ?_))))))))
  refine zat rfl rfl zpp noC ?_
  refine za1 rfl (onu (zau (zak ?_)))
  exact zao ⟨.inr rfl, _, rfl, rfl⟩
 | true =>
 unfold zqj at hs
 simp only [y0g, decide_eq_true_eq, beq_iff_eq] at hs
 obtain ⟨n1, n8, e20, hc⟩ := hs
 obtain ⟨m, E, rfl, rfl, -, hel, -, hb⟩ := zjj hc
 have m1 : 1 ≤ m := by omega
 have m8 : m ≤ 8 := by omega
 have p8 := free8 m8
 have p16 := znm (zbm E) (by omega)
 have hcl : (cE (zbm E)).length = E.length := by rw [zd9, zsw]
 refine o_un rfl rfl (za1 rfl (ze4 rfl (zai rfl (ze4 rfl (zag rfl rfl (ze4 rfl ?_))))))
 refine zat rfl rfl p16 noC ?_
 cases hse : (zbm E).any slfB with
 | true =>
  refine zb4 rfl rfl (onu (zbz rfl (zsr rfl ?_)))
  refine zat rfl rfl zpp noC ?_
  refine za1 rfl (onu (zau (zak ?_)))
  exact zao ⟨.inr rfl, _, rfl, rfl⟩
 | false =>
 have hslf : ∀ u v, (u, v) ∈ E → u ≠ v := fun u v hm e => by
  subst e
  have := List.any_eq_false.1 hse ((u : Nat), (u : Nat)) (y0i.2 ⟨(u, u), hm, rfl⟩)
  unfold slfB at this
  simp at this
 refine zb4 rfl rfl (onu (zbn rfl (zae (za5 (zsr rfl (zai rfl (zag rfl rfl ?_)))))))
 refine zat rfl rfl p8 noC ?_
 refine zcp (zci rfl rfl rfl rfl rfl rfl rfl (onu (za7 (zsr rfl (zai rfl (zag rfl rfl (za1 rfl (onu (zac ?_)))))))))
 refine zcc [(some (1, 1), [.int .i64 (m : Nat), cM (zca (dZ 0) (m + 1))])] [(0, 0, [.int .i64 (m : Nat), .vs (cE (zbm E))])] (lZ5 m E 0) rfl (.cons rfl (by show hasM.hasML [_, _] = false; rfl) .nil)
  (.cons rfl (.keep rfl) .nil)
  (.cons rfl (.fptr rfl rfl) (.cons rfl (.mptr rfl) (.cons rfl (.same rfl) (.cons rfl (.same rfl) .nil)))) ?_
 refine zb8 (fun mm S => ∃ i, mm = m - i ∧ i ≤ m ∧ S = st 118 (lZ5 m E i) [(0, 0, .cells [.int .i64 (m : Nat), cM (zca (dZ i) (m + 1))])] 1 1) m
  (za9 (.cons rfl (.cons rfl (.cons rfl (.cons rfl .nil))))) ⟨0, rfl, y0s _, rfl⟩ ?_
 rintro mm S ⟨i, rfl, hi, rfl⟩
 unfold b5_0 lZ5
 refine zsr rfl ?_
 refine zam rfl rfl rfl (fun hk => ?_) fun hk => ?_
 ·have hlt : i < m := y0x.1 (of_decide_eq_true hk)
  have p9 := with9 (n := m) (i := i + 1) (j := 0) (D := dZ i) 0 (by omega) (by omega) (by omega)
  have hst : upG (dZ i) (i + 1) 0 (zpu (dZ i (i + 1) 0) 0) = dZ (i + 1) := (zte i).symm
  rw [hst] at p9
  refine onu (za7 (zbz rfl (zae (za5 (za7 (zac (zsr rfl (za1 rfl (za1 rfl (onu ?_))))))))))
  refine za0 rfl (zb3 rfl rfl rfl rfl (za1 rfl (zav (op := .add) rfl rfl rfl ?_)))
  rw [zab i (by omega)]
  refine zat rfl rfl p9 noC ?_
  refine zci rfl rfl rfl rfl rfl rfl rfl (za8 (zbd (za5 (za0 rfl (zav (op := .add) rfl rfl rfl (za1 rfl (za8 ?_)))))))
  rw [zab i (by omega)]
  exact zal (show m - (i + 1) < m - i by omega) (zeo [(some (0, 0), [.int .i64 (m : Nat), cM (zca (dZ (i + 1)) (m + 1))])] [] rfl rfl rfl .nil (.cons rfl (.keep rfl) .nil) (l' := lZ5 m E (i + 1)) (.cons rfl (.same rfl) (.cons rfl (.mptr rfl) (.cons rfl (.same rfl) (.cons rfl (.same rfl) .nil))))) ⟨i + 1, rfl, hlt, rfl⟩
 obtain rfl : i = m := by have := of_decide_eq_false hk; omega
 refine onu (za7 (zbn rfl (zbb (zad ?_))))
 refine zby ?_
 refine zb7 (za5 (za7 (zsr rfl (zaz rfl rfl rfl (zag rfl rfl (zbl rfl rfl (za1 rfl (onu (zac ?_)))))))))
 rw [hcl]
 refine zb8 (fun mm S => ∃ j, mm = E.length - j ∧ j ≤ E.length ∧ S = st 118 (lE5 i E j) [(0, 0, .cells [.int .i64 (i : Nat), cM (zca (dN i (E.take j)) (i + 1))])] 1 1) E.length
  (za9 (.cons rfl (.cons rfl (.cons rfl (.cons rfl (.cons rfl .nil)))))) ⟨0, rfl, y0s _, rfl⟩ ?_
 rintro mm S ⟨j, rfl, hj, rfl⟩
 unfold b5_2 lE5
 refine zsr rfl ?_
 refine zam rfl rfl rfl (fun hk2 => ?_) fun hk2 => ?_
 ·have hlt : j < E.length := y0x.1 (of_decide_eq_true hk2)
  have hge := zm5 hlt
  have hst := ztc (m := i) hlt
  have hbu := hb E[j].1 E[j].2 (y0z hlt)
  have p9 := with9 (n := i) (i := E[j].2 + 1) (j := E[j].1 + 1) (D := dN i (E.take j)) (-1) (by omega) (by omega) (by omega)
  unfold ztj at hst
  rw [← hst] at p9
  generalize E[j].1 = u at *
  generalize E[j].2 = v at *
  repeat (first | refine za7 ?_ | refine za0 rfl ?_ | refine za8 ?_ | refine za5 ?_ | refine zac ?_ | refine zae ?_ | refine zbz rfl ?_ | refine zag rfl rfl ?_ | refine zb3 rfl rfl rfl rfl ?_ | refine zci rfl rfl rfl rfl rfl rfl rfl ?_ | refine zai rfl ?_ | refine zcp ?_ | refine zav (op := .add) rfl rfl rfl ?_ | refine zb1 rfl rfl (by omega) (by assumption) rfl ?_)
  rw [zab v (by omega)]
  rw [zab u (by omega)]
  refine zat rfl rfl p9 noC ?_
  refine zci rfl rfl rfl rfl rfl rfl rfl (za8 (zbd (za5 (za0 rfl (zav (op := .add) rfl rfl rfl (za1 rfl (za8 ?_)))))))
  rw [zab j (by omega)]
  exact zal (show E.length - (j + 1) < E.length - j by omega) (zeo [(some (0, 0), [.int .i64 (i : Nat), cM (zca (dN i (E.take (j + 1))) (i + 1))])] [] rfl rfl rfl .nil (.cons rfl (.keep rfl) .nil) (l' := lE5 i E (j + 1)) (.cons rfl (.same rfl) (.cons rfl (.mptr rfl) (.cons rfl (.same rfl) (.cons rfl (.same rfl) (.cons rfl (.same rfl) .nil)))))) ⟨j + 1, rfl, hlt, rfl⟩
 obtain rfl : j = E.length := by have := of_decide_eq_false hk2; omega
 rw [y1f]
 have hD := dN_all hb hslf
 generalize dN i E = D at *
 have p22 := layers38 (i : Nat) (zbm E)
 rw [zur hc] at p22
 unfold layN at p22
 have p24 := cycle21 (i : Nat) (zbm E) fun _ => by omega
 rw [ztb hc] at p24
 unfold cycN at p24
 have hlp := lp_srt hb
 refine onu (za7 (zbn rfl (zbb (zad ?_))))
 refine zby ?_
 refine zb7 (za5 (zsr rfl (zb3 rfl rfl rfl rfl ?_)))
 cases hsr : zlq E i i [] with
 | some l =>
  rw [hsr] at p22
  have p21 := zo9 hD hb (by omega) m1 hsr
  have p23 := equal23i (zuq E i l) (by
   have := zl3 hb (zfk hsr).1 (by have := (zfk hsr).2.1; omega)
   rw [this.len]
   omega)
  refine zat rfl rfl p21 noC ?_
  refine za1 rfl (zb0 rfl rfl (zb0 rfl rfl (za1 rfl (za1 rfl (onr rfl (zb3 rfl rfl rfl rfl ?_))))))
  refine zat rfl rfl p22 noC ?_
  repeat (first | refine za7 ?_ | refine za0 rfl ?_ | refine za8 ?_ | refine za5 ?_ | refine zbz rfl ?_ | refine ze4 rfl ?_ | refine za1 rfl ?_ | refine zb0 rfl rfl ?_ | refine zjx rfl rfl rfl ?_)
  refine zat rfl rfl p23 noC ?_
  refine zb9 rfl rfl (za1 rfl (ze4 rfl ?_))
  refine zat rfl rfl zpp noC ?_
  refine zb9 rfl rfl (za1 rfl (onu (zau (zak ?_))))
  exact zao ⟨.inr rfl, _, rfl, rfl⟩
 | none =>
  rw [hsr] at p22
  replace p22 : PF Try.prog 22 [cG (i : Nat) (zbm E)] (.tup [.vs [], .int .i64 20]) := p22
  obtain ⟨v, hv⟩ : ∃ v, lpS E i = some v := by
   cases hx : lpS E i with
   | some v => exact ⟨v, rfl⟩
   | none =>
    obtain ⟨l, hl⟩ := hlp.1 hx
    rw [hl] at hsr
    cases hsr
  rw [hv] at p24
  replace p24 : PF Try.prog 24 [cG (i : Nat) (zbm E)] (.tup [vsI (iL (cycL E i v)), .int .i64 0]) := p24
  have hvm : v < i := y0j.1 (List.mem_of_find?_eq_some hv)
  have hvl : ldB E i v v = true := by
   have := List.find?_some hv
   exact this
  have hcy := cyc_ok hb hvm hvl
  have p21 := znn hD hb (by omega) hcy
  have p25 := zr5 hD hb (by omega) hcy
  have hclen := hcy.len
  have hcpos := hcy.pos
  generalize cycL E i v = c at *
  have hcv : ((iL c).map fun z => ([.int .i64 z] : List AV)).length = c.length := by rw [y04, zh4]
  refine zat rfl rfl p21 noC ?_
  refine za1 rfl (zb0 rfl rfl (zb0 rfl rfl (za1 rfl (za1 rfl (onr rfl (zb3 rfl rfl rfl rfl ?_))))))
  refine zat rfl rfl p22 noC ?_
  repeat (first | refine za7 ?_ | refine za0 rfl ?_ | refine za8 ?_ | refine za5 ?_ | refine zae ?_ | refine zbn rfl ?_ | refine za1 rfl ?_ | refine zb3 rfl rfl rfl rfl ?_ | refine zb0 rfl rfl ?_ | refine zdc rfl rfl rfl ?_)
  refine zat rfl rfl p24 noC ?_
  repeat (first | refine za7 ?_ | refine za0 rfl ?_ | refine za8 ?_ | refine za5 ?_ | refine zac ?_ | refine zae ?_ | refine zbn rfl ?_ | refine ze4 rfl ?_ | refine za1 rfl ?_ | refine zb4 rfl rfl ?_ | refine zbl rfl rfl ?_ | refine zb0 rfl rfl ?_ | refine zdc rfl rfl rfl ?_)
  rw [hcv]
  refine zcc [] [(0, 0, [.int .i64 (i : Nat), cM (zca D (i + 1))])] (lV5 i D c 0) rfl (.cons rfl (by show hasM.hasML [_, _] = false; rfl) .nil) .nil
   (.cons rfl (.fptr rfl rfl) (.cons rfl .nilvs (.cons rfl (.same rfl) (.cons rfl (.same rfl) (.cons rfl (.same rfl) .nil))))) ?_
  refine zb8 (fun mm S => ∃ j, mm = c.length - j ∧ j ≤ c.length ∧ S = st 118 (lV5 i D c j) [] 0 1) c.length
   (za9 (.cons rfl (.cons rfl (.cons rfl (.cons rfl (.cons rfl .nil)))))) ⟨0, rfl, y0s _, rfl⟩ ?_
  rintro mm S ⟨j, rfl, hj, rfl⟩
  unfold b5_4 lV5
  refine zsr rfl ?_
  refine zam rfl rfl rfl (fun hk3 => ?_) fun hk3 => ?_
  ·have hlt : j < c.length := y0x.1 (of_decide_eq_true hk3)
   have hge := iL_at hlt
   have hbs := zsm hlt
   have hgl := hcy.lt j hlt
   have hbl : (iL (zjd (c.take j))).length ≤ 1000000 := by
    rw [zh4, zf8, y2g]
    omega
   generalize gN c j = x at *
   refine onu (za7 (zbz rfl (zae (za5 (za7 (zac (zsr rfl (zb1 rfl rfl (by omega) (by assumption) rfl (zag rfl rfl (za1 rfl (za8 ?_)))))))))))
   refine za5 (za0 rfl (za1 rfl (zav (op := .add) rfl rfl rfl (zbi rfl rfl (za1 rfl ?_)))))
   rw [zab x (by omega)]
   refine o_alit hbl rfl rfl (y0q 0) rfl (by decide) fun w hp' nx' ck' hW => ?_
   rw [← hbs] at hW
   obtain ⟨fz, hf1, hf2⟩ := hW.fz
   refine za1 rfl (za8 (zbd (za5 (za0 rfl (zav (op := .add) rfl rfl rfl (za1 rfl (za8 ?_)))))))
   rw [zab j (by omega)]
   exact zal (show c.length - (j + 1) < c.length - j by omega) (zeo [] fz rfl rfl rfl hf1 .nil (l' := lV5 i D c (j + 1)) (.cons rfl (.same rfl) (.cons rfl hf2 (.cons rfl (.same rfl) (.cons rfl (.same rfl) (.cons rfl (.same rfl) .nil)))))) ⟨j + 1, rfl, hlt, rfl⟩
  obtain rfl : j = c.length := by have := of_decide_eq_false hk3; omega
  rw [y1f]
  refine onu (za7 (zbn rfl (zbb (zad ?_))))
  refine zby ?_
  refine zb7 (za5 (zsr rfl (zb3 rfl rfl rfl rfl (za1 rfl ?_))))
  refine zat rfl rfl p25 noC ?_
  repeat (first | refine za7 ?_ | refine za0 rfl ?_ | refine za8 ?_ | refine za5 ?_ | refine ze4 rfl ?_ | refine za1 rfl ?_ | refine zb9 rfl rfl ?_ | refine zb0 rfl rfl ?_ | refine zjx rfl rfl rfl ?_)
  refine zat rfl rfl zpp noC ?_
  refine zb9 rfl rfl (za1 rfl (onu (zau ?_)))
  exact zao ⟨.inr rfl, _, rfl, rfl⟩
open Go Go.Am Go.ChangeShapes Go.WideShapes Go.ChangeAt Go.RowKit
theorem own : ownKnob Try.prog.godebug = none := by kernel_rfl
theorem gok {W : World} : GOk (fun _ => True) W := fun _ hx => absurd hx y0h
theorem solid : zs5 Try.prog Try.prog.types.size := solid_of (by kernel_rfl)
open Go Go.Am Go.ChangeShapes Go.WideShapes Go.ChangeAt Go.RowKit Go.Deep
section
variable {H : Type} {enc : TypeId × Value → H} {w : World} {base : Nat} {spare : Nat → Bool} {held : Bool}
theorem rdN : Rd enc Try.prog w base spare held 3 (zm3 .i64) := rd_int Try.underlying3 (by kernel_rfl)
theorem rdE : Rd enc Try.prog w base spare held 32 (zct [zm3 .i64, zm3 .i64]) := by
 refine zmz Try.underlying32 rfl (by kernel_rfl) fun i f g e1 e2 => ?_
 match i, e1, e2 with
 | 0, e1, e2 => injection e1 with e1; injection e2 with e2; subst e1 e2; exact rdN
 | 1, e1, e2 => injection e1 with e1; injection e2 with e2; subst e1 e2; exact rdN
 | i + 2, e1, e2 => simp at e1
theorem rdL : Rd enc Try.prog w base spare held 22 (zm4 (zct [zm3 .i64, zm3 .i64])) :=
 rd_slice Try.underlying22 (by kernel_rfl) (by rw [show Try.prog.cellsOf 32 = 2 from by kernel_rfl]; decide) rdE
theorem rdG : Rd enc Try.prog w base spare held 24 (zct [zm3 .i64, zm4 (zct [zm3 .i64, zm3 .i64])]) := by
 refine zmz Try.underlying24 rfl (by kernel_rfl) fun i f g e1 e2 => ?_
 match i, e1, e2 with
 | 0, e1, e2 => injection e1 with e1; injection e2 with e2; subst e1 e2; exact rdN
 | 1, e1, e2 => injection e1 with e1; injection e2 with e2; subst e1 e2; exact rdL
 | i + 2, e1, e2 => simp at e1
def ztl (d : DataW H) : List (Int × Int) := (zjk ((zcd d).tail.headD .nil)).map fun x => (zuj ((zcd x).headD .nil), zuj ((zcd x).tail.headD .nil))
theorem zr7 {n : Nat} {cs : List Value} {d : DataW H} {p : List MemPlace} (h : DataW.trod enc Try.prog w base spare held n 32 cs = some (d, p)) : ∃ a b : DataW H, zcd d = [a, b] := by
 obtain ⟨xs, n', _, hx, hlen, hxl, hall⟩ := DataW.trod_struct Try.underlying32 h
 simp only [y05] at hx
 obtain ⟨rfl, rfl⟩ := hx
 obtain ⟨x0, x1, rfl⟩ : ∃ a b, xs = [a, b] := by
  match xs, hxl with
  | [a, b], _ => exact ⟨a, b, rfl⟩
 exact ⟨x0.1, x1.1, rfl⟩
theorem shapeG {n : Nat} {cs : List Value} {d : DataW H} {p : List MemPlace} (h : DataW.trod enc Try.prog w base spare held n 24 cs = some (d, p)) :
  ∃ d0 d1 : DataW H, zcd d = [d0, d1] ∧ ∀ x ∈ zjk d1, ∃ a b : DataW H, zcd x = [a, b] := by
 obtain ⟨xs, n', _, hx, hlen, hxl, hall⟩ := DataW.trod_struct Try.underlying24 h
 simp only [y05] at hx
 obtain ⟨rfl, rfl⟩ := hx
 obtain ⟨x0, x1, rfl⟩ : ∃ a b, xs = [a, b] := by
  match xs, hxl with
  | [a, b], _ => exact ⟨a, b, rfl⟩
 have h2 := hall 1 _ rfl
 have h2' : _ = some x1 := h2
 refine ⟨x0.1, x1.1, rfl, ?_⟩
 rcases Deep.open_slice Try.underlying22 h2' with ⟨_, hx⟩ | ⟨a, len, cap, m, n2, D, Pl, _, hb, hle, hm, hmm, hx, hel⟩
 ·subst hx
  exact fun y hy => absurd hy y0h
 ·subst hx
  have hlm : len ≤ m := by rw [hmm]; split <;> omega
  intro x hx
  have hx' : x ∈ (List.range len).map D := hx
  obtain ⟨i, hi, rfl⟩ := y0i.1 hx'
  obtain ⟨cs', h1, h3⟩ := hel i (by have := y0j.1 hi; omega)
  exact zr7 h3
theorem cG_read {d d0 d1 : DataW H} (h : zcd d = [d0, d1]) (hr : ∀ x ∈ zjk d1, ∃ a b : DataW H, zcd x = [a, b]) : cG (zuj ((zcd d).headD .nil)) (ztl d) = aggA (zct [zm3 .i64, zm4 (zct [zm3 .i64, zm3 .i64])]) d := by
 unfold cG ztl aggA zct
 rw [h]
 show AV.agg [.int .i64 (zuj d0), .vs (cE ((zjk d1).map fun x => (zuj ((zcd x).headD .nil), zuj ((zcd x).tail.headD .nil))))] = AV.agg [.int .i64 (zuj d0), .vs ((zjk d1).map (zct [zm3 .i64, zm3 .i64]))]
 congr 3
 unfold cE
 rw [y1v]
 refine congrArg AV.vs (y1x fun x hx => ?_)
 obtain ⟨a, b, e⟩ := hr x hx
 unfold zct
 show [AV.int .i64 (zuj ((zcd x).headD .nil)), AV.int .i64 (zuj ((zcd x).tail.headD .nil))] = _
 rw [e]
 rfl
end
end Go.Proofs.Ytfbeableaihooaa
