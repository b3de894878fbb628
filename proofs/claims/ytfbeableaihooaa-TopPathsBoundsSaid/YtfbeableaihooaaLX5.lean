/-
  PATHS: led walked.; THE SEARCH INTO THE DEPTH: the closure visit walked.; THE SEARCH IN THE OTHER DIRECTION: the closure collect walked.; COMPONENTS: the region that makes the two lists of neighbours.; THE EXAMPLES OF THE CHAPTER.; THE RANGE over the closed vertices, from the last one on.; PATHS: Path on both sides.; THE CONDENSED GRAPH, in plain Lean.; FAMILIES OF SETS IN PLAIN LEAN: the checks, 
-/
import Derived.Test.YtfbeableaihooaaLX4
import Derived.Test.YtfbeableaihooaaRows
import Derived.JoinedCond
namespace Go.Proofs.Ytfbeableaihooaa
open Go Go.Am
def b47_0 : IC := .seq (.seq (.region [oN 14 10,
  oT 15 2,
  oM 16 (.bin .neq (.t 14) (.t 15))] none)
 (.cond (.t 16) (.skip)
 (.exit 0)))
 (.seq (.block 1 (.seq (.region [oT 17 0,
  oN 18 10,
  oM 19 (.idxs 1 (.t 17) (.t 18)),
  oN 20 19,
  oT 21 0,
  oN 22 10,
  oM 23 (.idxs 1 (.t 21) (.t 22)),
  oN 24 23,
  oM 25 (.mkfn 69 [] [(.t 7), (.t 10)]),
  oM 26 (.call (.c (.fn 44 [] [])) [(.t 24), (.t 25)]),
  oM 27 (.idxs 1 (.t 20) (.t 26)),
  oN 28 27,
  ⟨none, .store 1 (.t 10) (.t 28), none⟩] (some [[], [], [0, 1], [2], [], [], [4, 5], [6], [], [7, 8], [3, 9], [10], [11, 9, 0, 1, 2, 3, 4, 5, 6, 7, 8, 9, 10, 11]]))
 (.region [oT 29 9,
  oN 30 10,
  oM 31 (.bslice 1 1 [.int .i64 0] [(0, 1, (.t 30))]),
  oM 32 (.append 1 8 [.int .i64 0] (.t 29) (.t 31)),
  oT 9 32] none)))
 (.seq (.region [oN 33 10] none)
 (.region [oM 10 (.alloc [.int .i64 0]),
  ⟨none, .store 1 (.t 10) (.t 33), none⟩] none)))
-- (pneumatic/digraph.net).led
def ic47 : IC := .seq (.region [oM 7 (.box (.t 3)),
  oM 8 (.mov (.c (.nils)))] none)
 (.seq (.region [oT 11 1,
  oM 12 (.bslice 1 1 [.int .i64 0] [(0, 1, (.t 11))]),
  oT 9 12] none)
 (.seq (.seq (.region [oT 13 1,
  oM 10 (.alloc [.int .i64 0]),
  ⟨none, .store 1 (.t 10) (.t 13), none⟩] none)
 (.block 0 (.loop b47_0)))
 (.seq (.region [oT 34 9,
  oT 8 34] none)
 (.ret))))
theorem fn47 : env0.fn 47 = some ⟨35, ic47, [.t 8]⟩ := by kernel_rfl
inductive Lq (b : Nat) (hp : List (Nat × Nat × AObj)) (nx : Nat) (q : List Int) : AV → Prop
 | lit {id sp : Nat} (a : Int) (hq : q = [a]) (hl : Am.look id hp = some (sp, .cells [.int .i64 a])) (hne : id ≠ b) (hn : id < nx) : Lq b hp nx q (.ms id sp 1 0 1 (some 1))
 | gen {id sp : Nat} (hl : Am.look id hp = some (sp, .cells (q.map (AV.int .i64)))) (hne : id ≠ b) (hn : id < nx) : Lq b hp nx q (.ms id sp 1 0 q.length none)
structure Vq (v : Int) (b sb : Nat) (q : List Int) (qv : AV) (hp : List (Nat × Nat × AObj)) (nx : Nat) : Prop where
 var : Am.look b hp = some (sb, .cells [.int .i64 v])
 bn : b < nx
 lst : Lq b hp nx q qv
theorem Lq.fresh {b nx : Nat} {hp : List (Nat × Nat × AObj)} {q : List Int} {qv : AV} (h : Lq b hp nx q qv) (ck : Nat) (x : AObj) : Lq b ((nx, ck, x) :: hp) (nx + 1) q qv := by
 cases h with
 | lit a hq hl hne hn => exact .lit a hq (by rw [za2, if_neg (by omega)]; exact hl) hne (by omega)
 | gen hl hne hn => exact .gen (by rw [za2, if_neg (by omega)]; exact hl) hne (by omega)
theorem Lq.other {b b' nx : Nat} {hp : List (Nat × Nat × AObj)} {q : List Int} {qv : AV} (h : Lq b hp nx q qv) (hb : nx ≤ b') : Lq b' hp nx q qv := by
 cases h with
 | lit a hq hl hne hn => exact .lit a hq hl (by omega) hn
 | gen hl hne hn => exact .gen hl (by omega) hn
theorem Lq.put {b nx : Nat} {hp : List (Nat × Nat × AObj)} {q : List Int} {qv : AV} (h : Lq b hp nx q qv) (x : Nat × AObj) : Lq b (zbb b x hp) nx q qv := by
 cases h with
 | lit a hq hl hne hn => exact .lit a hq (by rw [za4, if_neg (fun e => hne e.symm)]; exact hl) hne hn
 | gen hl hne hn => exact .gen (by rw [za4, if_neg (fun e => hne e.symm)]; exact hl) hne hn
theorem Vq.fresh {v : Int} {b sb nx : Nat} {hp : List (Nat × Nat × AObj)} {q : List Int} {qv : AV} (h : Vq v b sb q qv hp nx) (ck : Nat) (x : AObj) : Vq v b sb q qv ((nx, ck, x) :: hp) (nx + 1) :=
 ⟨by rw [za2, if_neg (by have := h.bn; omega)]; exact h.var, by have := h.bn; omega, h.lst.fresh ck x⟩
theorem Vq.set {v : Int} {b sb nx : Nat} {hp : List (Nat × Nat × AObj)} {q : List Int} {qv : AV} (h : Vq v b sb q qv hp nx) (w : Int) : Vq w b sb q qv (zbb b (sb, .cells [.int .i64 w]) hp) nx :=
 ⟨by rw [za4, if_pos rfl], h.bn, h.lst.put _⟩
theorem Lq.view {b nx d : Nat} {S : AS} {q : List Int} {qv : AV} (h : Lq b S.heap nx q qv) : S.view (d + 1) qv = vsI q := by
 cases h with
 | lit a hq hl hne hn => subst hq; exact zdq [a] rfl hl
 | gen hl hne hn => exact zdq q rfl hl
theorem o_lapp {w0 : World} {N0 n d nx ck : Nat} {k : List Fr} {Q : Exit → AS → Prop} {l : List (Nat × AV)} {ios : List Opr} {v : Int} {b sb : Nat} {q : List Int} {qv : AV} {hp : List (Nat × Nat × AObj)} {bytes j sj : Nat} {x0 : Int} {z : List AV} {s x : Arg} (hF : Vq v b sb q qv hp nx) (hlen : q.length ≤ 1000000) (hs : zb0 s l = some qv) (hx : zb0 x l = some (.ms j sj 1 0 1 (some 1))) (hj : Am.look j hp = some (sj, .cells [.int .i64 x0])) (hb : bytes ≤ 16777216)
  (go : ∀ qv' hp' nx' ck', Vq v b sb (q ++ [x0]) qv' hp' nx' → Om Try.prog w0 N0 none (KnP Try.prog w0 N0) ios (st n ((d, qv') :: l) hp' nx' ck') k Q) :
  Om Try.prog w0 N0 none (KnP Try.prog w0 N0) (⟨some d, .append 1 bytes z s x, none⟩ :: ios) (st n l hp nx ck) k Q := by
 have hel : (st n l hp nx ck []).elems 1 (.ms j sj 1 0 1 (some 1)) = some [[.int .i64 x0]] := zd3 (xs := [[.int .i64 x0]]) (ys := []) hj rfl fun x hx => by obtain rfl := y0h.1 hx; rfl
 have hbn := hF.bn
 cases hF.lst with
 | @lit id sp a hq hl h1 hn =>
  subst hq
  have hi : iop (st n l hp nx ck) (.append 1 bytes z s x) = some (.ms nx ck 1 0 2 none, st n l ((nx, ck, .cells ([a, x0].map (AV.int .i64))) :: hp) (nx + 1) (ck + 1)) := by
   simp only [iop, zar, hs, hx, hel]
   unfold zbc
   rw [if_neg (show ¬ [[AV.int .i64 x0]].length = 0 from y2m 0), if_pos (show [[AV.int .i64 x0]].flatten.all AV.isCell = true ∧ bytes ≤ 16777216 from ⟨rfl, hb⟩)]
   simp only [show (st n l hp nx ck []).heap = hp from rfl, hl]
   rw [if_pos (show True ∧ True ∧ 0 + 1 * 1 ≤ ([AV.int .i64 a]).length ∧ 1 + [[AV.int .i64 x0]].length ≤ 1048576 from ⟨trivial, trivial, y0c 1, (by show 2 ≤ 1048576; decide)⟩), if_neg (show ¬ 1 + [[AV.int .i64 x0]].length ≤ 1 from (by show ¬ 2 ≤ 1; decide))]
   rfl
  refine zel hi (go _ _ _ _ ⟨by rw [za2, if_neg (by omega)]; exact hF.var, by omega, ?_⟩) (fun _ _ _ _ _ _ _ => rfl)
  exact .gen (q := [a, x0]) zai (by omega) (by omega)
 | @gen id sp hl h1 hn =>
  refine zek [[.int .i64 x0]] hs hx hel (fun h => Nat.noConfusion h) rfl hb hl (by rw [y0e, Nat.mul_one]) (by show _ + 1 ≤ _; omega) ?_ (fun _ _ _ _ _ _ _ => rfl)
  refine go _ _ _ _ ⟨by rw [za4, if_neg h1]; exact hF.var, hbn, ?_⟩
  have e3 : q.map (AV.int .i64) ++ [[AV.int .i64 x0]].flatten = (q ++ [x0]).map (AV.int .i64) := by rw [y27]; rfl
  rw [e3]
  have := Lq.gen (b := b) (hp := zbb id (ck, .cells ((q ++ [x0]).map (AV.int .i64))) hp) (nx := nx) (q := q ++ [x0]) (id := id) (sp := ck) (by rw [za4, if_pos rfl]) h1 hn
  rw [y0p] at this
  exact this
theorem view_cap {S : AS} {b sb d : Nat} {v : Int} (h : Am.look b S.heap = some (sb, .cells [.int .i64 v])) (hn : b < S.next) : S.view (d + 1) (.mptr b sb 0) = .vptr [.int .i64 v] := by
 simp only [AS.view, zg0 (off := 0) (v := .int .i64 v) (ws := []) h hn rfl]
 cases d <;> rfl
def iL (l : List Nat) : List Int := l.map fun w => ((w : Nat) : Int)
set_option maxHeartbeats 4000000 in
theorem led49 (m : Nat) (hm : m ≤ 256) (E : List (Nat × Nat)) (hb : ∀ u v, (u, v) ∈ E → u < m ∧ v < m) (f t : Nat) (hf : f < m) (ht : t < m) (back : List Int) (hL : Lab (rvE E) m t back) (h0 : 0 ≤ gI back f) :
  PF Try.prog 47 [cN E m, .int .i64 (f : Nat), .int .i64 (t : Nat), vsI back] (vsI (iL (f :: zh1 E m back (gI back f).toNat f))) := by
 have hbt : ∀ v, gI back v < m := ztu hL.len hL.down
 have hlen : ((List.range m).map fun v => ([vN (nbr E m v)] : List AV)).length = m := by rw [y0e, y12]
 refine zb2 env0_ok fn47 [(0, cN E m), (1, .int .i64 (f : Nat)), (2, .int .i64 (t : Nat)), (3, vsI back)] (by show 4 ≤ 35; decide) rfl fun w0 N0 => ?_
 unfold ic47
 refine zsr rfl (zdg rfl rfl (za3 rfl (onu ?_)))
 refine zbo [] [(0, 0, [vsI back])] [(0, cN E m), (1, .int .i64 (f : Nat)), (2, .int .i64 (t : Nat)), (7, .vptr [vsI back])] rfl (.cons rfl rfl .nil) .nil (.cons rfl (.same rfl) (.cons rfl (.same rfl) (.cons rfl (.same rfl) (.cons rfl (.fptr rfl rfl) .nil)))) ?_
 repeat (first | refine za9 ?_ | refine za1 rfl ?_ | refine za8 ?_ | refine za7 ?_ | refine zah ?_ | refine za3 rfl ?_ | refine zbq rfl rfl rfl rfl rfl rfl rfl ?_ | refine zbj ?_ | refine zc1 rfl rfl ?_)
 have hK : (iL (f :: zh1 E m back (gI back f).toNat f)).length ≤ 257 := by
  have := hbt f
  unfold iL
  rw [y0e, y0q, zml]
  omega
 generalize hT : iL (f :: zh1 E m back (gI back f).toNat f) = T at *
 refine zbn (fun mm S => ∃ v q qv b sb hp nx ck, mm = (gI back v).toNat ∧ v < m ∧ 0 ≤ gI back v ∧ q ++ iL (zh1 E m back (gI back v).toNat v) = T ∧ Vq (v : Nat) b sb q qv hp nx ∧ S = st 35 [(0, cN E m), (2, .int .i64 (t : Nat)), (7, .vptr [vsI back]), (9, qv), (10, .mptr b sb 0)] hp nx ck) (gI back f).toNat
  (zaa (.cons rfl (.cons rfl (.cons rfl (.cons rfl (.cons rfl .nil)))))) ⟨f, [(f : Nat)], .ms 0 1 1 0 1 (some 1), 1, 2, _, _, _, rfl, hf, h0, hT, ⟨rfl, y0o 1, .lit _ rfl rfl (by decide) (by decide)⟩, rfl⟩ ?_
 rintro mm S ⟨v, q, qv, b, sb, hp, nx, ck, rfl, hv, h1, hq, hF, rfl⟩
 have hql : q.length ≤ 257 := by
  rw [← hq, y0p] at hK
  omega
 unfold b47_0
 repeat (first | refine za9 ?_ | refine za1 rfl ?_)
 refine zas (id := b) (sp := sb) (off := 0) rfl hF.var hF.bn rfl ?_
 repeat (first | refine za3 rfl ?_)
 refine zao rfl rfl rfl (fun h3 => ?_) fun h3 => ?_
 ·have hne : ¬ ((v : Nat) : Int) = ((t : Nat) : Int) := by simpa using h3
  have hpos : 0 < gI back v := by
   have : gI back v ≠ 0 := fun e => hne (by rw [hL.root v e])
   omega
  obtain ⟨hfi, hed, hwm, hbw⟩ := nxt_ok hL hb hpos
  obtain ⟨kk, hkl, hke, hkp, hkn⟩ := zos hfi
  have hrs : zh1 E m back (gI back v).toNat v = nxt E m back v :: zh1 E m back (gI back (nxt E m back v)).toNat (nxt E m back v) := by
   obtain ⟨k, hk⟩ : ∃ k : Nat, gI back v = ((k + 1 : Nat) : Int) := ⟨(gI back v).toNat - 1, by omega⟩
   have e1 : (gI back v).toNat = k + 1 := by omega
   have e2 : (gI back (nxt E m back v)).toNat = k := by omega
   rw [e1, e2, zh1]
  have hnl : (nbr E m v).length ≤ m := by
   unfold nbr
   exact y0v (y20 ..) (by rw [y12]; exact y0c _)
  have p66 := index66 back (nbr E m v) v (by omega) (fun w hw => by rw [hL.len]; exact (hb _ _ ((ze2 fun u v h => (hb u v h).2).1 hw)).2) (by rw [hL.len]; exact hv) (hL.low v) (by have := hbt v; omega) kk hkl (by rw [hke]; exact hkp) hkn
  have hgN : ((List.range m).map fun v => ([vN (nbr E m v)] : List AV))[((v : Nat) : Int).toNat]? = some [vN (nbr E m v)] := by
   rw [y0y, y0a, y1a hv]
   rfl
  have hgk := vN_get hkl
  rw [hke] at hgk
  generalize nxt E m back v = w at *
  generalize nbr E m v = l at *
  have hldb : Nat.beq b b = true := y23 b
  have hvw : ∀ L : List (Nat × AV), [vN l, .fn 69 [] [.vptr [vsI back], .mptr b sb 0]].map ((st 35 L hp nx ck []).view VD) = [vN l, .fn 69 [] [.vptr [vsI back], .vptr [.int .i64 (v : Nat)]]] := fun L => by
   show [vN l, AV.fn 69 [] [.vptr [vsI back], (st 35 L hp nx ck []).view 3 (.mptr b sb 0)]] = _
   rw [view_cap hF.var hF.bn]
  repeat (first | refine za9 ?_ | refine za8 ?_ | refine za7 ?_ | refine zah ?_ | refine zaf ?_ | refine zd8 rfl ?_)
  refine z_cut env0_ok 12 [(44, [vN l, .fn 69 [] [.vptr [vsI back], .vptr [.int .i64 (v : Nat)]]], .int .i64 (kk : Nat))] (fun x hx => by
   obtain rfl := y0h.1 hx
   exact p66) (fun f => Nat.beq f 44) (fun i => Nat.beq i b) (fun i => !(Nat.beq i b)) (fun i h1 h2 => by rw [h1] at h2; cases h2) rfl rfl rfl rfl ?_
  show Om _ _ _ _ _ [_, _, _, _, _, _, _, _, _, _, _, _] _ _ _
  refine za3 rfl ?_
  refine zas (id := b) (sp := sb) (off := 0) rfl hF.var hF.bn rfl ?_ (zlf rfl hldb)
  refine zba rfl rfl (y15 v) hgN rfl ?_
  refine zad rfl rfl ?_
  refine za3 rfl ?_
  refine zas (id := b) (sp := sb) (off := 0) rfl hF.var hF.bn rfl ?_ (zlf rfl hldb)
  refine zba rfl rfl (y15 v) hgN rfl ?_
  refine zad rfl rfl ?_
  refine zmd rfl rfl ?_
  refine zb4 rfl (hvw _) ze7 (fun _ => rfl) ?_
  refine zba rfl rfl (y15 kk) hgk rfl ?_
  refine zad rfl rfl ?_
  refine za8 (zam ⟨rfl, fun rd => ?_⟩)
  refine AnyF.one 12 rfl (zgv (i := 12) rfl (zeh (id := b) (sp := sb) (off := 0) rfl rfl rfl rfl hF.var rfl rfl) ?_)
  have hF2 : Vq (w : Nat) b sb q qv (zbb b (sb, .cells [.int .i64 (w : Nat)]) hp) nx := hF.set _
  refine AnyF.fin rfl (Um.ok (za7 ?_))
  repeat (first | refine za1 rfl ?_ | refine za3 rfl ?_)
  refine zas (id := b) (sp := sb) (off := 0) rfl hF2.var hF2.bn rfl ?_
  repeat (first | refine zc1 rfl rfl ?_)
  have hF3 := hF2.fresh ck (.cells [.int .i64 (w : Nat)])
  refine o_lapp hF3 (by omega) rfl rfl zai (by decide) fun qv' hp' nx' ck' hF4 => ?_
  repeat (first | refine za9 ?_ | refine za1 rfl ?_ | refine za8 ?_ | refine za7 ?_ | refine zbm ?_ | refine za3 rfl ?_)
  refine zas (id := b) (sp := sb) (off := 0) rfl hF4.var hF4.bn rfl ?_
  repeat (first | refine za1 rfl ?_ | refine za8 ?_ | refine za7 ?_ | refine zbj ?_)
  refine zbq (id := nx') (sp := ck') (off := 0) rfl rfl rfl rfl zai rfl rfl ?_
  repeat (first | refine za8 ?_)
  refine zat (show (gI back w).toNat < (gI back v).toNat by omega) (zaa (.cons rfl (.cons rfl (.cons rfl (.cons rfl (.cons rfl .nil)))))) ⟨w, q ++ [((w : Nat) : Int)], qv', nx', ck', _, _, _, rfl, hwm, by omega, ?_, ⟨by rw [za4, if_pos rfl]; rfl, y0o _, ?_⟩, rfl⟩
  ·rw [← hq, hrs, y1y]
   rfl
  ·exact ((hF4.lst.other (y0c _)).fresh ck' (.cells [.int .i64 0])).put _
 ·have hvt : ((v : Nat) : Int) = ((t : Nat) : Int) := by simpa using h3
  have hv2 : v = t := Int.ofNat_inj.1 hvt
  subst hv2
  rw [hL.zero] at hq
  have hq : q = T := by simpa [zh1, iL] using hq
  repeat (first | refine za8 ?_ | refine za7 ?_ | refine zc3 rfl ?_ | refine zbw ?_ | refine zak ?_)
  refine zdb ?_
  repeat (first | refine za9 ?_ | refine za1 rfl ?_ | refine za8 ?_ | refine za7 ?_ | refine zaz ?_ | refine zbu ?_ | refine za3 rfl ?_)
  refine zam ⟨.inr rfl, _, rfl, ?_⟩
  rw [← hq]
  exact hF.lst.view
theorem zva {E : List (Nat × Nat)} {m : Nat} {s : List Bool} {l D : List Nat} (h : Vis E m s l D) : l = [] → D = [] := by
 cases h with
 | nil => exact fun _ => rfl
 | skip => exact fun e => by simp at e
 | go => exact fun e => by simp at e
theorem zpv {l : List Nat} {x y : Nat} (e : l ++ [x] = [y]) : l = [] ∧ x = y := by
 cases l with
 | nil => injection e with e; exact ⟨rfl, e⟩
 | cons a l =>
  injection e with _ e
  simp at e
theorem vis_one {E : List (Nat × Nat)} {m : Nat} {s : List Bool} {l D : List Nat} {y : Nat} (h : Vis E m s l D) : l = [y] → (D = [] ∧ gB s y = true) ∨ ∃ D', D = D' ++ [y] ∧ gB s y = false ∧ Vis E m (s.set y true) (nbr E m y) D' := by
 cases h with
 | nil => exact fun e => by cases e
 | skip h hx =>
  intro e
  obtain ⟨e1, e2⟩ := zpv e
  obtain rfl := zva h e1
  subst e2
  exact .inl ⟨rfl, hx⟩
 | go h hx h' =>
  intro e
  obtain ⟨e1, e2⟩ := zpv e
  obtain rfl := zva h e1
  subst e2
  exact .inr ⟨_, rfl, hx, h'⟩
theorem Vis.snoc {E : List (Nat × Nat)} {m : Nat} {s : List Bool} {l D D2 : List Nat} {y : Nat} (h : Vis E m s l D) (h2 : Vis E m (mrk s D) [y] D2) : Vis E m s (l ++ [y]) (D ++ D2) := by
 rcases vis_one h2 rfl with ⟨rfl, hg⟩ | ⟨D', rfl, hg, h3⟩
 ·rw [y13]
  exact .skip h hg
 ·exact .go h hg h3
structure VM (E : List (Nat × Nat)) (m sa ss sw sc : Nat) (sn : List Bool) (q : List Int) (hp : List (Nat × Nat × AObj)) (nx : Nat) : Prop where
 ha : Am.look 0 hp = some (sa, .cells [.ms 1 ss 1 0 m (some m)])
 hs : Am.look 1 hp = some (ss, .cells (sn.map AV.bool))
 hw : Am.look 2 hp = some (sw, .cells [.fn 63 [] [.mptr 0 sa 0, .vptr [cN E m], .mptr 2 sw 0, .mptr 3 sc 0]])
 hc : ∃ qv, Am.look 3 hp = some (sc, .cells [qv]) ∧ Gv 3 q qv hp nx
 nx : 3 < nx
theorem VM.set {E : List (Nat × Nat)} {m sa ss sw sc nx : Nat} {sn : List Bool} {q : List Int} {hp : List (Nat × Nat × AObj)} (h : VM E m sa ss sw sc sn q hp nx) (v : Nat) : VM E m sa ss sw sc (sn.set v true) q (zbb 1 (ss, .cells ((sn.map AV.bool).set v (.bool true))) hp) nx := by
 obtain ⟨qv, hc, hG⟩ := h.hc
 exact ⟨by rw [za4, if_neg (by decide)]; exact h.ha, by rw [za4, if_pos rfl, ← List.map_set], by rw [za4, if_neg (by decide)]; exact h.hw, ⟨qv, by rw [za4, if_neg (by decide)]; exact hc, hG.put (by decide) _⟩, h.nx⟩
theorem Gv.cell {b nx : Nat} {q : List Int} {w : AV} {hp : List (Nat × Nat × AObj)} (h : Gv b q w hp nx) : w.isCell = true ∧ w.cells? = some [w] := by
 rcases h with ⟨rfl, rfl⟩ | ⟨id, sp, rfl, _, _, _⟩
 ·exact ⟨rfl, rfl⟩
 ·exact ⟨rfl, rfl⟩
structure GM (E : List (Nat × Nat)) (m : Nat) (g : List Int) (hp : List (Nat × Nat × AObj)) (nx : Nat) : Prop where
 h0 : Am.look 0 hp = some (0, .cells [.ms 1 0 1 0 m (some m)])
 h1 : Am.look 1 hp = some (0, .cells (g.map (AV.int .i64)))
 h2 : Am.look 2 hp = some (0, .cells [.fn 64 [] [.mptr 0 0 0, .vptr [cN E m], .mptr 2 0 0]])
 nx : 2 < nx
theorem GM.keep {E : List (Nat × Nat)} {m : Nat} {g : List Int} {H H' : HS} (h : GM E m g H.heap H.next) (k : Keep (fun j => 2 < j) H H') : GM E m g H'.heap H'.next := by
 have := h.nx
 have := k.next
 exact ⟨(k.look 0 (by decide) (by omega)).trans h.h0, (k.look 1 (by decide) (by omega)).trans h.h1, (k.look 2 (by decide) (by omega)).trans h.h2, by omega⟩
structure N43 where
 i5 : Nat
 s5 : Nat
 i6 : Nat
 s6 : Nat
structure M43 (A B : AV) (D : List Nat) (hp : List (Nat × Nat × AObj)) (nx : Nat) (q : N43) : Prop where
 h5 : 5 ∈ D → Am.look q.i5 hp = some (q.s5, .cells [if D.contains 7 then A else .nils])
 l5 : 5 ∈ D → q.i5 < nx
 h6 : 6 ∈ D → Am.look q.i6 hp = some (q.s6, .cells [if D.contains 8 then B else .nils])
 l6 : 6 ∈ D → q.i6 < nx
 ne : 5 ∈ D → 6 ∈ D → q.i5 ≠ q.i6
 c7 : 7 ∈ D → 5 ∈ D
 c8 : 8 ∈ D → 6 ∈ D
theorem M43.keep {A B : AV} {D : List Nat} {hp : List (Nat × Nat × AObj)} {nx j : Nat} {q : N43} (h : M43 A B D hp nx q) (n5 : j ≠ 5) (n6 : j ≠ 6) (n7 : j ≠ 7) (n8 : j ≠ 8) : M43 A B (j :: D) hp nx q := by
 have e : ∀ k, j ≠ k → k ∈ j :: D → k ∈ D := fun k hk hm => (y0i.1 hm).resolve_left fun e => hk e.symm
 have c : ∀ k, j ≠ k → (j :: D).contains k = D.contains k := fun k hk => by rw [y28, show (k == j) = false from beq_eq_false_iff_ne.2 fun e => hk e.symm, Bool.false_or]
 exact ⟨fun a => by rw [c 7 n7]; exact h.h5 (e 5 n5 a), fun a => h.l5 (e 5 n5 a), fun a => by rw [c 8 n8]; exact h.h6 (e 6 n6 a), fun a => h.l6 (e 6 n6 a), fun a b => h.ne (e 5 n5 a) (e 6 n6 b), fun a => y04 _ (h.c7 (e 7 n7 a)), fun a => y04 _ (h.c8 (e 8 n8 a))⟩
noncomputable def ca41_0 : Code := match env0.fn 41 with
 | some i => ((zbi i.ic)[0]?.getD (.skip, .skip)).1
 | none => .skip
noncomputable def cb41_0 : Code := match env0.fn 41 with
 | some i => ((zbi i.ic)[0]?.getD (.skip, .skip)).2
 | none => .skip
-- slices.Backward[[]int,int]
-- slices.Backward[[]int,int]$1
structure QG (E : List (Nat × Nat)) (m s4 s5 : Nat) (ltm : List (Nat × AV)) (stt : LoopState) (g : List Int) (H : HS) : Prop where
 gm : GM E m g H.heap H.next
 h4 : Am.look 4 H.heap = some (s4, .deferred)
 h5 : Am.look 5 H.heap = some (s5, .loop stt none 80 (zmu ltm) [44, 45] ca41_0 cb41_0 (4, s4))
 nx : 5 < H.next
theorem swE_cast (E : List (Nat × Nat)) : swE (zbs E) = zbs (rvE E) := by
 unfold swE zbs rvE
 rw [y1t, y1t]
 rfl
def ptN (m : Nat) (E : List (Nat × Nat)) (f t : Nat) : AV := if gI (zsq (rvE E) m t m) f < 0 then .tup [.vs [], .int .i64 6] else .tup [vsI (iL (f :: zh1 E m (zsq (rvE E) m t m) (gI (zsq (rvE E) m t m) f).toNat f)), .int .i64 0]
def pthV (n : Int) (es : List (Int × Int)) (f t : Int) : AV := if zig n es [f, t] = 0 then ptN n.toNat (es.map fun e => (e.1.toNat, e.2.toNat)) f.toNat t.toNat else .tup [.vs [], .int .i64 (zig n es [f, t])]
theorem pthV_ok {m f t : Nat} {E : List (Nat × Nat)} (h : zig m (zbs E) [(f : Int), (t : Int)] = 0) : pthV m (zbs E) f t = ptN m E f t := by
 unfold pthV
 rw [if_pos h, zhv]
 rfl
theorem pthV_err {n : Int} {es : List (Int × Int)} {f t : Int} (h : zig n es [f, t] ≠ 0) : pthV n es f t = .tup [.vs [], .int .i64 (zig n es [f, t])] := if_neg h
-- pneumatic/digraph.Path
def ic27 : IC := .seq (.region [oM 3 (.box (.t 0)),
  oM 6 (.mov (.c (.nils))),
  oM 7 (.mov (.c (.int .i64 0)))] none)
 (.seq (.region [oL 12 2 3,
  oT 13 1,
  oT 14 2,
  oM 15 (.bslice 1 2 [.int .i64 0, .int .i64 0] [(0, 1, (.t 13)), (1, 1, (.t 14))]),
  oM 16 (.call (.c (.fn 33 [] [])) [(.t 12), (.t 15)]),
  oT 11 16,
  oM 17 (.extract (.t 11) 0),
  oM 18 (.extract (.t 11) 1),
  oT 8 17,
  oT 9 18] none)
 (.seq (.seq (.region [oT 19 9,
  oM 20 (.bin .neq (.t 19) (.c (.int .i64 0)))] none)
 (.cond (.t 20) (.seq (.region [oT 21 9,
  oM 6 (.mov (.c (.nils))),
  oT 7 21] none)
 (.ret))
 (.skip)))
 (.seq (.region [oL 22 2 3,
  oM 23 (.call (.c (.fn 46 [] [])) [(.t 22)]),
  oM 24 (.call (.c (.fn 42 [] [])) [(.t 23)]),
  oT 25 2,
  oM 26 (.call (.c (.fn 34 [] [])) [(.t 24), (.t 25)]),
  oT 10 26] none)
 (.seq (.seq (.region [oT 27 10,
  oT 28 1,
  oM 29 (.idxs 1 (.t 27) (.t 28)),
  oN 30 29,
  oM 31 (.bin .lss (.t 30) (.c (.int .i64 0)))] none)
 (.cond (.t 31) (.seq (.region [oM 6 (.mov (.c (.nils))),
  oM 7 (.mov (.c (.int .i64 6)))] none)
 (.ret))
 (.skip)))
 (.seq (.region [oT 32 8,
  oT 33 1,
  oT 34 2,
  oT 35 10,
  oM 36 (.call (.c (.fn 47 [] [])) [(.t 32), (.t 33), (.t 34), (.t 35)]),
  oT 6 36,
  oM 7 (.mov (.c (.int .i64 0)))] none)
 (.ret))))))
theorem fn27 : env0.fn 27 = some ⟨37, ic27, [.t 6, .t 7]⟩ := by kernel_rfl
set_option maxHeartbeats 2000000 in
theorem path27 (n : Int) (es : List (Int × Int)) (hn : zj7 n es = 0 → n ≤ 12) (f t : Int) : PF Try.prog 27 [cG n es, .int .i64 f, .int .i64 t] (pthV n es f t) := by
 have p46 := zt9 n es [f, t] (by simp)
 refine zb2 env0_ok fn27 [(0, .agg [.int .i64 n, .vs (cE es)]), (1, .int .i64 f), (2, .int .i64 t)] (by show 3 ≤ 37; decide) rfl fun w0 N0 => ?_
 unfold ic27
 refine zsr rfl (zdg rfl rfl (za3 rfl (za3 rfl (onu ?_))))
 refine zbo [] [(0, 0, [.int .i64 n, .vs (cE es)])] [(1, .int .i64 f), (2, .int .i64 t), (3, .vptr [.int .i64 n, .vs (cE es)])] rfl (.cons rfl rfl .nil) .nil (.cons rfl (.same rfl) (.cons rfl (.same rfl) (.cons rfl (.fptr rfl rfl) .nil))) ?_
 repeat (first | refine za9 ?_ | refine za1 rfl ?_ | refine za3 rfl ?_ | refine zb8 rfl rfl rfl rfl ?_)
 refine o_fsl [[.int .i64 f], [.int .i64 t]] rfl rfl rfl rfl ?_
 refine zb4 rfl rfl p46 noC ?_
 by_cases hg : zig n es [f, t] = 0
 ·obtain ⟨hc, hv⟩ := zt8 hg
  obtain ⟨f0, f1⟩ := zo7 hv f (by simp)
  obtain ⟨t0, t1⟩ := zo7 hv t (by simp)
  have hn := hn hc
  obtain ⟨m, E, rfl, rfl, hm, _, hE, hb⟩ := zlr hc
  obtain ⟨f, rfl⟩ := Int.eq_ofNat_of_zero_le f0
  obtain ⟨t, rfl⟩ := Int.eq_ofNat_of_zero_le t0
  have f1 : f < m := by omega
  have t1 : t < m := by omega
  rw [zng hg, pthV_ok hg]
  have p47 := zqt (m : Nat) (zbs E) (by unfold zbs; rw [y0e]; omega)
  rw [swE_cast] at p47
  have p45 := zp0 m hm (rvE E) (by rw [rvE_len]; omega) (zpo hb)
  have p48 := far48 m (by omega) (rvE E) (zpo hb) t t1
  have hL := zkb (es := rvE E) t1 fun u v h => (zpo hb u v h).2
  unfold ptN
  generalize zsq (rvE E) m t m = back at *
  have hgf : (back.map fun z => ([.int .i64 z] : List AV))[((f : Nat) : Int).toNat]? = some [.int .i64 (gI back f)] := by rw [zj4 (by rw [hL.len]; exact f1), gI_at]
  repeat (first | refine za9 ?_ | refine za1 rfl ?_ | refine za8 ?_ | refine za7 ?_ | refine zaf ?_ | refine zc3 rfl ?_ | refine za3 rfl ?_ | refine zb8 rfl rfl rfl rfl ?_ | refine zcf rfl rfl ?_ | refine ze9 rfl rfl rfl ?_)
  refine zb4 rfl rfl p47 noC ?_
  refine zb4 rfl rfl p45 noC ?_
  repeat (first | refine za3 rfl ?_)
  refine zb4 rfl rfl p48 noC ?_
  repeat (first | refine za9 ?_ | refine za1 rfl ?_ | refine za8 ?_ | refine za7 ?_ | refine za3 rfl ?_ | refine zad rfl rfl ?_ | refine zba rfl rfl (by omega) (by assumption) rfl ?_)
  refine zao rfl rfl rfl (fun h => ?_) fun h => ?_
  ·rw [if_pos (of_decide_eq_true h)]
   repeat (first | refine za9 ?_ | refine za1 rfl ?_ | refine za8 ?_ | refine za7 ?_ | refine zd8 rfl ?_ | refine zaz ?_ | refine zav ?_ | refine za3 rfl ?_)
   exact zam ⟨.inr rfl, _, rfl, rfl⟩
  ·have h : ¬ gI back f < 0 := of_decide_eq_false h
   rw [if_neg h]
   have p49 := led49 m hm E hb f t f1 t1 back hL (by omega)
   repeat (first | refine za9 ?_ | refine za1 rfl ?_ | refine za8 ?_ | refine za7 ?_ | refine zaf ?_ | refine zc3 rfl ?_ | refine za3 rfl ?_)
   refine zb4 rfl rfl p49 noC ?_
   repeat (first | refine za8 ?_ | refine za7 ?_ | refine zaz ?_ | refine za3 rfl ?_)
   exact zam ⟨.inr rfl, _, rfl, rfl⟩
 ·rw [zh6 hg, pthV_err hg]
  repeat (first | refine za9 ?_ | refine za1 rfl ?_ | refine za8 ?_ | refine za7 ?_ | refine za3 rfl ?_ | refine zcf rfl rfl ?_)
  refine zao rfl rfl rfl (fun h => ?_) fun h => absurd (by simpa using h) hg
  repeat (first | refine za9 ?_ | refine za1 rfl ?_ | refine za8 ?_ | refine za7 ?_ | refine zd8 rfl ?_ | refine zaz ?_ | refine zav ?_ | refine za3 rfl ?_)
  exact zam ⟨.inr rfl, _, rfl, rfl⟩
theorem zs4 (a : List (Nat × Nat)) : (zbs a).length = a.length := y0e ..
end Go.Proofs.Ytfbeableaihooaa
namespace Go.Proofs.Ytfbeableaihooaa.Sc
open Go Go.Am
def vsI (l : List Int) : AV := .vs (l.map fun z => [.int .i64 z])
theorem zj4 {D : List Int} {k : Nat} (hk : k < D.length) : (D.map fun z => ([.int .i64 z] : List AV))[((k : Nat) : Int).toNat]? = some [.int .i64 D[k]] := by
 rw [y0y, y0a, y09 hk]
 rfl
theorem zby : ∀ l : List Int, hasM.hasML (l.map (AV.int .i64)) = false
 | [] => rfl
 | b :: l => by
  have := zby l
  simpa [hasM.hasML, hasM] using this
theorem zg2 (l : List Int) : (l.map (AV.int .i64)) = (l.map fun z => ([.int .i64 z] : List AV)).flatten := by
 induction l with
 | nil => rfl
 | cons z l ih => simpa using ih
theorem zj2 {S : AS} {d id sp len : Nat} {cap : Option Nat} {J : List AV} (a : List Int) (hn : a.length = len) (hl : Am.look id S.heap = some (sp, .cells (a.map (AV.int .i64) ++ J))) : S.view (d + 1) (.ms id sp 1 0 len cap) = vsI a := by
 subst hn
 have e : S.elems 1 (.ms id sp 1 0 a.length cap) = some (a.map fun z => ([.int .i64 z] : List AV)) := by
  obtain ⟨n, t, hp, nx, ck, mk⟩ := S
  exact zd3 (ys := J) (cap := cap) (n := n) (nx := nx) (ck := ck) (mk := mk) (l := []) (hp := hp) (by rw [← zg2]; exact hl) (y0e ..) (fun x hx => by obtain ⟨s, _, rfl⟩ := y0k.1 hx; rfl)
 simp only [AS.view, e]
 unfold vsI
 congr 1
 rw [y1t]
 apply y1n
 intro s _
 cases d <;> rfl
theorem zdq {S : AS} {d id sp len : Nat} {cap : Option Nat} (a : List Int) (hn : a.length = len) (hl : Am.look id S.heap = some (sp, .cells (a.map (AV.int .i64)))) : S.view (d + 1) (.ms id sp 1 0 len cap) = vsI a :=
 zj2 (J := []) a hn (by rw [y13]; exact hl)
section
variable {σ τ : Type} (M : Nat → Prop) (I : σ → HS → Prop) (J : τ → HS → Prop)
end
theorem Keep.mono {M M' : Nat → Prop} {H H' : HS} (h : Keep M H H') (hm : ∀ i, M i → M' i) : Keep M' H H' :=
 ⟨h.next, h.clk, fun i hi => h.look i fun h => hi (hm i h)⟩
theorem zuc {a b c d : AV} (h1 : a = c) (h2 : b = d) : [a, b] = [c, d] := by rw [h1, h2]
def allB (n : Int) : BitVec 64 := if n ≥ 64 then BitVec.allOnes 64 else (1#64 <<< n.toNat) - 1#64
def badU (n : Int) (x : BitVec 64) : Bool := x &&& ~~~ allB n != 0#64
def setC (n : Int) (s : List (BitVec 64)) : Int := if s.any (badU n) = true then 2 else 0
def zs5 (n : Int) (s : List (BitVec 64)) : Int := if n < 0 then 2 else if n > 64 then 2 else if s.length > 64 then 5 else setC n s
def ordE (n : Int) : Int → List Int → Int
 | _, [] => 0
 | p, k :: l => if k < 0 then 2 else if k ≥ n then 2 else if k ≤ p then 9 else ordE n k l
def givE (n : Int) (s : List (BitVec 64)) (l : List Int) (m : Int) : Int := if zs5 n s = 0 then ordE m (-1) l else zs5 n s
theorem zn6 {n : Int} {s : List (BitVec 64)} (h : n < 0) : zs5 n s = 2 := by unfold zs5; rw [if_pos h]
theorem zn5 {n : Int} {s : List (BitVec 64)} (h : n > 64) : zs5 n s = 2 := by unfold zs5; rw [if_neg (by omega), if_pos h]
theorem zk6 {n : Int} {s : List (BitVec 64)} (h0 : ¬ n < 0) (h1 : ¬ n > 64) (h : s.length > 64) : zs5 n s = 5 := by unfold zs5; rw [if_neg h0, if_neg h1, if_pos h]
theorem zlr {n : Int} {s : List (BitVec 64)} (h : zs5 n s = 0) : 0 ≤ n ∧ n ≤ 64 ∧ s.length ≤ 64 ∧ ∀ x ∈ s, badU n x = false := by
 unfold zs5 setC at h
 split at h
 ·exact absurd h (by decide)
 split at h
 ·exact absurd h (by decide)
 split at h
 ·exact absurd h (by decide)
 split at h
 ·exact absurd h (by decide)
 rename_i h4
 refine ⟨by omega, by omega, by omega, fun x hx => ?_⟩
 cases hb : badU n x with
 | false => rfl
 | true => exact absurd (List.any_eq_true.2 ⟨x, hx, hb⟩) h4
theorem zt8 {n : Int} {s : List (BitVec 64)} {l : List Int} {m : Int} (h : givE n s l m = 0) : zs5 n s = 0 ∧ ordE m (-1) l = 0 := by
 unfold givE at h
 split at h
 ·exact ⟨by assumption, h⟩
 ·rename_i hc; exact absurd h hc
def asc (n : Nat) : Nat → Nat → List (List Int)
 | 0, _ => [[]]
 | k + 1, f => (List.range' f (n - f)).flatMap fun i : Nat => (asc n k (i + 1)).map fun c => ((i : Nat) : Int) :: c
structure CW (K N : Int) (id sp yb sy wb sw : Nat) (H : HS) : Prop where
 hy : Am.look yb H.heap = some (sy, .cells [.yield id sp])
 hw : Am.look wb H.heap = some (sw, .cells [.fn 61 [] [.vptr [.int .i64 K], .mptr yb sy 0, .vptr [.int .i64 N], .mptr wb sw 0]])
 ly : yb < H.next
 lw : wb < H.next
theorem CW.keep {M : Nat → Prop} {K N : Int} {id sp yb sy wb sw : Nat} {H H' : HS} (h : CW K N id sp yb sy wb sw H) (k : Keep M H H') (n1 : ¬ M yb) (n2 : ¬ M wb) : CW K N id sp yb sy wb sw H' :=
 ⟨(k.look yb n1 h.ly).trans h.hy, (k.look wb n2 h.lw).trans h.hw, y1f h.ly k.next, y1f h.lw k.next⟩
section
variable {σ τ : Type} {step : σ → List Int → σ ⊕ τ} {M : Nat → Prop} {I : σ → HS → Prop} {J : τ → HS → Prop}
end
section
variable {P : Program} {w0 : World} {N0 : Nat} {k : List Fr} {Q : Exit → AS → Prop} {pf : Kn} {ios : List Opr} {n nx ck : Nat} {mk : List (Nat × Nat)} {md : Md} {l : List (Nat × AV)} {hp : List (Nat × Nat × AObj)}
theorem o_mks {d sz bytes : Nat} {z : List AV} {a c : Arg} {lv cv : Int} {kd kc : IntKind} (ha : zb0 a l = some (.int kd lv)) (hc : zb0 c l = some (.int kc cv)) (hb : 0 ≤ lv ∧ lv ≤ cv ∧ cv ≤ 1048576 ∧ bytes ≤ 16777216)
  (go : Om P w0 N0 md pf ios (st n ((d, .ms nx ck sz 0 lv.toNat (some cv.toNat)) :: l) ((nx, ck, .cells (ze3 cv.toNat z)) :: hp) (nx + 1) (ck + 1) mk) k Q) (hx : Ops pf (st n l hp nx ck mk) (.mkslice sz bytes z a c) := by exact trivial) :
  Om P w0 N0 md pf (⟨some d, .mkslice sz bytes z a c, none⟩ :: ios) (st n l hp nx ck mk) k Q :=
 zel (by simp only [iop, zar, ha, hc, if_pos hb]; rfl) go hx
theorem sq {l' : List (Nat × AV)} {hp' : List (Nat × Nat × AObj)} {nx' q : Nat} {mk' : List (Nat × Nat)} (hq : mk.length = q) (live : zgu) (fz : List (Nat × Nat × List AV)) (hh : hp' = zh0 0 live ++ zk9 live.length q) (hx : nx' = q + live.length) (hm : mk' = znv live.length q) (hok : okW (fz.map (·.1)) live = true) (hf : RnF hp fz) (h1 : RnH live fz hp live) (h2 : RnA live fz l l') : Sub0 w0 N0 (st n l hp nx ck mk) (st n l' hp' nx' 1 mk') := by
 subst hq hm
 exact zj0 live fz hh hx hok hf h1 h2
end
def zbi : IC → List (Code × Code)
 | .seq a b => zbi a ++ zbi b
 | .cond _ a b => zbi a ++ zbi b
 | .block _ b => zbi b
 | .loop b => zbi b
 | .rangeFunc _ _ ca cb _ _ => [(ca, cb)]
 | _ => []
theorem zg0 {S : AS} {id sp off : Nat} {v : AV} {cs ws : List AV} (h : Am.look id S.heap = some (sp, .cells cs)) (hlt : id < S.next) (hd : cs.drop off = v :: ws) : S.deref (.mptr id sp off) = some (v :: ws) := by
 simp only [AS.deref, h]
 rw [if_pos ⟨trivial, hlt⟩, hd]
noncomputable def ca14_0 : Code := match env0.fn 14 with
 | some i => ((zbi i.ic)[0]?.getD (.skip, .skip)).1
 | none => .skip
noncomputable def cb14_0 : Code := match env0.fn 14 with
 | some i => ((zbi i.ic)[0]?.getD (.skip, .skip)).2
 | none => .skip
structure I24 (D : Nat) (ltm : List (Nat × AV)) (_ : Unit) (H : HS) : Prop where
 nx : D + 2 ≤ H.next
 h4 : Am.look (D + 1) H.heap = some (2, .loop .ready none 34 (zmu ltm) [24] ca14_0 cb14_0 (D, 1))
 h3 : Am.look D H.heap = some (1, .deferred)
 r0 : Am.look 0 H.heap = some (0, .cells [.nils])
 r1 : Am.look 1 H.heap = some (0, .cells [.int .i64 0])
structure J24 (D : Nat) (p : List Int) (H : HS) : Prop where
 nx : D + 2 ≤ H.next
 h4 : ∃ tm, Am.look (D + 1) H.heap = some (2, .loop .done (some .ret) 34 tm [24] ca14_0 cb14_0 (D, 1))
 h3 : Am.look D H.heap = some (1, .deferred)
 r0 : Am.look 0 H.heap = some (0, .cells [vsI p])
 r1 : Am.look 1 H.heap = some (0, .cells [.int .i64 0])
end Go.Proofs.Ytfbeableaihooaa.Sc
namespace Go.Proofs.Ytfbeableaihooaa
open Go Go.Am
-- pneumatic/pneumatictop.playSmall
def ic6 : IC := .seq (.region [oM 1 (.box (.t 0)),
  oM 2 (.mov (.c (.bool false)))] none)
 (.seq (.region [oF 3 0 1,
  oN 4 3,
  oM 5 (.bin .geq (.t 4) (.c (.int .i64 1))),
  oT 6 5,
  ⟨(some 7), .faddr 0 (.t 1), some (6, true)⟩,
  ⟨(some 8), .load none (.t 7), some (6, true)⟩,
  ⟨(some 9), .bin .leq (.t 8) (.c (.int .i64 8)), some (6, true)⟩,
  oM 10 (.pick (.t 6) (.t 9) (.c (.bool false))),
  oT 11 10,
  ⟨(some 12), .faddr 1 (.t 1), some (11, true)⟩,
  ⟨(some 13), .load none (.t 12), some (11, true)⟩,
  ⟨(some 14), .len false (.t 13), some (11, true)⟩,
  ⟨(some 15), .bin .leq (.t 14) (.c (.int .i64 20)), some (11, true)⟩,
  oM 16 (.pick (.t 11) (.t 15) (.c (.bool false))),
  oT 17 16,
  ⟨(some 18), .load (some 2) (.t 1), some (17, true)⟩,
  ⟨(some 19), .call (.c (.fn 26 [] [])) [(.t 18)], some (17, true)⟩,
  ⟨(some 20), .bin .eql (.t 19) (.c (.int .i64 0)), some (17, true)⟩,
  oM 21 (.pick (.t 17) (.t 20) (.c (.bool false))),
  oT 2 21] none)
 (.ret))
theorem fn6 : env0.fn 6 = some ⟨22, ic6, [.t 2]⟩ := by kernel_rfl
def zpu (n : Int) (es : List (Int × Int)) : Bool := decide (n ≥ 1) && (decide (n ≤ 8) && (decide ((es.length : Int) ≤ 20) && (zj7 n es == 0)))
set_option maxHeartbeats 2000000 in
theorem small6 (n : Int) (es : List (Int × Int)) : PF Try.prog 6 [cG n es] (.bool (zpu n es)) := by
 have hcl : (cE es).length = es.length := zdl es
 have q1 := check35 n es
 refine zb2 env0_ok fn6 [(0, .agg [.int .i64 n, .vs (cE es)])] (by show 1 ≤ 22; decide) rfl fun w0 N0 => ?_
 unfold ic6 zpu
 refine zsr rfl (zdg rfl rfl (za3 rfl (onr rfl (zae rfl (zad rfl rfl ?_)))))
 refine zao rfl rfl rfl (fun h1 => ?_) fun h1 => ?_
 all_goals
  rw [h1]
  repeat (first | refine za8 ?_ | refine za7 ?_ | refine zaz ?_ | refine zd1 rfl ?_ | refine zfd rfl rfl ?_ | refine za3 rfl ?_ | refine zad rfl rfl ?_ | refine zae rfl ?_ | refine zaq rfl rfl ?_)
 ·refine zao rfl rfl rfl (fun h2 => ?_) fun h2 => ?_
  all_goals
   rw [h2]
   repeat (first | refine za8 ?_ | refine za7 ?_ | refine zaz ?_ | refine zd1 rfl ?_ | refine zfd rfl rfl ?_ | refine za3 rfl ?_ | refine zad rfl rfl ?_ | refine zae rfl ?_ | refine zb3 rfl rfl ?_ | refine zaq rfl rfl ?_ | refine zcr rfl rfl ?_)
  ·rw [hcl]
   refine zao rfl rfl rfl (fun h3 => ?_) fun h3 => ?_
   all_goals
    rw [h3]
    repeat (first | refine za8 ?_ | refine za7 ?_ | refine zaz ?_ | refine zd1 rfl ?_ | refine zfd rfl rfl ?_ | refine za3 rfl ?_ | refine zb8 rfl rfl rfl rfl ?_ | refine zb3 rfl rfl ?_ | refine zaq rfl rfl ?_)
   ·refine zb4 rfl rfl q1 noC ?_
    refine zd1 rfl ?_
    refine zao rfl rfl rfl (fun h4 => ?_) fun h4 => ?_
    all_goals
     rw [h4]
     refine zb3 rfl rfl (za3 rfl (onu (zaz ?_)))
     exact zam ⟨.inr rfl, _, rfl, rfl⟩
   ·exact zam ⟨.inr rfl, _, rfl, rfl⟩
  ·exact zam ⟨.inr rfl, _, rfl, rfl⟩
 ·exact zam ⟨.inr rfl, _, rfl, rfl⟩
def tabQ : Tab := [(23, [([vsI [2, 0, 1], vsI [2, 0, 1]], .bool true)])]
theorem tabQ_ok : TabOk Try.prog tabQ := TabOk.of_run (env0_ok.tab TabOk.nil (pure := [])) (n := 60) (by kernel_rfl)
theorem equal23 : PF Try.prog 23 [vsI [2, 0, 1], vsI [2, 0, 1]] (.bool true) := tabQ_ok _ (y06 ..) _ (y06 ..)
theorem pth_ex : pthV 3 [(2, 0), (0, 1)] 2 1 = .tup [vsI [2, 0, 1], .int .i64 0] := by kernel_rfl
-- pneumatic/pneumatictop.playGraph
def ic7 : IC := .seq (.region [oM 0 (.mov (.c (.bool false)))] none)
 (.seq (.region [oM 4 (.build [.int .i64 0, .int .i64 0] [(0, 1, (.c (.int .i64 2))), (1, 1, (.c (.int .i64 0)))]),
  oM 5 (.build [.int .i64 0, .int .i64 0] [(0, 1, (.c (.int .i64 0))), (1, 1, (.c (.int .i64 1)))]),
  oM 6 (.bslice 2 2 [.int .i64 0, .int .i64 0, .int .i64 0, .int .i64 0] [(0, 2, (.t 4)), (2, 2, (.t 5))]),
  oM 7 (.build [.int .i64 0, .nils] [(0, 1, (.c (.int .i64 3))), (1, 1, (.t 6))]),
  oM 8 (.call (.c (.fn 27 [] [])) [(.t 7), (.c (.int .i64 2)), (.c (.int .i64 1))]),
  oT 3 8,
  oM 9 (.extract (.t 3) 0),
  oM 10 (.extract (.t 3) 1),
  oT 1 9,
  oT 2 10] none)
 (.seq (.region [oT 11 2,
  oM 12 (.bin .eql (.t 11) (.c (.int .i64 0))),
  oT 13 12,
  ⟨(some 14), .mov (.t 1), some (13, true)⟩,
  ⟨(some 15), .bslice 1 3 [.int .i64 0, .int .i64 0, .int .i64 0] [(0, 1, (.c (.int .i64 2))), (1, 1, (.c (.int .i64 0))), (2, 1, (.c (.int .i64 1)))], some (13, true)⟩,
  ⟨(some 16), .call (.c (.fn 23 [] [])) [(.t 14), (.t 15)], some (13, true)⟩,
  oM 17 (.pick (.t 13) (.t 16) (.c (.bool false))),
  oT 0 17] none)
 (.ret)))
theorem fn7 : env0.fn 7 = some ⟨18, ic7, [.t 0]⟩ := by kernel_rfl
theorem graph7 : PF Try.prog 7 [] (.bool true) := by
 have q1 := path27 3 [(2, 0), (0, 1)] (fun _ => by decide) 2 1
 rw [pth_ex] at q1
 refine zb2 env0_ok fn7 [] (by show 0 ≤ 18; decide) rfl fun w0 N0 => ?_
 unfold ic7
 refine zsr rfl (za3 rfl (onr rfl (zfl rfl rfl (zfl rfl rfl (o_fsl [[.int .i64 2, .int .i64 0], [.int .i64 0, .int .i64 1]] rfl rfl rfl rfl (zfl rfl rfl ?_))))))
 refine zb4 rfl rfl q1 noC ?_
 repeat (first | refine za9 ?_ | refine za1 rfl ?_ | refine za8 ?_ | refine za7 ?_ | refine zd1 rfl ?_ | refine za3 rfl ?_ | refine zc1 rfl rfl ?_ | refine zcf rfl rfl ?_ | refine zmc rfl rfl rfl ?_)
 refine zb4 rfl rfl equal23 (fun _ => rfl) ?_
 refine zb3 rfl rfl (za3 rfl (onu (zaz ?_)))
 exact zam ⟨.inr rfl, _, rfl, rfl⟩
-- slices.IndexFunc[[]pneumatic/api.Edge,pneumatic/api.Edge]
-- slices.ContainsFunc[[]pneumatic/api.Edge,pneumatic/api.Edge]
-- slices.ContainsFunc[[]int,int]
def zsf (D : Nat → Nat → Int) (e : Nat × Nat) : Nat → Nat → Int := if e.1 = e.2 then D else upG D (e.1 + 1) (e.2 + 1) (lesV (D (e.1 + 1) (e.2 + 1)) 1)
def dE (E : List (Nat × Nat)) : Nat → Nat → Int := E.foldl zsf freeB
theorem zse {E : List (Nat × Nat)} {i : Nat} (h : i < E.length) : dE (E.take (i + 1)) = zsf (dE (E.take i)) E[i] := by
 unfold dE
 rw [y2f, y09 h, y2e]
 rfl
theorem les_one {x : Int} (h : x = nnB ∨ x = 1) : lesV x 1 = 1 := by
 rcases h with rfl | rfl
 ·decide
 ·decide
theorem BndE.snoc {E : List (Nat × Nat)} {m u v : Nat} {D : Nat → Nat → Int} (h : BndE E m D) (hu : u < m) (hv : v < m) : BndE (E ++ [(u, v)]) m (zsf D (u, v)) := by
 unfold zsf
 dsimp only
 by_cases e : u = v
 ·rw [if_pos e]
  refine ⟨h.dia, fun a b hm hne => ?_, fun i j hi hj hne hn => h.non i j hi hj hne fun a b hm => hn a b (y0l _ hm)⟩
  rcases y0n.1 hm with hm | hm
  ·exact h.one a b hm hne
  ·obtain ⟨rfl, rfl⟩ := Prod.mk.inj (y0h.1 hm)
   exact absurd e hne
 ·rw [if_neg e]
  have hx : lesV (D (u + 1) (v + 1)) 1 = 1 := les_one (by
   rcases h.val (i := u + 1) (j := v + 1) (by omega) (by omega) with ⟨x, _⟩ | ⟨_, _, x⟩ | ⟨_, _, x⟩
   ·omega
   ·exact .inr x
   ·exact .inl x)
  rw [hx]
  unfold upG
  refine ⟨fun i hi => ?_, fun a b hm hne => ?_, fun i j hi hj hne hn => ?_⟩
  ·rw [if_neg (by omega)]
   exact h.dia i hi
  ·by_cases c : a + 1 = u + 1 ∧ b + 1 = v + 1
   ·rw [if_pos c]
   ·rw [if_neg c]
    rcases y0n.1 hm with hm | hm
    ·exact h.one a b hm hne
    ·obtain ⟨rfl, rfl⟩ := Prod.mk.inj (y0h.1 hm)
     exact absurd ⟨rfl, rfl⟩ c
  ·rw [if_neg (hn u v (y1e _ (y0h.2 rfl)))]
   exact h.non i j hi hj hne fun a b hm => hn a b (y0l _ hm)
theorem free_bnd (m : Nat) : BndE [] m freeB :=
 ⟨fun _ _ => if_pos rfl, fun _ _ h => absurd h y0f, fun _ _ _ _ hne _ => if_neg hne⟩
theorem dE_bnd {E : List (Nat × Nat)} {m : Nat} (hb : ∀ u v, (u, v) ∈ E → u < m ∧ v < m) : ∀ i, i ≤ E.length → BndE (E.take i) m (dE (E.take i))
 | 0, _ => free_bnd m
 | i + 1, h => by
  have ih := dE_bnd hb i (by omega)
  have hm := hb E[i].1 E[i].2 (y17 (h := by omega))
  rw [zse (by omega), y2f, y09 (by omega)]
  exact ih.snoc hm.1 hm.2
theorem dE_all {E : List (Nat × Nat)} {m : Nat} (hb : ∀ u v, (u, v) ∈ E → u < m ∧ v < m) : BndE E m (dE E) := by
 have h := dE_bnd hb E.length (y0c _)
 rwa [y1w] at h
theorem giv_oneB {m i : Nat} {es : List (Int × Int)} (hc : zj7 (m : Nat) es = 0) (h : i < m) : zig (m : Nat) es [((i : Nat) : Int)] = 0 := by
 unfold zig
 rw [if_pos hc, zmv]
 unfold zfr
 rw [decide_eq_false (by omega), decide_eq_false (by omega)]
 rfl
theorem disB_len (D : Nat → Nat → Int) (m v : Nat) : (zqb D m v).length = m := by
 unfold zqb
 rw [y0e, y12]
theorem disB_at {D : Nat → Nat → Int} {m v j : Nat} (h : j < m) : ((zqb D m v).map fun z => ([.int .i64 z] : List AV))[((j : Nat) : Int).toNat]? = some [.int .i64 (if D (v + 1) (j + 1) = nnB then -1 else D (v + 1) (j + 1))] := by
 unfold zqb
 rw [y0y, y0a, y0a, y1a h]
 rfl
theorem bnd_rng {E : List (Nat × Nat)} {m : Nat} {D : Nat → Nat → Int} (hD : BndE E m D) {i j : Nat} (hi : i < m + 1) (hj : j < m + 1) : fwK D (m + 1) i j = nnB ∨ 0 ≤ fwK D (m + 1) i j := by
 rcases (hD.start.all (m + 1) (y0c _)).rng i j hi hj with e | e
 ·exact .inl e
 ·exact .inr e.1
def b3_0 : IC := .seq (.region [oM 29 (.bin .lss (.t 28) (.t 27))] none)
 (.seq (.cond (.t 29) (.skip)
 (.exit 0))
 (.seq (.block 1 (.seq (.region [oM 30 (.idxs 2 (.t 26) (.t 28)),
  oL 31 2 30,
  oM 7 (.alloc [.int .i64 0, .int .i64 0]),
  ⟨none, .store 2 (.t 7) (.t 31), none⟩] none)
 (.seq (.region [oF 32 0 7,
  oN 33 32,
  oF 34 1 7,
  oN 35 34,
  oM 36 (.bin .neq (.t 33) (.t 35))] none)
 (.cond (.t 36) (.region [oL 37 2 5,
  oF 38 0 7,
  oN 39 38,
  oM 40 (.bin .add (.t 39) (.c (.int .i64 1))),
  oF 41 1 7,
  oN 42 41,
  oM 43 (.bin .add (.t 42) (.c (.int .i64 1))),
  oM 44 (.call (.c (.fn 9 [] [])) [(.t 37), (.t 40), (.t 43), (.c (.int .i64 1))]),
  ⟨none, .store 2 (.t 5) (.t 44), none⟩] none)
 (.skip)))))
 (.region [oM 45 (.bin .add (.t 28) (.c (.int .i64 1))),
  oT 28 45] none)))
def b3_2 : IC := .seq (.region [oM 96 (.bin .lss (.t 95) (.t 94))] none)
 (.seq (.cond (.t 96) (.skip)
 (.exit 2))
 (.seq (.block 3 (.seq (.region [oT 97 95,
  oM 98 (.idxs 1 (.t 93) (.t 95)),
  oN 99 98,
  oT 15 97,
  oT 16 99] none)
 (.seq (.region [oF 100 1 9,
  oN 101 100,
  oT 102 8,
  oM 103 (.bin .add (.t 102) (.c (.int .i64 1))),
  oM 104 (.idxs 1 (.t 101) (.t 103)),
  oN 105 104,
  oT 106 15,
  oM 107 (.bin .add (.t 106) (.c (.int .i64 1))),
  oM 108 (.idxs 1 (.t 105) (.t 107)),
  oN 109 108,
  oT 17 109] none)
 (.seq (.region [oT 110 16,
  oM 111 (.bin .lss (.t 110) (.c (.int .i64 0))),
  oT 112 111,
  ⟨(some 113), .mov (.t 17), some (112, true)⟩,
  ⟨(some 114), .bin .neq (.t 113) (.c (.int .i64 (-1099511627776))), some (112, true)⟩,
  oM 115 (.pick (.t 112) (.t 114) (.c (.bool false))),
  oT 116 115,
  ⟨(some 117), .mov (.t 16), some (116, false)⟩,
  ⟨(some 118), .bin .geq (.t 117) (.c (.int .i64 0)), some (116, false)⟩,
  ⟨(some 119), .mov (.t 118), some (116, false)⟩,
  ⟨(some 120), .mov (.t 17), some (119, true)⟩,
  ⟨(some 121), .mov (.t 16), some (119, true)⟩,
  ⟨(some 122), .bin .neq (.t 120) (.t 121), some (119, true)⟩,
  ⟨(some 123), .pick (.t 119) (.t 122) (.c (.bool false)), some (116, false)⟩,
  oM 124 (.pick (.t 116) (.c (.bool true)) (.t 123))] none)
 (.cond (.t 124) (.seq (.region [oM 4 (.mov (.c (.bool false)))] none)
 (.ret))
 (.skip))))))
 (.region [oM 125 (.bin .add (.t 95) (.c (.int .i64 1))),
  oT 95 125] none)))
-- pneumatic/pneumatictop.TopPathsBounds
def ic3 : IC := .seq (.region [oM 2 (.box (.t 0)),
  oM 4 (.mov (.c (.bool false)))] none)
 (.seq (.seq (.region [oL 18 2 2,
  oM 19 (.call (.c (.fn 6 [] [])) [(.t 18)]),
  oM 20 (.un .not (.t 19))] none)
 (.cond (.t 20) (.seq (.region [oM 21 (.call (.c (.fn 7 [] [])) []),
  oT 4 21] none)
 (.ret))
 (.skip)))
 (.seq (.region [oF 22 0 2,
  oN 23 22,
  oM 24 (.call (.c (.fn 8 [] [])) [(.t 23)]),
  oM 5 (.alloc [.int .i64 0, .nils]),
  ⟨none, .store 2 (.t 5) (.t 24), none⟩] none)
 (.seq (.seq (.region [oF 25 1 2,
  oN 26 25,
  oM 27 (.len false (.t 26)),
  oM 28 (.mov (.c (.int .i64 0)))] none)
 (.block 0 (.loop b3_0)))
 (.seq (.region [oT 46 1,
  oM 47 (.conv .i64 (.t 46)),
  oF 48 0 2,
  oN 49 48,
  oM 50 (.bin .rem (.t 47) (.t 49)),
  oT 8 50] none)
 (.seq (.region [oL 52 2 5,
  oM 53 (.call (.c (.fn 10 [] [])) [(.t 52)]),
  oT 51 53,
  oM 54 (.extract (.t 51) 0),
  oM 55 (.extract (.t 51) 1),
  oM 56 (.extract (.t 51) 2),
  oM 57 (.extract (.t 51) 3),
  oM 9 (.alloc [.int .i64 0, .nils]),
  ⟨none, .store 2 (.t 9) (.t 54), none⟩,
  oT 10 55,
  oT 11 56,
  oT 12 57] none)
 (.seq (.region [oL 59 2 2,
  oT 60 8,
  oM 61 (.call (.c (.fn 11 [] [])) [(.t 59), (.t 60)]),
  oT 58 61,
  oM 62 (.extract (.t 58) 0),
  oM 63 (.extract (.t 58) 1),
  oT 13 62,
  oT 14 63] none)
 (.seq (.seq (.region [oT 64 12,
  oM 65 (.bin .neq (.t 64) (.c (.int .i64 0))),
  oT 66 65,
  ⟨(some 67), .mov (.t 14), some (66, false)⟩,
  ⟨(some 68), .bin .neq (.t 67) (.c (.int .i64 0)), some (66, false)⟩,
  oM 69 (.pick (.t 66) (.c (.bool true)) (.t 68)),
  oT 70 69,
  ⟨(some 71), .mov (.t 11), some (70, false)⟩,
  ⟨(some 72), .un .not (.t 71), some (70, false)⟩,
  oM 73 (.pick (.t 70) (.c (.bool true)) (.t 72)),
  oT 74 73,
  ⟨(some 75), .load (some 2) (.t 9), some (74, false)⟩,
  ⟨(some 76), .call (.c (.fn 12 [] [])) [(.t 75)], some (74, false)⟩,
  ⟨(some 77), .bin .neq (.t 76) (.c (.int .i64 0)), some (74, false)⟩,
  oM 78 (.pick (.t 74) (.c (.bool true)) (.t 77)),
  oT 79 78,
  ⟨(some 80), .faddr 0 (.t 9), some (79, false)⟩,
  ⟨(some 81), .load none (.t 80), some (79, false)⟩,
  ⟨(some 82), .faddr 0 (.t 2), some (79, false)⟩,
  ⟨(some 83), .load none (.t 82), some (79, false)⟩,
  ⟨(some 84), .bin .neq (.t 81) (.t 83), some (79, false)⟩,
  oM 85 (.pick (.t 79) (.c (.bool true)) (.t 84)),
  oT 86 85,
  ⟨(some 87), .mov (.t 13), some (86, false)⟩,
  ⟨(some 88), .len false (.t 87), some (86, false)⟩,
  ⟨(some 89), .faddr 0 (.t 2), some (86, false)⟩,
  ⟨(some 90), .load none (.t 89), some (86, false)⟩,
  ⟨(some 91), .bin .neq (.t 88) (.t 90), some (86, false)⟩,
  oM 92 (.pick (.t 86) (.c (.bool true)) (.t 91))] none)
 (.cond (.t 92) (.seq (.region [oM 4 (.mov (.c (.bool false)))] none)
 (.ret))
 (.skip)))
 (.seq (.seq (.region [oT 93 13,
  oM 94 (.len false (.t 93)),
  oM 95 (.mov (.c (.int .i64 0)))] none)
 (.block 2 (.loop b3_2)))
 (.seq (.region [oM 126 (.call (.c (.fn 7 [] [])) []),
  oT 4 126] none)
 (.ret))))))))))
theorem fn3 : env0.fn 3 = some ⟨127, ic3, [.t 4]⟩ := by kernel_rfl
def lT (m : Nat) (z : Int) (E : List (Nat × Nat)) (i : Nat) : List (Nat × AV) := [(1, .int .u8 z), (2, .vptr [.int .i64 (m : Nat), .vs (cE (zbs E))]), (5, .mptr 0 0 0), (26, .vs (cE (zbs E))), (27, .int .i64 (E.length : Nat)), (28, .int .i64 (i : Nat))]
def lF (m : Nat) (F : Nat → Nat → Int) (dl : List Int) (v j : Nat) : List (Nat × AV) := [(8, .int .i64 (v : Nat)), (9, .vptr [.int .i64 (m : Nat), cM (zc7 F (m + 1))]), (93, vsI dl), (94, .int .i64 (m : Nat)), (95, .int .i64 (j : Nat))]
set_option maxHeartbeats 4000000 in
set_option maxRecDepth 20000 in
theorem law3 (n : Int) (es : List (Int × Int)) (z : Int) (hz : 0 ≤ z ∧ z ≤ 255) : PF Try.prog 3 [cG n es, .int .u8 z] (.bool true) := by
 have q6 := small6 n es
 refine zb2 env0_ok fn3 [(0, .agg [.int .i64 n, .vs (cE es)]), (1, .int .u8 z)] (by show 2 ≤ 127; decide) rfl fun w0 N0 => ?_
 unfold ic3
 refine zsr rfl (zdg rfl rfl (za3 rfl (onu (za9 (zsr rfl (zb8 rfl rfl rfl rfl ?_))))))
 refine zb4 rfl rfl q6 noC ?_
 cases hs : zpu n es with
 | false =>
  refine o_un rfl rfl (onu (zd8 rfl (zsr rfl ?_)))
  refine zb4 rfl rfl graph7 noC ?_
  refine za3 rfl (onu (zaz (zav ?_)))
  exact zam ⟨.inr rfl, _, rfl, rfl⟩
 | true =>
 unfold zpu at hs
 simp only [y0g, decide_eq_true_eq, beq_iff_eq] at hs
 obtain ⟨n1, n8, e20, hc⟩ := hs
 obtain ⟨m, E, rfl, rfl, -, hel, -, hb⟩ := zlr hc
 have m1 : 1 ≤ m := by omega
 have m8 : m ≤ 8 := by omega
 have p8 := free8 m8
 have hcl : (cE (zbs E)).length = E.length := by rw [zdl, zs4]
 refine o_un rfl rfl (onu (zc3 rfl (zaf (za7 (zsr rfl (zae rfl (zad rfl rfl ?_)))))))
 refine zb4 rfl rfl p8 noC ?_
 refine zbj (zbq rfl rfl rfl rfl rfl rfl rfl (onu (za9 (zsr rfl (zae rfl (zad rfl rfl (zcr rfl rfl (za3 rfl (onu (zah ?_))))))))))
 rw [hcl]
 refine zbo [(some (1, 1), [.int .i64 (m : Nat), cM (zc7 (dE (E.take 0)) (m + 1))])] [(0, 0, [.int .i64 (m : Nat), .vs (cE (zbs E))])] [(1, .int .u8 z), (2, .vptr [.int .i64 (m : Nat), .vs (cE (zbs E))]), (5, .mptr 0 0 0), (26, .vs (cE (zbs E))), (27, .int .i64 (E.length : Nat)), (28, .int .i64 ((0 : Nat) : Int))] rfl (.cons rfl (by show hasM.hasML [_, _] = false; rfl) .nil)
  (.cons rfl (.keep rfl) .nil)
  (.cons rfl (.same rfl) (.cons rfl (.fptr rfl rfl) (.cons rfl (.mptr rfl) (.cons rfl (.same rfl) (.cons rfl (.same rfl) (.cons rfl (.same rfl) .nil)))))) ?_
 refine zbn (fun mm S => ∃ i, mm = E.length - i ∧ i ≤ E.length ∧ S = st 127 (lT m z E i) [(0, 0, .cells [.int .i64 (m : Nat), cM (zc7 (dE (E.take i)) (m + 1))])] 1 1) E.length
  (zaa (.cons rfl (.cons rfl (.cons rfl (.cons rfl (.cons rfl (.cons rfl .nil))))))) ⟨0, rfl, y19 _, rfl⟩ ?_
 rintro mm S ⟨i, rfl, hi, rfl⟩
 unfold b3_0 lT
 refine zsr rfl ?_
 refine zao rfl rfl rfl (fun hk => ?_) fun hk => ?_
 ·have hlt : i < E.length := y18.1 (of_decide_eq_true hk)
  have hge := zlp hlt
  have hst := zse hlt
  have hbu := hb E[i].1 E[i].2 (y17 hlt)
  have p9 := with9 (n := m) (i := E[i].1 + 1) (j := E[i].2 + 1) (D := dE (E.take i)) 1 (by omega) (by omega) (by omega)
  unfold zsf at hst
  generalize E[i].1 = u at *
  generalize E[i].2 = v at *
  refine onu (za9 (zd8 rfl (zaf (za7 (za9 (zah (zsr rfl (zba rfl rfl (by omega) (by assumption) rfl (zb8 rfl rfl rfl rfl (zbj (zbq rfl rfl rfl rfl rfl rfl rfl ?_)))))))))))
  refine onr rfl (zae rfl (zad rfl rfl (zae rfl (zad rfl rfl ?_))))
  refine zao rfl rfl rfl (fun hk2 => ?_) fun hk2 => ?_
  ·have hne : u ≠ v := fun e => by
    subst e
    simp at hk2
   rw [if_neg hne] at hst
   refine onu (zd8 rfl (za1 rfl (zb8 rfl rfl rfl rfl (zae rfl (zad rfl rfl (zb5 (op := .add) rfl rfl rfl (zae rfl (zad rfl rfl (zb5 (op := .add) rfl rfl rfl ?_)))))))))
   rw [zab u (by omega)]
   rw [zab v (by omega)]
   refine zb4 rfl rfl p9 noC ?_
   rw [← hst]
   refine zbq rfl rfl rfl rfl rfl rfl rfl (za8 (zbm (za7 (za1 rfl (zb5 (op := .add) rfl rfl rfl (za3 rfl (za8 ?_)))))))
   rw [zab i (by omega)]
   exact zat (show E.length - (i + 1) < E.length - i by omega) (zgd [(some (0, 0), [.int .i64 (m : Nat), cM (zc7 (dE (E.take (i + 1))) (m + 1))])] [] rfl rfl rfl .nil (.cons rfl (.keep rfl) .nil) (l' := lT m z E (i + 1)) (.cons rfl (.same rfl) (.cons rfl (.same rfl) (.cons rfl (.mptr rfl) (.cons rfl (.same rfl) (.cons rfl (.same rfl) (.cons rfl (.same rfl) .nil))))))) ⟨i + 1, rfl, hlt, rfl⟩
  ·have heq : u = v := by
    have : (((u : Nat) : Int) != ((v : Nat) : Int)) = false := hk2
    simp only [bne_eq_false_iff_eq] at this
    omega
   rw [if_pos heq] at hst
   refine onu (zc3 rfl (zaf (zbm (za7 (za1 rfl (zb5 (op := .add) rfl rfl rfl (za3 rfl (za8 ?_))))))))
   rw [zab i (by omega), ← hst]
   exact zat (show E.length - (i + 1) < E.length - i by omega) (zgd [(some (0, 0), [.int .i64 (m : Nat), cM (zc7 (dE (E.take (i + 1))) (m + 1))])] [] rfl rfl rfl .nil (.cons rfl (.keep rfl) .nil) (l' := lT m z E (i + 1)) (.cons rfl (.same rfl) (.cons rfl (.same rfl) (.cons rfl (.mptr rfl) (.cons rfl (.same rfl) (.cons rfl (.same rfl) (.cons rfl (.same rfl) .nil))))))) ⟨i + 1, rfl, hlt, rfl⟩
 have hi2 : i = E.length := by have := of_decide_eq_false hk; omega
 subst hi2
 rw [y1w]
 refine onu (za9 (zc3 rfl (zbw (zak ?_))))
 refine zdb ?_
 refine zbu (za7 (zsr rfl (za3 rfl (o_conv rfl rfl (zal rfl rfl rfl (zad rfl rfl ?_))))))
 obtain ⟨x, rfl⟩ : ∃ x : Nat, z = ((x : Nat) : Int) := ⟨z.toNat, by omega⟩
 have hrem : Am.binOp .rem (.int .i64 (x : Nat)) (.int .i64 (m : Nat)) = some (.int .i64 ((x % m : Nat) : Int)) := by
  show (if ((m : Nat) : Int) = 0 then none else some (AV.int .i64 (Int.tmod (x : Nat) (m : Nat)))) = _
  rw [if_neg (by omega)]
  rfl
 rw [zgt _ (by omega) (by omega)]
 refine zb5 (op := .rem) rfl rfl hrem ?_
 have hv : x % m < m := Nat.mod_lt _ (by omega)
 generalize x % m = v at hv
 have hD := dE_all hb
 have p10 := zry hD (show m ≤ 12 by omega)
 have p12 := zrx hD (show m ≤ 12 by omega)
 have p11 := zna (m : Nat) (zbs E) (fun _ => by omega) (v : Nat)
 rw [zsi (giv_oneB hc hv), dis_far hb hD hv] at p11
 have hdl := disB_len (fwK (dE E) (m + 1)) m v
 have hda := fun j (h : j < m) => disB_at (D := fwK (dE E) (m + 1)) (v := v) h
 have hrg := fun j (h : j < m) => bnd_rng hD (i := v + 1) (j := j + 1) (by omega) (by omega)
 have hml := zej (fwK (dE E) (m + 1)) (m + 1)
 have hmg := fun i (h : i < m + 1) => zex (D := fwK (dE E) (m + 1)) h
 have hrw := fun i j (h : j < m + 1) => ziw (D := fwK (dE E) (m + 1)) (i := i) h
 generalize fwK (dE E) (m + 1) = F at *
 generalize zqb F m v = dl at *
 refine za3 rfl (onr rfl (zb8 rfl rfl rfl rfl ?_))
 refine zb4 rfl rfl p10 noC ?_
 repeat (first | refine za9 ?_ | refine za1 rfl ?_ | refine za8 ?_ | refine za7 ?_ | refine za3 rfl ?_ | refine zb8 rfl rfl rfl rfl ?_ | refine zbq rfl rfl rfl rfl rfl rfl rfl ?_ | refine zbj ?_ | refine zcf rfl rfl ?_)
 refine zb4 rfl rfl p11 noC ?_
 repeat (first | refine za9 ?_ | refine za1 rfl ?_ | refine za8 ?_ | refine za7 ?_ | refine zd1 rfl ?_ | refine za3 rfl ?_ | refine zb8 rfl rfl rfl rfl ?_ | refine zaq rfl rfl ?_ | refine o_un rfl rfl ?_ | refine zcf rfl rfl ?_ | refine ze9 rfl rfl rfl ?_)
 refine zb4 rfl rfl p12 noC ?_
 refine zd1 rfl (ze9 rfl rfl rfl (zaq rfl rfl (za3 rfl (zd1 rfl (zae rfl (zd1 rfl (zad rfl rfl (zd1 rfl (zal rfl rfl rfl (zd1 rfl (zad rfl rfl (zd1 rfl ?_))))))))))))
 have hdl2 : (dl.map fun z => ([.int .i64 z] : List AV)).length = m := by rw [y0e, hdl]
 have hne : (((m : Nat) : Int) != ((m : Nat) : Int)) = false := bne_self_eq_false _
 refine zb5 (op := .neq) rfl rfl (show some (AV.bool (((m : Nat) : Int) != ((m : Nat) : Int))) = some (.bool false) by rw [hne]) ?_
 refine zaq rfl rfl (za3 rfl (zd1 rfl (za3 rfl (zd1 rfl (zcr rfl rfl (zd1 rfl (zal rfl rfl rfl (zd1 rfl (zad rfl rfl (zd1 rfl ?_))))))))))
 rw [hdl2]
 refine zb5 (op := .neq) rfl rfl (show some (AV.bool (((m : Nat) : Int) != ((m : Nat) : Int))) = some (.bool false) by rw [hne]) ?_
 refine zaq rfl rfl (onu (zc3 rfl (zaf (za7 (za9 (zsr rfl (za3 rfl (zcr rfl rfl (za3 rfl (onu ?_))))))))))
 refine zah ?_
 rw [hdl2]
 refine zbo [] [(1, 1, [.int .i64 (m : Nat), cM (zc7 F (m + 1))])] (lF m F dl v 0) rfl (.cons rfl rfl .nil) .nil (.cons rfl (.same rfl) (.cons rfl (.fptr rfl rfl) (.cons rfl (.same rfl) (.cons rfl (.same rfl) (.cons rfl (.same rfl) .nil))))) ?_
 refine zbn (fun mm S => ∃ j, mm = m - j ∧ j ≤ m ∧ S = st 127 (lF m F dl v j) [] 0 1) m
  (zaa (.cons rfl (.cons rfl (.cons rfl (.cons rfl (.cons rfl .nil)))))) ⟨0, rfl, y19 _, rfl⟩ ?_
 rintro mm S ⟨j, rfl, hj, rfl⟩
 unfold b3_2 lF
 refine zsr rfl ?_
 refine zao rfl rfl rfl (fun hk => ?_) fun hk => ?_
 ·have hlt : j < m := y18.1 (of_decide_eq_true hk)
  have hge := hda j hlt
  have hg1 := hmg (v + 1) (by omega)
  have hg2 := hrw (v + 1) (j + 1) (by omega)
  have hr := hrg j hlt
  generalize F (v + 1) (j + 1) = y at *
  unfold cM
  repeat (first | refine za9 ?_ | refine za1 rfl ?_ | refine za8 ?_ | refine za7 ?_ | refine zah ?_ | refine zaf ?_ | refine zd8 rfl ?_ | refine za3 rfl ?_ | refine zad rfl rfl ?_ | refine zal rfl rfl rfl ?_ | refine zb5 (op := .add) rfl rfl rfl ?_ | refine zba rfl rfl (by omega) (by assumption) rfl ?_)
  rw [zab v (by omega)]
  refine zba rfl rfl (by omega) (by assumption) rfl (zad rfl rfl (za3 rfl (zb5 (op := .add) rfl rfl rfl ?_)))
  rw [zab j (by omega)]
  refine zba rfl rfl (by omega) (by assumption) rfl (zad rfl rfl (za3 rfl (onr rfl (za3 rfl ?_))))
  rcases hr with rfl | hr
  ·rw [if_pos rfl]
   unfold nnB
   repeat (first | refine za1 rfl ?_ | refine za8 ?_ | refine za7 ?_ | refine zbm ?_ | refine zaf ?_ | refine zc3 rfl ?_ | refine zd1 rfl ?_ | refine zfd rfl rfl ?_ | refine za3 rfl ?_ | refine zb3 rfl rfl ?_ | refine zaq rfl rfl ?_ | refine zb5 (op := .add) rfl rfl rfl ?_ | refine zmc rfl rfl rfl ?_ | refine ze9 rfl rfl rfl ?_)
   rw [zab j (by omega)]
   exact zat (show m - (j + 1) < m - j by omega) (zaa (.cons rfl (.cons rfl (.cons rfl (.cons rfl (.cons rfl .nil)))))) ⟨j + 1, rfl, hlt, rfl⟩
  ·rw [if_neg (zp7 hr)]
   refine zao rfl rfl rfl (fun h => absurd (of_decide_eq_true h) (by omega)) fun _ => ?_
   repeat (first | refine zd1 rfl ?_ | refine zfd rfl rfl ?_ | refine za3 rfl ?_ | refine zaq rfl rfl ?_)
   refine zao rfl rfl rfl (fun _ => ?_) fun h => absurd (of_decide_eq_false h) (by omega)
   repeat (first | refine zd1 rfl ?_ | refine za3 rfl ?_)
   refine zb5 (op := .neq) rfl rfl (show some (AV.bool (y != y)) = some (.bool false) by rw [bne_self_eq_false]) ?_
   refine zd1 rfl (zb3 rfl rfl (zaq rfl rfl (onu (zc3 rfl (zaf (zbm (za7 (za1 rfl (zb5 (op := .add) rfl rfl rfl (za3 rfl (za8 ?_)))))))))))
   rw [zab j (by omega)]
   exact zat (show m - (j + 1) < m - j by omega) (zaa (.cons rfl (.cons rfl (.cons rfl (.cons rfl (.cons rfl .nil)))))) ⟨j + 1, rfl, hlt, rfl⟩
 have hj2 : j = m := by have := of_decide_eq_false hk; omega
 subst hj2
 refine onu (za9 (zc3 rfl (zbw (zak ?_))))
 refine zdb ?_
 refine zbu (za7 (zsr rfl ?_))
 refine zb4 rfl rfl graph7 noC ?_
 refine za3 rfl (onu (zaz ?_))
 exact zam ⟨.inr rfl, _, rfl, rfl⟩
open Go Go.Am Go.ChangeShapes Go.WideShapes Go.ChangeAt Go.RowKit
theorem own : ownKnob Try.prog.godebug = none := by kernel_rfl
theorem gok {W : World} : GOk (fun _ => True) W := fun _ hx => absurd hx y0f
theorem solid : zrc Try.prog Try.prog.types.size := solid_of (by kernel_rfl)
open Go Go.Am Go.ChangeShapes Go.WideShapes Go.ChangeAt Go.RowKit Go.Deep
section
variable {H : Type} {enc : TypeId × Value → H} {w : World} {base : Nat} {spare : Nat → Bool} {held : Bool}
theorem rdN : Rd enc Try.prog w base spare held 3 (zle .i64) := rd_int Try.underlying3 (by kernel_rfl)
theorem rdE : Rd enc Try.prog w base spare held 32 (zcm [zle .i64, zle .i64]) := by
 refine zmk Try.underlying32 rfl (by kernel_rfl) fun i f g e1 e2 => ?_
 match i, e1, e2 with
 | 0, e1, e2 => injection e1 with e1; injection e2 with e2; subst e1 e2; exact rdN
 | 1, e1, e2 => injection e1 with e1; injection e2 with e2; subst e1 e2; exact rdN
 | i + 2, e1, e2 => simp at e1
theorem rdL : Rd enc Try.prog w base spare held 22 (zlo (zcm [zle .i64, zle .i64])) :=
 rd_slice Try.underlying22 (by kernel_rfl) (by rw [show Try.prog.cellsOf 32 = 2 from by kernel_rfl]; decide) rdE
theorem rdG : Rd enc Try.prog w base spare held 24 (zcm [zle .i64, zlo (zcm [zle .i64, zle .i64])]) := by
 refine zmk Try.underlying24 rfl (by kernel_rfl) fun i f g e1 e2 => ?_
 match i, e1, e2 with
 | 0, e1, e2 => injection e1 with e1; injection e2 with e2; subst e1 e2; exact rdN
 | 1, e1, e2 => injection e1 with e1; injection e2 with e2; subst e1 e2; exact rdL
 | i + 2, e1, e2 => simp at e1
def zsn (d : DataW H) : List (Int × Int) := (zjd ((zc4 d).tail.headD .nil)).map fun x => (znr ((zc4 x).headD .nil), znr ((zc4 x).tail.headD .nil))
theorem zqd {n : Nat} {cs : List Value} {d : DataW H} {p : List MemPlace} (h : DataW.trod enc Try.prog w base spare held n 32 cs = some (d, p)) : ∃ a b : DataW H, zc4 d = [a, b] := by
 obtain ⟨xs, n', _, hx, hlen, hxl, hall⟩ := DataW.trod_struct Try.underlying32 h
 simp only [y05] at hx
 obtain ⟨rfl, rfl⟩ := hx
 obtain ⟨x0, x1, rfl⟩ : ∃ a b, xs = [a, b] := by
  match xs, hxl with
  | [a, b], _ => exact ⟨a, b, rfl⟩
 exact ⟨x0.1, x1.1, rfl⟩
theorem shapeG {n : Nat} {cs : List Value} {d : DataW H} {p : List MemPlace} (h : DataW.trod enc Try.prog w base spare held n 24 cs = some (d, p)) :
  ∃ d0 d1 : DataW H, zc4 d = [d0, d1] ∧ ∀ x ∈ zjd d1, ∃ a b : DataW H, zc4 x = [a, b] := by
 obtain ⟨xs, n', _, hx, hlen, hxl, hall⟩ := DataW.trod_struct Try.underlying24 h
 simp only [y05] at hx
 obtain ⟨rfl, rfl⟩ := hx
 obtain ⟨x0, x1, rfl⟩ : ∃ a b, xs = [a, b] := by
  match xs, hxl with
  | [a, b], _ => exact ⟨a, b, rfl⟩
 have h2 := hall 1 _ rfl
 have h2' : _ = some x1 := h2
 refine ⟨x0.1, x1.1, rfl, ?_⟩
 rcases Deep.open_slice Try.underlying22 h2' with ⟨_, hx⟩ | ⟨a, len, cap, m, n2, D, Pl, _, hb, hle, hm, hmm, hx, hel⟩
 ·subst hx
  exact fun y hy => absurd hy y0f
 ·subst hx
  have hlm : len ≤ m := by rw [hmm]; split <;> omega
  intro x hx
  have hx' : x ∈ (List.range len).map D := hx
  obtain ⟨i, hi, rfl⟩ := y0k.1 hx'
  obtain ⟨cs', h1, h3⟩ := hel i (by have := y0j.1 hi; omega)
  exact zqd h3
theorem cG_read {d d0 d1 : DataW H} (h : zc4 d = [d0, d1]) (hr : ∀ x ∈ zjd d1, ∃ a b : DataW H, zc4 x = [a, b]) : cG (znr ((zc4 d).headD .nil)) (zsn d) = aggA (zcm [zle .i64, zlo (zcm [zle .i64, zle .i64])]) d := by
 unfold cG zsn aggA zcm
 rw [h]
 show AV.agg [.int .i64 (znr d0), .vs (cE ((zjd d1).map fun x => (znr ((zc4 x).headD .nil), znr ((zc4 x).tail.headD .nil))))] = AV.agg [.int .i64 (znr d0), .vs ((zjd d1).map (zcm [zle .i64, zle .i64]))]
 congr 3
 unfold cE
 rw [y1t]
 refine congrArg AV.vs (y1n fun x hx => ?_)
 obtain ⟨a, b, e⟩ := hr x hx
 unfold zcm
 show [AV.int .i64 (znr ((zc4 x).headD .nil)), AV.int .i64 (znr ((zc4 x).tail.headD .nil))] = _
 rw [e]
 rfl
end
end Go.Proofs.Ytfbeableaihooaa
