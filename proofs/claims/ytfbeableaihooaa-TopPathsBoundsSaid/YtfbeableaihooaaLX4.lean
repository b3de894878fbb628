/-
  REVERSED GRAPHS: reversed and Reverse walked; graphs that are the same.; CLOSED BOUNDS: limited, closed, Close.; CLOSED BOUNDS: Close.; CLOSED BOUNDS OF THE LAW: what the pivots need.; ONE MORE BOUND: With.; ONE MORE BOUND: With itself.; A SEARCH INTO THE DEPTH, in plain Lean: what is closed behind a vertex; the last closed vertex of a component.; WHAT A PATH IS, in plain Lean: joined by edges, ev
-/
import Derived.Test.YtfbeableaihooaaLX3
namespace Go.Proofs.Ytfbeableaihooaa
open Go Go.Am
def swE (es : List (Int × Int)) : List (Int × Int) := es.map fun e => (e.2, e.1)
theorem swE_succ {es : List (Int × Int)} {i : Nat} (h : i < es.length) : swE (es.take (i + 1)) = swE (es.take i) ++ [(es[i].2, es[i].1)] := by
 unfold swE
 rw [y2f, y09 h, y27]
 rfl
theorem swE_len (es : List (Int × Int)) (i : Nat) : (swE (es.take i)).length ≤ i := by
 unfold swE
 rw [y0e, List.length_take]
 omega
def Rv (q : List (Int × Int)) (w : AV) (hp : List (Nat × Nat × AObj)) (nx : Nat) : Prop :=
 (q = [] ∧ w = .nils) ∨ ∃ id sp, w = .ms id sp 2 0 q.length none ∧ Am.look id hp = some (sp, .cells (cE q).flatten) ∧ 1 < id ∧ id < nx
structure Rq (n : Int) (q : List (Int × Int)) (v w : AV) (hp : List (Nat × Nat × AObj)) (nx : Nat) : Prop where
 res : Am.look 0 hp = some (0, .cells [.int .i64 0, .nils])
 out : Am.look 1 hp = some (1, .cells [.int .i64 n, v])
 lst : Rv q w hp nx
 nx1 : 1 < nx
section
variable {n : Int} {q : List (Int × Int)} {v w : AV} {hp : List (Nat × Nat × AObj)} {nx : Nat}
theorem Rq.fresh (h : Rq n q v w hp nx) (ck : Nat) (x : AObj) : Rq n q v w ((nx, ck, x) :: hp) (nx + 1) := by
 have h1 := h.nx1
 refine ⟨by rw [za2, if_neg (by omega)]; exact h.res, by rw [za2, if_neg (by omega)]; exact h.out, ?_, by omega⟩
 rcases h.lst with h2 | ⟨id, sp, e, hl, a, b⟩
 ·exact .inl h2
 ·exact .inr ⟨id, sp, e, by rw [za2, if_neg (by omega)]; exact hl, a, by omega⟩
theorem Rq.store (h : Rq n q v w hp nx) (x : AV) : Rq n q x w (zbb 1 (1, .cells [.int .i64 n, x]) hp) nx := by
 refine ⟨by rw [za4, if_neg (by decide)]; exact h.res, by rw [za4, if_pos rfl], ?_, h.nx1⟩
 rcases h.lst with h2 | ⟨id, sp, e, hl, a, b⟩
 ·exact .inl h2
 ·exact .inr ⟨id, sp, e, by rw [za4, if_neg (by omega)]; exact hl, a, b⟩
theorem Rq.fresh2 (h : Rq n q v w hp nx) (ck : Nat) (x : AObj) (y : Nat × AObj) : Rq n q v w (zbb nx y ((nx, ck, x) :: hp)) (nx + 1) := by
 have h0 := h.nx1
 have h1 := h.fresh ck x
 refine ⟨by rw [za4, if_neg (by omega)]; exact h1.res, by rw [za4, if_neg (by omega)]; exact h1.out, ?_, h1.nx1⟩
 rcases h.lst with h2 | ⟨id, sp, e, hl, a, b⟩
 ·exact .inl h2
 ·exact .inr ⟨id, sp, e, by rw [za4, if_neg (by omega), za2, if_neg (by omega)]; exact hl, a, by omega⟩
theorem cE_snoc (q : List (Int × Int)) (x : Int × Int) : (cE q).flatten ++ [[AV.int .i64 x.1, AV.int .i64 x.2]].flatten = (cE (q ++ [x])).flatten := by
 unfold cE
 rw [y27, List.flatten_append]
 rfl
theorem zn2 (q : List (Int × Int)) : (cE q).flatten.length = q.length * 2 := by
 induction q with
 | nil => rfl
 | cons e q ih =>
  show ([AV.int .i64 e.1, AV.int .i64 e.2] ++ (cE q).flatten).length = _
  rw [y0p, ih]
  show 2 + q.length * 2 = (q.length + 1) * 2
  omega
theorem Rq.app_new (h : Rq n [] v .nils hp nx) (ck : Nat) (x : Int × Int) : Rq n [x] v (.ms nx ck 2 0 1 none) ((nx, ck, .cells [.int .i64 x.1, .int .i64 x.2]) :: hp) (nx + 1) := by
 have h1 := h.nx1
 exact ⟨by rw [za2, if_neg (by omega)]; exact h.res, by rw [za2, if_neg (by omega)]; exact h.out, .inr ⟨nx, ck, rfl, zai, h1, y0o _⟩, by omega⟩
theorem Rq.app_old {id sp len : Nat} (h : Rq n q v (.ms id sp 2 0 q.length none) hp nx) (hid : 1 < id) (hn : id < nx) (ck : Nat) (x : Int × Int) : Rq n (q ++ [x]) v (.ms id ck 2 0 (q.length + 1) none) (zbb id (ck, .cells (cE (q ++ [x])).flatten) hp) nx :=
 ⟨by rw [za4, if_neg (by omega)]; exact h.res, by rw [za4, if_neg (by omega)]; exact h.out, .inr ⟨id, ck, by rw [y0p]; rfl, by rw [za4, if_pos rfl], hid, hn⟩, h.nx1⟩
theorem o_rapp {w0 : World} {N0 nn d ck : Nat} {k : List Fr} {Q : Exit → AS → Prop} {l : List (Nat × AV)} {ios : List Opr} {bytes j sj : Nat} {x : Int × Int} {z : List AV} {s xa : Arg} (hF : Rq n q v w hp nx) (hlen : q.length ≤ 1000000) (hs : zb0 s l = some w) (hx : zb0 xa l = some (.ms j sj 2 0 1 (some 1))) (hj : Am.look j hp = some (sj, .cells [.int .i64 x.1, .int .i64 x.2])) (hb : bytes ≤ 16777216)
  (go : ∀ w' hp' nx' ck', Rq n (q ++ [x]) v w' hp' nx' → Om Try.prog w0 N0 none (KnP Try.prog w0 N0) ios (st nn ((d, w') :: l) hp' nx' ck') k Q) :
  Om Try.prog w0 N0 none (KnP Try.prog w0 N0) (⟨some d, .append 2 bytes z s xa, none⟩ :: ios) (st nn l hp nx ck) k Q := by
 have hel : ∀ l, (st nn l hp nx ck []).elems 2 (.ms j sj 2 0 1 (some 1)) = some [[.int .i64 x.1, .int .i64 x.2]] := fun l => zd3 (xs := [[.int .i64 x.1, .int .i64 x.2]]) (ys := []) hj rfl fun x hx => by obtain rfl := y0h.1 hx; rfl
 rcases hF.lst with ⟨rfl, rfl⟩ | ⟨id, sp, rfl, hl, h1, h2⟩
 ·have hi : iop (st nn l hp nx ck) (.append 2 bytes z s xa) = some (.ms nx ck 2 0 1 none, st nn l ((nx, ck, .cells [.int .i64 x.1, .int .i64 x.2]) :: hp) (nx + 1) (ck + 1)) := by
   simp only [iop, zar, hs, hx, hel]
   unfold zbc
   rw [if_neg (show ¬ [[AV.int .i64 x.1, AV.int .i64 x.2]].length = 0 from y2m 0), if_pos (show [[AV.int .i64 x.1, AV.int .i64 x.2]].flatten.all AV.isCell = true ∧ bytes ≤ 16777216 from ⟨rfl, hb⟩)]
   rfl
  exact zel hi (go _ _ _ _ (hF.app_new ck x)) (fun _ _ _ _ _ _ _ => rfl)
 ·refine zek [[.int .i64 x.1, .int .i64 x.2]] hs hx (hel _) (fun h => Nat.noConfusion h) rfl hb hl (zn2 q).symm (by show _ + 1 ≤ _; omega) ?_ (fun _ _ _ _ _ _ _ => rfl)
  refine go _ _ _ _ ?_
  rw [cE_snoc]
  exact hF.app_old (len := 0) h1 h2 ck x
theorem Rv.cell (h : Rv q w hp nx) : w.isCell = true ∧ w.cells? = some [w] := by
 rcases h with ⟨rfl, rfl⟩ | ⟨id, sp, rfl, hl, _, _⟩
 ·exact ⟨rfl, rfl⟩
 ·exact ⟨rfl, rfl⟩
theorem zun {S : AS} {a : Nat} {pa x y : AV} (h1 : S.get a = some pa) (d1 : S.deref pa = some [x, y]) : S.res [.cell a (some 2)] = some (.agg [x, y]) := by
 simp [AS.res, AS.resL, ztw, h1, d1]
theorem res_aggt {S : AS} {a b : Nat} {pa x y v : AV} (h1 : S.get a = some pa) (d1 : S.deref pa = some [x, y]) (h2 : S.get b = some v) : S.res [.cell a (some 2), .t b] = some (.tup [.agg [x, y], v]) := by
 simp [AS.res, AS.resL, ztw, h1, d1, h2]
theorem Rv.view {S : AS} {d : Nat} (h : Rv q w S.heap nx) : S.view (d + 1) w = .vs (cE q) := by
 rcases h with ⟨rfl, rfl⟩ | ⟨id, sp, rfl, hl, _, _⟩
 ·rfl
 ·have e : S.elems 2 (.ms id sp 2 0 q.length none) = some (cE q) := by
   obtain ⟨n, t, hp, nx, ck, mk⟩ := S
   exact zd3 (ys := []) (cap := none) (n := n) (nx := nx) (ck := ck) (mk := mk) (l := []) (hp := hp) (by rw [y13]; exact hl) (zdl q) (fun x hx => by obtain ⟨s, _, rfl⟩ := y0k.1 hx; rfl)
  simp only [AS.view, e]
  congr 1
  unfold cE
  rw [y1t]
  apply y1n
  intro s _
  cases d <;> rfl
end
def b46_0 : IC := .seq (.region [oM 13 (.bin .lss (.t 12) (.t 11))] none)
 (.seq (.cond (.t 13) (.skip)
 (.exit 0))
 (.seq (.block 1 (.seq (.region [oM 14 (.idxs 2 (.t 10) (.t 12)),
  oL 15 2 14,
  oM 5 (.alloc [.int .i64 0, .int .i64 0]),
  ⟨none, .store 2 (.t 5) (.t 15), none⟩] none)
 (.region [oF 16 1 3,
  oN 17 16,
  oF 18 1 5,
  oN 19 18,
  oF 20 0 5,
  oN 21 20,
  oM 22 (.build [.int .i64 0, .int .i64 0] [(0, 1, (.t 19)), (1, 1, (.t 21))]),
  oM 23 (.bslice 2 1 [.int .i64 0, .int .i64 0] [(0, 2, (.t 22))]),
  oM 24 (.append 2 16 [.int .i64 0, .int .i64 0] (.t 17) (.t 23)),
  oF 25 1 3,
  ⟨none, .store 1 (.t 25) (.t 24), none⟩] none)))
 (.region [oM 26 (.bin .add (.t 12) (.c (.int .i64 1))),
  oT 12 26] none)))
-- pneumatic/digraph.reversed
def ic46 : IC := .seq (.region [oM 1 (.box (.t 0)),
  oM 2 (.alloc [.int .i64 0, .nils])] none)
 (.seq (.region [oF 6 0 1,
  oN 7 6,
  oM 8 (.build [.int .i64 0, .nils] [(0, 1, (.t 7))]),
  oM 3 (.alloc [.int .i64 0, .nils]),
  ⟨none, .store 2 (.t 3) (.t 8), none⟩] none)
 (.seq (.seq (.region [oF 9 1 1,
  oN 10 9,
  oM 11 (.len false (.t 10)),
  oM 12 (.mov (.c (.int .i64 0)))] none)
 (.block 0 (.loop b46_0)))
 (.seq (.region [oL 27 2 3,
  ⟨none, .store 2 (.t 2) (.t 27), none⟩] none)
 (.ret))))
theorem fn46 : env0.fn 46 = some ⟨28, ic46, [.cell 2 (some 2)]⟩ := by kernel_rfl
set_option maxHeartbeats 4000000 in
theorem zqt (n : Int) (es : List (Int × Int)) (he : es.length ≤ 1000000) : PF Try.prog 46 [cG n es] (cG n (swE es)) := by
 have hcl := zdl es
 refine zb2 env0_ok fn46 [(0, .agg [.int .i64 n, .vs (cE es)])] (by show 1 ≤ 28; decide) rfl fun w0 N0 => ?_
 unfold ic46
 refine zsr rfl (zdg rfl rfl (zbj (onu ?_)))
 refine zbo [(some (1, 1), [.int .i64 0, .nils])] [(0, 0, [.int .i64 n, .vs (cE es)])] [(1, .vptr [.int .i64 n, .vs (cE es)]), (2, .mptr 0 0 0)] rfl (.cons rfl rfl .nil) (.cons rfl (.cons (.same rfl) (.cons (.same rfl) .nil)) .nil) (.cons rfl (.fptr rfl rfl) (.cons rfl (.mptr rfl) .nil)) ?_
 repeat (first | refine za9 ?_ | refine za1 rfl ?_ | refine za8 ?_ | refine za7 ?_ | refine zah ?_ | refine za3 rfl ?_ | refine zad rfl rfl ?_ | refine zbq rfl rfl rfl rfl rfl rfl rfl ?_ | refine zal rfl rfl rfl ?_ | refine zbj ?_ | refine zcr rfl rfl ?_ | refine zfl rfl rfl ?_)
 refine zbn (fun mm S => ∃ i v hp nx ck, mm = es.length - i ∧ i ≤ es.length ∧ Rq n (swE (es.take i)) v v hp nx ∧ S = st 28 [(2, .mptr 0 0 0), (3, .mptr 1 1 0), (10, .vs (cE es)), (11, .int .i64 ((cE es).length : Nat)), (12, .int .i64 (i : Nat))] hp nx ck) es.length
  (zaa (.cons rfl (.cons rfl (.cons rfl (.cons rfl (.cons rfl .nil)))))) ⟨0, .nils, _, _, _, rfl, y19 _, ⟨rfl, rfl, .inl ⟨rfl, rfl⟩, by decide⟩, rfl⟩ ?_
 rintro mm S ⟨i, v, hp, nx, ck, rfl, hi, hF, rfl⟩
 have hql := swE_len es i
 unfold b46_0
 repeat (first | refine za9 ?_ | refine za1 rfl ?_)
 refine zao rfl rfl rfl (fun h3 => ?_) fun h3 => ?_
 ·have hlt : i < es.length := by
   have h4 : ((i : Nat) : Int) < (((cE es).length : Nat) : Int) := of_decide_eq_true h3
   omega
  have w1 : IntKind.wrap .i64 (((i : Nat) : Int) + 1) = ((i + 1 : Nat) : Int) := zab i (by omega)
  have hg := zs2 hlt
  have hs := swE_succ hlt
  generalize es[i].1 = a at *
  generalize es[i].2 = b at *
  repeat (first | refine za9 ?_ | refine za1 rfl ?_ | refine za8 ?_ | refine za7 ?_ | refine zah ?_ | refine zaf ?_ | refine zd8 rfl ?_ | refine zb8 rfl rfl rfl rfl ?_ | refine zbj ?_ | refine zba rfl rfl (by omega) (by assumption) rfl ?_)
  refine zbq (id := nx) (sp := ck) (off := 0) rfl rfl rfl rfl zai rfl rfl ?_
  have hF1 := hF.fresh2 ck (.cells [.int .i64 0, .int .i64 0]) (ck, .cells [.int .i64 a, .int .i64 b])
  have k5 : Am.look nx (zbb nx (ck, AObj.cells [.int .i64 a, .int .i64 b]) ((nx, ck, AObj.cells [.int .i64 0, .int .i64 0]) :: hp)) = some (ck, .cells [.int .i64 a, .int .i64 b]) := by
   rw [za4, if_pos rfl]
  repeat (first | refine za1 rfl ?_ | refine za8 ?_ | refine za7 ?_ | refine zae rfl ?_)
  refine zas (id := 1) (sp := 1) (off := 0 + 1) rfl hF1.out hF1.nx1 rfl ?_
  repeat (first | refine zae rfl ?_)
  refine zas (id := nx) (sp := ck) (off := 0 + 1) rfl k5 (y0o _) rfl ?_
  repeat (first | refine zae rfl ?_)
  refine zas (id := nx) (sp := ck) (off := 0) rfl k5 (y0o _) rfl ?_
  repeat (first | refine zfl rfl rfl ?_ | refine zc1 rfl rfl ?_)
  refine o_rapp (x := (b, a)) (hF1.fresh _ (.cells [.int .i64 b, .int .i64 a])) (by omega) rfl rfl zai (by decide) fun w' hp' nx' ck' hF2 => ?_
  repeat (first | refine zae rfl ?_)
  refine zci (id := 1) (sp := 1) (off := 0 + 1) rfl rfl hF2.lst.cell.2 hF2.out (by simp) hF2.lst.cell.1 ?_
  repeat (first | refine za1 rfl ?_ | refine za8 ?_ | refine za7 ?_ | refine zbm ?_ | refine za3 rfl ?_ | refine zb5 (op := .add) rfl rfl rfl ?_)
  rw [w1]
  exact zat (show es.length - (i + 1) < es.length - i by omega) (zaa (.cons rfl (.cons rfl (.cons rfl (.cons rfl (.cons rfl .nil)))))) ⟨i + 1, w', _, _, _, rfl, hlt, by rw [hs]; exact hF2.store w', rfl⟩
 ·have hie : i = es.length := by
   have h4 : ¬ ((i : Nat) : Int) < (((cE es).length : Nat) : Int) := of_decide_eq_false h3
   omega
  subst hie
  rw [y1w] at hF
  repeat (first | refine za9 ?_ | refine za8 ?_ | refine za7 ?_ | refine zc3 rfl ?_ | refine zbw ?_ | refine zak ?_)
  refine zdb ?_
  repeat (first | refine za9 ?_ | refine za1 rfl ?_ | refine za7 ?_ | refine zbu ?_)
  refine zhb (id := 1) (sp := 1) (off := 0) rfl hF.out hF.nx1 rfl rfl ?_
  refine zbq (id := 0) (sp := 0) (off := 0) (v := .agg [.int .i64 n, v]) (vs := [.int .i64 n, v]) rfl rfl rfl rfl hF.res rfl (by rw [List.all_cons, List.all_cons, hF.lst.cell.1]; rfl) ?_
  repeat (first | refine za8 ?_ | refine za7 ?_ | refine zaz ?_)
  refine zam ⟨.inr rfl, _, zun ((zif 2).trans rfl) (zg0 (sp := 0) (cs := [.int .i64 n, v]) (by show Am.look 0 (zbb 0 _ hp) = _; rw [za4, if_pos rfl]; rfl) (show 0 < nx by have := hF.nx1; omega) rfl), ?_⟩
  have hv : Rv (swE es) v (zbb 0 (0, .cells [.int .i64 n, v]) hp) nx := by
   rcases hF.lst with h2 | ⟨id, sp, e, hl, a, b⟩
   ·exact .inl h2
   ·exact .inr ⟨id, sp, e, by rw [za4, if_neg (by omega)]; exact hl, a, b⟩
  exact congrArg AV.agg (zuc rfl hv.view)
-- (*pneumatic/bounds.square).limited$1
def ic55 : IC := .seq (.region [oN 6 2,
  oT 7 0,
  oT 8 1,
  oM 9 (.nilchk (.t 6)),
  oF 10 1 9,
  oM 11 (.idxarr 13 13 (.t 10) (.t 7)),
  oM 12 (.idxarr 13 1 (.t 11) (.t 8)),
  oN 13 12,
  oM 14 (.bin .neq (.t 13) (.c (.int .i64 (-1099511627776)))),
  oT 15 14,
  ⟨(some 16), .load none (.t 2), some (15, true)⟩,
  ⟨(some 17), .mov (.t 0), some (15, true)⟩,
  ⟨(some 18), .mov (.t 1), some (15, true)⟩,
  ⟨(some 19), .nilchk (.t 16), some (15, true)⟩,
  ⟨(some 20), .faddr 1 (.t 19), some (15, true)⟩,
  ⟨(some 21), .idxarr 13 13 (.t 20) (.t 17), some (15, true)⟩,
  ⟨(some 22), .idxarr 13 1 (.t 21) (.t 18), some (15, true)⟩,
  ⟨(some 23), .load none (.t 22), some (15, true)⟩,
  ⟨(some 24), .call (.c (.fn 50 [] [])) [(.t 23)], some (15, true)⟩,
  ⟨(some 25), .un .not (.t 24), some (15, true)⟩,
  oM 26 (.pick (.t 15) (.t 25) (.c (.bool false)))] none)
 (.cond (.t 26) (.region [⟨none, .store 1 (.t 3) (.c (.int .i64 11)), none⟩] none)
 (.skip))
theorem fn55 : env0.fn 55 = some ⟨27, ic55, []⟩ := by kernel_rfl
-- (*pneumatic/bounds.square).limited
def ic32 : IC := .seq (.region [oM 1 (.box (.t 0)),
  oM 2 (.alloc [.int .i64 0, .nils]),
  oM 3 (.mov (.c (.int .i64 0)))] none)
 (.seq (.region [oM 4 (.alloc [.int .i64 0]),
  ⟨none, .store 1 (.t 4) (.c (.int .i64 0)), none⟩] none)
 (.seq (.region [oN 5 1,
  oM 6 (.mkfn 55 [] [(.t 1), (.t 4)]),
  oM 7 (.call (.c (.fn 54 [] [])) [(.t 5), (.t 6)])] none)
 (.seq (.seq (.region [oN 8 4,
  oM 9 (.bin .neq (.t 8) (.c (.int .i64 0)))] none)
 (.cond (.t 9) (.seq (.region [oM 10 (.build [.int .i64 0, .nils] []),
  oN 11 4,
  ⟨none, .store 2 (.t 2) (.t 10), none⟩,
  oT 3 11] (some [[], [], [0, 0], [1, 2, 0, 1, 2]]))
 (.ret))
 (.skip)))
 (.seq (.region [oN 12 1,
  oM 13 (.call (.c (.fn 56 [] [])) [(.t 12)]),
  ⟨none, .store 2 (.t 2) (.t 13), none⟩,
  oM 3 (.mov (.c (.int .i64 0)))] none)
 (.ret)))))
theorem fn32 : env0.fn 32 = some ⟨14, ic32, [.cell 2 (some 2), .t 3]⟩ := by kernel_rfl
structure LiI (i j : Nat) (H : HS) : Prop where
 h0 : Am.look 0 H.heap = some (0, .cells [.int .i64 0, .nils])
 h1 : Am.look 1 H.heap = some (0, .cells [.int .i64 0])
 nx : 1 < H.next
set_option maxHeartbeats 2000000 in
set_option maxRecDepth 20000 in
theorem test55 {w0 : World} {N0 : Nat} {K : Nat} {G : Nat → Nat → Int} (hK : K ≤ 13) (hG : OkB G K) (i j : Nat) (H : HS) (hi : i < K) (hj : j < K) (hI : LiI i j H) :
  FT Try.prog w0 N0 55 [.int .i64 (i : Nat), .int .i64 (j : Nat), .vptr [.vptr (sqC K G)], .mptr 1 0 0] H fun _ H' => LiI i (j + 1) H' := by
 have hsl := zmt K G
 have hg := zuz K G (i := i) (j := j) (by omega) (by omega)
 have hin := hG.ins hi hj
 have p50 := zoy (G i j)
 generalize G i j = x at *
 refine zdj env0_ok fn55 [(0, .int .i64 (i : Nat)), (1, .int .i64 (j : Nat)), (2, .vptr [.vptr (sqC K G)]), (3, .mptr 1 0 0)] (by show 4 ≤ 27; decide) rfl ?_
 unfold ic55
 refine zsr rfl (zad rfl rfl (za3 rfl (za3 rfl (zme rfl (zal rfl rfl rfl ?_)))))
 refine zea rfl rfl (decide_eq_true ⟨by omega, by omega, by rw [y1x, hsl]; omega⟩) rfl ?_
 refine zea rfl rfl (decide_eq_true ⟨by omega, by omega, by rw [y1x, y1x, hsl]; omega⟩) hg ?_
 refine zad rfl rfl ?_
 refine zao rfl rfl rfl (fun h1 => ?_) fun h1 => ?_
 ·have hx : x ≠ nnB := by unfold nnB; simpa using h1
  rw [hin hx] at p50
  repeat (first | refine zd1 rfl ?_ | refine za3 rfl ?_ | refine zad rfl rfl ?_ | refine zal rfl rfl rfl ?_ | refine zme rfl ?_)
  refine zea rfl rfl (decide_eq_true ⟨by omega, by omega, by rw [y1x, hsl]; omega⟩) rfl ?_
  refine zd1 rfl ?_
  refine zea rfl rfl (decide_eq_true ⟨by omega, by omega, by rw [y1x, y1x, hsl]; omega⟩) hg ?_
  refine zd1 rfl (zad rfl rfl (zd1 rfl ?_))
  refine zb4 rfl rfl p50 noC ?_
  refine zd1 rfl (o_un rfl rfl (zb3 rfl rfl (onu (zc3 rfl (zaf ?_)))))
  exact zam ⟨.inl rfl, _, rfl, hI.h0, hI.h1, hI.nx⟩
 ·repeat (first | refine za8 ?_ | refine za7 ?_ | refine zaf ?_ | refine zc3 rfl ?_ | refine zfd rfl rfl ?_ | refine za3 rfl ?_ | refine zaq rfl rfl ?_)
  exact zam ⟨.inl rfl, _, rfl, hI.h0, hI.h1, hI.nx⟩
set_option maxHeartbeats 2000000 in
set_option maxRecDepth 20000 in
theorem ztv {K : Nat} {G : Nat → Nat → Int} (k1 : 1 ≤ K) (hK : K ≤ 13) (hG : OkB G K) : PF Try.prog 32 [.vptr (sqC K G)] (.tup [cB ((K : Nat) - 1) (zc7 G K), .int .i64 0]) := by
 have p56 := bounds56 (G := G) k1 hK
 refine zb2 env0_ok fn32 [(0, .vptr (sqC K G))] (by show 1 ≤ 14; decide) rfl fun w0 N0 => ?_
 unfold ic32
 refine zsr rfl (zdg rfl rfl (zbj (za3 rfl (onr rfl (zbj ?_)))))
 refine zci (id := 2) rfl rfl rfl rfl (y0o 0) rfl ?_
 refine onu (za9 ?_)
 refine zbo [(some (1, 1), [.int .i64 0, .nils]), (some (2, 2), [.int .i64 0])] [(0, 0, [.vptr (sqC K G)])] [(1, .vptr [.vptr (sqC K G)]), (2, .mptr 0 0 0), (3, .int .i64 0), (4, .mptr 1 0 0)] rfl (.cons rfl rfl .nil) (.cons rfl (.keep rfl) (.cons rfl (.keep rfl) .nil)) (.cons rfl (.fptr rfl rfl) (.cons rfl (.mptr rfl) (.cons rfl (.same rfl) (.cons rfl (.mptr rfl) .nil)))) ?_
 refine za1 rfl ?_
 refine zad rfl rfl (zmd rfl rfl ?_)
 refine zp8 _ rfl rfl (zfz (zsl (G := G) hK LiI (fun i j H hi hj hI => zfz (test55 hK hG i j H hi hj hI)) (fun i H _ hI => ⟨hI.h0, hI.h1, hI.nx⟩) ⟨_, _, _⟩ ⟨rfl, rfl, by show 1 < 2; decide⟩)) (fun _ _ _ _ hm => absurd hm y0f) fun v H2 hF => ?_
 obtain ⟨f0, f1, fn⟩ := hF
 refine onu (za9 (zsr rfl ?_))
 refine zbp rfl f1 fn rfl ?_
 refine ze9 rfl rfl rfl (onu (zc3 rfl (zaf (za7 (zsr rfl (zad rfl rfl ?_))))))
 refine zb4 rfl rfl p56 noC ?_
 unfold cB
 refine zbq (vs := [.int .i64 ((K : Nat) - 1), cM (zc7 G K)]) rfl rfl rfl rfl f0 rfl rfl ?_
 refine za3 rfl (onu (zaz ?_))
 refine zam ⟨.inr rfl, .tup [.agg [.int .i64 ((K : Nat) - 1), cM (zc7 G K)], .int .i64 0], res_aggt (zif 2) (zg0 (sp := 0) (cs := [.int .i64 ((K : Nat) - 1), cM (zc7 G K)]) ?_ ?_ rfl) (zif 3), rfl⟩
 ·show Am.look 0 (zbb 0 _ H2.heap) = _
  rw [za4, if_pos rfl]
  rfl
 ·show 0 < H2.next
  omega
-- pneumatic/bounds.closed
def ic31 : IC := .seq (.region [oM 1 (.box (.t 0)),
  oM 2 (.mov (.c (.nilp))),
  oM 3 (.mov (.c (.nils)))] none)
 (.seq (.seq (.region [oL 6 2 1,
  oM 7 (.call (.c (.fn 51 [] [])) [(.t 6)]),
  oT 4 7] none)
 (.seq (.region [oT 8 4,
  oM 9 (.nilq true (.t 8))] none)
 (.cond (.t 9) (.seq (.region [oT 10 4,
  oM 2 (.mov (.c (.nilp))),
  oT 3 10] none)
 (.ret))
 (.skip))))
 (.seq (.region [oL 11 2 1,
  oM 12 (.call (.c (.fn 52 [] [])) [(.t 11)]),
  oT 5 12] none)
 (.seq (.region [oT 13 5,
  oM 14 (.call (.c (.fn 53 [] [])) [(.t 13)])] none)
 (.seq (.region [oT 15 5,
  oT 2 15,
  oM 3 (.mov (.c (.nils)))] none)
 (.ret)))))
theorem fn31 : env0.fn 31 = some ⟨16, ic31, [.t 2, .t 3]⟩ := by kernel_rfl
set_option maxHeartbeats 2000000 in
set_option maxRecDepth 20000 in
theorem closed31 {w0 : World} {N0 : Nat} {n : Nat} {D : Nat → Nat → Int} {Gs : Nat → Nat → Nat → Int} (hn : n ≤ 12) (hD : OkB D (n + 1)) (hp : PvO (n + 1) Gs) (hg : Gs 0 = ofG D (n + 1) (n + 1) 0) (B : HS) :
  FT Try.prog w0 N0 31 [cB (n : Nat) (zc7 D (n + 1))] B fun v H' => ∃ id s, v = .tup [.mptr id s 0, .nils] ∧ KpH B H' ∧ B.next ≤ id ∧ id < H'.next ∧ Am.look id H'.heap = some (s, .cells (sqC (n + 1) (Gs (n + 1)))) := by
 have p51 := zqm hn hD
 refine zdj env0_ok fn31 [(0, .agg [.int .i64 (n : Nat), cM (zc7 D (n + 1))])] (by show 1 ≤ 16; decide) rfl ?_
 unfold ic31
 refine zsr rfl (zdg rfl rfl (za3 rfl (za3 rfl (onu (za9 (zsr rfl ?_))))))
 refine zhb (sp := B.clk) (cs := [.int .i64 (n : Nat), cM (zc7 D (n + 1))]) rfl zai (y0o _) rfl rfl ?_
 refine zb4 rfl rfl p51 noC ?_
 refine za3 rfl (onr rfl (za3 rfl ?_))
 refine o_nil0 rfl ?_
 refine onu (zc3 rfl (zaf (za7 (zsr rfl ?_))))
 refine zhb (sp := B.clk) (cs := [.int .i64 (n : Nat), cM (zc7 D (n + 1))]) rfl zai (y0o _) rfl rfl ?_
 refine zp8 _ rfl rfl (zfz (of52 hn ⟨_, _, _⟩)) (fun _ _ _ _ hm => absurd hm y0f) fun v H2 hF => ?_
 obtain ⟨s, rfl, hk, hl, hx⟩ := hF
 have hx : B.next + 1 + 3 ≤ H2.next := hx
 have hl : Am.look (B.next + 1 + 1) H2.heap = _ := hl
 refine za3 rfl (onr rfl (za3 rfl ?_))
 refine zp8 _ rfl rfl (zfz (close53 (Gs := Gs) (by omega) hp ⟨_, _, _⟩ (by rw [hg]; exact hl) (by show B.next + 1 + 1 < H2.next; omega))) (fun _ _ _ _ hm => absurd hm y0f) fun v H3 hF => ?_
 obtain ⟨k3, l3, n3⟩ := hF
 have n3 : H2.next ≤ H3.next := n3
 have k1 : B.next + 1 ≤ H2.next := hk.1
 refine onr rfl (za3 rfl (za3 rfl (za3 rfl (onu (zaz ?_)))))
 refine zam ⟨.inr rfl, _, rfl, B.next + 1 + 1, s, rfl, ⟨by show B.next ≤ H3.next; omega, fun x hx2 => ?_⟩, by omega, by show B.next + 1 + 1 < H3.next; omega, l3⟩
 have e1 : Am.look x H3.heap = Am.look x H2.heap := k3 x (by show x < H2.next; omega) (fun e => by have e : x = B.next + 1 + 1 := e; omega)
 have e2 := hk.2 x (by show x < B.next + 1; omega)
 dsimp only at e2
 rw [za2, if_neg (by omega)] at e2
 exact e1.trans e2
-- pneumatic/bounds.Close
def ic10 : IC := .seq (.region [oM 1 (.box (.t 0)),
  oM 2 (.alloc [.int .i64 0, .nils]),
  oM 3 (.mov (.c (.nils))),
  oM 4 (.mov (.c (.bool false))),
  oM 5 (.mov (.c (.int .i64 0)))] none)
 (.seq (.seq (.region [oL 11 2 1,
  oM 12 (.call (.c (.fn 30 [] [])) [(.t 11)]),
  oT 6 12] none)
 (.seq (.region [oT 13 6,
  oM 14 (.bin .neq (.t 13) (.c (.int .i64 0)))] none)
 (.cond (.t 14) (.seq (.region [oM 15 (.build [.int .i64 0, .nils] []),
  oT 16 6,
  ⟨none, .store 2 (.t 2) (.t 15), none⟩,
  oM 3 (.mov (.c (.nils))),
  oM 4 (.mov (.c (.bool false))),
  oT 5 16] none)
 (.ret))
 (.skip))))
 (.seq (.region [oL 18 2 1,
  oM 19 (.call (.c (.fn 31 [] [])) [(.t 18)]),
  oT 17 19,
  oM 20 (.extract (.t 17) 0),
  oM 21 (.extract (.t 17) 1),
  oT 7 20,
  oT 8 21] none)
 (.seq (.seq (.region [oT 22 7,
  oM 23 (.peq false (.t 22) (.c (.nilp)))] none)
 (.cond (.t 23) (.seq (.region [oM 24 (.build [.int .i64 0, .nils] []),
  oT 25 8,
  ⟨none, .store 2 (.t 2) (.t 24), none⟩,
  oT 3 25,
  oM 4 (.mov (.c (.bool false))),
  oM 5 (.mov (.c (.int .i64 0)))] none)
 (.ret))
 (.skip)))
 (.seq (.region [oT 27 7,
  oM 28 (.call (.c (.fn 32 [] [])) [(.t 27)]),
  oT 26 28,
  oM 29 (.extract (.t 26) 0),
  oM 30 (.extract (.t 26) 1),
  oM 9 (.alloc [.int .i64 0, .nils]),
  ⟨none, .store 2 (.t 9) (.t 29), none⟩,
  oT 10 30] none)
 (.seq (.region [oL 31 2 9,
  oT 32 10,
  oM 33 (.bin .eql (.t 32) (.c (.int .i64 0))),
  oT 34 10,
  ⟨none, .store 2 (.t 2) (.t 31), none⟩,
  oM 3 (.mov (.c (.nils))),
  oT 4 33,
  oT 5 34] none)
 (.ret))))))
theorem fn10 : env0.fn 10 = some ⟨35, ic10, [.cell 2 (some 2), .t 3, .t 4, .t 5]⟩ := by kernel_rfl
theorem sq_hasM (k : Nat) (G : Nat → Nat → Int) : hasM.hasML (sqC k G) = false := by
 have h : ∀ l : List Nat, hasM.hasML (l.map fun p => AV.int .i64 (G (p / 13) (p % 13))) = false := by
  intro l
  induction l with
  | nil => rfl
  | cons x l ih =>
   rw [y16]
   show (hasM (AV.int .i64 _) || hasM.hasML _) = false
   rw [ih]
   rfl
 unfold sqC
 show (hasM (AV.int .i64 _) || hasM.hasML _) = false
 rw [h]
 rfl
theorem fzl_one (id s : Nat) (cs : List AV) : fzl id s [(id, s, cs)] = some cs := by
 rw [fzl, y23, y23]
 rfl
theorem o_peqn {P : Program} {w0 : World} {N0 n nx ck d id sp off : Nat} {mk : List (Nat × Nat)} {md : Md} {pf : Kn} {ios : List Opr} {k : List Fr} {Q : Exit → AS → Prop} {l : List (Nat × AV)} {hp : List (Nat × Nat × AObj)} {x : Arg} (hx : zb0 x l = some (.mptr id sp off))
  (go : Om P w0 N0 md pf ios (st n ((d, .bool false) :: l) hp nx ck mk) k Q) (hxo : Ops pf (st n l hp nx ck mk) (.peq false x (.c .nilp)) := by exact trivial) :
  Om P w0 N0 md pf (⟨some d, .peq false x (.c .nilp), none⟩ :: ios) (st n l hp nx ck mk) k Q :=
 zel (by simp only [iop, zar, hx]; rfl) go hxo
set_option maxHeartbeats 2000000 in
set_option maxRecDepth 20000 in
theorem close10 {n : Nat} {D : Nat → Nat → Int} {Gs : Nat → Nat → Nat → Int} (hn : n ≤ 12) (hD : OkB D (n + 1)) (hp : PvO (n + 1) Gs) (hg : Gs 0 = ofG D (n + 1) (n + 1) 0) (hD2 : OkB (Gs (n + 1)) (n + 1)) :
  PF Try.prog 10 [cB (n : Nat) (zc7 D (n + 1))] (.tup [cB (n : Nat) (zc7 (Gs (n + 1)) (n + 1)), .vs [], .bool true, .int .i64 0]) := by
 have p30 := check30 hn hD
 have p32 := ztv (by omega) (by omega) hD2
 rw [show (((n + 1 : Nat) : Int) - 1) = (n : Nat) by omega] at p32
 refine zb2 env0_ok fn10 [(0, .agg [.int .i64 (n : Nat), cM (zc7 D (n + 1))])] (by show 1 ≤ 35; decide) rfl fun w0 N0 => ?_
 unfold ic10
 refine zsr rfl (zdg rfl rfl (zbj (za3 rfl (za3 rfl (za3 rfl (onu (za9 (zsr rfl (zb8 rfl rfl rfl rfl ?_)))))))))
 refine zb4 rfl rfl p30 noC ?_
 refine za3 rfl (onr rfl (za3 rfl (ze9 rfl rfl rfl (onu (zc3 rfl (zaf (za7 (zsr rfl ?_))))))))
 refine zb8 rfl rfl rfl rfl ?_
 refine zp8 _ rfl rfl (zfz (closed31 hn hD hp hg ⟨_, _, _⟩)) (fun _ _ _ _ hm => absurd hm y0f) fun v H2 hF => ?_
 obtain ⟨id, s, rfl, hk, h2, h3, hl⟩ := hF
 have h2 : 2 ≤ id := h2
 have k1 := hk.2 1 (by show 1 < 2; decide)
 refine za3 rfl (zcf rfl rfl (zcf rfl rfl (za3 rfl (za3 rfl (onu (za9 (zsr rfl (za3 rfl ?_))))))))
 refine o_peqn rfl ?_
 refine onu (zc3 rfl (zaf (za7 (za9 ?_))))
 generalize Gs (n + 1) = G at hl p32
 refine zbo [(some (1, 1), [.int .i64 0, .nils])] [(id, s, sqC (n + 1) G)] [(2, .mptr 0 0 0), (7, .vptr (sqC (n + 1) G))] ?_ (.cons hl (sq_hasM _ _) .nil) (.cons (k1.trans rfl) (.keep rfl) .nil)
  (.cons rfl (.mptr rfl) (.cons rfl (.fptr (fzl_one id s _) rfl) .nil)) ?_
 ·show (!memN 1 [id] && true) = true
  rw [zce (by omega) rfl]
  rfl
 refine za1 rfl ?_
 refine za3 rfl ?_
 refine zb4 rfl rfl p32 noC ?_
 unfold cB
 repeat (first | refine za9 ?_ | refine za1 rfl ?_ | refine za8 ?_ | refine za7 ?_ | refine zaz ?_ | refine za3 rfl ?_ | refine zb8 rfl rfl rfl rfl ?_ | refine zbq rfl rfl rfl rfl rfl rfl rfl ?_ | refine zbj ?_ | refine zcf rfl rfl ?_ | refine zmc rfl rfl rfl ?_)
 exact zam ⟨.inr rfl, _, rfl, rfl⟩
def clK (K : Nat) (G : Nat → Nat → Int) : Nat → Nat → Nat → Int
 | 0 => G
 | k + 1 => clG (clK K G k) K k K 0
theorem zib {k : Nat} {F G : Nat → Nat → Int} {a b : Nat} (h1 : F a k = G a k) (h2 : F k b = G k b) (h3 : F a b = G a b) : fwP k F a b = fwP k G a b := by
 unfold fwP
 rw [h1, h2, h3]
theorem clK_fw {K : Nat} {G D : Nat → Nat → Int} (h : ∀ a b, a < K → b < K → G a b = D a b) : ∀ k, k ≤ K → ∀ a b, a < K → b < K → clK K G k a b = fwK D k a b
 | 0, _, a, b, ha, hb => h a b ha hb
 | k + 1, hk, a, b, ha, hb => by
  have ih := clK_fw h k (by omega)
  show clG (clK K G k) K k K 0 a b = fwP k (fwK D k) a b
  unfold clG
  rw [if_pos (.inl ⟨ha, hb⟩)]
  exact zib (ih a k ha (by omega)) (ih k b (by omega) hb) (ih a b ha hb)
theorem of_full {D : Nat → Nat → Int} {K a b : Nat} (ha : a < K) (hb : b < K) : ofG D K K 0 a b = D a b := by
 unfold ofG
 rw [if_pos (.inl ⟨ha, hb⟩)]
theorem zl0 {k : Nat} (h : k ≤ 13) : ((2 ^ k : Nat) : Int) ≤ 8192 := by
 have : (2 : Nat) ^ k ≤ 2 ^ 13 := Nat.pow_le_pow_right (by decide) h
 omega
section
variable {E : List (Nat × Nat)} {m : Nat} {D : Nat → Nat → Int} (hD : BndE E m D) (hm : m ≤ 12)
include hD hm
theorem bnd_ok : OkB D (m + 1) := by
 have _ := hm
 refine ⟨fun i j hi hj => ?_, hD.dia⟩
 rcases hD.val hi hj with ⟨_, e⟩ | ⟨_, _, e⟩ | ⟨_, _, e⟩
 ·exact .inr (by omega)
 ·exact .inr (by omega)
 ·exact .inl e
theorem zjc {k : Nat} (hk : k ≤ m + 1) : FwI (shE E) (m + 1) k (fwK D k) := by
 have _ := hm
 exact hD.start.all k hk
theorem zep {k a b : Nat} (hk : k ≤ m + 1) (ha : a < m + 1) (hb : b < m + 1) : clK (m + 1) (ofG D (m + 1) (m + 1) 0) k a b = fwK D k a b := by
 have _ := hm
 have _ := hD
 exact clK_fw (fun _ _ => of_full) k hk a b ha hb
theorem bnd_pv : PvO (m + 1) (clK (m + 1) (ofG D (m + 1) (m + 1) 0)) := by
 refine ⟨fun k b hk hb => ?_, fun k a hk ha => ?_, fun k a b hk ha hb => ?_, fun _ _ => rfl⟩
 ·have h := (zjc hD hm (k := k) (by omega)).row hk hb
  rw [zep hD hm (by omega) hk hb]
  exact (zib (zep hD hm (by omega) hk hk) (zep hD hm (by omega) hk hb) (zep hD hm (by omega) hk hb)).trans h
 ·have h := (zjc hD hm (k := k) (by omega)).col hk ha
  rw [zep hD hm (by omega) ha hk]
  exact (zib (zep hD hm (by omega) ha hk) (zep hD hm (by omega) hk hk) (zep hD hm (by omega) ha hk)).trans h
 ·rw [zep hD hm (by omega) ha hb]
  have p := zl0 (k := k) (by omega)
  rcases (zjc hD hm (k := k) (by omega)).rng a b ha hb with e | ⟨e1, e2⟩
  ·exact .inl e
  ·exact .inr ⟨e1, by omega⟩
theorem bnd_end : OkB (clK (m + 1) (ofG D (m + 1) (m + 1) 0) (m + 1)) (m + 1) := by
 have h := zjc hD hm (k := m + 1) (y0c _)
 refine ⟨fun i j hi hj => ?_, fun i hi => ?_⟩
 ·rw [zep hD hm (y0c _) hi hj]
  have p := zl0 (k := m + 1) (by omega)
  rcases h.rng i j hi hj with e | ⟨e1, e2⟩
  ·exact .inl e
  ·exact .inr ⟨e1, by omega⟩
 ·rw [zep hD hm (y0c _) hi hi]
  exact h.dia i hi
theorem zry : PF Try.prog 10 [cB (m : Nat) (zc7 D (m + 1))] (.tup [cB (m : Nat) (zc7 (fwK D (m + 1)) (m + 1)), .vs [], .bool true, .int .i64 0]) := by
 have h := close10 hm (bnd_ok hD hm) (bnd_pv hD hm) rfl (bnd_end hD hm)
 have e : zc7 (clK (m + 1) (ofG D (m + 1) (m + 1) 0) (m + 1)) (m + 1) = zc7 (fwK D (m + 1)) (m + 1) := by
  unfold zc7 zd2
  refine y1n fun i hi => y1n fun j hj => ?_
  exact zep hD hm (y0c _) (y0j.1 hi) (y0j.1 hj)
 rwa [e] at h
theorem zrx : PF Try.prog 12 [cB (m : Nat) (zc7 (fwK D (m + 1)) (m + 1))] (.int .i64 0) := by
 refine check12 hm ⟨fun i j hi hj => ?_, fun i hi => (zjc hD hm (y0c _)).dia i hi⟩
 have p := zl0 (k := m + 1) (by omega)
 rcases (zjc hD hm (k := m + 1) (y0c _)).rng i j hi hj with e | ⟨e1, e2⟩
 ·exact .inl e
 ·exact .inr ⟨e1, by omega⟩
end
-- pneumatic/pneumaticref11.Less
def ic49 : IC := .seq (.region [oM 4 (.mov (.c (.bool false)))] none)
 (.seq (.region [oT 5 0,
  oM 6 (.bin .neq (.t 5) (.c (.int .i64 (-1099511627776)))),
  oT 7 6,
  ⟨(some 8), .mov (.t 1), some (7, true)⟩,
  ⟨(some 9), .bin .eql (.t 8) (.c (.int .i64 (-1099511627776))), some (7, true)⟩,
  ⟨(some 10), .mov (.t 9), some (7, true)⟩,
  ⟨(some 11), .mov (.t 0), some (10, false)⟩,
  ⟨(some 12), .mov (.t 1), some (10, false)⟩,
  ⟨(some 13), .bin .lss (.t 11) (.t 12), some (10, false)⟩,
  ⟨(some 14), .pick (.t 10) (.c (.bool true)) (.t 13), some (7, true)⟩,
  oM 15 (.pick (.t 7) (.t 14) (.c (.bool false))),
  oT 4 15] none)
 (.ret))
theorem fn49 : env0.fn 49 = some ⟨16, ic49, [.t 4]⟩ := by kernel_rfl
def lssB (a b : Int) : Bool := a != nnB && (b == nnB || decide (a < b))
theorem less49 (a b : Int) : PF Try.prog 49 [.int .i64 a, .int .i64 b] (.bool (lssB a b)) := by
 refine zb2 env0_ok fn49 [(0, .int .i64 a), (1, .int .i64 b)] (by show 2 ≤ 16; decide) rfl fun w0 N0 => ?_
 unfold ic49 lssB nnB
 refine zsr rfl (za3 rfl (onr rfl (za3 rfl ?_)))
 refine zao rfl rfl rfl (fun h1 => ?_) fun h1 => ?_
 all_goals
  rw [h1]
  repeat (first | refine za8 ?_ | refine za7 ?_ | refine zaz ?_ | refine zd1 rfl ?_ | refine zfd rfl rfl ?_ | refine o_gt rfl ?_ | refine za3 rfl ?_ | refine zaq rfl rfl ?_)
 ·refine zao rfl rfl rfl (fun h2 => ?_) fun h2 => ?_
  all_goals
   rw [h2]
   repeat (first | refine za8 ?_ | refine za7 ?_ | refine zaz ?_ | refine zd1 rfl ?_ | refine zfd rfl rfl ?_ | refine za3 rfl ?_ | refine zb3 rfl rfl ?_)
  ·exact zam ⟨.inr rfl, _, rfl, rfl⟩
  ·refine zao rfl rfl rfl (fun h3 => ?_) fun h3 => ?_
   all_goals
    rw [h3]
    refine zd1 rfl (zaq rfl rfl (zb3 rfl rfl (za3 rfl (onu (zaz ?_)))))
    exact zam ⟨.inr rfl, _, rfl, rfl⟩
 ·exact zam ⟨.inr rfl, _, rfl, rfl⟩
-- pneumatic/pneumaticref11.lesser
def ic29 : IC := .seq (.region [oM 4 (.mov (.c (.int .i64 0)))] none)
 (.seq (.seq (.region [oT 5 0,
  oT 6 1,
  oM 7 (.call (.c (.fn 49 [] [])) [(.t 5), (.t 6)])] none)
 (.cond (.t 7) (.seq (.region [oT 8 0,
  oT 4 8] none)
 (.ret))
 (.skip)))
 (.seq (.region [oT 9 1,
  oT 4 9] none)
 (.ret)))
theorem fn29 : env0.fn 29 = some ⟨10, ic29, [.t 4]⟩ := by kernel_rfl
def lesV (a b : Int) : Int := if lssB a b = true then a else b
theorem lesser29 (a b : Int) : PF Try.prog 29 [.int .i64 a, .int .i64 b] (.int .i64 (lesV a b)) := by
 have p49 := less49 a b
 refine zb2 env0_ok fn29 [(0, .int .i64 a), (1, .int .i64 b)] (by show 2 ≤ 10; decide) rfl fun w0 N0 => ?_
 unfold ic29 lesV
 refine zsr rfl (za3 rfl (onu (za9 (zsr rfl (za3 rfl (za3 rfl ?_))))))
 refine zb4 rfl rfl p49 noC ?_
 cases lssB a b with
 | true =>
  refine onu (zd8 rfl (zsr rfl (za3 rfl (za3 rfl (onu (zaz (zav ?_)))))))
  exact zam ⟨.inr rfl, _, rfl, rfl⟩
 | false =>
  refine onu (zc3 rfl (zaf (za7 (zsr rfl (za3 rfl (za3 rfl (onu (zaz ?_))))))))
  exact zam ⟨.inr rfl, _, rfl, rfl⟩
def b28_0 : IC := .seq (.seq (.region [oT 8 4,
  oF 9 1 1,
  oN 10 9,
  oM 11 (.len false (.t 10)),
  oM 12 (.bin .lss (.t 8) (.t 11))] none)
 (.cond (.t 12) (.skip)
 (.exit 0)))
 (.seq (.block 1 (.region [oF 15 1 3,
  oN 16 15,
  oM 17 (.bslice 1 0 [] []),
  oF 18 1 1,
  oN 19 18,
  oT 20 4,
  oM 21 (.idxs 1 (.t 19) (.t 20)),
  oN 22 21,
  oM 23 (.append 1 8 [.int .i64 0] (.t 17) (.t 22)),
  oM 24 (.bslice 1 1 [.nils] [(0, 1, (.t 23))]),
  oM 25 (.append 1 24 [.nils] (.t 16) (.t 24)),
  oF 26 1 3,
  ⟨none, .store 1 (.t 26) (.t 25), none⟩] (some [[], [0], [], [], [3], [], [4, 5], [6], [2, 7], [8], [1, 9, 8], [0, 1, 2, 3, 4, 5, 6, 7, 8, 9, 10], [11, 10, 10, 0, 1, 2, 3, 4, 5, 6, 7, 8, 9, 10]])))
 (.region [oT 13 4,
  oM 14 (.bin .add (.t 13) (.c (.int .i64 1))),
  oT 4 14] none))
-- pneumatic/pneumaticref11.copied
def ic28 : IC := .seq (.region [oM 1 (.box (.t 0)),
  oM 2 (.alloc [.int .i64 0, .nils])] none)
 (.seq (.region [oF 5 0 1,
  oN 6 5,
  oM 7 (.build [.int .i64 0, .nils] [(0, 1, (.t 6))]),
  oM 3 (.alloc [.int .i64 0, .nils]),
  ⟨none, .store 2 (.t 3) (.t 7), none⟩] none)
 (.seq (.seq (.region [oM 4 (.mov (.c (.int .i64 0)))] none)
 (.block 0 (.loop b28_0)))
 (.seq (.region [oL 27 2 3,
  ⟨none, .store 2 (.t 2) (.t 27), none⟩] none)
 (.ret))))
theorem fn28 : env0.fn 28 = some ⟨28, ic28, [.cell 2 (some 2)]⟩ := by kernel_rfl
structure CpR (lo : Nat) (D : Nat → Nat → Int) (K i q s : Nat) (ids sps : Nat → Nat) (hp : List (Nat × Nat × AObj)) (nx : Nat) : Prop where
 top : Am.look q hp = some (s, .cells ((List.range i).map fun v => .ms (ids v) (sps v) 1 0 K none))
 cell : ∀ v, v < i → Am.look (ids v) hp = some (sps v, .cells ((zd2 D K v).map (AV.int .i64)))
 tpos : lo ≤ q ∧ q < nx
 pos : ∀ v, v < i → lo ≤ ids v ∧ ids v < nx ∧ ids v ≠ q
 inj : ∀ u v, u < i → v < i → ids u = ids v → u = v
section
variable {lo : Nat} {D : Nat → Nat → Int} {K i q s : Nat} {ids sps : Nat → Nat} {hp : List (Nat × Nat × AObj)} {nx : Nat}
theorem CpR.fresh (h : CpR lo D K i q s ids sps hp nx) (ck : Nat) (o : AObj) : CpR lo D K i q s ids sps ((nx, ck, o) :: hp) (nx + 1) :=
 ⟨by rw [za2, if_neg (by have := h.tpos; omega)]; exact h.top, fun v hv => by rw [za2, if_neg (by have := h.pos v hv; omega)]; exact h.cell v hv, by have := h.tpos; omega, fun v hv => by have := h.pos v hv; omega, h.inj⟩
theorem CpR.other (h : CpR lo D K i q s ids sps hp nx) {j : Nat} (hj : j < lo) (x : Nat × AObj) : CpR lo D K i q s ids sps (zbb j x hp) nx :=
 ⟨by rw [za4, if_neg (by have := h.tpos; omega)]; exact h.top, fun v hv => by rw [za4, if_neg (by have := h.pos v hv; omega)]; exact h.cell v hv, h.tpos, h.pos, h.inj⟩
theorem zuh {α : Type} (f : Nat → Nat → α) (ids sps : Nat → Nat) (i x y : Nat) : (List.range (i + 1)).map (fun v => f (upd ids i x v) (upd sps i y v)) = (List.range i).map (fun v => f (ids v) (sps v)) ++ [f x y] := by
 rw [List.range_succ, y27, List.map_singleton, zac, zac]
 congr 1
 refine y1n fun v hv => ?_
 have := y0j.1 hv
 rw [za6 _ _ (by omega), za6 _ _ (by omega)]
theorem CpR.add (h : CpR lo D K i q s ids sps hp nx) {x y : Nat} (hx : Am.look x hp = some (y, .cells ((zd2 D K i).map (AV.int .i64)))) (h1 : lo ≤ x ∧ x < nx ∧ x ≠ q) (h2 : ∀ v, v < i → ids v ≠ x) (s' : Nat) :
  CpR lo D K (i + 1) q s' (upd ids i x) (upd sps i y) (zbb q (s', .cells ((List.range i).map (fun v => AV.ms (ids v) (sps v) 1 0 K none) ++ [.ms x y 1 0 K none])) hp) nx := by
 refine ⟨by rw [za4, if_pos rfl, zuh fun a b => AV.ms a b 1 0 K none], fun v hv => ?_, h.tpos, fun v hv => ?_, fun u v hu hv e => ?_⟩
 ·rw [za4]
  by_cases e : v = i
  ·subst e
   rw [zac, zac, if_neg (fun e => h1.2.2 e.symm)]
   exact hx
  ·have := h.pos v (by omega)
   rw [za6 _ _ e, za6 _ _ e, if_neg (by omega)]
   exact h.cell v (by omega)
 ·by_cases e : v = i
  ·subst e
   rw [zac]
   exact h1
  ·rw [za6 _ _ e]
   exact h.pos v (by omega)
 ·by_cases e1 : u = i
  ·by_cases e2 : v = i
   ·rw [e1, e2]
   ·subst e1
    rw [zac, za6 _ _ e2] at e
    exact absurd e.symm (h2 v (by omega))
  ·by_cases e2 : v = i
   ·subst e2
    rw [zac, za6 _ _ e1] at e
    exact absurd e (h2 u (by omega))
   ·rw [za6 _ _ e1, za6 _ _ e2] at e
    exact h.inj u v (by omega) (by omega) e
theorem CpR.start {x y : Nat} (hx : Am.look x hp = some (y, .cells ((zd2 D K 0).map (AV.int .i64)))) (hq : Am.look q hp = some (s, .cells [.ms x y 1 0 K none])) (h1 : lo ≤ x ∧ x < nx ∧ x ≠ q) (h2 : lo ≤ q ∧ q < nx) : CpR lo D K 1 q s (fun _ => x) (fun _ => y) hp nx :=
 ⟨hq, fun v hv => (show v = 0 by omega) ▸ hx, h2, fun _ _ => h1, fun u v hu hv _ => by omega⟩
end
structure CpI (B : HS) (s1 s2 s3 n : Nat) (D : Nat → Nat → Int) (i : Nat) (H : HS) : Prop where
 kp : ∀ j, j < B.next → Am.look j H.heap = Am.look j B.heap
 h1 : Am.look B.next H.heap = some (s1, .cells [.int .i64 (n : Nat), cM (zc7 D (n + 1))])
 h2 : Am.look (B.next + 1) H.heap = some (s2, .cells [.int .i64 0, .nils])
 nx : B.next + 3 ≤ H.next
 ok : (i = 0 ∧ Am.look (B.next + 2) H.heap = some (s3, .cells [.int .i64 (n : Nat), .nils])) ∨ ∃ q s ids sps, Am.look (B.next + 2) H.heap = some (s3, .cells [.int .i64 (n : Nat), .ms q s 1 0 i none]) ∧ CpR (B.next + 3) D (n + 1) i q s ids sps H.heap H.next
set_option maxHeartbeats 4000000 in
set_option maxRecDepth 20000 in
theorem copied28 {w0 : World} {N0 : Nat} {n : Nat} {D : Nat → Nat → Int} (hn : n ≤ 12) (B : HS) :
  FT Try.prog w0 N0 28 [cB (n : Nat) (zc7 D (n + 1))] B fun v H' => ∃ q s ids sps, v = .agg [.int .i64 (n : Nat), .ms q s 1 0 (n + 1) none] ∧ KpH B H' ∧ CpR B.next D (n + 1) (n + 1) q s ids sps H'.heap H'.next := by
 have hml := zej D (n + 1)
 refine zdj env0_ok fn28 [(0, .agg [.int .i64 (n : Nat), cM (zc7 D (n + 1))])] (by show 1 ≤ 28; decide) rfl ?_
 unfold ic28
 refine zsr rfl (zdg rfl rfl (zbj (onr rfl (zae rfl ?_))))
 refine zbp (sp := B.clk) (cs := [.int .i64 (n : Nat), cM (zc7 D (n + 1))]) rfl (by rw [za2, if_neg (by omega)]; exact zai) (by omega) rfl ?_
 refine zfl rfl rfl (zbj ?_)
 refine zbq (vs := [.int .i64 (n : Nat), .nils]) rfl rfl rfl rfl zai rfl rfl ?_
 rw [zhe]
 refine onu (za9 (zsr rfl (za3 rfl (onu (zah ?_)))))
 refine zbn (fun mm S => ∃ i H, mm = n + 1 - i ∧ i ≤ n + 1 ∧ CpI B B.clk (B.clk + 1) (B.clk + 1 + 1) n D i H ∧ S = st 28 [(1, .mptr B.next B.clk 0), (2, .mptr (B.next + 1) (B.clk + 1) 0), (3, .mptr (B.next + 1 + 1) (B.clk + 1 + 1) 0), (4, .int .i64 (i : Nat))] H.heap H.next H.clk) (n + 1)
  (zaa (.cons rfl (.cons rfl (.cons rfl (.cons rfl .nil))))) ⟨0, ⟨_, _, _⟩, rfl, y19 _, ⟨fun j hj => ?_, ?_, ?_, y0c _, .inl ⟨rfl, ?_⟩⟩, rfl⟩ ?_
 ·dsimp only
  rw [za2, if_neg (by omega), za2, if_neg (by omega), za2, if_neg (by omega)]
 ·dsimp only
  rw [za2, if_neg (by omega), za2, if_neg (by omega)]
  exact zai
 ·dsimp only
  rw [za2, if_neg (by omega)]
  exact zai
 ·exact zai
 rintro mm S ⟨i, ⟨hp, nx, ck⟩, rfl, hi, hI, rfl⟩
 have hnx : B.next + 3 ≤ nx := hI.nx
 have hI1 : Am.look B.next hp = _ := hI.h1
 have hI2 : Am.look (B.next + 1) hp = _ := hI.h2
 have hkp : ∀ j, j < B.next → Am.look j hp = Am.look j B.heap := hI.kp
 have hok : (i = 0 ∧ Am.look (B.next + 2) hp = _) ∨ ∃ q s ids sps, Am.look (B.next + 2) hp = _ ∧ CpR (B.next + 3) D (n + 1) i q s ids sps hp nx := hI.ok
 clear hI
 dsimp only
 unfold b28_0
 refine za9 (zsr rfl (za3 rfl (zae rfl ?_)))
 refine zbp (sp := B.clk) (cs := [.int .i64 (n : Nat), cM (zc7 D (n + 1))]) rfl hI1 (by omega) rfl ?_
 unfold cM
 refine zcr rfl rfl ?_
 rw [hml]
 refine zao rfl rfl rfl (fun h1 => ?_) fun h1 => ?_
 ·have hlt : i < n + 1 := y18.1 (of_decide_eq_true h1)
  have hge := zex (D := D) hlt
  have hrl := zdy D (n + 1) i
  refine onu (zd8 rfl (zaf (za7 (za9 (zah ?_)))))
  have ez : ∀ o : Nat, 0 + ((o : Nat) : Int).toNat * 1 = o := fun o => by simp
  have hld : ∀ x : Nat, (x = B.next ∨ x = B.next + 2) → (fun i => Nat.beq i B.next || Nat.beq i (B.next + 2)) x = true := fun x hx => by
   show (Nat.beq x B.next || Nat.beq x (B.next + 2)) = true
   rcases hx with rfl | rfl
   ·rw [y23, Bool.true_or]
   ·rw [y23, Bool.or_true]
  have hsd : ∀ x : Nat, B.next + 3 ≤ x → (fun i => !(Nat.beq i B.next || Nat.beq i (B.next + 2))) x = true := fun x hx => by
   have b1 : Nat.beq x B.next = false := by
    cases hb : Nat.beq x B.next with
    | false => rfl
    | true => have := y0m hb; omega
   have b2 : Nat.beq x (B.next + 2) = false := by
    cases hb : Nat.beq x (B.next + 2) with
    | false => rfl
    | true => have := y0m hb; omega
   show (!(Nat.beq x B.next || Nat.beq x (B.next + 2))) = true
   rw [b1, b2]
   rfl
  refine z_cut env0_ok 11 [] (fun x hx => by cases hx) (fun _ => false) (fun i => Nat.beq i B.next || Nat.beq i (B.next + 2)) (fun i => !(Nat.beq i B.next || Nat.beq i (B.next + 2))) (fun i h1 h2 => by rw [h1] at h2; cases h2) rfl rfl rfl rfl ?_
  show Om _ _ _ _ _ [_, _, _, _, _, _, _, _, _, _, _] _ _ _
  have hfl := zh8 (zd2 D (n + 1) i)
  have hce : ((zd2 D (n + 1) i).map fun z => ([.int .i64 z] : List AV)).flatten.all AV.isCell = true := by
   rw [← hfl]
   exact y0b.2 fun x hx => by obtain ⟨z, _, rfl⟩ := y0k.1 hx; rfl
  have hes : ∀ (l : List (Nat × AV)) (hp : List (Nat × Nat × AObj)) (nx ck : Nat), (st 28 l hp nx ck []).elems 1 (.vs ((zd2 D (n + 1) i).map fun z => ([.int .i64 z] : List AV))) = some ((zd2 D (n + 1) i).map fun z => ([.int .i64 z] : List AV)) := fun l hp nx ck => elems_vs fun x hx => by obtain ⟨z, _, rfl⟩ := y0k.1 hx; rfl
  rcases hok with ⟨rfl, h3⟩ | ⟨q, s, ids, sps, h3, hC⟩
  ·refine zae rfl ?_
   refine zas (id := B.next + 2) (sp := B.clk + 1 + 1) (off := 0 + 1) rfl h3 (by omega) rfl ?_ (zlf rfl (hld _ (.inr rfl)))
   refine zc1 rfl rfl ?_ rfl
   refine zae rfl ?_
   refine zas (id := B.next) (sp := B.clk) (off := 0 + 1) rfl (by rw [za2, if_neg (by omega)]; exact hI1) (by omega) rfl ?_ (zlf rfl (hld _ (.inl rfl)))
   refine za3 rfl ?_
   unfold cM
   refine zba rfl rfl (y15 _) hge rfl ?_
   refine zad rfl rfl ?_ (vpOk rfl)
   refine zgz _ rfl rfl (hes _ _ _ _) (by rw [hrl]; omega) hce (by decide) zai (by rw [hrl]; omega) ?_ (apOk rfl (hsd _ hnx))
   rw [hrl, ← hfl]
   refine zc1 rfl rfl ?_ rfl
   refine zkw (v := .ms (nx + 1 + 1 + 1) (ck + 1 + 1 + 1) 1 0 1 none) (hp' := (nx + 1 + 1 + 1, ck + 1 + 1 + 1, .cells [.ms (nx + 1) (ck + 1) 1 0 (n + 1) none]) :: (nx + 1 + 1, ck + 1 + 1, .cells [.ms (nx + 1) (ck + 1) 1 0 (n + 1) none]) :: (nx + 1, ck + 1, .cells ((zd2 D (n + 1) 0).map (AV.int .i64))) :: (nx, ck, .cells []) :: hp) (nx' := nx + 1 + 1 + 1 + 1) (ck' := ck + 1 + 1 + 1 + 1) rfl rfl (zd3 (xs := [[.ms (nx + 1) (ck + 1) 1 0 (n + 1) none]]) (ys := []) zai rfl fun x hx => by obtain rfl := y0h.1 hx; rfl) rfl ?_ (znx rfl)
   refine za8 (zam ⟨rfl, fun rd => ?_⟩)
   refine AnyF.one 11 rfl (zdd (i := 11) rfl rfl (zkd rfl) ?_)
   refine AnyF.one 12 rfl (zgv (i := 12) rfl (zeh (id := B.next + 1 + 1) (sp := B.clk + 1 + 1) (off := 0 + 1) rfl rfl rfl rfl (by rw [za2, if_neg (by omega), za2, if_neg (by omega), za2, if_neg (by omega), za2, if_neg (by omega)]; exact h3) rfl rfl) ?_)
   refine AnyF.fin rfl (Um.ok (zbm (za7 ?_)))
   refine za1 rfl (za3 rfl (zb5 (op := .add) rfl rfl rfl (za3 rfl (za8 ?_))))
   generalize hg : zbb (B.next + 1 + 1) _ _ = hp2
   refine zat (show n + 1 - (0 + 1) < n + 1 - 0 by omega) (zaa (.cons rfl (.cons rfl (.cons rfl (.cons rfl .nil))))) ⟨0 + 1, ⟨_, _, _⟩, rfl, hlt, ⟨fun j hj => ?_, ?_, ?_, ?_, .inr ⟨nx + 1 + 1 + 1, ck + 1 + 1 + 1, fun _ => nx + 1, fun _ => ck + 1, ?_, hg ▸ CpR.other (CpR.start ?_ zai ?_ ?_) (by omega) _⟩⟩, rfl⟩
   ·show Am.look _ hp2 = _
    rw [← hg, za4, if_neg (by omega), za2, if_neg (by omega), za2, if_neg (by omega), za2, if_neg (by omega), za2, if_neg (by omega)]
    exact hkp j hj
   ·show Am.look _ hp2 = _
    rw [← hg, za4, if_neg (by omega), za2, if_neg (by omega), za2, if_neg (by omega), za2, if_neg (by omega), za2, if_neg (by omega)]
    exact hI1
   ·show Am.look _ hp2 = _
    rw [← hg, za4, if_neg (by omega), za2, if_neg (by omega), za2, if_neg (by omega), za2, if_neg (by omega), za2, if_neg (by omega)]
    exact hI2
   ·dsimp only
    omega
   ·show Am.look _ hp2 = _
    rw [← hg, za4, if_pos rfl]
    rfl
   ·rw [za2, if_neg (by omega), za2, if_neg (by omega)]
    exact zai
   ·dsimp only
    omega
   ·dsimp only
    omega
  ·have hrl2 : ((List.range i).map fun v => AV.ms (ids v) (sps v) 1 0 (n + 1) none).length = i := by rw [y0e, y12]
   have hC3 := ((hC.fresh ck (.cells [])).fresh (ck + 1) (.cells ((zd2 D (n + 1) i).map (AV.int .i64)))).fresh (ck + 1 + 1) (.cells [.ms (nx + 1) (ck + 1) 1 0 (n + 1) none])
   have hqp := hC.tpos
   refine zae rfl ?_
   refine zas (id := B.next + 2) (sp := B.clk + 1 + 1) (off := 0 + 1) rfl h3 (by omega) rfl ?_ (zlf rfl (hld _ (.inr rfl)))
   refine zc1 rfl rfl ?_ rfl
   refine zae rfl ?_
   refine zas (id := B.next) (sp := B.clk) (off := 0 + 1) rfl (by rw [za2, if_neg (by omega)]; exact hI1) (by omega) rfl ?_ (zlf rfl (hld _ (.inl rfl)))
   refine za3 rfl ?_
   unfold cM
   refine zba rfl rfl (y15 _) hge rfl ?_
   refine zad rfl rfl ?_ (vpOk rfl)
   refine zgz _ rfl rfl (hes _ _ _ _) (by rw [hrl]; omega) hce (by decide) zai (by rw [hrl]; omega) ?_ (apOk rfl (hsd _ hnx))
   rw [hrl, ← hfl]
   refine zc1 rfl rfl ?_ rfl
   refine zek [[.ms (nx + 1) (ck + 1) 1 0 (n + 1) none]] (id := q) (sp := s) (len := i) rfl rfl (zd3 (xs := [[.ms (nx + 1) (ck + 1) 1 0 (n + 1) none]]) (ys := []) zai rfl fun x hx => by obtain rfl := y0h.1 hx; rfl) (y2m 0) rfl (by decide) hC3.top (by rw [hrl2, Nat.mul_one]) (by show i + 1 ≤ 1048576; omega) ?_ (apOk rfl (hsd _ hqp.1))
   refine za8 (zam ⟨rfl, fun rd => ?_⟩)
   refine AnyF.one 11 rfl (zdd (i := 11) rfl rfl (zkd rfl) ?_)
   refine AnyF.one 12 rfl (zgv (i := 12) rfl (zeh (id := B.next + 1 + 1) (sp := B.clk + 1 + 1) (off := 0 + 1) rfl rfl rfl rfl (by rw [za4, if_neg (by omega), za2, if_neg (by omega), za2, if_neg (by omega), za2, if_neg (by omega)]; exact h3) rfl rfl) ?_)
   refine AnyF.fin rfl (Um.ok (zbm (za7 ?_)))
   refine za1 rfl (za3 rfl (zb5 (op := .add) rfl rfl rfl (za3 rfl (za8 ?_))))
   rw [zab i (by omega)]
   generalize hg : zbb (B.next + 1 + 1) _ _ = hp2
   refine zat (show n + 1 - (i + 1) < n + 1 - i by omega) (zaa (.cons rfl (.cons rfl (.cons rfl (.cons rfl .nil))))) ⟨i + 1, ⟨_, _, _⟩, rfl, hlt, ⟨fun j hj => ?_, ?_, ?_, ?_, .inr ⟨q, ck + 1 + 1 + 1, upd ids i (nx + 1), upd sps i (ck + 1), ?_, hg ▸ CpR.other (CpR.add hC3 ?_ ?_ (fun v hv => ?_) _) (by omega) _⟩⟩, rfl⟩
   ·show Am.look _ hp2 = _
    rw [← hg, za4, if_neg (by omega), za4, if_neg (by omega), za2, if_neg (by omega), za2, if_neg (by omega), za2, if_neg (by omega)]
    exact hkp j hj
   ·show Am.look _ hp2 = _
    rw [← hg, za4, if_neg (by omega), za4, if_neg (by omega), za2, if_neg (by omega), za2, if_neg (by omega), za2, if_neg (by omega)]
    exact hI1
   ·show Am.look _ hp2 = _
    rw [← hg, za4, if_neg (by omega), za4, if_neg (by omega), za2, if_neg (by omega), za2, if_neg (by omega), za2, if_neg (by omega)]
    exact hI2
   ·dsimp only
    omega
   ·show Am.look _ hp2 = _
    rw [← hg, za4, if_pos rfl]
    rfl
   ·rw [za2, if_neg (by omega)]
    exact zai
   ·omega
   ·have := hC.pos v hv
    omega
 ·refine onu (zc3 rfl (zbw (zak ?_)))
  refine zdb ?_
  obtain rfl : i = n + 1 := by
   have := of_decide_eq_false h1
   omega
  rcases hok with ⟨h0, _⟩ | ⟨q, s, ids, sps, h3, hC⟩
  ·omega
  refine zbu (za7 (zsr rfl ?_))
  refine zhb (id := B.next + 2) (sp := B.clk + 1 + 1) (off := 0) rfl h3 (by omega) rfl rfl ?_
  refine zbq (id := B.next + 1) (sp := B.clk + 1) (off := 0) (vs := [.int .i64 (n : Nat), .ms q s 1 0 (n + 1) none]) rfl rfl rfl rfl hI2 rfl rfl ?_
  refine onu (zaz ?_)
  generalize hg : zbb (B.next + 1) _ _ = hp2
  refine zam ⟨.inr rfl, _, zun (zif 2) (zg0 (id := B.next + 1) (sp := B.clk + 1) (off := 0) (cs := [.int .i64 (n : Nat), .ms q s 1 0 (n + 1) none]) ?_ (by show B.next + 1 < nx; omega) rfl), q, s, ids, sps, rfl, ⟨?_, fun j hj => ?_⟩, ?_⟩
  ·show Am.look _ hp2 = _
   rw [← hg, za4, if_pos rfl]
   rfl
  ·show B.next ≤ nx
   omega
  ·show Am.look j hp2 = _
   rw [← hg, za4, if_neg (by omega)]
   exact hkp j hj
  ·have h := hC.other (j := B.next + 1) (by omega) (B.clk + 1, .cells (setAt 0 [AV.int .i64 0, AV.nils] [.int .i64 (n : Nat), .ms q s 1 0 (n + 1) none]))
   rw [show zbb (B.next + 1) _ hp = hp2 from hg] at h
   have t := h.tpos
   exact ⟨h.top, h.cell, ⟨by omega, t.2⟩, fun v hv => ⟨by have := h.pos v hv; omega, (h.pos v hv).2⟩, h.inj⟩
theorem zmn (D : Nat → Nat → Int) (K i j : Nat) (y : Int) : ((zd2 D K i).map (AV.int .i64)).set j (.int .i64 y) = (zd2 (upG D i j y) K i).map (AV.int .i64) := by
 unfold zd2
 rw [y1t, y1t]
 refine List.ext_getElem (by simp) fun p h1 h2 => ?_
 rw [List.getElem_set, List.getElem_map, List.getElem_map, List.getElem_range]
 show _ = AV.int .i64 (upG D i j y i p)
 unfold upG
 by_cases e : j = p
 ·rw [if_pos e, if_pos ⟨rfl, e.symm⟩]
 ·rw [if_neg e, if_neg fun h => e h.2.symm]
  rfl
theorem zl4 (D : Nat → Nat → Int) (K i j v : Nat) (y : Int) (h : v ≠ i) : zd2 (upG D i j y) K v = zd2 D K v := by
 unfold zd2
 refine y1n fun p _ => ?_
 unfold upG
 rw [if_neg fun e => h e.1]
section
variable {lo : Nat} {D : Nat → Nat → Int} {K i q s : Nat} {ids sps : Nat → Nat} {hp : List (Nat × Nat × AObj)} {nx : Nat}
theorem CpR.rnF (h : CpR lo D K K q s ids sps hp nx) (nz : Nat → Bool) : RnF hp (fzJ K nz (zd2 D K) ids sps) := zph fun x hx => by
 obtain ⟨u, hu, rfl⟩ := y0k.1 hx
 obtain ⟨h1, _⟩ := y0t.1 hu
 exact ⟨h.cell u (y0j.1 h1), zby _⟩
theorem CpR.fzl (h : CpR lo D K K q s ids sps hp nx) (nz : Nat → Bool) {v : Nat} (hv : v < K) (hz : nz v = true) : Am.fzl (ids v) (sps v) (fzJ K nz (zd2 D K) ids sps) = some ((zd2 D K v).map (AV.int .i64)) := by
 refine zou (y0k.2 ⟨v, y0t.2 ⟨y0j.2 hv, hz⟩, rfl⟩) fun x hx e => ?_
 obtain ⟨u, hu, rfl⟩ := y0k.1 hx
 obtain ⟨h1, _⟩ := y0t.1 hu
 rw [h.inj u v (y0j.1 h1) hv e]
theorem CpR.memN (h : CpR lo D K K q s ids sps hp nx) (nz : Nat → Bool) {x : Nat} (hx : ∀ v, v < K → nz v = true → ids v ≠ x) : memN x ((fzJ K nz (zd2 D K) ids sps).map (·.1)) = false := by
 have _ := h.tpos
 cases hb : Am.memN x ((fzJ K nz (zd2 D K) ids sps).map (·.1)) with
 | false => rfl
 | true =>
  obtain ⟨y, hy, e⟩ := y0k.1 (zdf.1 hb)
  obtain ⟨u, hu, rfl⟩ := y0k.1 hy
  obtain ⟨h1, h2⟩ := y0t.1 hu
  exact absurd e (hx u (y0j.1 h1) h2)
end
def wrow (D : Nat → Nat → Int) (K i v : Nat) : AV := if v = i then .ms 1 0 1 0 K none else vsI (zd2 D K v)
-- pneumatic/pneumaticref11.With
def ic9 : IC := .seq (.region [oM 4 (.box (.t 0)),
  oM 8 (.alloc [.int .i64 0, .nils])] none)
 (.seq (.region [oL 10 2 4,
  oM 11 (.call (.c (.fn 28 [] [])) [(.t 10)]),
  oM 9 (.alloc [.int .i64 0, .nils]),
  ⟨none, .store 2 (.t 9) (.t 11), none⟩] none)
 (.seq (.region [oF 12 1 9,
  oN 13 12,
  oT 14 1,
  oM 15 (.idxs 1 (.t 13) (.t 14)),
  oN 16 15,
  oT 17 2,
  oF 18 1 9,
  oN 19 18,
  oT 20 1,
  oM 21 (.idxs 1 (.t 19) (.t 20)),
  oN 22 21,
  oT 23 2,
  oM 24 (.idxs 1 (.t 22) (.t 23)),
  oN 25 24,
  oT 26 3,
  oM 27 (.call (.c (.fn 29 [] [])) [(.t 25), (.t 26)]),
  oM 28 (.idxs 1 (.t 16) (.t 17)),
  ⟨none, .store 1 (.t 28) (.t 27), none⟩] (some [[], [0], [], [1, 2], [3], [], [], [6], [], [7, 8], [9], [], [10, 11], [12], [], [13, 14], [4, 5, 0, 1, 2, 3, 4, 5, 6, 7, 8, 9, 10, 11, 12, 13, 14, 15], [16, 15, 15, 0, 1, 2, 3, 4, 5, 6, 7, 8, 9, 10, 11, 12, 13, 14, 15]]))
 (.seq (.region [oL 29 2 9,
  ⟨none, .store 2 (.t 8) (.t 29), none⟩] none)
 (.ret))))
theorem fn9 : env0.fn 9 = some ⟨30, ic9, [.cell 8 (some 2)]⟩ := by kernel_rfl
set_option maxHeartbeats 4000000 in
set_option maxRecDepth 20000 in
theorem with9 {n i j : Nat} {D : Nat → Nat → Int} (x : Int) (hn : n ≤ 12) (hi : i < n + 1) (hj : j < n + 1) :
  PF Try.prog 9 [cB (n : Nat) (zc7 D (n + 1)), .int .i64 (i : Nat), .int .i64 (j : Nat), .int .i64 x] (cB (n : Nat) (zc7 (upG D i j (lesV (D i j) x)) (n + 1))) := by
 have p29 := lesser29 (D i j) x
 refine zb2 env0_ok fn9 [(0, .agg [.int .i64 (n : Nat), cM (zc7 D (n + 1))]), (1, .int .i64 (i : Nat)), (2, .int .i64 (j : Nat)), (3, .int .i64 x)] (by show 4 ≤ 30; decide) rfl fun w0 N0 => ?_
 unfold ic9
 refine zsr rfl (zdg rfl rfl (zbj (onr rfl (zb8 rfl rfl rfl rfl ?_))))
 refine zp8 _ rfl rfl (zfz (copied28 hn ⟨_, _, _⟩)) (fun _ _ _ _ hm => absurd hm y0f) fun v H2 hF => ?_
 obtain ⟨q, s, ids, sps, rfl, ⟨hk1, hk2⟩, hC⟩ := hF
 obtain ⟨hp, nx, ck⟩ := H2
 have hk1 : 2 ≤ nx := hk1
 have hk3 : Am.look 1 hp = some (1, .cells [.int .i64 0, .nils]) := (hk2 1 (by show 1 < 2; decide)).trans rfl
 have hC : CpR 2 D (n + 1) (n + 1) q s ids sps hp nx := hC
 clear hk2
 dsimp only
 have hC2 := hC.fresh ck (.cells [.int .i64 (n : Nat), .ms q s 1 0 (n + 1) none])
 have hqp := hC.tpos
 have hip := hC.pos i hi
 refine zbj ?_
 refine zbq (vs := [.int .i64 (n : Nat), .ms q s 1 0 (n + 1) none]) rfl rfl rfl rfl zai rfl rfl ?_
 rw [zhe]
 refine onu ?_
 refine zbo [(some (q, s), (List.range (n + 1)).map (wrow D (n + 1) i)), (some (ids i, sps i), (zd2 D (n + 1) i).map (AV.int .i64)), (some (1, 1), [.int .i64 0, .nils]), (some (nx, ck), [.int .i64 (n : Nat), .ms 0 0 1 0 (n + 1) none])]
  (fzJ (n + 1) (fun v => decide (v ≠ i)) (zd2 D (n + 1)) ids sps) [(8, .mptr 2 0 0), (9, .mptr 3 0 0), (1, .int .i64 (i : Nat)), (2, .int .i64 (j : Nat)), (3, .int .i64 x)] ?_ (hC2.rnF _)
  (.cons hC2.top (zmm fun v hv => ?_) (.cons (hC2.cell i hi) (.keep (zby _)) (.cons (by rw [za2, if_neg (by omega)]; exact hk3) (.keep rfl) (.cons zai (.cons (.same rfl) (.cons (.ms rfl) .nil)) .nil)))) (.cons rfl (.mptr rfl) (.cons rfl (.mptr rfl) (.cons rfl (.same rfl) (.cons rfl (.same rfl) (.cons rfl (.same rfl) .nil))))) ?_
 ·have m0 : ∀ y, (∀ v, v < n + 1 → v ≠ i → ids v ≠ y) → memN y ((fzJ (n + 1) (fun v => decide (v ≠ i)) (zd2 D (n + 1)) ids sps).map (·.1)) = false := fun y hy => hC2.memN _ fun v hv hz => hy v hv (of_decide_eq_true hz)
  have mq := m0 q fun v hv _ => by have := hC.pos v hv; omega
  have mi := m0 (ids i) fun v hv hne e => hne (hC.inj v i hv hi e)
  have m1 := m0 1 fun v hv _ => by have := hC.pos v hv; omega
  have mn := m0 nx fun v hv _ => by have := hC.pos v hv; omega
  show (!memN q _ && (!memN (ids i) (q :: _) && (!memN 1 (ids i :: q :: _) && (!memN nx (1 :: ids i :: q :: _) && true)))) = true
  rw [mq, zce (by omega) mi, zce (by omega) (zce (by omega) m1), zce (by omega) (zce (by omega) (zce (by omega) mn))]
  rfl
 ·have hv := y0j.1 hv
  unfold wrow
  by_cases e : v = i
  ·subst e
   rw [if_pos rfl]
   exact .ms rfl
  ·rw [if_neg e]
   exact .fms0 (hC2.fzl (fun v => decide (v ≠ i)) hv (decide_eq_true e)) (zdy D (n + 1) v) (fun x hx => by obtain ⟨z, _, rfl⟩ := y0k.1 hx; rfl) (zh8 _)
 clear hC hC2 hk3 hqp hip hk1
 have ez : ∀ o : Nat, 0 + ((o : Nat) : Int).toNat * 1 = o := fun o => by simp
 have gi : ((List.range (n + 1)).map (wrow D (n + 1) i))[i]? = some (.ms 1 0 1 0 (n + 1) none) := by
  rw [y0a, y1a hi]
  show some (wrow D (n + 1) i i) = _
  unfold wrow
  rw [if_pos rfl]
 have gj : ((zd2 D (n + 1) i).map (AV.int .i64))[j]? = some (.int .i64 (D i j)) := by
  unfold zd2
  rw [y0a, y0a, y1a hj]
  rfl
 refine za9 (zo9 env0_ok [(29, [.int .i64 (D i j), .int .i64 x], .int .i64 (lesV (D i j) x))] (fun x hx => by
  obtain rfl := y0h.1 hx
  exact p29) (fun f => Nat.beq f 29) rfl rfl rfl ?_)
 refine zae rfl ?_
 refine zas (id := 3) (sp := 0) (off := 0 + 1) rfl rfl (by show 3 < 4; decide) rfl ?_
 refine za3 rfl ?_
 refine zc5 rfl rfl (y15 i) (y18.2 hi) ?_
 rw [ez]
 refine zas (id := 0) (sp := 0) (off := i) rfl rfl (by show 0 < 4; decide) gi ?_
 refine za3 rfl ?_
 refine zae rfl ?_
 refine zas (id := 3) (sp := 0) (off := 0 + 1) rfl rfl (by show 3 < 4; decide) rfl ?_
 refine za3 rfl ?_
 refine zc5 rfl rfl (y15 i) (y18.2 hi) ?_
 rw [ez]
 refine zas (id := 0) (sp := 0) (off := i) rfl rfl (by show 0 < 4; decide) gi ?_
 refine za3 rfl ?_
 refine zc5 rfl rfl (y15 j) (y18.2 hj) ?_
 rw [ez]
 refine zas (id := 1) (sp := 0) (off := j) rfl rfl (by show 1 < 4; decide) gj ?_
 refine za3 rfl ?_
 refine zb4 rfl rfl ze7 noC ?_
 refine zc5 rfl rfl (y15 j) (y18.2 hj) ?_
 rw [ez]
 refine zci (id := 1) (sp := 0) (off := j) (cs := (zd2 D (n + 1) i).map (AV.int .i64)) rfl rfl rfl rfl (by rw [y0e, zl3]; exact hj) rfl ?_
 rw [zmn]
 generalize lesV (D i j) x = y
 refine onu ?_
 have hoth : ∀ v, v ≠ i → vsI (zd2 D (n + 1) v) = vsI (zd2 (upG D i j y) (n + 1) v) := fun v hv => by rw [zl4 D (n + 1) i j v y hv]
 refine zbo [(some (0, 0), (List.range (n + 1)).map fun v => vsI (zd2 (upG D i j y) (n + 1) v)), (some (2, 0), [.int .i64 0, .nils]), (some (3, 0), [.int .i64 (n : Nat), .ms 0 0 1 0 (n + 1) none])] [(1, 0, (zd2 (upG D i j y) (n + 1) i).map (AV.int .i64))] [(8, .mptr 1 0 0), (9, .mptr 2 0 0)] rfl (.cons rfl (zby _) .nil)
  (.cons rfl (zmm fun v hv => ?_) (.cons rfl (.keep rfl) (.cons rfl (.cons (.same rfl) (.cons (.ms rfl) .nil)) .nil))) (.cons rfl (.mptr rfl) (.cons rfl (.mptr rfl) .nil)) ?_
 ·unfold wrow
  by_cases e : v = i
  ·subst e
   rw [if_pos rfl]
   exact .fms0 rfl (zdy (upG D v j y) (n + 1) v) (fun x hx => by obtain ⟨z, _, rfl⟩ := y0k.1 hx; rfl) (zh8 _)
  ·rw [if_neg e, hoth v e]
   exact .same rfl
 refine zbo [(some (1, 0), [.int .i64 0, .nils]), (some (2, 0), [.int .i64 (n : Nat), .vs ((zc7 (upG D i j y) (n + 1)).map fun r => ([vsI r] : List AV))])] [(0, 0, (List.range (n + 1)).map fun v => vsI (zd2 (upG D i j y) (n + 1) v))] [(8, .mptr 0 0 0), (9, .mptr 1 0 0)] rfl (.cons rfl (zix (upG D i j y) (n + 1) _) .nil)
  (.cons rfl (.keep rfl) (.cons rfl (.cons (.same rfl) (.cons (.fms0 rfl (zej (upG D i j y) (n + 1)) (fun x hx => by obtain ⟨z, _, rfl⟩ := y0k.1 hx; rfl) (zp3 (upG D i j y) (n + 1))) .nil)) .nil)) (.cons rfl (.mptr rfl) (.cons rfl (.mptr rfl) .nil)) ?_
 refine zsr rfl (zb8 rfl rfl rfl rfl (zbq rfl rfl rfl rfl rfl rfl rfl (onu (zaz ?_))))
 exact zam ⟨.inr rfl, _, rfl, rfl⟩
def gB (s : List Bool) (v : Nat) : Bool := s.getD v false
def mrk (s : List Bool) (D : List Nat) : List Bool := D.foldl (fun s v => s.set v true) s
theorem gB_set {s : List Bool} {v : Nat} (hv : v < s.length) (w : Nat) : gB (s.set v true) w = (gB s w || v == w) := by
 unfold gB
 rw [y0d, y0d, List.getElem?_set]
 by_cases h : v = w
 ·subst h
  rw [if_pos rfl, if_pos hv]
  simp
 ·rw [if_neg h, show (v == w) = false from beq_eq_false_iff_ne.2 h, Bool.or_false]
theorem znw : ∀ (D : List Nat) (s : List Bool), (mrk s D).length = s.length
 | [], _ => rfl
 | d :: D, s => by
  show (mrk (s.set d true) D).length = _
  rw [znw D, y1o]
theorem zsw : ∀ (D : List Nat) (s : List Bool), (∀ d ∈ D, d < s.length) → ∀ w, gB (mrk s D) w = true ↔ gB s w = true ∨ w ∈ D
 | [], s, _, w => ⟨fun h => .inl h, fun h => h.elim id fun h => absurd h y0f⟩
 | d :: D, s, hD, w => by
  show gB (mrk (s.set d true) D) w = true ↔ _
  rw [zsw D (s.set d true) (fun x hx => by rw [y1o]; exact hD x (y04 _ hx)), gB_set (hD d (y06 ..)), y0z, beq_iff_eq, y0i]
  constructor
  ·rintro ((h | h) | h)
   ·exact .inl h
   ·exact .inr (.inl h.symm)
   ·exact .inr (.inr h)
  ·rintro (h | h | h)
   ·exact .inl (.inl h)
   ·exact .inl (.inr h.symm)
   ·exact .inr h
inductive Pin (E : List (Nat × Nat)) (D : List Nat) (x : Nat) : Nat → Prop
 | refl (h : x ∈ D) : Pin E D x x
 | step {u v : Nat} (p : Pin E D x u) (e : (u, v) ∈ E) (h : v ∈ D) : Pin E D x v
theorem Pin.mono {E : List (Nat × Nat)} {D D' : List Nat} {x y : Nat} (h : ∀ d ∈ D, d ∈ D') (p : Pin E D x y) : Pin E D' x y := by
 induction p with
 | refl hx => exact .refl (h _ hx)
 | step p e hv ih => exact .step ih e (h _ hv)
theorem Pin.fst {E : List (Nat × Nat)} {D : List Nat} {x y : Nat} (p : Pin E D x y) : x ∈ D := by
 induction p with
 | refl hx => exact hx
 | step _ _ _ ih => exact ih
theorem Pin.snd {E : List (Nat × Nat)} {D : List Nat} {x y : Nat} (p : Pin E D x y) : y ∈ D := by
 cases p with
 | refl hx => exact hx
 | step _ _ h => exact h
theorem Pin.trans {E : List (Nat × Nat)} {D : List Nat} {x y z : Nat} (p : Pin E D x y) (q : Pin E D y z) : Pin E D x z := by
 induction q with
 | refl _ => exact p
 | step _ e h ih => exact .step ih e h
theorem Pin.walk {E : List (Nat × Nat)} {D : List Nat} {x y : Nat} (p : Pin E D x y) : ∃ k, Wk E k x y := by
 induction p with
 | refl _ => exact ⟨0, .refl _⟩
 | step _ e _ ih =>
  obtain ⟨k, w⟩ := ih
  exact ⟨k + 1, .step w e⟩
inductive Vis (E : List (Nat × Nat)) (m : Nat) : List Bool → List Nat → List Nat → Prop
 | nil (s : List Bool) : Vis E m s [] []
 | skip {s : List Bool} {l D : List Nat} {x : Nat} (h : Vis E m s l D) (hx : gB (mrk s D) x = true) : Vis E m s (l ++ [x]) D
 | go {s : List Bool} {l D D' : List Nat} {x : Nat} (h : Vis E m s l D) (hx : gB (mrk s D) x = false) (h' : Vis E m ((mrk s D).set x true) (nbr E m x) D') : Vis E m s (l ++ [x]) (D ++ (D' ++ [x]))
structure VP (E : List (Nat × Nat)) (m : Nat) (s : List Bool) (l D : List Nat) : Prop where
 nd : D.Nodup
 new : ∀ d ∈ D, gB s d = false
 lt : ∀ d ∈ D, d < m
 src : ∀ d ∈ D, ∃ y ∈ l, Pin E D y d
 out : ∀ d ∈ D, ∀ w, (d, w) ∈ E → gB s w = true ∨ w ∈ D
 all : ∀ y ∈ l, gB s y = true ∨ y ∈ D
 kos : ∀ x v, Pin E D x v → ∃ y, Pin E D x y ∧ Pin E D y x ∧ D.idxOf x ≤ D.idxOf y ∧ D.idxOf v ≤ D.idxOf y
theorem zde {A B : List Nat} {x : Nat} (h : x ∈ A) : (A ++ B).idxOf x = A.idxOf x := by rw [List.idxOf_append, if_pos h]
theorem zcp {A B : List Nat} {x : Nat} (h : x ∉ A) : (A ++ B).idxOf x = B.idxOf x + A.length := by rw [List.idxOf_append, if_neg h]
theorem zjh {A : List Nat} {x : Nat} (h : x ∈ A) : A.idxOf x < A.length := List.idxOf_lt_length_iff.2 h
theorem VP.one {E : List (Nat × Nat)} {m : Nat} {s : List Bool} {x : Nat} {D' : List Nat} (hb : ∀ u v, (u, v) ∈ E → u < m ∧ v < m) (hs : s.length = m) (hx : x < m) (h0 : gB s x = false) (h : VP E m (s.set x true) (nbr E m x) D') : VP E m s [x] (D' ++ [x]) := by
 have hmem : ∀ w, w ∈ nbr E m x ↔ (x, w) ∈ E := fun w => ze2 fun u v h => (hb u v h).2
 have hg : ∀ w, gB (s.set x true) w = true ↔ gB s w = true ∨ w = x := fun w => by
  rw [gB_set (by rw [hs]; exact hx), y0z, beq_iff_eq]
  exact ⟨fun h => h.imp_right Eq.symm, fun h => h.imp_right Eq.symm⟩
 have hxD : x ∉ D' := fun hm => by
  have := h.new x hm
  rw [(hg x).2 (.inr rfl)] at this
  cases this
 have hmx : x ∈ D' ++ [x] := by simp
 have hml : ∀ d ∈ D', d ∈ D' ++ [x] := fun d hd => y0l _ hd
 have hto : ∀ d ∈ D' ++ [x], Pin E (D' ++ [x]) x d := fun d hd => by
  rcases y0n.1 hd with hd | hd
  ·obtain ⟨y, hy, p⟩ := h.src d hd
   exact (Pin.step (.refl hmx) ((hmem y).1 hy) (hml y p.fst)).trans (p.mono hml)
  ·obtain rfl := y0h.1 hd
   exact .refl hmx
 refine ⟨zjq h.nd hxD, fun d hd => ?_, fun d hd => ?_, fun d hd => ⟨x, by simp, hto d hd⟩, fun d hd w hw => ?_, fun y hy => .inr (by rw [y0h.1 hy]; exact hmx), fun a b p => ?_⟩
 ·rcases y0n.1 hd with hd | hd
  ·cases hc : gB s d with
   | false => rfl
   | true =>
    have := h.new d hd
    rw [(hg d).2 (.inl hc)] at this
    cases this
  ·rw [y0h.1 hd]; exact h0
 ·rcases y0n.1 hd with hd | hd
  ·exact h.lt d hd
  ·rw [y0h.1 hd]; exact hx
 ·have hw2 : gB (s.set x true) w = true ∨ w ∈ D' := by
   rcases y0n.1 hd with hd | hd
   ·exact h.out d hd w hw
   ·rw [y0h.1 hd] at hw
    exact h.all w ((hmem w).2 hw)
  rcases hw2 with hw2 | hw2
  ·rcases (hg w).1 hw2 with hw2 | rfl
   ·exact .inl hw2
   ·exact .inr hmx
  ·exact .inr (hml w hw2)
 ·have key : Pin E D' a b ∨ Pin E (D' ++ [x]) a x := by
   induction p with
   | refl ha =>
    rcases y0n.1 ha with ha | ha
    ·exact .inl (.refl ha)
    ·rw [y0h.1 ha]; exact .inr (.refl hmx)
   | step p e hv ih =>
    rcases ih with ih | ih
    ·rcases y0n.1 hv with hv2 | hv2
     ·exact .inl (.step ih e hv2)
     ·rw [y0h.1 hv2] at e
      exact .inr (.step p e hmx)
    ·exact .inr ih
  rcases key with q | q
  ·obtain ⟨y, q1, q2, q3, q4⟩ := h.kos a b q
   refine ⟨y, q1.mono hml, q2.mono hml, ?_, ?_⟩
   ·rw [zde q.fst, zde q2.fst]; exact q3
   ·rw [zde q.snd, zde q2.fst]; exact q4
  ·refine ⟨x, q, hto a p.fst, ?_, ?_⟩
   ·have := zjh p.fst
    rw [zcp hxD (B := [x])]
    rw [y0p, y1c] at this
    omega
   ·have := zjh p.snd
    rw [zcp hxD (B := [x])]
    rw [y0p, y1c] at this
    omega
theorem VP.app {E : List (Nat × Nat)} {m : Nat} {s : List Bool} {l l' A B : List Nat} (hs : s.length = m) (h : VP E m s l A) (h' : VP E m (mrk s A) l' B) : VP E m s (l ++ l') (A ++ B) := by
 have hg := zsw A s fun d hd => by rw [hs]; exact h.lt d hd
 have hl : ∀ d ∈ A, d ∈ A ++ B := fun d hd => y0l _ hd
 have hr : ∀ d ∈ B, d ∈ A ++ B := fun d hd => y1e _ hd
 have hdis : ∀ d ∈ B, d ∉ A := fun d hd ha => by
  have := h'.new d hd
  rw [(hg d).2 (.inr ha)] at this
  cases this
 have hnew : ∀ d ∈ A ++ B, gB s d = false := fun d hd => by
  rcases y0n.1 hd with hd | hd
  ·exact h.new d hd
  ·cases hc : gB s d with
   | false => rfl
   | true =>
    have := h'.new d hd
    rw [(hg d).2 (.inl hc)] at this
    cases this
 refine ⟨?_, hnew, fun d hd => ?_, fun d hd => ?_, fun d hd w hw => ?_, fun y hy => ?_, fun a b p => ?_⟩
 ·rw [List.nodup_append]
  exact ⟨h.nd, h'.nd, fun a ha b hb e => hdis b hb (e ▸ ha)⟩
 ·rcases y0n.1 hd with hd | hd
  ·exact h.lt d hd
  ·exact h'.lt d hd
 ·rcases y0n.1 hd with hd | hd
  ·obtain ⟨y, hy, p⟩ := h.src d hd
   exact ⟨y, y0l _ hy, p.mono hl⟩
  ·obtain ⟨y, hy, p⟩ := h'.src d hd
   exact ⟨y, y1e _ hy, p.mono hr⟩
 ·rcases y0n.1 hd with hd | hd
  ·exact (h.out d hd w hw).imp_right (hl w)
  ·rcases h'.out d hd w hw with h2 | h2
   ·exact ((hg w).1 h2).imp_right (hl w)
   ·exact .inr (hr w h2)
 ·rcases y0n.1 hy with hy | hy
  ·exact (h.all y hy).imp_right (hl y)
  ·rcases h'.all y hy with h2 | h2
   ·exact ((hg y).1 h2).imp_right (hl y)
   ·exact .inr (hr y h2)
 ·have inA : a ∈ A → Pin E A a b := fun ha => by
   induction p with
   | refl _ => exact .refl ha
   | @step u v p e hv ih =>
    refine .step ih e ?_
    rcases h.out u ih.snd v e with h2 | h2
    ·rw [hnew v hv] at h2; cases h2
    ·exact h2
  rcases y0n.1 p.fst with ha | ha
  ·have q := inA ha
   obtain ⟨y, q1, q2, q3, q4⟩ := h.kos a b q
   refine ⟨y, q1.mono hl, q2.mono hl, ?_, ?_⟩
   ·rw [zde q.fst, zde q2.fst]; exact q3
   ·rw [zde q.snd, zde q2.fst]; exact q4
  ·have key : Pin E B a b ∨ b ∈ A := by
    clear inA
    induction p with
    | refl _ => exact .inl (.refl ha)
    | @step u v p e hv ih =>
     rcases y0n.1 hv with hv | hv2
     ·exact .inr hv
     ·rcases ih with ih | ih
      ·exact .inl (.step ih e hv2)
      ·rcases h.out u ih v e with h2 | h2
       ·rw [hnew v hv] at h2; cases h2
       ·exact .inr h2
   rcases key with q | hbA
   ·obtain ⟨y, q1, q2, q3, q4⟩ := h'.kos a b q
    refine ⟨y, q1.mono hr, q2.mono hr, ?_, ?_⟩
    ·rw [zcp (hdis a q.fst), zcp (hdis y q2.fst)]; omega
    ·rw [zcp (hdis b q.snd), zcp (hdis y q2.fst)]; omega
   ·obtain ⟨y, q1, q2, q3, _⟩ := h'.kos a a (.refl ha)
    refine ⟨y, q1.mono hr, q2.mono hr, ?_, ?_⟩
    ·rw [zcp (hdis a ha), zcp (hdis y q2.fst)]; omega
    ·have := zjh hbA
     rw [zde hbA, zcp (hdis y q2.fst)]; omega
theorem vis_ok {E : List (Nat × Nat)} {m : Nat} (hb : ∀ u v, (u, v) ∈ E → u < m ∧ v < m) {s : List Bool} {l D : List Nat} (h : Vis E m s l D) : s.length = m → (∀ y ∈ l, y < m) → VP E m s l D := by
 induction h with
 | nil s => exact fun _ _ => ⟨List.nodup_nil, fun d h => absurd h y0f, fun d h => absurd h y0f, fun d h => absurd h y0f, fun d h => absurd h y0f, fun d h => absurd h y0f, fun x v p => absurd p.fst y0f⟩
 | @skip s l D x h hx ih =>
  intro hs hl
  have v := ih hs fun y hy => hl y (y0l _ hy)
  have hg := zsw D s fun d hd => by rw [hs]; exact v.lt d hd
  refine ⟨v.nd, v.new, v.lt, fun d hd => ?_, v.out, fun y hy => ?_, v.kos⟩
  ·obtain ⟨y, hy, p⟩ := v.src d hd
   exact ⟨y, y0l _ hy, p⟩
  ·rcases y0n.1 hy with hy | hy
   ·exact v.all y hy
   ·rw [y0h.1 hy]
    exact (hg x).1 hx
 | @go s l D D' x h hx h' ih ih' =>
  intro hs hl
  have v := ih hs fun y hy => hl y (y0l _ hy)
  have hxm := hl x (by simp)
  have v' := ih' (by rw [y1o, znw, hs]) fun y hy => (hb _ _ ((ze2 fun u v h => (hb u v h).2).1 hy)).2
  exact v.app hs (VP.one hb (by rw [znw, hs]) hxm hx v')
def gN (l : List Nat) (i : Nat) : Nat := l.getD i 0
def Rch (E : List (Nat × Nat)) (x y : Nat) : Prop := ∃ k, Wk E k x y
theorem Rch.refl (E : List (Nat × Nat)) (x : Nat) : Rch E x x := ⟨0, .refl x⟩
theorem Rch.trans {E : List (Nat × Nat)} {x y z : Nat} (a : Rch E x y) (b : Rch E y z) : Rch E x z := by
 obtain ⟨k, p⟩ := a
 obtain ⟨j, q⟩ := b
 exact ⟨k + j, p.trans q⟩
theorem Rch.edge {E : List (Nat × Nat)} {x y : Nat} (e : (x, y) ∈ E) : Rch E x y := ⟨1, .step (.refl x) e⟩
def Mut (E : List (Nat × Nat)) (x y : Nat) : Prop := Rch E x y ∧ Rch E y x
theorem Mut.symm {E : List (Nat × Nat)} {x y : Nat} (h : Mut E x y) : Mut E y x := ⟨h.2, h.1⟩
theorem Mut.trans {E : List (Nat × Nat)} {x y z : Nat} (a : Mut E x y) (b : Mut E y z) : Mut E x z := ⟨a.1.trans b.1, b.2.trans a.2⟩
structure Cls (E : List (Nat × Nat)) (m : Nat) (C : List Nat) : Prop where
 nd : C.Nodup
 lt : ∀ d ∈ C, d < m
 len : C.length = m
 kos : ∀ x v, x < m → Rch E x v → ∃ y, Mut E x y ∧ y ∈ C ∧ C.idxOf x ≤ C.idxOf y ∧ C.idxOf v ≤ C.idxOf y
def bsG (g : List Int) : List Bool := g.map fun z => decide (0 ≤ z)
theorem gB_bs (g : List Int) (w : Nat) : gB (bsG g) w = decide (0 ≤ gI g w) := by
 unfold gB bsG gI
 rw [y0d, y0d, y0a]
 cases g[w]? <;> rfl
def setG (k : Int) (g : List Int) (D : List Nat) : List Int := D.foldl (fun g v => g.set v k) g
theorem zps (k : Int) : ∀ (D : List Nat) (g : List Int), (setG k g D).length = g.length
 | [], _ => rfl
 | d :: D, g => by
  show (setG k (g.set d k) D).length = _
  rw [zps k D, y1o]
theorem zsx (k : Int) : ∀ (D : List Nat) (g : List Int), (∀ d ∈ D, d < g.length) → ∀ w, gI (setG k g D) w = if w ∈ D then k else gI g w
 | [], g, _, w => by rw [if_neg y0f]; rfl
 | d :: D, g, hD, w => by
  show gI (setG k (g.set d k) D) w = _
  rw [zsx k D _ (fun x hx => by rw [y1o]; exact hD x (y04 _ hx)), zer (hD d (y06 ..))]
  by_cases c : w ∈ D
  ·rw [if_pos c, if_pos (y04 _ c)]
  ·rw [if_neg c]
   by_cases e : d = w
   ·rw [if_pos e, if_pos (by rw [e]; exact y06 ..)]
   ·rw [if_neg e, if_neg fun h => ?_]
    rcases y0i.1 h with h | h
    ·exact e h.symm
    ·exact c h
structure Grp (E : List (Nat × Nat)) (m : Nat) (C : List Nat) (k : Nat) (g : List Int) : Prop where
 len : g.length = m
 low : ∀ v, gI g v = -1 ∨ ((k : Int) ≤ gI g v ∧ gI g v < m)
 pre : ∀ x y, (x, y) ∈ E → 0 ≤ gI g y → 0 ≤ gI g x
 same : ∀ x y, 0 ≤ gI g x → 0 ≤ gI g y → (gI g x = gI g y ↔ Mut E x y)
 done : ∀ i, k ≤ i → i < m → 0 ≤ gI g (gN C i)
theorem Grp.start {E : List (Nat × Nat)} {m : Nat} {C : List Nat} : Grp E m C m (List.replicate m (-1)) := by
 have hr : ∀ v, gI (List.replicate m (-1 : Int)) v = -1 := fun v => by
  unfold gI
  rw [y0d, List.getElem?_replicate]
  split <;> rfl
 exact ⟨y1q .., fun v => .inl (hr v), fun x y _ h => by rw [hr] at h; omega, fun x y h => by rw [hr] at h; omega, fun i h1 h2 => by omega⟩
theorem Grp.back {E : List (Nat × Nat)} {m k : Nat} {C : List Nat} {g : List Int} (h : Grp E m C k g) {x y : Nat} (r : Rch E x y) : 0 ≤ gI g y → 0 ≤ gI g x := by
 obtain ⟨j, w⟩ := r
 induction w with
 | refl => exact id
 | step w e ih => exact fun hy => ih (h.pre _ _ e hy)
theorem Grp.step {E : List (Nat × Nat)} {m k : Nat} {C D : List Nat} {g : List Int} (hb : ∀ u v, (u, v) ∈ E → u < m ∧ v < m) (hC : Cls E m C) (hk : k < m) (h : Grp E m C (k + 1) g) (hD : Vis (rvE E) m (bsG g) [gN C k] D) : Grp E m C k (setG k g D) := by
 have hkC : k < C.length := by rw [hC.len]; exact hk
 have hck : gN C k = C[k] := by
  unfold gN
  rw [y0d, y09 hkC]
  rfl
 have hcm : gN C k < m := by rw [hck]; exact hC.lt _ (y17 hkC)
 have hidx : C.idxOf (gN C k) = k := by rw [hck]; exact hC.nd.idxOf_getElem k hkC
 generalize hv : gN C k = v at *
 have P := vis_ok (zpo hb) hD (by unfold bsG; rw [y0e]; exact h.len) fun y hy => by rw [y0h.1 hy]; exact hcm
 have hset := zsx (k : Int) D g fun d hd => by rw [h.len]; exact P.lt d hd
 have hnew : ∀ d ∈ D, gI g d = -1 := fun d hd => by
  have := P.new d hd
  rw [gB_bs, decide_eq_false_iff_not] at this
  rcases h.low d with h2 | h2
  ·exact h2
  ·omega
 -- what is found leads to the vertex
 have hto : ∀ d ∈ D, Rch E d v := fun d hd => by
  obtain ⟨y, hy, p⟩ := P.src d hd
  rw [y0h.1 hy] at p
  obtain ⟨j, w⟩ := p.walk
  exact ⟨j, w.rev fun a b h => zkt.1 h⟩
 -- what leads to what is found is grouped, or found
 have hpre : ∀ x y, (x, y) ∈ E → y ∈ D → 0 ≤ gI g x ∨ x ∈ D := fun x y e hy => by
  rcases P.out y hy x (zkt.2 e) with h2 | h2
  ·rw [gB_bs, decide_eq_true_eq] at h2; exact .inl h2
  ·exact .inr h2
 -- and all that is found is led to from the vertex
 have hfrom : ∀ d ∈ D, Mut E d v := fun d hd => by
  refine ⟨hto d hd, ?_⟩
  obtain ⟨y, my, hyC, h1, h2⟩ := hC.kos d v (P.lt d hd) (hto d hd)
  have hyg : ¬ 0 ≤ gI g y := fun h3 => by
   have := h.back my.1 h3
   rw [hnew d hd] at this
   omega
  have hyk : C.idxOf y ≤ k := by
   refine Nat.le_of_not_lt fun hlt => hyg ?_
   have hlen := zjh hyC
   have := h.done (C.idxOf y) hlt (by rw [hC.len] at hlen; exact hlen)
   rw [show gN C (C.idxOf y) = y from by
    unfold gN
    rw [y0d, y09 hlen, List.getElem_idxOf hlen]
    rfl] at this
   exact this
  have hyv : y = v := by
   have hlen := zjh hyC
   have e : C.idxOf y = C.idxOf v := by omega
   have a1 := List.getElem_idxOf hlen
   rw [← a1]
   have hvC : v ∈ C := by rw [hck]; exact y17 hkC
   have a2 := List.getElem_idxOf (zjh hvC)
   rw [← a2]
   congr 1
  rw [← hyv]
  exact my.2
 have hvD : 0 ≤ gI g v ∨ v ∈ D := by
  rcases P.all v (by simp) with h2 | h2
  ·rw [gB_bs, decide_eq_true_eq] at h2; exact .inl h2
  ·exact .inr h2
 have hval : ∀ x, 0 ≤ gI (setG k g D) x → x ∈ D ∨ (x ∉ D ∧ 0 ≤ gI g x ∧ gI (setG k g D) x = gI g x) := fun x hx => by
  by_cases c : x ∈ D
  ·exact .inl c
  ·rw [hset, if_neg c] at hx
   exact .inr ⟨c, hx, by rw [hset, if_neg c]⟩
 have hno : ∀ x y, x ∈ D → 0 ≤ gI g y → ¬ Mut E x y := fun x y hx hy mu => by
  have := h.back mu.1 hy
  rw [hnew x hx] at this
  omega
 refine ⟨by rw [zps]; exact h.len, fun x => ?_, fun x y e hy => ?_, fun x y hx hy => ?_, fun i h1 h2 => ?_⟩
 ·rw [hset]
  split
  ·right; omega
  ·rcases h.low x with h2 | h2
   ·exact .inl h2
   ·right; omega
 ·rcases hval y hy with h2 | ⟨_, h2, _⟩
  ·rcases hpre x y e h2 with h3 | h3
   ·rw [hset]; split <;> omega
   ·rw [hset, if_pos h3]; omega
  ·have h3 := h.pre x y e h2
   rw [hset]; split <;> omega
 ·rcases hval x hx with h2 | ⟨h2, h3, h4⟩
  ·rcases hval y hy with h5 | ⟨h5, h6, h7⟩
   ·rw [hset, hset, if_pos h2, if_pos h5]
    exact ⟨fun _ => (hfrom x h2).trans (hfrom y h5).symm, fun _ => rfl⟩
   ·rw [hset, if_pos h2, h7]
    constructor
    ·intro e
     rcases h.low y with h8 | h8 <;> omega
    ·intro mu
     exact absurd mu (hno x y h2 h6)
  ·rcases hval y hy with h5 | ⟨h5, h6, h7⟩
   ·rw [h4, hset, if_pos h5]
    constructor
    ·intro e
     rcases h.low x with h8 | h8 <;> omega
    ·intro mu
     exact absurd mu.symm (hno y x h5 h3)
   ·rw [h4, h7]
    exact h.same x y h3 h6
 ·by_cases e : i = k
  ·subst e
   rw [hv]
   rw [hset]
   split
   ·omega
   ·rename_i c
    exact hvD.resolve_right c
  ·have := h.done i (by omega) h2
   rw [hset]
   split <;> omega
-- (pneumatic/digraph.net).led$1
def ic69 : IC := .seq (.region [oM 4 (.mov (.c (.bool false)))] none)
 (.seq (.region [oN 5 1,
  oT 6 0,
  oM 7 (.idxs 1 (.t 5) (.t 6)),
  oN 8 7,
  oM 9 (.bin .geq (.t 8) (.c (.int .i64 0))),
  oT 10 9,
  ⟨(some 11), .load none (.t 1), some (10, true)⟩,
  ⟨(some 12), .mov (.t 0), some (10, true)⟩,
  ⟨(some 13), .idxs 1 (.t 11) (.t 12), some (10, true)⟩,
  ⟨(some 14), .load none (.t 13), some (10, true)⟩,
  ⟨(some 15), .load none (.t 1), some (10, true)⟩,
  ⟨(some 16), .load none (.t 2), some (10, true)⟩,
  ⟨(some 17), .idxs 1 (.t 15) (.t 16), some (10, true)⟩,
  ⟨(some 18), .load none (.t 17), some (10, true)⟩,
  ⟨(some 19), .bin .sub (.t 18) (.c (.int .i64 1)), some (10, true)⟩,
  ⟨(some 20), .bin .eql (.t 14) (.t 19), some (10, true)⟩,
  oM 21 (.pick (.t 10) (.t 20) (.c (.bool false))),
  oT 4 21] (some [[], [], [0, 1], [2], [3], [4], [5], [5], [6, 7, 5], [8, 5], [5], [5], [10, 11, 5], [12, 5], [13, 5], [9, 14, 5], [5, 15], [16, 5, 0, 1, 2, 3, 4, 5, 6, 7, 8, 9, 10, 11, 12, 13, 14, 15, 16]]))
 (.ret))
theorem fn69 : env0.fn 69 = some ⟨22, ic69, [.t 4]⟩ := by kernel_rfl
set_option maxRecDepth 100000 in
set_option maxHeartbeats 1000000 in
theorem pred67 (back : List Int) (w v : Nat) (hw : w < back.length) (hv : v < back.length) (lo : -1 ≤ gI back v) (hi : gI back v ≤ 1000000) : PF Try.prog 69 [.int .i64 (w : Nat), .vptr [vsI back], .vptr [.int .i64 (v : Nat)]] (.bool (prB back v w)) := by
 have hgw : (back.map fun z => ([.int .i64 z] : List AV))[((w : Nat) : Int).toNat]? = some [.int .i64 (gI back w)] := by rw [zj4 hw]; unfold gI; rw [y0d, y09 hw]; rfl
 have hgv : (back.map fun z => ([.int .i64 z] : List AV))[((v : Nat) : Int).toNat]? = some [.int .i64 (gI back v)] := by rw [zj4 hv]; unfold gI; rw [y0d, y09 hv]; rfl
 refine zb2 env0_ok fn69 [(0, .int .i64 (w : Nat)), (1, .vptr [vsI back]), (2, .vptr [.int .i64 (v : Nat)])] (by show 3 ≤ 22; decide) rfl fun w0 N0 => ?_
 unfold ic69 prB
 have w1 : IntKind.wrap .i64 (gI back v - 1) = gI back v - 1 := zgt _ (by omega) (by omega)
 repeat (first | refine za9 ?_ | refine za1 rfl ?_ | refine za8 ?_ | refine za7 ?_ | refine za3 rfl ?_ | refine zad rfl rfl ?_ | refine zgg env0_ok rfl rfl rfl ?_ | refine zba rfl rfl (by omega) (by assumption) rfl ?_)
 refine zao rfl rfl rfl (fun h1 => ?_) fun h1 => ?_
 ·have h1 : decide (gI back w ≥ 0) = true := h1
  rw [h1]
  repeat (first | refine zd1 rfl ?_ | refine za3 rfl ?_ | refine zad rfl rfl ?_ | refine zb5 (op := .sub) rfl rfl rfl ?_ | refine zba rfl rfl (by omega) (by assumption) rfl ?_)
  rw [w1]
  refine zao rfl rfl rfl (fun h2 => ?_) fun h2 => ?_
  ·have h2 : (gI back w == gI back v - 1) = true := h2
   rw [h2]
   repeat (first | refine za8 ?_ | refine za7 ?_ | refine zaz ?_ | refine za3 rfl ?_ | refine zb3 rfl rfl ?_)
   exact zam ⟨.inr rfl, _, rfl, rfl⟩
  ·have h2 : (gI back w == gI back v - 1) = false := h2
   rw [h2]
   repeat (first | refine za8 ?_ | refine za7 ?_ | refine zaz ?_ | refine za3 rfl ?_ | refine zb3 rfl rfl ?_)
   exact zam ⟨.inr rfl, _, rfl, rfl⟩
 ·have h1 : decide (gI back w ≥ 0) = false := h1
  rw [h1]
  repeat (first | refine za8 ?_ | refine za7 ?_ | refine zaz ?_ | refine zfd rfl rfl ?_ | refine za3 rfl ?_ | refine zaq rfl rfl ?_)
  exact zam ⟨.inr rfl, _, rfl, rfl⟩
def b44_0 : IC := .seq (.region [oM 9 (.bin .lss (.t 8) (.t 7))] none)
 (.seq (.cond (.t 9) (.skip)
 (.exit 0))
 (.seq (.block 1 (.seq (.region [oT 10 8,
  oT 5 10] none)
 (.seq (.region [oT 11 1,
  oT 12 0,
  oT 13 5,
  oM 14 (.idxs 1 (.t 12) (.t 13)),
  oN 15 14,
  oM 16 (.call (.t 11) [(.t 15)])] none)
 (.cond (.t 16) (.seq (.region [oT 17 5,
  oT 4 17] none)
 (.ret))
 (.skip)))))
 (.region [oM 18 (.bin .add (.t 8) (.c (.int .i64 1))),
  oT 8 18] none)))
-- slices.IndexFunc[[]int,int]
def ic44 : IC := .seq (.region [oM 4 (.mov (.c (.int .i64 0)))] none)
 (.seq (.seq (.region [oT 6 0,
  oM 7 (.len false (.t 6)),
  oM 8 (.mov (.c (.int .i64 0)))] none)
 (.block 0 (.loop b44_0)))
 (.seq (.region [oM 4 (.mov (.c (.int .i64 (-1))))] none)
 (.ret)))
theorem fn44 : env0.fn 44 = some ⟨19, ic44, [.t 4]⟩ := by kernel_rfl
theorem vN_get {l : List Nat} {i : Nat} (h : i < l.length) : (l.map fun w => ([.int .i64 (w : Nat)] : List AV))[((i : Nat) : Int).toNat]? = some [.int .i64 (l[i] : Nat)] := by
 rw [y0y, y0a, y09 h]
 rfl
set_option maxHeartbeats 1000000 in
theorem index66 (back : List Int) (l : List Nat) (v : Nat) (hl : l.length ≤ 1000000) (hin : ∀ w ∈ l, w < back.length) (hv : v < back.length) (lo : -1 ≤ gI back v) (hi : gI back v ≤ 1000000) (k : Nat) (hk : k < l.length) (hp : prB back v l[k] = true) (hn : ∀ i (h2 : i < k), prB back v (l[i]'(Nat.lt_trans h2 hk)) = false) :
  PF Try.prog 44 [vN l, .fn 69 [] [.vptr [vsI back], .vptr [.int .i64 (v : Nat)]]] (.int .i64 (k : Nat)) := by
 have hvl : (l.map fun w => ([.int .i64 (w : Nat)] : List AV)).length = l.length := y0e ..
 refine zb2 env0_ok fn44 [(0, vN l), (1, .fn 69 [] [.vptr [vsI back], .vptr [.int .i64 (v : Nat)]])] (by show 2 ≤ 19; decide) rfl fun w0 N0 => ?_
 unfold ic44
 repeat (first | refine za9 ?_ | refine za1 rfl ?_ | refine za8 ?_ | refine za7 ?_ | refine zah ?_ | refine za3 rfl ?_ | refine zcr rfl rfl ?_)
 refine zbn (fun mm S => ∃ i, mm = l.length - i ∧ i ≤ k ∧ S = st 19 [(0, vN l), (1, .fn 69 [] [.vptr [vsI back], .vptr [.int .i64 (v : Nat)]]), (7, .int .i64 (l.length : Nat)), (8, .int .i64 (i : Nat))] [] 0 0) l.length
  (zaa (.cons rfl (.cons rfl (.cons (by rw [← hvl]; rfl) (.cons rfl .nil))))) ⟨0, rfl, y19 _, rfl⟩ ?_
 rintro mm S ⟨i, rfl, hi2, rfl⟩
 have hlt : i < l.length := by omega
 have hg := vN_get hlt
 have p67 := pred67 back l[i] v (hin _ (y17 hlt)) hv lo hi
 have w1 : IntKind.wrap .i64 (((i : Nat) : Int) + 1) = ((i + 1 : Nat) : Int) := zab i (by omega)
 unfold b44_0
 repeat (first | refine za9 ?_ | refine za1 rfl ?_)
 refine zao rfl rfl rfl (fun h3 => ?_) fun h3 => ?_
 ·repeat (first | refine za9 ?_ | refine za1 rfl ?_ | refine za8 ?_ | refine za7 ?_ | refine zah ?_ | refine zaf ?_ | refine zd8 rfl ?_ | refine za3 rfl ?_ | refine zad rfl rfl ?_ | refine zba rfl rfl (by omega) (by assumption) rfl ?_)
  refine o_callv rfl rfl rfl p67 noC ?_
  by_cases hik : i = k
  ·subst hik
   rw [hp]
   repeat (first | refine za9 ?_ | refine za1 rfl ?_ | refine za8 ?_ | refine za7 ?_ | refine zd8 rfl ?_ | refine zaz ?_ | refine zav ?_ | refine zc6 ?_ | refine za3 rfl ?_)
   exact zam ⟨.inr rfl, _, rfl, rfl⟩
  ·rw [hn i (by omega)]
   repeat (first | refine za1 rfl ?_ | refine za8 ?_ | refine za7 ?_ | refine zbm ?_ | refine zaf ?_ | refine zc3 rfl ?_ | refine za3 rfl ?_ | refine zb5 (op := .add) rfl rfl rfl ?_)
   rw [w1]
   exact zat (show l.length - (i + 1) < l.length - i by omega) (zaa (.cons rfl (.cons rfl (.cons rfl (.cons rfl .nil))))) ⟨i + 1, rfl, by omega, rfl⟩
 ·have h4 : ¬ ((i : Nat) : Int) < ((l.length : Nat) : Int) := of_decide_eq_false h3
  omega
inductive Wq (hp : List (Nat × Nat × AObj)) (nx : Nat) (q : List Int) : AV → Prop
 | lit {id sp : Nat} (a : Int) (hq : q = [a]) (hl : Am.look id hp = some (sp, .cells [.int .i64 a])) (hn : id < nx) : Wq hp nx q (.ms id sp 1 0 1 (some 1))
 | gen {id sp len : Nat} (hlen : len = q.length) (hl : Am.look id hp = some (sp, .cells (q.map (AV.int .i64)))) (hn : id < nx) : Wq hp nx q (.ms id sp 1 0 len none)
theorem Wq.fresh {nx : Nat} {hp : List (Nat × Nat × AObj)} {q : List Int} {qv : AV} (h : Wq hp nx q qv) (ck : Nat) (x : AObj) : Wq ((nx, ck, x) :: hp) (nx + 1) q qv := by
 cases h with
 | lit a hq hl hn => exact .lit a hq (by rw [za2, if_neg (by omega)]; exact hl) (by omega)
 | gen hlen hl hn => exact .gen hlen (by rw [za2, if_neg (by omega)]; exact hl) (by omega)
theorem Wq.view {nx d : Nat} {S : AS} {q : List Int} {qv : AV} (h : Wq S.heap nx q qv) : S.view (d + 1) qv = vsI q := by
 cases h with
 | lit a hq hl hn => subst hq; exact zdq [a] rfl hl
 | gen hlen hl hn => subst hlen; exact zdq q rfl hl
def Gv (b : Nat) (q : List Int) (w : AV) (hp : List (Nat × Nat × AObj)) (nx : Nat) : Prop :=
 (q = [] ∧ w = .nils) ∨ ∃ id sp, w = .ms id sp 1 0 q.length none ∧ Am.look id hp = some (sp, .cells (q.map (AV.int .i64))) ∧ b < id ∧ id < nx
section
variable {b nx : Nat} {q : List Int} {w : AV} {hp : List (Nat × Nat × AObj)}
theorem Gv.fresh (h : Gv b q w hp nx) (ck : Nat) (x : AObj) : Gv b q w ((nx, ck, x) :: hp) (nx + 1) := by
 rcases h with h | ⟨id, sp, e, hl, h1, h2⟩
 ·exact .inl h
 ·exact .inr ⟨id, sp, e, by rw [za2, if_neg (by omega)]; exact hl, h1, by omega⟩
theorem Gv.put (h : Gv b q w hp nx) {i : Nat} (hi : i ≤ b) (x : Nat × AObj) : Gv b q w (zbb i x hp) nx := by
 rcases h with h | ⟨id, sp, e, hl, h1, h2⟩
 ·exact .inl h
 ·exact .inr ⟨id, sp, e, by rw [za4, if_neg (by omega)]; exact hl, h1, h2⟩
theorem Gv.view {S : AS} {d : Nat} (h : Gv b q w S.heap nx) : S.view (d + 1) w = vsI q := by
 rcases h with ⟨rfl, rfl⟩ | ⟨id, sp, rfl, hl, _, _⟩
 ·rfl
 ·exact zdq q rfl hl
end
-- slices.Index[[]int,int]
end Go.Proofs.Ytfbeableaihooaa
