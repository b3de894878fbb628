/-
  REVERSED GRAPHS: reversed and Reverse walked; graphs that are the same.
-/
import Derived.Test.YtoagikifehmlpaaQG2
namespace Go.Proofs.Ytoagikifehmlpaa
open Go Go.Am
def swE (es : List (Int × Int)) : List (Int × Int) := es.map fun e => (e.2, e.1)
theorem swE_succ {es : List (Int × Int)} {i : Nat} (h : i < es.length) : swE (es.take (i + 1)) = swE (es.take i) ++ [(es[i].2, es[i].1)] := by
 unfold swE
 rw [List.take_add_one, List.getElem?_eq_getElem h, List.map_append]
 rfl
theorem swE_len (es : List (Int × Int)) (i : Nat) : (swE (es.take i)).length ≤ i := by
 unfold swE
 rw [List.length_map, List.length_take]
 omega
def Rv (q : List (Int × Int)) (w : AV) (hp : List (Nat × Nat × AObj)) (nx : Nat) : Prop :=
 (q = [] ∧ w = .nils) ∨ ∃ id sp, w = .ms id sp 2 0 q.length none ∧ Am.look id hp = some (sp, .cells (cE q).flatten) ∧ 1 < id ∧ id < nx
structure Rq (n : Int) (q : List (Int × Int)) (v w : AV) (hp : List (Nat × Nat × AObj)) (nx : Nat) : Prop where
 res : Am.look 0 hp = some (0, .cells [.int .i64 0, .nils])
 out : Am.look 1 hp = some (1, .cells [.int .i64 n, v])
 lst : Rv q w hp nx
 nx1 : 1 < nx
section
variable {n : Int} {q : List (Int × Int)} {v w : AV} {hp : List (Nat × Nat × AObj)} {nx : Nat}
theorem Rq.fresh (h : Rq n q v w hp nx) (ck : Nat) (x : AObj) : Rq n q v w ((nx, ck, x) :: hp) (nx + 1) := by
 have h1 := h.nx1
 refine ⟨by rw [za8, if_neg (by omega)]; exact h.res, by rw [za8, if_neg (by omega)]; exact h.out, ?_, by omega⟩
 rcases h.lst with h2 | ⟨id, sp, e, hl, a, b⟩
 ·exact .inl h2
 ·exact .inr ⟨id, sp, e, by rw [za8, if_neg (by omega)]; exact hl, a, by omega⟩
theorem Rq.store (h : Rq n q v w hp nx) (x : AV) : Rq n q x w (zca 1 (1, .cells [.int .i64 n, x]) hp) nx := by
 refine ⟨by rw [za7, if_neg (by decide)]; exact h.res, by rw [za7, if_pos rfl], ?_, h.nx1⟩
 rcases h.lst with h2 | ⟨id, sp, e, hl, a, b⟩
 ·exact .inl h2
 ·exact .inr ⟨id, sp, e, by rw [za7, if_neg (by omega)]; exact hl, a, b⟩
theorem Rq.fresh2 (h : Rq n q v w hp nx) (ck : Nat) (x : AObj) (y : Nat × AObj) : Rq n q v w (zca nx y ((nx, ck, x) :: hp)) (nx + 1) := by
 have h0 := h.nx1
 have h1 := h.fresh ck x
 refine ⟨by rw [za7, if_neg (by omega)]; exact h1.res, by rw [za7, if_neg (by omega)]; exact h1.out, ?_, h1.nx1⟩
 rcases h.lst with h2 | ⟨id, sp, e, hl, a, b⟩
 ·exact .inl h2
 ·exact .inr ⟨id, sp, e, by rw [za7, if_neg (by omega), za8, if_neg (by omega)]; exact hl, a, by omega⟩
theorem cE_snoc (q : List (Int × Int)) (x : Int × Int) : (cE q).flatten ++ [[AV.int .i64 x.1, AV.int .i64 x.2]].flatten = (cE (q ++ [x])).flatten := by
 unfold cE
 rw [List.map_append, List.flatten_append]
 rfl
theorem zm8 (q : List (Int × Int)) : (cE q).flatten.length = q.length * 2 := by
 induction q with
 | nil => rfl
 | cons e q ih =>
  show ([AV.int .i64 e.1, AV.int .i64 e.2] ++ (cE q).flatten).length = _
  rw [List.length_append, ih]
  show 2 + q.length * 2 = (q.length + 1) * 2
  omega
theorem Rq.app_new (h : Rq n [] v .nils hp nx) (ck : Nat) (x : Int × Int) : Rq n [x] v (.ms nx ck 2 0 1 none) ((nx, ck, .cells [.int .i64 x.1, .int .i64 x.2]) :: hp) (nx + 1) := by
 have h1 := h.nx1
 exact ⟨by rw [za8, if_neg (by omega)]; exact h.res, by rw [za8, if_neg (by omega)]; exact h.out, .inr ⟨nx, ck, rfl, zb5, h1, Nat.lt_succ_self _⟩, by omega⟩
theorem Rq.app_old {id sp len : Nat} (h : Rq n q v (.ms id sp 2 0 q.length none) hp nx) (hid : 1 < id) (hn : id < nx) (ck : Nat) (x : Int × Int) : Rq n (q ++ [x]) v (.ms id ck 2 0 (q.length + 1) none) (zca id (ck, .cells (cE (q ++ [x])).flatten) hp) nx :=
 ⟨by rw [za7, if_neg (by omega)]; exact h.res, by rw [za7, if_neg (by omega)]; exact h.out, .inr ⟨id, ck, by rw [List.length_append]; rfl, by rw [za7, if_pos rfl], hid, hn⟩, h.nx1⟩
theorem o_rapp {w0 : World} {N0 nn d ck : Nat} {k : List Fr} {Q : Exit → AS → Prop} {l : List (Nat × AV)} {ios : List Opr} {bytes j sj : Nat} {x : Int × Int} {z : List AV} {s xa : Arg} (hF : Rq n q v w hp nx) (hlen : q.length ≤ 1000000) (hs : zb3 s l = some w) (hx : zb3 xa l = some (.ms j sj 2 0 1 (some 1))) (hj : Am.look j hp = some (sj, .cells [.int .i64 x.1, .int .i64 x.2])) (hb : bytes ≤ 16777216)
  (go : ∀ w' hp' nx' ck', Rq n (q ++ [x]) v w' hp' nx' → Om Try.prog w0 N0 none (KnP Try.prog w0 N0) ios (st nn ((d, w') :: l) hp' nx' ck') k Q) :
  Om Try.prog w0 N0 none (KnP Try.prog w0 N0) (⟨some d, .append 2 bytes z s xa, none⟩ :: ios) (st nn l hp nx ck) k Q := by
 have hel : ∀ l, (st nn l hp nx ck []).elems 2 (.ms j sj 2 0 1 (some 1)) = some [[.int .i64 x.1, .int .i64 x.2]] := fun l => zdc (xs := [[.int .i64 x.1, .int .i64 x.2]]) (ys := []) hj rfl fun x hx => by obtain rfl := List.mem_singleton.1 hx; rfl
 rcases hF.lst with ⟨rfl, rfl⟩ | ⟨id, sp, rfl, hl, h1, h2⟩
 ·have hi : iop (st nn l hp nx ck) (.append 2 bytes z s xa) = some (.ms nx ck 2 0 1 none, st nn l ((nx, ck, .cells [.int .i64 x.1, .int .i64 x.2]) :: hp) (nx + 1) (ck + 1)) := by
   simp only [iop, zam, hs, hx, hel]
   unfold zb7
   rw [if_neg (show ¬ [[AV.int .i64 x.1, AV.int .i64 x.2]].length = 0 from Nat.succ_ne_zero 0), if_pos (show [[AV.int .i64 x.1, AV.int .i64 x.2]].flatten.all AV.isCell = true ∧ bytes ≤ 16777216 from ⟨rfl, hb⟩)]
   rfl
  exact ze9 hi (go _ _ _ _ (hF.app_new ck x)) (fun _ _ _ _ _ _ _ => rfl)
 ·refine ze7 [[.int .i64 x.1, .int .i64 x.2]] hs hx (hel _) (fun h => Nat.noConfusion h) rfl hb hl (zm8 q).symm (by show _ + 1 ≤ _; omega) ?_ (fun _ _ _ _ _ _ _ => rfl)
  refine go _ _ _ _ ?_
  rw [cE_snoc]
  exact hF.app_old (len := 0) h1 h2 ck x
theorem Rv.cell (h : Rv q w hp nx) : w.isCell = true ∧ w.cells? = some [w] := by
 rcases h with ⟨rfl, rfl⟩ | ⟨id, sp, rfl, hl, _, _⟩
 ·exact ⟨rfl, rfl⟩
 ·exact ⟨rfl, rfl⟩
theorem res_agg {S : AS} {a : Nat} {pa x y : AV} (h1 : S.get a = some pa) (d1 : S.deref pa = some [x, y]) : S.res [.cell a (some 2)] = some (.agg [x, y]) := by
 simp [AS.res, AS.resL, loadA, h1, d1]
theorem Rv.view {S : AS} {d : Nat} (h : Rv q w S.heap nx) : S.view (d + 1) w = .vs (cE q) := by
 rcases h with ⟨rfl, rfl⟩ | ⟨id, sp, rfl, hl, _, _⟩
 ·rfl
 ·have e : S.elems 2 (.ms id sp 2 0 q.length none) = some (cE q) := by
   obtain ⟨n, t, hp, nx, ck, mk⟩ := S
   exact zdc (ys := []) (cap := none) (n := n) (nx := nx) (ck := ck) (mk := mk) (l := []) (hp := hp) (by rw [List.append_nil]; exact hl) (zcg q) (fun x hx => by obtain ⟨s, _, rfl⟩ := List.mem_map.1 hx; rfl)
  simp only [AS.view, e]
  congr 1
  unfold cE
  rw [List.map_map]
  apply List.map_congr_left
  intro s _
  cases d <;> rfl
end
def b47_0 : IC := .seq (.region [⟨(some 13), .bin .lss (.t 12) (.t 11), none⟩] none)
 (.seq (.cond (.t 13) (.skip)
 (.exit 0))
 (.seq (.block 1 (.seq (.region [⟨(some 14), .idxs 2 (.t 10) (.t 12), none⟩,
  ⟨(some 15), .load (some 2) (.t 14), none⟩,
  ⟨(some 5), .alloc [.int .i64 0, .int .i64 0], none⟩,
  ⟨none, .store 2 (.t 5) (.t 15), none⟩] none)
 (.region [⟨(some 16), .faddr 1 (.t 3), none⟩,
  ⟨(some 17), .load none (.t 16), none⟩,
  ⟨(some 18), .faddr 1 (.t 5), none⟩,
  ⟨(some 19), .load none (.t 18), none⟩,
  ⟨(some 20), .faddr 0 (.t 5), none⟩,
  ⟨(some 21), .load none (.t 20), none⟩,
  ⟨(some 22), .build [.int .i64 0, .int .i64 0] [(0, 1, (.t 19)), (1, 1, (.t 21))], none⟩,
  ⟨(some 23), .bslice 2 1 [.int .i64 0, .int .i64 0] [(0, 2, (.t 22))], none⟩,
  ⟨(some 24), .append 2 16 [.int .i64 0, .int .i64 0] (.t 17) (.t 23), none⟩,
  ⟨(some 25), .faddr 1 (.t 3), none⟩,
  ⟨none, .store 1 (.t 25) (.t 24), none⟩] none)))
 (.region [⟨(some 26), .bin .add (.t 12) (.c (.int .i64 1)), none⟩,
  ⟨(some 12), .mov (.t 26), none⟩] none)))
-- pneumatic/digraph.reversed
def ic47 : IC := .seq (.region [⟨(some 1), .box (.t 0), none⟩,
  ⟨(some 2), .alloc [.int .i64 0, .nils], none⟩] none)
 (.seq (.region [⟨(some 6), .faddr 0 (.t 1), none⟩,
  ⟨(some 7), .load none (.t 6), none⟩,
  ⟨(some 8), .build [.int .i64 0, .nils] [(0, 1, (.t 7))], none⟩,
  ⟨(some 3), .alloc [.int .i64 0, .nils], none⟩,
  ⟨none, .store 2 (.t 3) (.t 8), none⟩] none)
 (.seq (.seq (.region [⟨(some 9), .faddr 1 (.t 1), none⟩,
  ⟨(some 10), .load none (.t 9), none⟩,
  ⟨(some 11), .len false (.t 10), none⟩,
  ⟨(some 12), .mov (.c (.int .i64 0)), none⟩] none)
 (.block 0 (.loop b47_0)))
 (.seq (.region [⟨(some 27), .load (some 2) (.t 3), none⟩,
  ⟨none, .store 2 (.t 2) (.t 27), none⟩] none)
 (.ret))))
theorem fn47 : env0.fn 47 = some ⟨28, ic47, [.cell 2 (some 2)]⟩ := by kernel_rfl
set_option maxHeartbeats 4000000 in
theorem zj9 (n : Int) (es : List (Int × Int)) (he : es.length ≤ 1000000) : PF Try.prog 47 [cG n es] (cG n (swE es)) := by
 have hcl := zcg es
 refine zb4 env0_ok fn47 [(0, .agg [.int .i64 n, .vs (cE es)])] (by show 1 ≤ 28; decide) rfl fun w0 N0 => ?_
 unfold ic47
 refine za6 (za0 rfl (ze8 rfl rfl (ze6 (za5 (za3 ?_)))))
 refine zby [(some (1, 1), [.int .i64 0, .nils])] [(0, 0, [.int .i64 n, .vs (cE es)])] [(1, .vptr [.int .i64 n, .vs (cE es)]), (2, .mptr 0 0 0)] rfl (.cons rfl rfl .nil) (.cons rfl (.cons (.same rfl) (.cons (.same rfl) .nil)) .nil) (.cons rfl (.fptr rfl rfl) (.cons rfl (.mptr rfl) .nil)) ?_
 repeat (first | refine za6 ?_ | refine za0 rfl ?_ | refine za5 ?_ | refine za3 ?_ | refine zae ?_ | refine za2 rfl ?_ | refine zaf rfl rfl ?_ | refine zdm rfl rfl rfl rfl rfl rfl rfl ?_ | refine zan rfl rfl rfl ?_ | refine ze6 ?_ | refine zbf rfl rfl ?_ | refine zk8 rfl rfl ?_)
 refine zbx (fun mm S => ∃ i v hp nx ck, mm = es.length - i ∧ i ≤ es.length ∧ Rq n (swE (es.take i)) v v hp nx ∧ S = st 28 [(2, .mptr 0 0 0), (3, .mptr 1 1 0), (10, .vs (cE es)), (11, .int .i64 ((cE es).length : Nat)), (12, .int .i64 (i : Nat))] hp nx ck) es.length
  (za9 (.cons rfl (.cons rfl (.cons rfl (.cons rfl (.cons rfl .nil)))))) ⟨0, .nils, _, _, _, rfl, Nat.zero_le _, ⟨rfl, rfl, .inl ⟨rfl, rfl⟩, by decide⟩, rfl⟩ ?_
 rintro mm S ⟨i, v, hp, nx, ck, rfl, hi, hF, rfl⟩
 have hql := swE_len es i
 unfold b47_0
 repeat (first | refine za6 ?_ | refine za0 rfl ?_)
 refine zau rfl rfl rfl (fun h3 => ?_) fun h3 => ?_
 ·have hlt : i < es.length := by
   have h4 : ((i : Nat) : Int) < (((cE es).length : Nat) : Int) := of_decide_eq_true h3
   omega
  have w1 : IntKind.wrap .i64 (((i : Nat) : Int) + 1) = ((i + 1 : Nat) : Int) := zar i (by omega)
  have hg := znt hlt
  have hs := swE_succ hlt
  generalize es[i].1 = a at *
  generalize es[i].2 = b at *
  repeat (first | refine za6 ?_ | refine za0 rfl ?_ | refine za5 ?_ | refine za3 ?_ | refine zae ?_ | refine zad ?_ | refine zcp rfl ?_ | refine zax rfl rfl rfl rfl ?_ | refine ze6 ?_ | refine zaw rfl rfl (by omega) (by assumption) rfl ?_)
  refine zdm (id := nx) (sp := ck) (off := 0) rfl rfl rfl rfl zb5 rfl rfl ?_
  have hF1 := hF.fresh2 ck (.cells [.int .i64 0, .int .i64 0]) (ck, .cells [.int .i64 a, .int .i64 b])
  have k5 : Am.look nx (zca nx (ck, AObj.cells [.int .i64 a, .int .i64 b]) ((nx, ck, AObj.cells [.int .i64 0, .int .i64 0]) :: hp)) = some (ck, .cells [.int .i64 a, .int .i64 b]) := by
   rw [za7, if_pos rfl]
  repeat (first | refine za0 rfl ?_ | refine za5 ?_ | refine za3 ?_ | refine zbq rfl ?_)
  refine zb1 (id := 1) (sp := 1) (off := 0 + 1) rfl hF1.out hF1.nx1 rfl ?_
  repeat (first | refine zbq rfl ?_)
  refine zb1 (id := nx) (sp := ck) (off := 0 + 1) rfl k5 (Nat.lt_succ_self _) rfl ?_
  repeat (first | refine zbq rfl ?_)
  refine zb1 (id := nx) (sp := ck) (off := 0) rfl k5 (Nat.lt_succ_self _) rfl ?_
  repeat (first | refine zk8 rfl rfl ?_ | refine zcl rfl rfl ?_)
  refine o_rapp (x := (b, a)) (hF1.fresh _ (.cells [.int .i64 b, .int .i64 a])) (by omega) rfl rfl zb5 (by decide) fun w' hp' nx' ck' hF2 => ?_
  repeat (first | refine zbq rfl ?_)
  refine zdh (id := 1) (sp := 1) (off := 0 + 1) rfl rfl hF2.lst.cell.2 hF2.out (by simp) hF2.lst.cell.1 ?_
  repeat (first | refine za0 rfl ?_ | refine za5 ?_ | refine za3 ?_ | refine zcb ?_ | refine za2 rfl ?_ | refine zbe (op := .add) rfl rfl rfl ?_)
  rw [w1]
  exact zay (show es.length - (i + 1) < es.length - i by omega) (za9 (.cons rfl (.cons rfl (.cons rfl (.cons rfl (.cons rfl .nil)))))) ⟨i + 1, w', _, _, _, rfl, hlt, by rw [hs]; exact hF2.store w', rfl⟩
 ·have hie : i = es.length := by
   have h4 : ¬ ((i : Nat) : Int) < (((cE es).length : Nat) : Int) := of_decide_eq_false h3
   omega
  subst hie
  rw [List.take_length] at hF
  repeat (first | refine za6 ?_ | refine za5 ?_ | refine za3 ?_ | refine zce rfl ?_ | refine zbw ?_ | refine zag ?_)
  refine zdb ?_
  repeat (first | refine za6 ?_ | refine za0 rfl ?_ | refine za3 ?_ | refine zbv ?_)
  refine o_loadnm (id := 1) (sp := 1) (off := 0) rfl hF.out hF.nx1 rfl rfl ?_
  refine zdm (id := 0) (sp := 0) (off := 0) (v := .agg [.int .i64 n, v]) (vs := [.int .i64 n, v]) rfl rfl rfl rfl hF.res rfl (by rw [List.all_cons, List.all_cons, hF.lst.cell.1]; rfl) ?_
  repeat (first | refine za5 ?_ | refine za3 ?_ | refine zaq ?_)
  refine zao ⟨.inr rfl, _, res_agg ((zoa 2).trans rfl) (zo1 (sp := 0) (cs := [.int .i64 n, v]) (by show Am.look 0 (zca 0 _ hp) = _; rw [za7, if_pos rfl]; rfl) (show 0 < nx by have := hF.nx1; omega) rfl), ?_⟩
  have hv : Rv (swE es) v (zca 0 (0, .cells [.int .i64 n, v]) hp) nx := by
   rcases hF.lst with h2 | ⟨id, sp, e, hl, a, b⟩
   ·exact .inl h2
   ·exact .inr ⟨id, sp, e, by rw [za7, if_neg (by omega)]; exact hl, a, b⟩
  exact congrArg AV.agg (zgb rfl hv.view)
end Go.Proofs.Ytoagikifehmlpaa
