/-
  THE CHOICES OF A STEP: the loops of guard.Danger.; THE CHOICES OF A STEP: the second loop of guard.Danger.; DANGERS: the round over the positions of a step, in guard.Danger.
-/
import Derived.Test.YtoiblgbaeglgoaaKX5
namespace Go.Proofs.Ytoiblgbaeglgoaa
open Go Go.Am
theorem zc2 {P : Program} {w0 : World} {N0 n nx ck : Nat} {mk : List (Nat × Nat)} {md : Md} {l : List (Nat × AV)} {hp : List (Nat × Nat × AObj)} {k : List Fr} {Q : Exit → AS → Prop} {ios : List Opr} {pf : Kn} {d sz bytes : Nat} {z : List AV} {s x : Arg} {xv : AV} (es : List (List AV)) {id sp len c : Nat} {cs : List AV} (hs : zbr s l = some (.ms id sp sz 0 len (some c))) (hx : zbr x l = some xv) (he : (st n l hp nx ck mk).elems sz xv = some es) (hne : es.length ≠ 0) (hc : es.flatten.all AV.isCell = true) (hb : bytes ≤ 16777216) (hlk : Am.look id hp = some (sp, .cells cs))
  (h0 : len * sz ≤ cs.length) (h2 : len + es.length ≤ 1048576) (h3 : c < len + es.length) (go : Om P w0 N0 md pf ios (st n ((d, .ms nx ck sz 0 (len + es.length) none) :: l) ((nx, ck, .cells (cs.take (len * sz) ++ es.flatten)) :: hp) (nx + 1) (ck + 1) mk) k Q) :
  Om P w0 N0 md pf (⟨some d, .append sz bytes z s x, none⟩ :: ios) (st n l hp nx ck mk) k Q := by
 have hi : iop (st n l hp nx ck mk) (.append sz bytes z s x) = some (.ms nx ck sz 0 (len + es.length) none, st n l ((nx, ck, .cells (cs.take (len * sz) ++ es.flatten)) :: hp) (nx + 1) (ck + 1) mk) := by
  simp only [iop, zbk, hs, hx, he]
  unfold zd3
  rw [if_neg hne, if_pos ⟨hc, hb⟩]
  simp only [show (st n l hp nx ck mk).heap = hp from rfl, hlk]
  rw [if_pos ⟨trivial, trivial, by omega, h2⟩]
  rw [if_neg (by omega), y14]
  rfl
 exact zfm hi go
def chM : Nat → List (List Int) → List (Option Nat) → List AV
 | b, c :: cs, k :: ks => .ms b 0 1 0 c.length k :: chM (b + 1) cs ks
 | _, _, _ => []
def inL (C : List (List Int)) : zh3 := C.map fun c => (none, c.map (AV.int .i64))
def zkc (E : List Bool) (C : List (List Int)) (ks : List (Option Nat)) : zh3 :=
 (none, [.int .i64 0]) :: (none, [.nils]) :: (none, [.bool false]) :: (none, [.int .i64 0]) :: (none, (enE E).map (AV.int .i64)) :: (none, chM 6 C ks) :: inL C
def lvF (E : List Bool) (r : zh3) : zh3 :=
 (some (0, 0), [.int .i64 0]) :: (some (1, 0), [.nils]) :: (some (2, 0), [.bool false]) :: (some (3, 0), [.int .i64 0]) :: (some (4, 0), (enE E).map (AV.int .i64)) :: r
def b18 (f : List Ex) (n : Int) (l : List Sp) (i : Nat) (sk : List Sk) (w : Int) (m : Nat) (r : List (Nat × AV)) : List (Nat × AV) :=
 (2, .vptr [.vs (cXs f)]) :: (3, .vptr [.int .i64 n, .vs (cPs l)]) :: (4, .mptr 0 0 0) :: (5, .mptr 1 0 0) :: (6, .mptr 2 0 0) :: (7, .mptr 3 0 0) :: (10, .ms 4 0 1 0 m (some m)) :: (38, .vs (cPs l)) :: (39, .int .i64 (cPs l).length) :: (40, .int .i64 (i : Nat)) :: (11, .vptr [.int .i64 (i : Nat)]) :: (12, .vptr [.vs (cSs sk), .int .i64 w]) :: r
theorem zhg {live : zh3} {fz : List (Nat × Nat × List AV)} {la r : List (Nat × AV)} {f : List Ex} {n : Int} {l : List Sp} {i : Nat} {sk : List Sk} {w : Int} {m : Nat} {c0 c1 c2 c3 c4 : List AV}
  (h2 : zbs 2 la = some (.vptr [.vs (cXs f)])) (h3 : zbs 3 la = some (.vptr [.int .i64 n, .vs (cPs l)])) (h4 : zbs 4 la = some (.mptr 0 0 0)) (h5 : zbs 5 la = some (.mptr 1 0 0)) (h6 : zbs 6 la = some (.mptr 2 0 0)) (h7 : zbs 7 la = some (.mptr 3 0 0)) (h10 : zbs 10 la = some (.ms 4 0 1 0 m (some m))) (h38 : zbs 38 la = some (.vs (cPs l))) (h39 : zbs 39 la = some (.int .i64 (cPs l).length)) (h40 : zbs 40 la = some (.int .i64 (i : Nat))) (h11 : zbs 11 la = some (.vptr [.int .i64 (i : Nat)])) (h12 : zbs 12 la = some (.vptr [.vs (cSs sk), .int .i64 w]))
  (l0 : live[0]? = some (some (0, 0), c0)) (l1 : live[1]? = some (some (1, 0), c1)) (l2 : live[2]? = some (some (2, 0), c2)) (l3 : live[3]? = some (some (3, 0), c3)) (l4 : live[4]? = some (some (4, 0), c4)) (hr : RnA live fz la r) : RnA live fz la (b18 f n l i sk w m r) :=
 .cons h2 (.same rfl) (.cons h3 (.same rfl) (.cons h4 (.mptr l0) (.cons h5 (.mptr l1) (.cons h6 (.mptr l2) (.cons h7 (.mptr l3) (.cons h10 (.ms l4) (.cons h38 (.same rfl) (.cons h39 (.same rfl) (.cons h40 (.same rfl) (.cons h11 (.same rfl) (.cons h12 (.same rfl) hr)))))))))))
theorem zfn {live r : zh3} {fz : List (Nat × Nat × List AV)} {hp : List (Nat × Nat × AObj)} {E : List Bool}
  (h0 : Am.look 0 hp = some (0, .cells [.int .i64 0])) (h1 : Am.look 1 hp = some (0, .cells [.nils])) (h2 : Am.look 2 hp = some (0, .cells [.bool false])) (h3 : Am.look 3 hp = some (0, .cells [.int .i64 0])) (h4 : Am.look 4 hp = some (0, .cells ((enE E).map (AV.int .i64)))) (hr : RnH live fz hp r) : RnH live fz hp (lvF E r) :=
 .cons h0 (.keep rfl) (.cons h1 (.keep rfl) (.cons h2 (.keep rfl) (.cons h3 (.keep rfl) (.cons h4 (.keep (zaj _)) hr))))
noncomputable def zmi : Code := match env0.fn 18 with
 | some i => ((zc1 i.ic)[0]?.getD (.skip, .skip)).1
 | none => .skip
noncomputable def zmk : Code := match env0.fn 18 with
 | some i => ((zc1 i.ic)[0]?.getD (.skip, .skip)).2
 | none => .skip
def zrn : IC := .region [oT 20 87] none
def ya6 : IC := .block 7 (.seq (.region [oF 88 0 2,
  oN 89 88,
  oT 90 20,
  oM 91 (.call (.c (.fn 83 [] [])) [(.t 89), (.t 90)]),
  oM 92 (.len false (.t 91)),
  oM 93 (.bin .gtr (.t 92) (.c (.int .i64 0)))] none)
 (.cond (.t 93) (.seq (.region [oN 94 11,
  oT 95 20,
  ⟨none, .store 1 (.t 4) (.t 94), none⟩,
  ⟨none, .store 1 (.t 5) (.t 95), none⟩,
  ⟨none, .store 1 (.t 6) (.c (.bool true)), none⟩,
  ⟨none, .store 1 (.t 7) (.c (.int .i64 0)), none⟩] none)
 (.ret))
 (.skip)))
def zm6 : IC := .seq (.region [oM 48 (.bin .lss (.t 47) (.t 46))] none)
 (.seq (.cond (.t 48) (.skip)
 (.exit 2))
 (.seq (.block 3 (.seq (.region [oM 49 (.idxs 1 (.t 45) (.t 47)),
  oN 50 49,
  oT 15 50] none)
 (.region [oT 51 13,
  oT 52 15,
  oM 53 (.bslice 1 1 [.int .i64 0] [(0, 1, (.t 52))]),
  oM 54 (.bslice 1 1 [.nils] [(0, 1, (.t 53))]),
  oM 55 (.append 1 24 [.nils] (.t 51) (.t 54)),
  oT 13 55] none)))
 (.region [oM 56 (.bin .add (.t 47) (.c (.int .i64 1))),
  oT 47 56] none)))
def zm7 : IC := .seq (.region [oM 61 (.bin .lss (.t 60) (.t 59))] none)
 (.seq (.cond (.t 61) (.skip)
 (.exit 4))
 (.seq (.block 5 (.seq (.region [oM 62 (.idxs 2 (.t 58) (.t 60)),
  oL 63 2 62,
  oM 17 (.alloc [.int .i64 0, .bool false]),
  ⟨none, .store 2 (.t 17) (.t 63), none⟩] none)
 (.seq (.region [oM 18 (.mov (.c (.int .i64 3))),
  oM 19 (.mov (.c (.int .i64 0)))] none)
 (.seq (.seq (.region [oF 64 1 17,
  oN 65 64] none)
 (.cond (.t 65) (.region [oM 18 (.mov (.c (.int .i64 1))),
  oM 19 (.mov (.c (.int .i64 2)))] none)
 (.skip)))
 (.seq (.region [oT 66 13,
  oF 67 0 17,
  oN 68 67,
  oT 69 13,
  oF 70 0 17,
  oN 71 70,
  oM 72 (.idxs 1 (.t 69) (.t 71)),
  oN 73 72,
  oT 74 18,
  oT 75 19,
  oM 76 (.bslice 1 2 [.int .i64 0, .int .i64 0] [(0, 1, (.t 74)), (1, 1, (.t 75))]),
  oM 77 (.append 1 8 [.int .i64 0] (.t 73) (.t 76)),
  oM 78 (.idxs 1 (.t 66) (.t 68)),
  ⟨none, .store 1 (.t 78) (.t 77), none⟩] (some [[], [], [1], [], [], [4], [3, 5], [6], [], [], [8, 9], [7, 10], [0, 2, 0, 1, 2, 3, 4, 5, 6, 7, 8, 9, 10, 11], [12, 11, 11, 0, 1, 2, 3, 4, 5, 6, 7, 8, 9, 10, 11]]))
 (.region [oT 79 10,
  oF 80 0 17,
  oN 81 80,
  oT 82 19,
  oM 83 (.idxs 1 (.t 79) (.t 81)),
  ⟨none, .store 1 (.t 83) (.t 82), none⟩] none))))))
 (.region [oM 84 (.bin .add (.t 60) (.c (.int .i64 1))),
  oT 60 84] none)))
noncomputable def b18_0 : IC := .seq (.region [oM 41 (.bin .lss (.t 40) (.t 39))] none)
 (.seq (.cond (.t 41) (.skip)
 (.exit 0))
 (.seq (.block 1 (.seq (.region [oT 42 40,
  oM 43 (.idxs 2 (.t 38) (.t 40)),
  oL 44 2 43,
  oM 11 (.alloc [.int .i64 0]),
  oM 12 (.alloc [.nils, .int .i64 0]),
  ⟨none, .store 1 (.t 11) (.t 42), none⟩,
  ⟨none, .store 2 (.t 12) (.t 44), none⟩] none)
 (.seq (.region [oM 13 (.mov (.c (.nils)))] none)
 (.seq (.seq (.region [oT 45 10,
  oM 46 (.len false (.t 45)),
  oM 47 (.mov (.c (.int .i64 0)))] none)
 (.block 2 (.loop zm6)))
 (.seq (.seq (.region [oF 57 0 12,
  oN 58 57,
  oM 59 (.len false (.t 58)),
  oM 60 (.mov (.c (.int .i64 0)))] none)
 (.block 4 (.loop zm7)))
 (.seq (.region [oT 85 13,
  oM 86 (.call (.c (.fn 82 [] [])) [(.t 85)])] none)
 (.block 6 (.rangeFunc (.t 86) [87] zmi zmk zrn ya6))))))))
 (.region [oM 96 (.bin .add (.t 40) (.c (.int .i64 1))),
  oT 40 96] none)))
-- pneumatic/guard.Danger
noncomputable def ic18 : IC := .seq (.region [oM 2 (.box (.t 0)),
  oM 3 (.box (.t 1)),
  oM 4 (.alloc [.int .i64 0]),
  oM 5 (.alloc [.nils]),
  oM 6 (.alloc [.bool false]),
  oM 7 (.alloc [.int .i64 0])] none)
 (.seq (.seq (.region [oL 21 2 3,
  oM 22 (.call (.c (.fn 72 [] [])) [(.t 21)]),
  oT 8 22] none)
 (.seq (.region [oT 23 8,
  oM 24 (.bin .neq (.t 23) (.c (.int .i64 0)))] none)
 (.cond (.t 24) (.seq (.region [oT 25 8,
  ⟨none, .store 1 (.t 4) (.c (.int .i64 0)), none⟩,
  ⟨none, .store 1 (.t 5) (.c (.nils)), none⟩,
  ⟨none, .store 1 (.t 6) (.c (.bool false)), none⟩,
  ⟨none, .store 1 (.t 7) (.t 25), none⟩] none)
 (.ret))
 (.skip))))
 (.seq (.seq (.region [oL 26 1 2,
  oF 27 0 3,
  oN 28 27,
  oM 29 (.call (.c (.fn 80 [] [])) [(.t 26), (.t 28)]),
  oT 9 29] none)
 (.seq (.region [oT 30 9,
  oM 31 (.bin .neq (.t 30) (.c (.int .i64 0)))] none)
 (.cond (.t 31) (.seq (.region [oT 32 9,
  ⟨none, .store 1 (.t 4) (.c (.int .i64 0)), none⟩,
  ⟨none, .store 1 (.t 5) (.c (.nils)), none⟩,
  ⟨none, .store 1 (.t 6) (.c (.bool false)), none⟩,
  ⟨none, .store 1 (.t 7) (.t 32), none⟩] none)
 (.ret))
 (.skip))))
 (.seq (.region [oM 33 (.bslice 1 1 [.int .i64 0] [(0, 1, (.c (.int .i64 0)))]),
  oF 34 0 3,
  oN 35 34,
  oM 36 (.call (.c (.fn 81 [] [])) [(.t 33), (.t 35)]),
  oT 10 36] none)
 (.seq (.seq (.region [oF 37 1 3,
  oN 38 37,
  oM 39 (.len false (.t 38)),
  oM 40 (.mov (.c (.int .i64 0)))] none)
 (.block 0 (.loop b18_0)))
 (.seq (.region [⟨none, .store 1 (.t 4) (.c (.int .i64 0)), none⟩,
  ⟨none, .store 1 (.t 5) (.c (.nils)), none⟩,
  ⟨none, .store 1 (.t 6) (.c (.bool false)), none⟩,
  ⟨none, .store 1 (.t 7) (.c (.int .i64 0)), none⟩] none)
 (.ret))))))
theorem fn18 : env0.fn 18 = some ⟨97, ic18, [.cell 4 none, .cell 5 none, .cell 6 none, .cell 7 none]⟩ := by kernel_rfl
section
variable {w0 : World} {N0 : Nat} {k : List Fr} {Q : Exit → AS → Prop}
set_option maxHeartbeats 4000000 in
theorem loopA1 (f : List Ex) (n : Int) (l : List Sp) (i : Nat) (sk : List Sk) (w : Int) (b0 : Bool) (q : Nat) {y : IC}
  (fin : Zm Try.prog w0 N0 none y (st 97 (b18 f n l i sk w 1 [(13, .ms 5 0 1 0 1 none)]) (zca 0 (zkc [b0] (chA [b0]) (List.replicate 1 (some 1))) ++ zce (6 + 1) q) (q + (6 + 1)) 1 (ze5 (6 + 1) q)) k Q) :
  Zm Try.prog w0 N0 none (.loop zm6) (st 97 (b18 f n l i sk w 1 [(13, .ms 5 0 1 0 0 none), (45, .ms 4 0 1 0 1 (some 1)), (46, .int .i64 1), (47, .int .i64 ((0 : Nat) : Int))]) (zca 0 (zkc [b0] ((chA [b0]).take 0) (List.replicate 0 (some 1))) ++ zce (6 + 0) q) (q + (6 + 0)) 1 (ze5 (6 + 0) q)) (.blk 2 :: .seq y :: k) Q := by
 refine zbj (fun mm S => ∃ j, mm = 1 - j ∧ j ≤ 1 ∧ S = st 97 (b18 f n l i sk w 1 [(13, .ms 5 0 1 0 j none), (45, .ms 4 0 1 0 1 (some 1)), (46, .int .i64 1), (47, .int .i64 ((j : Nat) : Int))]) (zca 0 (zkc [b0] ((chA [b0]).take j) (List.replicate j (some 1))) ++ zce (6 + j) q) (q + (6 + j)) 1 (ze5 (6 + j) q)) 1
  (zaq (.cons rfl (.cons rfl (.cons rfl (.cons rfl (.cons rfl (.cons rfl (.cons rfl (.cons rfl (.cons rfl (.cons rfl (.cons rfl (.cons rfl (.cons rfl (.cons rfl (.cons rfl (.cons rfl .nil))))))))))))))))) ⟨0, rfl, y0q _, rfl⟩ ?_
 rintro mm S ⟨j, rfl, hj, rfl⟩
 unfold zm6
 rcases (show j = 0 ∨ j = 1 by omega) with rfl | rfl
 ·repeat (first | refine za7 ?_ | refine za5 rfl ?_ | refine zai ?_ | refine za8 ?_ | refine zad ?_ | refine zab ?_ | refine zb2 rfl ?_ | refine za1 rfl ?_ | refine za6 rfl rfl ?_ | refine zck rfl rfl ?_ | refine zc6 rfl rfl rfl ?_ | refine zb7 rfl rfl (by omega) (by omega) ?_)
  refine zbp [[.ms (q + 6) 1 1 0 1 (some 1)]] rfl rfl (zdb (ys := []) zav rfl (fun x hx => by obtain rfl := y0i.1 hx; rfl)) (fun h => Nat.noConfusion h) rfl (by decide) (by (repeat (first | rw [za0, if_neg (by omega)] | rw [za0, if_pos rfl] | rw [za3, if_neg (by omega)] | rw [za3, if_pos rfl])); try rfl) rfl (by show _ + 1 ≤ _; omega) ?_
  refine za1 rfl (zai (zb9 (za8 (za5 rfl (zb3 (op := .add) rfl rfl rfl (za1 rfl (zai ?_)))))))
  exact zat (show 1 - (0 + 1) < 1 - 0 by decide) (sq (zam q (6 + 0)) (lvF [b0] [(some (5, 3), [.ms 6 0 1 0 1 (some 1)]), (some (q + (6 + 0), 1), [.int .i64 (zgq b0)])]) [] rfl rfl rfl rfl .nil (zfn rfl rfl rfl rfl rfl (.cons rfl (.cons (.ms rfl) .nil) (.cons (by (repeat (first | rw [za0, if_neg (by omega)] | rw [za0, if_pos rfl] | rw [za3, if_neg (by omega)] | rw [za3, if_pos rfl])); try rfl) (.keep rfl) .nil)))
   (l' := (b18 f n l i sk w 1 [(13, .ms 5 0 1 0 (0 + 1) none), (45, .ms 4 0 1 0 1 (some 1)), (46, .int .i64 1), (47, .int .i64 ((0 + 1 : Nat) : Int))])) (zhg rfl rfl rfl rfl rfl rfl rfl rfl rfl rfl rfl rfl rfl rfl rfl rfl rfl (.cons rfl (.ms rfl) (.cons rfl (.ms rfl) (.cons rfl (.same rfl) (.cons rfl (.same rfl) .nil)))))) ⟨0 + 1, rfl, by decide, rfl⟩
 ·refine zsr rfl (zcc rfl rfl rfl (onu (za7 (zb5 rfl (zbi (zan ?_))))))
  refine zc9 (zbh (za8 ?_))
  exact zf6 (zaq (.cons rfl (.cons rfl (.cons rfl (.cons rfl (.cons rfl (.cons rfl (.cons rfl (.cons rfl (.cons rfl (.cons rfl (.cons rfl (.cons rfl (.cons rfl .nil)))))))))))))) fin
set_option maxHeartbeats 4000000 in
theorem loopA2 (f : List Ex) (n : Int) (l : List Sp) (i : Nat) (sk : List Sk) (w : Int) (b0 b1 : Bool) (q : Nat) {y : IC}
  (fin : Zm Try.prog w0 N0 none y (st 97 (b18 f n l i sk w 2 [(13, .ms 5 0 1 0 2 none)]) (zca 0 (zkc [b0, b1] (chA [b0, b1]) (List.replicate 2 (some 1))) ++ zce (6 + 2) q) (q + (6 + 2)) 1 (ze5 (6 + 2) q)) k Q) :
  Zm Try.prog w0 N0 none (.loop zm6) (st 97 (b18 f n l i sk w 2 [(13, .ms 5 0 1 0 0 none), (45, .ms 4 0 1 0 2 (some 2)), (46, .int .i64 2), (47, .int .i64 ((0 : Nat) : Int))]) (zca 0 (zkc [b0, b1] ((chA [b0, b1]).take 0) (List.replicate 0 (some 1))) ++ zce (6 + 0) q) (q + (6 + 0)) 1 (ze5 (6 + 0) q)) (.blk 2 :: .seq y :: k) Q := by
 refine zbj (fun mm S => ∃ j, mm = 2 - j ∧ j ≤ 2 ∧ S = st 97 (b18 f n l i sk w 2 [(13, .ms 5 0 1 0 j none), (45, .ms 4 0 1 0 2 (some 2)), (46, .int .i64 2), (47, .int .i64 ((j : Nat) : Int))]) (zca 0 (zkc [b0, b1] ((chA [b0, b1]).take j) (List.replicate j (some 1))) ++ zce (6 + j) q) (q + (6 + j)) 1 (ze5 (6 + j) q)) 2
  (zaq (.cons rfl (.cons rfl (.cons rfl (.cons rfl (.cons rfl (.cons rfl (.cons rfl (.cons rfl (.cons rfl (.cons rfl (.cons rfl (.cons rfl (.cons rfl (.cons rfl (.cons rfl (.cons rfl .nil))))))))))))))))) ⟨0, rfl, y0q _, rfl⟩ ?_
 rintro mm S ⟨j, rfl, hj, rfl⟩
 unfold zm6
 rcases (show j = 0 ∨ j = 1 ∨ j = 2 by omega) with rfl | rfl | rfl
 ·repeat (first | refine za7 ?_ | refine za5 rfl ?_ | refine zai ?_ | refine za8 ?_ | refine zad ?_ | refine zab ?_ | refine zb2 rfl ?_ | refine za1 rfl ?_ | refine za6 rfl rfl ?_ | refine zck rfl rfl ?_ | refine zc6 rfl rfl rfl ?_ | refine zb7 rfl rfl (by omega) (by omega) ?_)
  refine zbp [[.ms (q + 6) 1 1 0 1 (some 1)]] rfl rfl (zdb (ys := []) zav rfl (fun x hx => by obtain rfl := y0i.1 hx; rfl)) (fun h => Nat.noConfusion h) rfl (by decide) (by (repeat (first | rw [za0, if_neg (by omega)] | rw [za0, if_pos rfl] | rw [za3, if_neg (by omega)] | rw [za3, if_pos rfl])); try rfl) rfl (by show _ + 1 ≤ _; omega) ?_
  refine za1 rfl (zai (zb9 (za8 (za5 rfl (zb3 (op := .add) rfl rfl rfl (za1 rfl (zai ?_)))))))
  exact zat (show 2 - (0 + 1) < 2 - 0 by decide) (sq (zam q (6 + 0)) (lvF [b0, b1] [(some (5, 3), [.ms 6 0 1 0 1 (some 1)]), (some (q + (6 + 0), 1), [.int .i64 (zgq b0)])]) [] rfl rfl rfl rfl .nil (zfn rfl rfl rfl rfl rfl (.cons rfl (.cons (.ms rfl) .nil) (.cons (by (repeat (first | rw [za0, if_neg (by omega)] | rw [za0, if_pos rfl] | rw [za3, if_neg (by omega)] | rw [za3, if_pos rfl])); try rfl) (.keep rfl) .nil)))
   (l' := (b18 f n l i sk w 2 [(13, .ms 5 0 1 0 (0 + 1) none), (45, .ms 4 0 1 0 2 (some 2)), (46, .int .i64 2), (47, .int .i64 ((0 + 1 : Nat) : Int))])) (zhg rfl rfl rfl rfl rfl rfl rfl rfl rfl rfl rfl rfl rfl rfl rfl rfl rfl (.cons rfl (.ms rfl) (.cons rfl (.ms rfl) (.cons rfl (.same rfl) (.cons rfl (.same rfl) .nil)))))) ⟨0 + 1, rfl, by decide, rfl⟩
 ·repeat (first | refine za7 ?_ | refine za5 rfl ?_ | refine zai ?_ | refine za8 ?_ | refine zad ?_ | refine zab ?_ | refine zb2 rfl ?_ | refine za1 rfl ?_ | refine za6 rfl rfl ?_ | refine zck rfl rfl ?_ | refine zc6 rfl rfl rfl ?_ | refine zb7 rfl rfl (by omega) (by omega) ?_)
  refine zbp [[.ms (q + 7) 1 1 0 1 (some 1)]] rfl rfl (zdb (ys := []) zav rfl (fun x hx => by obtain rfl := y0i.1 hx; rfl)) (fun h => Nat.noConfusion h) rfl (by decide) (by (repeat (first | rw [za0, if_neg (by omega)] | rw [za0, if_pos rfl] | rw [za3, if_neg (by omega)] | rw [za3, if_pos rfl])); try rfl) rfl (by show _ + 1 ≤ _; omega) ?_
  refine za1 rfl (zai (zb9 (za8 (za5 rfl (zb3 (op := .add) rfl rfl rfl (za1 rfl (zai ?_)))))))
  exact zat (show 2 - (1 + 1) < 2 - 1 by decide) (sq (zam q (6 + 1)) (lvF [b0, b1] [(some (5, 3), [.ms 6 0 1 0 1 (some 1), .ms 7 0 1 0 1 (some 1)]), (some (6, 0), [.int .i64 (zgq b0)]), (some (q + (6 + 1), 1), [.int .i64 (zgq b1)])]) [] rfl rfl rfl rfl .nil (zfn rfl rfl rfl rfl rfl (.cons rfl (.cons (.ms rfl) (.cons (.ms rfl) .nil)) (.cons rfl (.keep rfl) (.cons (by (repeat (first | rw [za0, if_neg (by omega)] | rw [za0, if_pos rfl] | rw [za3, if_neg (by omega)] | rw [za3, if_pos rfl])); try rfl) (.keep rfl) .nil))))
   (l' := (b18 f n l i sk w 2 [(13, .ms 5 0 1 0 (1 + 1) none), (45, .ms 4 0 1 0 2 (some 2)), (46, .int .i64 2), (47, .int .i64 ((1 + 1 : Nat) : Int))])) (zhg rfl rfl rfl rfl rfl rfl rfl rfl rfl rfl rfl rfl rfl rfl rfl rfl rfl (.cons rfl (.ms rfl) (.cons rfl (.ms rfl) (.cons rfl (.same rfl) (.cons rfl (.same rfl) .nil)))))) ⟨1 + 1, rfl, by decide, rfl⟩
 ·refine zsr rfl (zcc rfl rfl rfl (onu (za7 (zb5 rfl (zbi (zan ?_))))))
  refine zc9 (zbh (za8 ?_))
  exact zf6 (zaq (.cons rfl (.cons rfl (.cons rfl (.cons rfl (.cons rfl (.cons rfl (.cons rfl (.cons rfl (.cons rfl (.cons rfl (.cons rfl (.cons rfl (.cons rfl .nil)))))))))))))) fin
set_option maxHeartbeats 4000000 in
theorem loopA3 (f : List Ex) (n : Int) (l : List Sp) (i : Nat) (sk : List Sk) (w : Int) (b0 b1 b2 : Bool) (q : Nat) {y : IC}
  (fin : Zm Try.prog w0 N0 none y (st 97 (b18 f n l i sk w 3 [(13, .ms 5 0 1 0 3 none)]) (zca 0 (zkc [b0, b1, b2] (chA [b0, b1, b2]) (List.replicate 3 (some 1))) ++ zce (6 + 3) q) (q + (6 + 3)) 1 (ze5 (6 + 3) q)) k Q) :
  Zm Try.prog w0 N0 none (.loop zm6) (st 97 (b18 f n l i sk w 3 [(13, .ms 5 0 1 0 0 none), (45, .ms 4 0 1 0 3 (some 3)), (46, .int .i64 3), (47, .int .i64 ((0 : Nat) : Int))]) (zca 0 (zkc [b0, b1, b2] ((chA [b0, b1, b2]).take 0) (List.replicate 0 (some 1))) ++ zce (6 + 0) q) (q + (6 + 0)) 1 (ze5 (6 + 0) q)) (.blk 2 :: .seq y :: k) Q := by
 refine zbj (fun mm S => ∃ j, mm = 3 - j ∧ j ≤ 3 ∧ S = st 97 (b18 f n l i sk w 3 [(13, .ms 5 0 1 0 j none), (45, .ms 4 0 1 0 3 (some 3)), (46, .int .i64 3), (47, .int .i64 ((j : Nat) : Int))]) (zca 0 (zkc [b0, b1, b2] ((chA [b0, b1, b2]).take j) (List.replicate j (some 1))) ++ zce (6 + j) q) (q + (6 + j)) 1 (ze5 (6 + j) q)) 3
  (zaq (.cons rfl (.cons rfl (.cons rfl (.cons rfl (.cons rfl (.cons rfl (.cons rfl (.cons rfl (.cons rfl (.cons rfl (.cons rfl (.cons rfl (.cons rfl (.cons rfl (.cons rfl (.cons rfl .nil))))))))))))))))) ⟨0, rfl, y0q _, rfl⟩ ?_
 rintro mm S ⟨j, rfl, hj, rfl⟩
 unfold zm6
 rcases (show j = 0 ∨ j = 1 ∨ j = 2 ∨ j = 3 by omega) with rfl | rfl | rfl | rfl
 ·repeat (first | refine za7 ?_ | refine za5 rfl ?_ | refine zai ?_ | refine za8 ?_ | refine zad ?_ | refine zab ?_ | refine zb2 rfl ?_ | refine za1 rfl ?_ | refine za6 rfl rfl ?_ | refine zck rfl rfl ?_ | refine zc6 rfl rfl rfl ?_ | refine zb7 rfl rfl (by omega) (by omega) ?_)
  refine zbp [[.ms (q + 6) 1 1 0 1 (some 1)]] rfl rfl (zdb (ys := []) zav rfl (fun x hx => by obtain rfl := y0i.1 hx; rfl)) (fun h => Nat.noConfusion h) rfl (by decide) (by (repeat (first | rw [za0, if_neg (by omega)] | rw [za0, if_pos rfl] | rw [za3, if_neg (by omega)] | rw [za3, if_pos rfl])); try rfl) rfl (by show _ + 1 ≤ _; omega) ?_
  refine za1 rfl (zai (zb9 (za8 (za5 rfl (zb3 (op := .add) rfl rfl rfl (za1 rfl (zai ?_)))))))
  exact zat (show 3 - (0 + 1) < 3 - 0 by decide) (sq (zam q (6 + 0)) (lvF [b0, b1, b2] [(some (5, 3), [.ms 6 0 1 0 1 (some 1)]), (some (q + (6 + 0), 1), [.int .i64 (zgq b0)])]) [] rfl rfl rfl rfl .nil (zfn rfl rfl rfl rfl rfl (.cons rfl (.cons (.ms rfl) .nil) (.cons (by (repeat (first | rw [za0, if_neg (by omega)] | rw [za0, if_pos rfl] | rw [za3, if_neg (by omega)] | rw [za3, if_pos rfl])); try rfl) (.keep rfl) .nil)))
   (l' := (b18 f n l i sk w 3 [(13, .ms 5 0 1 0 (0 + 1) none), (45, .ms 4 0 1 0 3 (some 3)), (46, .int .i64 3), (47, .int .i64 ((0 + 1 : Nat) : Int))])) (zhg rfl rfl rfl rfl rfl rfl rfl rfl rfl rfl rfl rfl rfl rfl rfl rfl rfl (.cons rfl (.ms rfl) (.cons rfl (.ms rfl) (.cons rfl (.same rfl) (.cons rfl (.same rfl) .nil)))))) ⟨0 + 1, rfl, by decide, rfl⟩
 ·repeat (first | refine za7 ?_ | refine za5 rfl ?_ | refine zai ?_ | refine za8 ?_ | refine zad ?_ | refine zab ?_ | refine zb2 rfl ?_ | refine za1 rfl ?_ | refine za6 rfl rfl ?_ | refine zck rfl rfl ?_ | refine zc6 rfl rfl rfl ?_ | refine zb7 rfl rfl (by omega) (by omega) ?_)
  refine zbp [[.ms (q + 7) 1 1 0 1 (some 1)]] rfl rfl (zdb (ys := []) zav rfl (fun x hx => by obtain rfl := y0i.1 hx; rfl)) (fun h => Nat.noConfusion h) rfl (by decide) (by (repeat (first | rw [za0, if_neg (by omega)] | rw [za0, if_pos rfl] | rw [za3, if_neg (by omega)] | rw [za3, if_pos rfl])); try rfl) rfl (by show _ + 1 ≤ _; omega) ?_
  refine za1 rfl (zai (zb9 (za8 (za5 rfl (zb3 (op := .add) rfl rfl rfl (za1 rfl (zai ?_)))))))
  exact zat (show 3 - (1 + 1) < 3 - 1 by decide) (sq (zam q (6 + 1)) (lvF [b0, b1, b2] [(some (5, 3), [.ms 6 0 1 0 1 (some 1), .ms 7 0 1 0 1 (some 1)]), (some (6, 0), [.int .i64 (zgq b0)]), (some (q + (6 + 1), 1), [.int .i64 (zgq b1)])]) [] rfl rfl rfl rfl .nil (zfn rfl rfl rfl rfl rfl (.cons rfl (.cons (.ms rfl) (.cons (.ms rfl) .nil)) (.cons rfl (.keep rfl) (.cons (by (repeat (first | rw [za0, if_neg (by omega)] | rw [za0, if_pos rfl] | rw [za3, if_neg (by omega)] | rw [za3, if_pos rfl])); try rfl) (.keep rfl) .nil))))
   (l' := (b18 f n l i sk w 3 [(13, .ms 5 0 1 0 (1 + 1) none), (45, .ms 4 0 1 0 3 (some 3)), (46, .int .i64 3), (47, .int .i64 ((1 + 1 : Nat) : Int))])) (zhg rfl rfl rfl rfl rfl rfl rfl rfl rfl rfl rfl rfl rfl rfl rfl rfl rfl (.cons rfl (.ms rfl) (.cons rfl (.ms rfl) (.cons rfl (.same rfl) (.cons rfl (.same rfl) .nil)))))) ⟨1 + 1, rfl, by decide, rfl⟩
 ·repeat (first | refine za7 ?_ | refine za5 rfl ?_ | refine zai ?_ | refine za8 ?_ | refine zad ?_ | refine zab ?_ | refine zb2 rfl ?_ | refine za1 rfl ?_ | refine za6 rfl rfl ?_ | refine zck rfl rfl ?_ | refine zc6 rfl rfl rfl ?_ | refine zb7 rfl rfl (by omega) (by omega) ?_)
  refine zbp [[.ms (q + 8) 1 1 0 1 (some 1)]] rfl rfl (zdb (ys := []) zav rfl (fun x hx => by obtain rfl := y0i.1 hx; rfl)) (fun h => Nat.noConfusion h) rfl (by decide) (by (repeat (first | rw [za0, if_neg (by omega)] | rw [za0, if_pos rfl] | rw [za3, if_neg (by omega)] | rw [za3, if_pos rfl])); try rfl) rfl (by show _ + 1 ≤ _; omega) ?_
  refine za1 rfl (zai (zb9 (za8 (za5 rfl (zb3 (op := .add) rfl rfl rfl (za1 rfl (zai ?_)))))))
  exact zat (show 3 - (2 + 1) < 3 - 2 by decide) (sq (zam q (6 + 2)) (lvF [b0, b1, b2] [(some (5, 3), [.ms 6 0 1 0 1 (some 1), .ms 7 0 1 0 1 (some 1), .ms 8 0 1 0 1 (some 1)]), (some (6, 0), [.int .i64 (zgq b0)]), (some (7, 0), [.int .i64 (zgq b1)]), (some (q + (6 + 2), 1), [.int .i64 (zgq b2)])]) [] rfl rfl rfl rfl .nil (zfn rfl rfl rfl rfl rfl (.cons rfl (.cons (.ms rfl) (.cons (.ms rfl) (.cons (.ms rfl) .nil))) (.cons rfl (.keep rfl) (.cons rfl (.keep rfl) (.cons (by (repeat (first | rw [za0, if_neg (by omega)] | rw [za0, if_pos rfl] | rw [za3, if_neg (by omega)] | rw [za3, if_pos rfl])); try rfl) (.keep rfl) .nil)))))
   (l' := (b18 f n l i sk w 3 [(13, .ms 5 0 1 0 (2 + 1) none), (45, .ms 4 0 1 0 3 (some 3)), (46, .int .i64 3), (47, .int .i64 ((2 + 1 : Nat) : Int))])) (zhg rfl rfl rfl rfl rfl rfl rfl rfl rfl rfl rfl rfl rfl rfl rfl rfl rfl (.cons rfl (.ms rfl) (.cons rfl (.ms rfl) (.cons rfl (.same rfl) (.cons rfl (.same rfl) .nil)))))) ⟨2 + 1, rfl, by decide, rfl⟩
 ·refine zsr rfl (zcc rfl rfl rfl (onu (za7 (zb5 rfl (zbi (zan ?_))))))
  refine zc9 (zbh (za8 ?_))
  exact zf6 (zaq (.cons rfl (.cons rfl (.cons rfl (.cons rfl (.cons rfl (.cons rfl (.cons rfl (.cons rfl (.cons rfl (.cons rfl (.cons rfl (.cons rfl (.cons rfl .nil)))))))))))))) fin
set_option maxHeartbeats 4000000 in
theorem loopA4 (f : List Ex) (n : Int) (l : List Sp) (i : Nat) (sk : List Sk) (w : Int) (b0 b1 b2 b3 : Bool) (q : Nat) {y : IC}
  (fin : Zm Try.prog w0 N0 none y (st 97 (b18 f n l i sk w 4 [(13, .ms 5 0 1 0 4 none)]) (zca 0 (zkc [b0, b1, b2, b3] (chA [b0, b1, b2, b3]) (List.replicate 4 (some 1))) ++ zce (6 + 4) q) (q + (6 + 4)) 1 (ze5 (6 + 4) q)) k Q) :
  Zm Try.prog w0 N0 none (.loop zm6) (st 97 (b18 f n l i sk w 4 [(13, .ms 5 0 1 0 0 none), (45, .ms 4 0 1 0 4 (some 4)), (46, .int .i64 4), (47, .int .i64 ((0 : Nat) : Int))]) (zca 0 (zkc [b0, b1, b2, b3] ((chA [b0, b1, b2, b3]).take 0) (List.replicate 0 (some 1))) ++ zce (6 + 0) q) (q + (6 + 0)) 1 (ze5 (6 + 0) q)) (.blk 2 :: .seq y :: k) Q := by
 refine zbj (fun mm S => ∃ j, mm = 4 - j ∧ j ≤ 4 ∧ S = st 97 (b18 f n l i sk w 4 [(13, .ms 5 0 1 0 j none), (45, .ms 4 0 1 0 4 (some 4)), (46, .int .i64 4), (47, .int .i64 ((j : Nat) : Int))]) (zca 0 (zkc [b0, b1, b2, b3] ((chA [b0, b1, b2, b3]).take j) (List.replicate j (some 1))) ++ zce (6 + j) q) (q + (6 + j)) 1 (ze5 (6 + j) q)) 4
  (zaq (.cons rfl (.cons rfl (.cons rfl (.cons rfl (.cons rfl (.cons rfl (.cons rfl (.cons rfl (.cons rfl (.cons rfl (.cons rfl (.cons rfl (.cons rfl (.cons rfl (.cons rfl (.cons rfl .nil))))))))))))))))) ⟨0, rfl, y0q _, rfl⟩ ?_
 rintro mm S ⟨j, rfl, hj, rfl⟩
 unfold zm6
 rcases (show j = 0 ∨ j = 1 ∨ j = 2 ∨ j = 3 ∨ j = 4 by omega) with rfl | rfl | rfl | rfl | rfl
 ·repeat (first | refine za7 ?_ | refine za5 rfl ?_ | refine zai ?_ | refine za8 ?_ | refine zad ?_ | refine zab ?_ | refine zb2 rfl ?_ | refine za1 rfl ?_ | refine za6 rfl rfl ?_ | refine zck rfl rfl ?_ | refine zc6 rfl rfl rfl ?_ | refine zb7 rfl rfl (by omega) (by omega) ?_)
  refine zbp [[.ms (q + 6) 1 1 0 1 (some 1)]] rfl rfl (zdb (ys := []) zav rfl (fun x hx => by obtain rfl := y0i.1 hx; rfl)) (fun h => Nat.noConfusion h) rfl (by decide) (by (repeat (first | rw [za0, if_neg (by omega)] | rw [za0, if_pos rfl] | rw [za3, if_neg (by omega)] | rw [za3, if_pos rfl])); try rfl) rfl (by show _ + 1 ≤ _; omega) ?_
  refine za1 rfl (zai (zb9 (za8 (za5 rfl (zb3 (op := .add) rfl rfl rfl (za1 rfl (zai ?_)))))))
  exact zat (show 4 - (0 + 1) < 4 - 0 by decide) (sq (zam q (6 + 0)) (lvF [b0, b1, b2, b3] [(some (5, 3), [.ms 6 0 1 0 1 (some 1)]), (some (q + (6 + 0), 1), [.int .i64 (zgq b0)])]) [] rfl rfl rfl rfl .nil (zfn rfl rfl rfl rfl rfl (.cons rfl (.cons (.ms rfl) .nil) (.cons (by (repeat (first | rw [za0, if_neg (by omega)] | rw [za0, if_pos rfl] | rw [za3, if_neg (by omega)] | rw [za3, if_pos rfl])); try rfl) (.keep rfl) .nil)))
   (l' := (b18 f n l i sk w 4 [(13, .ms 5 0 1 0 (0 + 1) none), (45, .ms 4 0 1 0 4 (some 4)), (46, .int .i64 4), (47, .int .i64 ((0 + 1 : Nat) : Int))])) (zhg rfl rfl rfl rfl rfl rfl rfl rfl rfl rfl rfl rfl rfl rfl rfl rfl rfl (.cons rfl (.ms rfl) (.cons rfl (.ms rfl) (.cons rfl (.same rfl) (.cons rfl (.same rfl) .nil)))))) ⟨0 + 1, rfl, by decide, rfl⟩
 ·repeat (first | refine za7 ?_ | refine za5 rfl ?_ | refine zai ?_ | refine za8 ?_ | refine zad ?_ | refine zab ?_ | refine zb2 rfl ?_ | refine za1 rfl ?_ | refine za6 rfl rfl ?_ | refine zck rfl rfl ?_ | refine zc6 rfl rfl rfl ?_ | refine zb7 rfl rfl (by omega) (by omega) ?_)
  refine zbp [[.ms (q + 7) 1 1 0 1 (some 1)]] rfl rfl (zdb (ys := []) zav rfl (fun x hx => by obtain rfl := y0i.1 hx; rfl)) (fun h => Nat.noConfusion h) rfl (by decide) (by (repeat (first | rw [za0, if_neg (by omega)] | rw [za0, if_pos rfl] | rw [za3, if_neg (by omega)] | rw [za3, if_pos rfl])); try rfl) rfl (by show _ + 1 ≤ _; omega) ?_
  refine za1 rfl (zai (zb9 (za8 (za5 rfl (zb3 (op := .add) rfl rfl rfl (za1 rfl (zai ?_)))))))
  exact zat (show 4 - (1 + 1) < 4 - 1 by decide) (sq (zam q (6 + 1)) (lvF [b0, b1, b2, b3] [(some (5, 3), [.ms 6 0 1 0 1 (some 1), .ms 7 0 1 0 1 (some 1)]), (some (6, 0), [.int .i64 (zgq b0)]), (some (q + (6 + 1), 1), [.int .i64 (zgq b1)])]) [] rfl rfl rfl rfl .nil (zfn rfl rfl rfl rfl rfl (.cons rfl (.cons (.ms rfl) (.cons (.ms rfl) .nil)) (.cons rfl (.keep rfl) (.cons (by (repeat (first | rw [za0, if_neg (by omega)] | rw [za0, if_pos rfl] | rw [za3, if_neg (by omega)] | rw [za3, if_pos rfl])); try rfl) (.keep rfl) .nil))))
   (l' := (b18 f n l i sk w 4 [(13, .ms 5 0 1 0 (1 + 1) none), (45, .ms 4 0 1 0 4 (some 4)), (46, .int .i64 4), (47, .int .i64 ((1 + 1 : Nat) : Int))])) (zhg rfl rfl rfl rfl rfl rfl rfl rfl rfl rfl rfl rfl rfl rfl rfl rfl rfl (.cons rfl (.ms rfl) (.cons rfl (.ms rfl) (.cons rfl (.same rfl) (.cons rfl (.same rfl) .nil)))))) ⟨1 + 1, rfl, by decide, rfl⟩
 ·repeat (first | refine za7 ?_ | refine za5 rfl ?_ | refine zai ?_ | refine za8 ?_ | refine zad ?_ | refine zab ?_ | refine zb2 rfl ?_ | refine za1 rfl ?_ | refine za6 rfl rfl ?_ | refine zck rfl rfl ?_ | refine zc6 rfl rfl rfl ?_ | refine zb7 rfl rfl (by omega) (by omega) ?_)
  refine zbp [[.ms (q + 8) 1 1 0 1 (some 1)]] rfl rfl (zdb (ys := []) zav rfl (fun x hx => by obtain rfl := y0i.1 hx; rfl)) (fun h => Nat.noConfusion h) rfl (by decide) (by (repeat (first | rw [za0, if_neg (by omega)] | rw [za0, if_pos rfl] | rw [za3, if_neg (by omega)] | rw [za3, if_pos rfl])); try rfl) rfl (by show _ + 1 ≤ _; omega) ?_
  refine za1 rfl (zai (zb9 (za8 (za5 rfl (zb3 (op := .add) rfl rfl rfl (za1 rfl (zai ?_)))))))
  exact zat (show 4 - (2 + 1) < 4 - 2 by decide) (sq (zam q (6 + 2)) (lvF [b0, b1, b2, b3] [(some (5, 3), [.ms 6 0 1 0 1 (some 1), .ms 7 0 1 0 1 (some 1), .ms 8 0 1 0 1 (some 1)]), (some (6, 0), [.int .i64 (zgq b0)]), (some (7, 0), [.int .i64 (zgq b1)]), (some (q + (6 + 2), 1), [.int .i64 (zgq b2)])]) [] rfl rfl rfl rfl .nil (zfn rfl rfl rfl rfl rfl (.cons rfl (.cons (.ms rfl) (.cons (.ms rfl) (.cons (.ms rfl) .nil))) (.cons rfl (.keep rfl) (.cons rfl (.keep rfl) (.cons (by (repeat (first | rw [za0, if_neg (by omega)] | rw [za0, if_pos rfl] | rw [za3, if_neg (by omega)] | rw [za3, if_pos rfl])); try rfl) (.keep rfl) .nil)))))
   (l' := (b18 f n l i sk w 4 [(13, .ms 5 0 1 0 (2 + 1) none), (45, .ms 4 0 1 0 4 (some 4)), (46, .int .i64 4), (47, .int .i64 ((2 + 1 : Nat) : Int))])) (zhg rfl rfl rfl rfl rfl rfl rfl rfl rfl rfl rfl rfl rfl rfl rfl rfl rfl (.cons rfl (.ms rfl) (.cons rfl (.ms rfl) (.cons rfl (.same rfl) (.cons rfl (.same rfl) .nil)))))) ⟨2 + 1, rfl, by decide, rfl⟩
 ·repeat (first | refine za7 ?_ | refine za5 rfl ?_ | refine zai ?_ | refine za8 ?_ | refine zad ?_ | refine zab ?_ | refine zb2 rfl ?_ | refine za1 rfl ?_ | refine za6 rfl rfl ?_ | refine zck rfl rfl ?_ | refine zc6 rfl rfl rfl ?_ | refine zb7 rfl rfl (by omega) (by omega) ?_)
  refine zbp [[.ms (q + 9) 1 1 0 1 (some 1)]] rfl rfl (zdb (ys := []) zav rfl (fun x hx => by obtain rfl := y0i.1 hx; rfl)) (fun h => Nat.noConfusion h) rfl (by decide) (by (repeat (first | rw [za0, if_neg (by omega)] | rw [za0, if_pos rfl] | rw [za3, if_neg (by omega)] | rw [za3, if_pos rfl])); try rfl) rfl (by show _ + 1 ≤ _; omega) ?_
  refine za1 rfl (zai (zb9 (za8 (za5 rfl (zb3 (op := .add) rfl rfl rfl (za1 rfl (zai ?_)))))))
  exact zat (show 4 - (3 + 1) < 4 - 3 by decide) (sq (zam q (6 + 3)) (lvF [b0, b1, b2, b3] [(some (5, 3), [.ms 6 0 1 0 1 (some 1), .ms 7 0 1 0 1 (some 1), .ms 8 0 1 0 1 (some 1), .ms 9 0 1 0 1 (some 1)]), (some (6, 0), [.int .i64 (zgq b0)]), (some (7, 0), [.int .i64 (zgq b1)]), (some (8, 0), [.int .i64 (zgq b2)]), (some (q + (6 + 3), 1), [.int .i64 (zgq b3)])]) [] rfl rfl rfl rfl .nil (zfn rfl rfl rfl rfl rfl (.cons rfl (.cons (.ms rfl) (.cons (.ms rfl) (.cons (.ms rfl) (.cons (.ms rfl) .nil)))) (.cons rfl (.keep rfl) (.cons rfl (.keep rfl) (.cons rfl (.keep rfl) (.cons (by (repeat (first | rw [za0, if_neg (by omega)] | rw [za0, if_pos rfl] | rw [za3, if_neg (by omega)] | rw [za3, if_pos rfl])); try rfl) (.keep rfl) .nil))))))
   (l' := (b18 f n l i sk w 4 [(13, .ms 5 0 1 0 (3 + 1) none), (45, .ms 4 0 1 0 4 (some 4)), (46, .int .i64 4), (47, .int .i64 ((3 + 1 : Nat) : Int))])) (zhg rfl rfl rfl rfl rfl rfl rfl rfl rfl rfl rfl rfl rfl rfl rfl rfl rfl (.cons rfl (.ms rfl) (.cons rfl (.ms rfl) (.cons rfl (.same rfl) (.cons rfl (.same rfl) .nil)))))) ⟨3 + 1, rfl, by decide, rfl⟩
 ·refine zsr rfl (zcc rfl rfl rfl (onu (za7 (zb5 rfl (zbi (zan ?_))))))
  refine zc9 (zbh (za8 ?_))
  exact zf6 (zaq (.cons rfl (.cons rfl (.cons rfl (.cons rfl (.cons rfl (.cons rfl (.cons rfl (.cons rfl (.cons rfl (.cons rfl (.cons rfl (.cons rfl (.cons rfl .nil)))))))))))))) fin
end
section
variable {P : Program} {w0 : World} {N0 : Nat} {k : List Fr} {Q : Exit → AS → Prop} {n nx ck : Nat} {mk : List (Nat × Nat)} {md : Md} {l : List (Nat × AV)} {hp : List (Nat × Nat × AObj)}
theorem zfi {a : Arg} {id sp off : Nat} {cs ws : List AV} {v : AV} (h : zbr a l = some (.mptr id sp off)) (hl : Am.look id hp = some (sp, .cells cs)) (hid : id < nx) (hv : cs.drop off = v :: ws) : iop (st n l hp nx ck mk) (.load none a) = some (v, st n l hp nx ck mk) := by
 have hd : (st n l hp nx ck mk).deref (.mptr id sp off) = some (v :: ws) := by
  simp only [AS.deref, show (st n l hp nx ck mk).heap = hp from rfl, hl]
  rw [if_pos ⟨trivial, hid⟩, hv]
 simp only [iop, zbk, h, hd]
end
structure Fit18 (m : Nat) (C : List (List Int)) (ks : List (Option Nat)) (E : List Bool) (r : List Sk) : Prop where
 hC : C.length = m
 hk : ks.length = m
 hE : E.length = m
 at' : ∀ s ∈ r, 0 ≤ s.a ∧ s.a < m ∧ (∃ e, C.getD s.a.toNat [] = [e]) ∧ ks.getD s.a.toNat none = some 1
 asc : ∃ z, zhk z r = 0
theorem Fit18.tail {m : Nat} {C : List (List Int)} {ks : List (Option Nat)} {E : List Bool} {s : Sk} {r : List Sk} (h : Fit18 m C ks E (s :: r)) (c : List Int) (o : Bool) : Fit18 m (C.set s.a.toNat c) (ks.set s.a.toNat none) (E.set s.a.toNat o) r := by
 obtain ⟨z, hz⟩ := h.asc
 have hr := zpl r _ (zj4 hz)
 obtain ⟨a0, a1, _⟩ := h.at' s (y05 ..)
 refine ⟨by rw [y1i]; exact h.hC, by rw [y1i]; exact h.hk, by rw [y1i]; exact h.hE, fun t ht => ?_, ⟨s.a, zj4 hz⟩⟩
 obtain ⟨b0, b1, b2, b3⟩ := h.at' t (y04 _ ht)
 have hgt := hr t ht
 have hne : s.a.toNat ≠ t.a.toNat := by omega
 refine ⟨b0, b1, ?_, ?_⟩
 ·rw [y08, y2d hne, ← y08]; exact b2
 ·rw [y08, y2d hne, ← y08]; exact b3
theorem zyl {n : Int} {E : List Bool} {p : Sp} (h : StpOk n E p) (hE : (E.length : Int) = n) : Fit18 E.length (chA E) (List.replicate E.length (some 1)) E p.l := by
 refine ⟨y07 .., y0s .., rfl, fun s hs => ?_, ⟨-1, zpg h.sp⟩⟩
 obtain ⟨a0, a1⟩ := h.acts hE s hs
 have ha : s.a.toNat < E.length := by omega
 refine ⟨a0, a1, ⟨zgq E[s.a.toNat], ?_⟩, ?_⟩
 ·unfold chA
  rw [y08, y0h, y06 ha]
  rfl
 ·rw [y08, List.getElem?_replicate, if_pos ha]
  rfl
section
variable {w0 : World} {N0 : Nat} {k : List Fr} {Q : Exit → AS → Prop}
theorem len1 {α : Type} {x : List α} (h : x.length = 1) : ∃ a0, x = [a0] := by
 match x, h with
 | [a0], _ => exact ⟨a0, rfl⟩
set_option maxHeartbeats 8000000 in
theorem loopB1 (f : List Ex) (n : Int) (l : List Sp) (i : Nat) (sk : List Sk) (hsk : sk.length ≤ 6) (w : Int) (C0 : List (List Int)) (k0 : List (Option Nat)) (E0 : List Bool) (q : Nat) {y : IC} (ok : Fit18 1 C0 k0 E0 sk)
  (fin : ∀ ks E2, ks.length = 1 → E2 = aft E0 sk → Zm Try.prog w0 N0 none y (st 97 (b18 f n l i sk w 1 [(13, .ms 5 0 1 0 1 none)]) (zca 0 (zkc E2 (chS C0 sk) ks) ++ zce (6 + 1) q) (q + (6 + 1)) 1 (ze5 (6 + 1) q)) k Q) :
  Zm Try.prog w0 N0 none (.loop zm7) (st 97 (b18 f n l i sk w 1 [(13, .ms 5 0 1 0 1 none), (58, .vs (cSs sk)), (59, .int .i64 (cSs sk).length), (60, .int .i64 ((0 : Nat) : Int))]) (zca 0 (zkc E0 C0 k0) ++ zce (6 + 1) q) (q + (6 + 1)) 1 (ze5 (6 + 1) q)) (.blk 4 :: .seq y :: k) Q := by
 have hcs : (cSs sk).length = sk.length := zbe sk
 refine zbj (fun mm S => ∃ j C ks E, mm = sk.length - j ∧ j ≤ sk.length ∧ Fit18 1 C ks E (sk.drop j) ∧ chS C0 sk = chS C (sk.drop j) ∧ aft E0 sk = aft E (sk.drop j) ∧ S = st 97 (b18 f n l i sk w 1 [(13, .ms 5 0 1 0 1 none), (58, .vs (cSs sk)), (59, .int .i64 (cSs sk).length), (60, .int .i64 ((j : Nat) : Int))]) (zca 0 (zkc E C ks) ++ zce (6 + 1) q) (q + (6 + 1)) 1 (ze5 (6 + 1) q)) sk.length
  (zaq (.cons rfl (.cons rfl (.cons rfl (.cons rfl (.cons rfl (.cons rfl (.cons rfl (.cons rfl (.cons rfl (.cons rfl (.cons rfl (.cons rfl (.cons rfl (.cons rfl (.cons rfl (.cons rfl .nil))))))))))))))))) ⟨0, C0, k0, E0, rfl, y0q _, ok, rfl, rfl, rfl⟩ ?_
 rintro mm S ⟨j, C, ks, E, rfl, hj, fit, hch, haf, rfl⟩
 obtain ⟨c0, rfl⟩ := len1 fit.hC
 obtain ⟨k0, rfl⟩ := len1 fit.hk
 obtain ⟨e0, rfl⟩ := len1 fit.hE
 unfold zm7
 refine zsr rfl ?_
 refine zao rfl rfl rfl (fun h3 => ?_) fun h3 => ?_
 ·have hlt : j < sk.length := by
   have : ((j : Nat) : Int) < ((cSs sk).length : Nat) := of_decide_eq_true h3
   rw [hcs] at this
   omega
  rw [y0d hlt] at fit hch haf
  have hg := zd4 hlt
  generalize sk[j] = s at fit hch haf hg
  obtain ⟨a0, a1, ⟨e, hce⟩, hks⟩ := fit.at' s (y05 ..)
  have ft := fun c o => fit.tail c o
  clear fit
  obtain ⟨a, o⟩ := s
  have a0 : 0 ≤ a := a0
  have a1 : a < 1 := a1
  have hg : (cSs sk)[((j : Nat) : Int).toNat]? = some [.int .i64 a, .bool o] := hg
  rcases (show a = 0 by omega) with rfl
  ·have hce : c0 = [e] := hce
   have hks : k0 = some 1 := hks
   subst hce hks
   refine onu (za7 (zb2 rfl (zab (za8 (za7 (zad (zsr rfl (zba rfl rfl (by omega) (by assumption) rfl (zal rfl rfl rfl rfl (zay ?_))))))))))
   refine zah rfl rfl rfl rfl zav rfl rfl ?_
   rw [zc3]
   refine onu ?_
   refine zq (zam q (6 + 1)) (lvF [e0] [(some (5, 0), chM 6 [[e]] [some 1]), (some (6, 0), [.int .i64 e])]) [(q + (6 + 1), 1, [.int .i64 0, .bool o])] (b18 f n l i sk w 1 [(13, .ms 5 0 1 0 1 none), (58, .vs (cSs sk)), (59, .int .i64 (cSs sk).length), (60, .int .i64 ((j : Nat) : Int)), (17, .vptr [.int .i64 0, .bool o])]) rfl (.cons (by (repeat (first | rw [za0, if_neg (by omega)] | rw [za0, if_pos rfl] | rw [za3, if_neg (by omega)] | rw [za3, if_pos rfl])); try rfl) rfl .nil) (zfn rfl rfl rfl rfl rfl (.cons rfl (.cons (.ms rfl) .nil) (.cons rfl (.keep rfl) .nil))) (zhg rfl rfl rfl rfl rfl rfl rfl rfl rfl rfl rfl rfl rfl rfl rfl rfl rfl (.cons rfl (.ms rfl) (.cons rfl (.same rfl) (.cons rfl (.same rfl) (.cons rfl (.same rfl) (.cons rfl (.fptr (by simp [fzl]) rfl) .nil)))))) ?_
   show Zm _ _ _ _ _ (st _ _ _ (q + (6 + 1)) 1 _) _ _
   obtain ⟨o', ho⟩ : ∃ o', o' = o := ⟨_, rfl⟩
   cases o
   all_goals
    repeat (first | refine za7 ?_ | refine za5 rfl ?_ | refine zai ?_ | refine za8 ?_ | refine zab ?_ | refine zb2 rfl ?_ | refine zb5 rfl ?_ | refine za1 rfl ?_ | refine za6 rfl rfl ?_ | refine zak rfl rfl rfl ?_)
    refine ze8 env0_ok (fun d => Nat.beq d 76) (fun d => Nat.beq d 73) [] (fun x hx => absurd hx y0f) (fun _ => false) [] (fun x hx => absurd hx y0f) (fun _ => false) rfl rfl rfl ?_
    repeat (first | refine za1 rfl ?_ | refine za6 rfl rfl ?_ | refine zak rfl rfl rfl ?_ | refine zb7 rfl rfl (by omega) (by omega) ?_)
    refine o_lo rfl (zfi (sp := 0) rfl rfl (by omega) rfl) ?_
    refine za1 rfl (za1 rfl ?_)
    refine zdk rfl rfl rfl rfl rfl ?_
    refine zc2 [[.int .i64 _], [.int .i64 _]] rfl rfl rfl (fun h => Nat.noConfusion h) rfl (by decide) rfl (y0c 1) (by show 1 + 2 ≤ _; omega) (by show 1 < 1 + 2; omega) ?_
    refine zb7 rfl rfl (by decide) (by decide) ?_
    refine zah (sp := 0) rfl rfl rfl rfl rfl rfl rfl ?_
    refine onR rfl (za1 rfl (zak rfl rfl rfl (za6 rfl rfl (za1 rfl (zb7 rfl rfl (by omega) (by omega) (zah rfl rfl rfl rfl rfl rfl rfl (zai (zb9 (za8 (za5 rfl (zb3 (op := .add) rfl rfl rfl ?_)))))))))))
    refine za1 rfl (zai ?_)
    rw [zar j (by omega)]
    exact zat (show sk.length - (j + 1) < sk.length - j by omega) (sq (zam q (6 + 1)) (lvF [o'] ((some (5, 0), chM 6 [[e] ++ zhz o'] [none]) :: [(some (q + (6 + 1), 1), ([e] ++ zhz o').map (AV.int .i64))])) [] rfl rfl rfl rfl .nil (by subst ho; exact (zfn rfl rfl rfl rfl rfl (.cons rfl (.cons (.ms rfl) .nil) (.cons (by (repeat (first | rw [za0, if_neg (by omega)] | rw [za0, if_pos rfl] | rw [za3, if_neg (by omega)] | rw [za3, if_pos rfl])); try rfl) (.keep rfl) .nil))))
     (l' := (b18 f n l i sk w 1 [(13, .ms 5 0 1 0 1 none), (58, .vs (cSs sk)), (59, .int .i64 (cSs sk).length), (60, .int .i64 ((j + 1 : Nat) : Int))])) (zhg rfl rfl rfl rfl rfl rfl rfl rfl rfl rfl rfl rfl rfl rfl rfl rfl rfl (.cons rfl (.ms rfl) (.cons rfl (.same rfl) (.cons rfl (.same rfl) (.cons rfl (.same rfl) .nil)))))) (by subst ho; exact ⟨j + 1, _, [none], _, rfl, hlt, ft ([e] ++ zhz _) _, hch, haf, rfl⟩)
 ·have hj2 : j = sk.length := by
   have : ¬ ((j : Nat) : Int) < ((cSs sk).length : Nat) := of_decide_eq_false h3
   rw [hcs] at this
   omega
  subst hj2
  rw [y0p] at hch haf
  refine onu (za7 (zb5 rfl (zbi (zan ?_))))
  refine zc9 (zbh (za8 ?_))
  have := fin [k0] [e0] rfl haf.symm
  rw [hch] at this
  exact zf6 (zaq (.cons rfl (.cons rfl (.cons rfl (.cons rfl (.cons rfl (.cons rfl (.cons rfl (.cons rfl (.cons rfl (.cons rfl (.cons rfl (.cons rfl (.cons rfl .nil)))))))))))))) this
theorem len2 {α : Type} {x : List α} (h : x.length = 2) : ∃ a0 a1, x = [a0, a1] := by
 match x, h with
 | [a0, a1], _ => exact ⟨a0, a1, rfl⟩
set_option maxHeartbeats 8000000 in
theorem loopB2 (f : List Ex) (n : Int) (l : List Sp) (i : Nat) (sk : List Sk) (hsk : sk.length ≤ 6) (w : Int) (C0 : List (List Int)) (k0 : List (Option Nat)) (E0 : List Bool) (q : Nat) {y : IC} (ok : Fit18 2 C0 k0 E0 sk)
  (fin : ∀ ks E2, ks.length = 2 → E2 = aft E0 sk → Zm Try.prog w0 N0 none y (st 97 (b18 f n l i sk w 2 [(13, .ms 5 0 1 0 2 none)]) (zca 0 (zkc E2 (chS C0 sk) ks) ++ zce (6 + 2) q) (q + (6 + 2)) 1 (ze5 (6 + 2) q)) k Q) :
  Zm Try.prog w0 N0 none (.loop zm7) (st 97 (b18 f n l i sk w 2 [(13, .ms 5 0 1 0 2 none), (58, .vs (cSs sk)), (59, .int .i64 (cSs sk).length), (60, .int .i64 ((0 : Nat) : Int))]) (zca 0 (zkc E0 C0 k0) ++ zce (6 + 2) q) (q + (6 + 2)) 1 (ze5 (6 + 2) q)) (.blk 4 :: .seq y :: k) Q := by
 have hcs : (cSs sk).length = sk.length := zbe sk
 refine zbj (fun mm S => ∃ j C ks E, mm = sk.length - j ∧ j ≤ sk.length ∧ Fit18 2 C ks E (sk.drop j) ∧ chS C0 sk = chS C (sk.drop j) ∧ aft E0 sk = aft E (sk.drop j) ∧ S = st 97 (b18 f n l i sk w 2 [(13, .ms 5 0 1 0 2 none), (58, .vs (cSs sk)), (59, .int .i64 (cSs sk).length), (60, .int .i64 ((j : Nat) : Int))]) (zca 0 (zkc E C ks) ++ zce (6 + 2) q) (q + (6 + 2)) 1 (ze5 (6 + 2) q)) sk.length
  (zaq (.cons rfl (.cons rfl (.cons rfl (.cons rfl (.cons rfl (.cons rfl (.cons rfl (.cons rfl (.cons rfl (.cons rfl (.cons rfl (.cons rfl (.cons rfl (.cons rfl (.cons rfl (.cons rfl .nil))))))))))))))))) ⟨0, C0, k0, E0, rfl, y0q _, ok, rfl, rfl, rfl⟩ ?_
 rintro mm S ⟨j, C, ks, E, rfl, hj, fit, hch, haf, rfl⟩
 obtain ⟨c0, c1, rfl⟩ := len2 fit.hC
 obtain ⟨k0, k1, rfl⟩ := len2 fit.hk
 obtain ⟨e0, e1, rfl⟩ := len2 fit.hE
 unfold zm7
 refine zsr rfl ?_
 refine zao rfl rfl rfl (fun h3 => ?_) fun h3 => ?_
 ·have hlt : j < sk.length := by
   have : ((j : Nat) : Int) < ((cSs sk).length : Nat) := of_decide_eq_true h3
   rw [hcs] at this
   omega
  rw [y0d hlt] at fit hch haf
  have hg := zd4 hlt
  generalize sk[j] = s at fit hch haf hg
  obtain ⟨a0, a1, ⟨e, hce⟩, hks⟩ := fit.at' s (y05 ..)
  have ft := fun c o => fit.tail c o
  clear fit
  obtain ⟨a, o⟩ := s
  have a0 : 0 ≤ a := a0
  have a1 : a < 2 := a1
  have hg : (cSs sk)[((j : Nat) : Int).toNat]? = some [.int .i64 a, .bool o] := hg
  rcases (show a = 0 ∨ a = 1 by omega) with rfl | rfl
  ·have hce : c0 = [e] := hce
   have hks : k0 = some 1 := hks
   subst hce hks
   refine onu (za7 (zb2 rfl (zab (za8 (za7 (zad (zsr rfl (zba rfl rfl (by omega) (by assumption) rfl (zal rfl rfl rfl rfl (zay ?_))))))))))
   refine zah rfl rfl rfl rfl zav rfl rfl ?_
   rw [zc3]
   refine onu ?_
   refine zq (zam q (6 + 2)) (lvF [e0, e1] [(some (5, 0), chM 6 [[e], c1] [some 1, k1]), (some (6, 0), [.int .i64 e]), (some (7, 0), c1.map (AV.int .i64))]) [(q + (6 + 2), 1, [.int .i64 0, .bool o])] (b18 f n l i sk w 2 [(13, .ms 5 0 1 0 2 none), (58, .vs (cSs sk)), (59, .int .i64 (cSs sk).length), (60, .int .i64 ((j : Nat) : Int)), (17, .vptr [.int .i64 0, .bool o])]) rfl (.cons (by (repeat (first | rw [za0, if_neg (by omega)] | rw [za0, if_pos rfl] | rw [za3, if_neg (by omega)] | rw [za3, if_pos rfl])); try rfl) rfl .nil) (zfn rfl rfl rfl rfl rfl (.cons rfl (.cons (.ms rfl) (.cons (.ms rfl) .nil)) (.cons rfl (.keep rfl) (.cons rfl (.keep (zaj _)) .nil)))) (zhg rfl rfl rfl rfl rfl rfl rfl rfl rfl rfl rfl rfl rfl rfl rfl rfl rfl (.cons rfl (.ms rfl) (.cons rfl (.same rfl) (.cons rfl (.same rfl) (.cons rfl (.same rfl) (.cons rfl (.fptr (by simp [fzl]) rfl) .nil)))))) ?_
   show Zm _ _ _ _ _ (st _ _ _ (q + (6 + 2)) 1 _) _ _
   obtain ⟨o', ho⟩ : ∃ o', o' = o := ⟨_, rfl⟩
   cases o
   all_goals
    repeat (first | refine za7 ?_ | refine za5 rfl ?_ | refine zai ?_ | refine za8 ?_ | refine zab ?_ | refine zb2 rfl ?_ | refine zb5 rfl ?_ | refine za1 rfl ?_ | refine za6 rfl rfl ?_ | refine zak rfl rfl rfl ?_)
    refine ze8 env0_ok (fun d => Nat.beq d 76) (fun d => Nat.beq d 73) [] (fun x hx => absurd hx y0f) (fun _ => false) [] (fun x hx => absurd hx y0f) (fun _ => false) rfl rfl rfl ?_
    repeat (first | refine za1 rfl ?_ | refine za6 rfl rfl ?_ | refine zak rfl rfl rfl ?_ | refine zb7 rfl rfl (by omega) (by omega) ?_)
    refine o_lo rfl (zfi (sp := 0) rfl rfl (by omega) rfl) ?_
    refine za1 rfl (za1 rfl ?_)
    refine zdk rfl rfl rfl rfl rfl ?_
    refine zc2 [[.int .i64 _], [.int .i64 _]] rfl rfl rfl (fun h => Nat.noConfusion h) rfl (by decide) rfl (y0c 1) (by show 1 + 2 ≤ _; omega) (by show 1 < 1 + 2; omega) ?_
    refine zb7 rfl rfl (by decide) (by decide) ?_
    refine zah (sp := 0) rfl rfl rfl rfl rfl rfl rfl ?_
    refine onR rfl (za1 rfl (zak rfl rfl rfl (za6 rfl rfl (za1 rfl (zb7 rfl rfl (by omega) (by omega) (zah rfl rfl rfl rfl rfl rfl rfl (zai (zb9 (za8 (za5 rfl (zb3 (op := .add) rfl rfl rfl ?_)))))))))))
    refine za1 rfl (zai ?_)
    rw [zar j (by omega)]
    exact zat (show sk.length - (j + 1) < sk.length - j by omega) (sq (zam q (6 + 2)) (lvF [o', e1] ((some (5, 0), chM 6 [[e] ++ zhz o', c1] [none, k1]) :: [(some (q + (6 + 2), 1), ([e] ++ zhz o').map (AV.int .i64)), (some (7, 0), c1.map (AV.int .i64))])) [] rfl rfl rfl rfl .nil (by subst ho; exact (zfn rfl rfl rfl rfl rfl (.cons rfl (.cons (.ms rfl) (.cons (.ms rfl) .nil)) (.cons (by (repeat (first | rw [za0, if_neg (by omega)] | rw [za0, if_pos rfl] | rw [za3, if_neg (by omega)] | rw [za3, if_pos rfl])); try rfl) (.keep rfl) (.cons rfl (.keep (zaj _)) .nil)))))
     (l' := (b18 f n l i sk w 2 [(13, .ms 5 0 1 0 2 none), (58, .vs (cSs sk)), (59, .int .i64 (cSs sk).length), (60, .int .i64 ((j + 1 : Nat) : Int))])) (zhg rfl rfl rfl rfl rfl rfl rfl rfl rfl rfl rfl rfl rfl rfl rfl rfl rfl (.cons rfl (.ms rfl) (.cons rfl (.same rfl) (.cons rfl (.same rfl) (.cons rfl (.same rfl) .nil)))))) (by subst ho; exact ⟨j + 1, _, [none, k1], _, rfl, hlt, ft ([e] ++ zhz _) _, hch, haf, rfl⟩)
  ·have hce : c1 = [e] := hce
   have hks : k1 = some 1 := hks
   subst hce hks
   refine onu (za7 (zb2 rfl (zab (za8 (za7 (zad (zsr rfl (zba rfl rfl (by omega) (by assumption) rfl (zal rfl rfl rfl rfl (zay ?_))))))))))
   refine zah rfl rfl rfl rfl zav rfl rfl ?_
   rw [zc3]
   refine onu ?_
   refine zq (zam q (6 + 2)) (lvF [e0, e1] [(some (5, 0), chM 6 [c0, [e]] [k0, some 1]), (some (6, 0), c0.map (AV.int .i64)), (some (7, 0), [.int .i64 e])]) [(q + (6 + 2), 1, [.int .i64 1, .bool o])] (b18 f n l i sk w 2 [(13, .ms 5 0 1 0 2 none), (58, .vs (cSs sk)), (59, .int .i64 (cSs sk).length), (60, .int .i64 ((j : Nat) : Int)), (17, .vptr [.int .i64 1, .bool o])]) rfl (.cons (by (repeat (first | rw [za0, if_neg (by omega)] | rw [za0, if_pos rfl] | rw [za3, if_neg (by omega)] | rw [za3, if_pos rfl])); try rfl) rfl .nil) (zfn rfl rfl rfl rfl rfl (.cons rfl (.cons (.ms rfl) (.cons (.ms rfl) .nil)) (.cons rfl (.keep (zaj _)) (.cons rfl (.keep rfl) .nil)))) (zhg rfl rfl rfl rfl rfl rfl rfl rfl rfl rfl rfl rfl rfl rfl rfl rfl rfl (.cons rfl (.ms rfl) (.cons rfl (.same rfl) (.cons rfl (.same rfl) (.cons rfl (.same rfl) (.cons rfl (.fptr (by simp [fzl]) rfl) .nil)))))) ?_
   show Zm _ _ _ _ _ (st _ _ _ (q + (6 + 2)) 1 _) _ _
   obtain ⟨o', ho⟩ : ∃ o', o' = o := ⟨_, rfl⟩
   cases o
   all_goals
    repeat (first | refine za7 ?_ | refine za5 rfl ?_ | refine zai ?_ | refine za8 ?_ | refine zab ?_ | refine zb2 rfl ?_ | refine zb5 rfl ?_ | refine za1 rfl ?_ | refine za6 rfl rfl ?_ | refine zak rfl rfl rfl ?_)
    refine ze8 env0_ok (fun d => Nat.beq d 76) (fun d => Nat.beq d 73) [] (fun x hx => absurd hx y0f) (fun _ => false) [] (fun x hx => absurd hx y0f) (fun _ => false) rfl rfl rfl ?_
    repeat (first | refine za1 rfl ?_ | refine za6 rfl rfl ?_ | refine zak rfl rfl rfl ?_ | refine zb7 rfl rfl (by omega) (by omega) ?_)
    refine o_lo rfl (zfi (sp := 0) rfl rfl (by omega) rfl) ?_
    refine za1 rfl (za1 rfl ?_)
    refine zdk rfl rfl rfl rfl rfl ?_
    refine zc2 [[.int .i64 _], [.int .i64 _]] rfl rfl rfl (fun h => Nat.noConfusion h) rfl (by decide) rfl (y0c 1) (by show 1 + 2 ≤ _; omega) (by show 1 < 1 + 2; omega) ?_
    refine zb7 rfl rfl (by decide) (by decide) ?_
    refine zah (sp := 0) rfl rfl rfl rfl rfl rfl rfl ?_
    refine onR rfl (za1 rfl (zak rfl rfl rfl (za6 rfl rfl (za1 rfl (zb7 rfl rfl (by omega) (by omega) (zah rfl rfl rfl rfl rfl rfl rfl (zai (zb9 (za8 (za5 rfl (zb3 (op := .add) rfl rfl rfl ?_)))))))))))
    refine za1 rfl (zai ?_)
    rw [zar j (by omega)]
    exact zat (show sk.length - (j + 1) < sk.length - j by omega) (sq (zam q (6 + 2)) (lvF [e0, o'] ((some (5, 0), chM 6 [c0, [e] ++ zhz o'] [k0, none]) :: [(some (6, 0), c0.map (AV.int .i64)), (some (q + (6 + 2), 1), ([e] ++ zhz o').map (AV.int .i64))])) [] rfl rfl rfl rfl .nil (by subst ho; exact (zfn rfl rfl rfl rfl rfl (.cons rfl (.cons (.ms rfl) (.cons (.ms rfl) .nil)) (.cons rfl (.keep (zaj _)) (.cons (by (repeat (first | rw [za0, if_neg (by omega)] | rw [za0, if_pos rfl] | rw [za3, if_neg (by omega)] | rw [za3, if_pos rfl])); try rfl) (.keep rfl) .nil)))))
     (l' := (b18 f n l i sk w 2 [(13, .ms 5 0 1 0 2 none), (58, .vs (cSs sk)), (59, .int .i64 (cSs sk).length), (60, .int .i64 ((j + 1 : Nat) : Int))])) (zhg rfl rfl rfl rfl rfl rfl rfl rfl rfl rfl rfl rfl rfl rfl rfl rfl rfl (.cons rfl (.ms rfl) (.cons rfl (.same rfl) (.cons rfl (.same rfl) (.cons rfl (.same rfl) .nil)))))) (by subst ho; exact ⟨j + 1, _, [k0, none], _, rfl, hlt, ft ([e] ++ zhz _) _, hch, haf, rfl⟩)
 ·have hj2 : j = sk.length := by
   have : ¬ ((j : Nat) : Int) < ((cSs sk).length : Nat) := of_decide_eq_false h3
   rw [hcs] at this
   omega
  subst hj2
  rw [y0p] at hch haf
  refine onu (za7 (zb5 rfl (zbi (zan ?_))))
  refine zc9 (zbh (za8 ?_))
  have := fin [k0, k1] [e0, e1] rfl haf.symm
  rw [hch] at this
  exact zf6 (zaq (.cons rfl (.cons rfl (.cons rfl (.cons rfl (.cons rfl (.cons rfl (.cons rfl (.cons rfl (.cons rfl (.cons rfl (.cons rfl (.cons rfl (.cons rfl .nil)))))))))))))) this
theorem len3 {α : Type} {x : List α} (h : x.length = 3) : ∃ a0 a1 a2, x = [a0, a1, a2] := by
 match x, h with
 | [a0, a1, a2], _ => exact ⟨a0, a1, a2, rfl⟩
set_option maxHeartbeats 8000000 in
theorem loopB3 (f : List Ex) (n : Int) (l : List Sp) (i : Nat) (sk : List Sk) (hsk : sk.length ≤ 6) (w : Int) (C0 : List (List Int)) (k0 : List (Option Nat)) (E0 : List Bool) (q : Nat) {y : IC} (ok : Fit18 3 C0 k0 E0 sk)
  (fin : ∀ ks E2, ks.length = 3 → E2 = aft E0 sk → Zm Try.prog w0 N0 none y (st 97 (b18 f n l i sk w 3 [(13, .ms 5 0 1 0 3 none)]) (zca 0 (zkc E2 (chS C0 sk) ks) ++ zce (6 + 3) q) (q + (6 + 3)) 1 (ze5 (6 + 3) q)) k Q) :
  Zm Try.prog w0 N0 none (.loop zm7) (st 97 (b18 f n l i sk w 3 [(13, .ms 5 0 1 0 3 none), (58, .vs (cSs sk)), (59, .int .i64 (cSs sk).length), (60, .int .i64 ((0 : Nat) : Int))]) (zca 0 (zkc E0 C0 k0) ++ zce (6 + 3) q) (q + (6 + 3)) 1 (ze5 (6 + 3) q)) (.blk 4 :: .seq y :: k) Q := by
 have hcs : (cSs sk).length = sk.length := zbe sk
 refine zbj (fun mm S => ∃ j C ks E, mm = sk.length - j ∧ j ≤ sk.length ∧ Fit18 3 C ks E (sk.drop j) ∧ chS C0 sk = chS C (sk.drop j) ∧ aft E0 sk = aft E (sk.drop j) ∧ S = st 97 (b18 f n l i sk w 3 [(13, .ms 5 0 1 0 3 none), (58, .vs (cSs sk)), (59, .int .i64 (cSs sk).length), (60, .int .i64 ((j : Nat) : Int))]) (zca 0 (zkc E C ks) ++ zce (6 + 3) q) (q + (6 + 3)) 1 (ze5 (6 + 3) q)) sk.length
  (zaq (.cons rfl (.cons rfl (.cons rfl (.cons rfl (.cons rfl (.cons rfl (.cons rfl (.cons rfl (.cons rfl (.cons rfl (.cons rfl (.cons rfl (.cons rfl (.cons rfl (.cons rfl (.cons rfl .nil))))))))))))))))) ⟨0, C0, k0, E0, rfl, y0q _, ok, rfl, rfl, rfl⟩ ?_
 rintro mm S ⟨j, C, ks, E, rfl, hj, fit, hch, haf, rfl⟩
 obtain ⟨c0, c1, c2, rfl⟩ := len3 fit.hC
 obtain ⟨k0, k1, k2, rfl⟩ := len3 fit.hk
 obtain ⟨e0, e1, e2, rfl⟩ := len3 fit.hE
 unfold zm7
 refine zsr rfl ?_
 refine zao rfl rfl rfl (fun h3 => ?_) fun h3 => ?_
 ·have hlt : j < sk.length := by
   have : ((j : Nat) : Int) < ((cSs sk).length : Nat) := of_decide_eq_true h3
   rw [hcs] at this
   omega
  rw [y0d hlt] at fit hch haf
  have hg := zd4 hlt
  generalize sk[j] = s at fit hch haf hg
  obtain ⟨a0, a1, ⟨e, hce⟩, hks⟩ := fit.at' s (y05 ..)
  have ft := fun c o => fit.tail c o
  clear fit
  obtain ⟨a, o⟩ := s
  have a0 : 0 ≤ a := a0
  have a1 : a < 3 := a1
  have hg : (cSs sk)[((j : Nat) : Int).toNat]? = some [.int .i64 a, .bool o] := hg
  rcases (show a = 0 ∨ a = 1 ∨ a = 2 by omega) with rfl | rfl | rfl
  ·have hce : c0 = [e] := hce
   have hks : k0 = some 1 := hks
   subst hce hks
   refine onu (za7 (zb2 rfl (zab (za8 (za7 (zad (zsr rfl (zba rfl rfl (by omega) (by assumption) rfl (zal rfl rfl rfl rfl (zay ?_))))))))))
   refine zah rfl rfl rfl rfl zav rfl rfl ?_
   rw [zc3]
   refine onu ?_
   refine zq (zam q (6 + 3)) (lvF [e0, e1, e2] [(some (5, 0), chM 6 [[e], c1, c2] [some 1, k1, k2]), (some (6, 0), [.int .i64 e]), (some (7, 0), c1.map (AV.int .i64)), (some (8, 0), c2.map (AV.int .i64))]) [(q + (6 + 3), 1, [.int .i64 0, .bool o])] (b18 f n l i sk w 3 [(13, .ms 5 0 1 0 3 none), (58, .vs (cSs sk)), (59, .int .i64 (cSs sk).length), (60, .int .i64 ((j : Nat) : Int)), (17, .vptr [.int .i64 0, .bool o])]) rfl (.cons (by (repeat (first | rw [za0, if_neg (by omega)] | rw [za0, if_pos rfl] | rw [za3, if_neg (by omega)] | rw [za3, if_pos rfl])); try rfl) rfl .nil) (zfn rfl rfl rfl rfl rfl (.cons rfl (.cons (.ms rfl) (.cons (.ms rfl) (.cons (.ms rfl) .nil))) (.cons rfl (.keep rfl) (.cons rfl (.keep (zaj _)) (.cons rfl (.keep (zaj _)) .nil))))) (zhg rfl rfl rfl rfl rfl rfl rfl rfl rfl rfl rfl rfl rfl rfl rfl rfl rfl (.cons rfl (.ms rfl) (.cons rfl (.same rfl) (.cons rfl (.same rfl) (.cons rfl (.same rfl) (.cons rfl (.fptr (by simp [fzl]) rfl) .nil)))))) ?_
   show Zm _ _ _ _ _ (st _ _ _ (q + (6 + 3)) 1 _) _ _
   obtain ⟨o', ho⟩ : ∃ o', o' = o := ⟨_, rfl⟩
   cases o
   all_goals
    repeat (first | refine za7 ?_ | refine za5 rfl ?_ | refine zai ?_ | refine za8 ?_ | refine zab ?_ | refine zb2 rfl ?_ | refine zb5 rfl ?_ | refine za1 rfl ?_ | refine za6 rfl rfl ?_ | refine zak rfl rfl rfl ?_)
    refine ze8 env0_ok (fun d => Nat.beq d 76) (fun d => Nat.beq d 73) [] (fun x hx => absurd hx y0f) (fun _ => false) [] (fun x hx => absurd hx y0f) (fun _ => false) rfl rfl rfl ?_
    repeat (first | refine za1 rfl ?_ | refine za6 rfl rfl ?_ | refine zak rfl rfl rfl ?_ | refine zb7 rfl rfl (by omega) (by omega) ?_)
    refine o_lo rfl (zfi (sp := 0) rfl rfl (by omega) rfl) ?_
    refine za1 rfl (za1 rfl ?_)
    refine zdk rfl rfl rfl rfl rfl ?_
    refine zc2 [[.int .i64 _], [.int .i64 _]] rfl rfl rfl (fun h => Nat.noConfusion h) rfl (by decide) rfl (y0c 1) (by show 1 + 2 ≤ _; omega) (by show 1 < 1 + 2; omega) ?_
    refine zb7 rfl rfl (by decide) (by decide) ?_
    refine zah (sp := 0) rfl rfl rfl rfl rfl rfl rfl ?_
    refine onR rfl (za1 rfl (zak rfl rfl rfl (za6 rfl rfl (za1 rfl (zb7 rfl rfl (by omega) (by omega) (zah rfl rfl rfl rfl rfl rfl rfl (zai (zb9 (za8 (za5 rfl (zb3 (op := .add) rfl rfl rfl ?_)))))))))))
    refine za1 rfl (zai ?_)
    rw [zar j (by omega)]
    exact zat (show sk.length - (j + 1) < sk.length - j by omega) (sq (zam q (6 + 3)) (lvF [o', e1, e2] ((some (5, 0), chM 6 [[e] ++ zhz o', c1, c2] [none, k1, k2]) :: [(some (q + (6 + 3), 1), ([e] ++ zhz o').map (AV.int .i64)), (some (7, 0), c1.map (AV.int .i64)), (some (8, 0), c2.map (AV.int .i64))])) [] rfl rfl rfl rfl .nil (by subst ho; exact (zfn rfl rfl rfl rfl rfl (.cons rfl (.cons (.ms rfl) (.cons (.ms rfl) (.cons (.ms rfl) .nil))) (.cons (by (repeat (first | rw [za0, if_neg (by omega)] | rw [za0, if_pos rfl] | rw [za3, if_neg (by omega)] | rw [za3, if_pos rfl])); try rfl) (.keep rfl) (.cons rfl (.keep (zaj _)) (.cons rfl (.keep (zaj _)) .nil))))))
     (l' := (b18 f n l i sk w 3 [(13, .ms 5 0 1 0 3 none), (58, .vs (cSs sk)), (59, .int .i64 (cSs sk).length), (60, .int .i64 ((j + 1 : Nat) : Int))])) (zhg rfl rfl rfl rfl rfl rfl rfl rfl rfl rfl rfl rfl rfl rfl rfl rfl rfl (.cons rfl (.ms rfl) (.cons rfl (.same rfl) (.cons rfl (.same rfl) (.cons rfl (.same rfl) .nil)))))) (by subst ho; exact ⟨j + 1, _, [none, k1, k2], _, rfl, hlt, ft ([e] ++ zhz _) _, hch, haf, rfl⟩)
  ·have hce : c1 = [e] := hce
   have hks : k1 = some 1 := hks
   subst hce hks
   refine onu (za7 (zb2 rfl (zab (za8 (za7 (zad (zsr rfl (zba rfl rfl (by omega) (by assumption) rfl (zal rfl rfl rfl rfl (zay ?_))))))))))
   refine zah rfl rfl rfl rfl zav rfl rfl ?_
   rw [zc3]
   refine onu ?_
   refine zq (zam q (6 + 3)) (lvF [e0, e1, e2] [(some (5, 0), chM 6 [c0, [e], c2] [k0, some 1, k2]), (some (6, 0), c0.map (AV.int .i64)), (some (7, 0), [.int .i64 e]), (some (8, 0), c2.map (AV.int .i64))]) [(q + (6 + 3), 1, [.int .i64 1, .bool o])] (b18 f n l i sk w 3 [(13, .ms 5 0 1 0 3 none), (58, .vs (cSs sk)), (59, .int .i64 (cSs sk).length), (60, .int .i64 ((j : Nat) : Int)), (17, .vptr [.int .i64 1, .bool o])]) rfl (.cons (by (repeat (first | rw [za0, if_neg (by omega)] | rw [za0, if_pos rfl] | rw [za3, if_neg (by omega)] | rw [za3, if_pos rfl])); try rfl) rfl .nil) (zfn rfl rfl rfl rfl rfl (.cons rfl (.cons (.ms rfl) (.cons (.ms rfl) (.cons (.ms rfl) .nil))) (.cons rfl (.keep (zaj _)) (.cons rfl (.keep rfl) (.cons rfl (.keep (zaj _)) .nil))))) (zhg rfl rfl rfl rfl rfl rfl rfl rfl rfl rfl rfl rfl rfl rfl rfl rfl rfl (.cons rfl (.ms rfl) (.cons rfl (.same rfl) (.cons rfl (.same rfl) (.cons rfl (.same rfl) (.cons rfl (.fptr (by simp [fzl]) rfl) .nil)))))) ?_
   show Zm _ _ _ _ _ (st _ _ _ (q + (6 + 3)) 1 _) _ _
   obtain ⟨o', ho⟩ : ∃ o', o' = o := ⟨_, rfl⟩
   cases o
   all_goals
    repeat (first | refine za7 ?_ | refine za5 rfl ?_ | refine zai ?_ | refine za8 ?_ | refine zab ?_ | refine zb2 rfl ?_ | refine zb5 rfl ?_ | refine za1 rfl ?_ | refine za6 rfl rfl ?_ | refine zak rfl rfl rfl ?_)
    refine ze8 env0_ok (fun d => Nat.beq d 76) (fun d => Nat.beq d 73) [] (fun x hx => absurd hx y0f) (fun _ => false) [] (fun x hx => absurd hx y0f) (fun _ => false) rfl rfl rfl ?_
    repeat (first | refine za1 rfl ?_ | refine za6 rfl rfl ?_ | refine zak rfl rfl rfl ?_ | refine zb7 rfl rfl (by omega) (by omega) ?_)
    refine o_lo rfl (zfi (sp := 0) rfl rfl (by omega) rfl) ?_
    refine za1 rfl (za1 rfl ?_)
    refine zdk rfl rfl rfl rfl rfl ?_
    refine zc2 [[.int .i64 _], [.int .i64 _]] rfl rfl rfl (fun h => Nat.noConfusion h) rfl (by decide) rfl (y0c 1) (by show 1 + 2 ≤ _; omega) (by show 1 < 1 + 2; omega) ?_
    refine zb7 rfl rfl (by decide) (by decide) ?_
    refine zah (sp := 0) rfl rfl rfl rfl rfl rfl rfl ?_
    refine onR rfl (za1 rfl (zak rfl rfl rfl (za6 rfl rfl (za1 rfl (zb7 rfl rfl (by omega) (by omega) (zah rfl rfl rfl rfl rfl rfl rfl (zai (zb9 (za8 (za5 rfl (zb3 (op := .add) rfl rfl rfl ?_)))))))))))
    refine za1 rfl (zai ?_)
    rw [zar j (by omega)]
    exact zat (show sk.length - (j + 1) < sk.length - j by omega) (sq (zam q (6 + 3)) (lvF [e0, o', e2] ((some (5, 0), chM 6 [c0, [e] ++ zhz o', c2] [k0, none, k2]) :: [(some (6, 0), c0.map (AV.int .i64)), (some (q + (6 + 3), 1), ([e] ++ zhz o').map (AV.int .i64)), (some (8, 0), c2.map (AV.int .i64))])) [] rfl rfl rfl rfl .nil (by subst ho; exact (zfn rfl rfl rfl rfl rfl (.cons rfl (.cons (.ms rfl) (.cons (.ms rfl) (.cons (.ms rfl) .nil))) (.cons rfl (.keep (zaj _)) (.cons (by (repeat (first | rw [za0, if_neg (by omega)] | rw [za0, if_pos rfl] | rw [za3, if_neg (by omega)] | rw [za3, if_pos rfl])); try rfl) (.keep rfl) (.cons rfl (.keep (zaj _)) .nil))))))
     (l' := (b18 f n l i sk w 3 [(13, .ms 5 0 1 0 3 none), (58, .vs (cSs sk)), (59, .int .i64 (cSs sk).length), (60, .int .i64 ((j + 1 : Nat) : Int))])) (zhg rfl rfl rfl rfl rfl rfl rfl rfl rfl rfl rfl rfl rfl rfl rfl rfl rfl (.cons rfl (.ms rfl) (.cons rfl (.same rfl) (.cons rfl (.same rfl) (.cons rfl (.same rfl) .nil)))))) (by subst ho; exact ⟨j + 1, _, [k0, none, k2], _, rfl, hlt, ft ([e] ++ zhz _) _, hch, haf, rfl⟩)
  ·have hce : c2 = [e] := hce
   have hks : k2 = some 1 := hks
   subst hce hks
   refine onu (za7 (zb2 rfl (zab (za8 (za7 (zad (zsr rfl (zba rfl rfl (by omega) (by assumption) rfl (zal rfl rfl rfl rfl (zay ?_))))))))))
   refine zah rfl rfl rfl rfl zav rfl rfl ?_
   rw [zc3]
   refine onu ?_
   refine zq (zam q (6 + 3)) (lvF [e0, e1, e2] [(some (5, 0), chM 6 [c0, c1, [e]] [k0, k1, some 1]), (some (6, 0), c0.map (AV.int .i64)), (some (7, 0), c1.map (AV.int .i64)), (some (8, 0), [.int .i64 e])]) [(q + (6 + 3), 1, [.int .i64 2, .bool o])] (b18 f n l i sk w 3 [(13, .ms 5 0 1 0 3 none), (58, .vs (cSs sk)), (59, .int .i64 (cSs sk).length), (60, .int .i64 ((j : Nat) : Int)), (17, .vptr [.int .i64 2, .bool o])]) rfl (.cons (by (repeat (first | rw [za0, if_neg (by omega)] | rw [za0, if_pos rfl] | rw [za3, if_neg (by omega)] | rw [za3, if_pos rfl])); try rfl) rfl .nil) (zfn rfl rfl rfl rfl rfl (.cons rfl (.cons (.ms rfl) (.cons (.ms rfl) (.cons (.ms rfl) .nil))) (.cons rfl (.keep (zaj _)) (.cons rfl (.keep (zaj _)) (.cons rfl (.keep rfl) .nil))))) (zhg rfl rfl rfl rfl rfl rfl rfl rfl rfl rfl rfl rfl rfl rfl rfl rfl rfl (.cons rfl (.ms rfl) (.cons rfl (.same rfl) (.cons rfl (.same rfl) (.cons rfl (.same rfl) (.cons rfl (.fptr (by simp [fzl]) rfl) .nil)))))) ?_
   show Zm _ _ _ _ _ (st _ _ _ (q + (6 + 3)) 1 _) _ _
   obtain ⟨o', ho⟩ : ∃ o', o' = o := ⟨_, rfl⟩
   cases o
   all_goals
    repeat (first | refine za7 ?_ | refine za5 rfl ?_ | refine zai ?_ | refine za8 ?_ | refine zab ?_ | refine zb2 rfl ?_ | refine zb5 rfl ?_ | refine za1 rfl ?_ | refine za6 rfl rfl ?_ | refine zak rfl rfl rfl ?_)
    refine ze8 env0_ok (fun d => Nat.beq d 76) (fun d => Nat.beq d 73) [] (fun x hx => absurd hx y0f) (fun _ => false) [] (fun x hx => absurd hx y0f) (fun _ => false) rfl rfl rfl ?_
    repeat (first | refine za1 rfl ?_ | refine za6 rfl rfl ?_ | refine zak rfl rfl rfl ?_ | refine zb7 rfl rfl (by omega) (by omega) ?_)
    refine o_lo rfl (zfi (sp := 0) rfl rfl (by omega) rfl) ?_
    refine za1 rfl (za1 rfl ?_)
    refine zdk rfl rfl rfl rfl rfl ?_
    refine zc2 [[.int .i64 _], [.int .i64 _]] rfl rfl rfl (fun h => Nat.noConfusion h) rfl (by decide) rfl (y0c 1) (by show 1 + 2 ≤ _; omega) (by show 1 < 1 + 2; omega) ?_
    refine zb7 rfl rfl (by decide) (by decide) ?_
    refine zah (sp := 0) rfl rfl rfl rfl rfl rfl rfl ?_
    refine onR rfl (za1 rfl (zak rfl rfl rfl (za6 rfl rfl (za1 rfl (zb7 rfl rfl (by omega) (by omega) (zah rfl rfl rfl rfl rfl rfl rfl (zai (zb9 (za8 (za5 rfl (zb3 (op := .add) rfl rfl rfl ?_)))))))))))
    refine za1 rfl (zai ?_)
    rw [zar j (by omega)]
    exact zat (show sk.length - (j + 1) < sk.length - j by omega) (sq (zam q (6 + 3)) (lvF [e0, e1, o'] ((some (5, 0), chM 6 [c0, c1, [e] ++ zhz o'] [k0, k1, none]) :: [(some (6, 0), c0.map (AV.int .i64)), (some (7, 0), c1.map (AV.int .i64)), (some (q + (6 + 3), 1), ([e] ++ zhz o').map (AV.int .i64))])) [] rfl rfl rfl rfl .nil (by subst ho; exact (zfn rfl rfl rfl rfl rfl (.cons rfl (.cons (.ms rfl) (.cons (.ms rfl) (.cons (.ms rfl) .nil))) (.cons rfl (.keep (zaj _)) (.cons rfl (.keep (zaj _)) (.cons (by (repeat (first | rw [za0, if_neg (by omega)] | rw [za0, if_pos rfl] | rw [za3, if_neg (by omega)] | rw [za3, if_pos rfl])); try rfl) (.keep rfl) .nil))))))
     (l' := (b18 f n l i sk w 3 [(13, .ms 5 0 1 0 3 none), (58, .vs (cSs sk)), (59, .int .i64 (cSs sk).length), (60, .int .i64 ((j + 1 : Nat) : Int))])) (zhg rfl rfl rfl rfl rfl rfl rfl rfl rfl rfl rfl rfl rfl rfl rfl rfl rfl (.cons rfl (.ms rfl) (.cons rfl (.same rfl) (.cons rfl (.same rfl) (.cons rfl (.same rfl) .nil)))))) (by subst ho; exact ⟨j + 1, _, [k0, k1, none], _, rfl, hlt, ft ([e] ++ zhz _) _, hch, haf, rfl⟩)
 ·have hj2 : j = sk.length := by
   have : ¬ ((j : Nat) : Int) < ((cSs sk).length : Nat) := of_decide_eq_false h3
   rw [hcs] at this
   omega
  subst hj2
  rw [y0p] at hch haf
  refine onu (za7 (zb5 rfl (zbi (zan ?_))))
  refine zc9 (zbh (za8 ?_))
  have := fin [k0, k1, k2] [e0, e1, e2] rfl haf.symm
  rw [hch] at this
  exact zf6 (zaq (.cons rfl (.cons rfl (.cons rfl (.cons rfl (.cons rfl (.cons rfl (.cons rfl (.cons rfl (.cons rfl (.cons rfl (.cons rfl (.cons rfl (.cons rfl .nil)))))))))))))) this
theorem len4 {α : Type} {x : List α} (h : x.length = 4) : ∃ a0 a1 a2 a3, x = [a0, a1, a2, a3] := by
 match x, h with
 | [a0, a1, a2, a3], _ => exact ⟨a0, a1, a2, a3, rfl⟩
set_option maxHeartbeats 8000000 in
theorem loopB4 (f : List Ex) (n : Int) (l : List Sp) (i : Nat) (sk : List Sk) (hsk : sk.length ≤ 6) (w : Int) (C0 : List (List Int)) (k0 : List (Option Nat)) (E0 : List Bool) (q : Nat) {y : IC} (ok : Fit18 4 C0 k0 E0 sk)
  (fin : ∀ ks E2, ks.length = 4 → E2 = aft E0 sk → Zm Try.prog w0 N0 none y (st 97 (b18 f n l i sk w 4 [(13, .ms 5 0 1 0 4 none)]) (zca 0 (zkc E2 (chS C0 sk) ks) ++ zce (6 + 4) q) (q + (6 + 4)) 1 (ze5 (6 + 4) q)) k Q) :
  Zm Try.prog w0 N0 none (.loop zm7) (st 97 (b18 f n l i sk w 4 [(13, .ms 5 0 1 0 4 none), (58, .vs (cSs sk)), (59, .int .i64 (cSs sk).length), (60, .int .i64 ((0 : Nat) : Int))]) (zca 0 (zkc E0 C0 k0) ++ zce (6 + 4) q) (q + (6 + 4)) 1 (ze5 (6 + 4) q)) (.blk 4 :: .seq y :: k) Q := by
 have hcs : (cSs sk).length = sk.length := zbe sk
 refine zbj (fun mm S => ∃ j C ks E, mm = sk.length - j ∧ j ≤ sk.length ∧ Fit18 4 C ks E (sk.drop j) ∧ chS C0 sk = chS C (sk.drop j) ∧ aft E0 sk = aft E (sk.drop j) ∧ S = st 97 (b18 f n l i sk w 4 [(13, .ms 5 0 1 0 4 none), (58, .vs (cSs sk)), (59, .int .i64 (cSs sk).length), (60, .int .i64 ((j : Nat) : Int))]) (zca 0 (zkc E C ks) ++ zce (6 + 4) q) (q + (6 + 4)) 1 (ze5 (6 + 4) q)) sk.length
  (zaq (.cons rfl (.cons rfl (.cons rfl (.cons rfl (.cons rfl (.cons rfl (.cons rfl (.cons rfl (.cons rfl (.cons rfl (.cons rfl (.cons rfl (.cons rfl (.cons rfl (.cons rfl (.cons rfl .nil))))))))))))))))) ⟨0, C0, k0, E0, rfl, y0q _, ok, rfl, rfl, rfl⟩ ?_
 rintro mm S ⟨j, C, ks, E, rfl, hj, fit, hch, haf, rfl⟩
 obtain ⟨c0, c1, c2, c3, rfl⟩ := len4 fit.hC
 obtain ⟨k0, k1, k2, k3, rfl⟩ := len4 fit.hk
 obtain ⟨e0, e1, e2, e3, rfl⟩ := len4 fit.hE
 unfold zm7
 refine zsr rfl ?_
 refine zao rfl rfl rfl (fun h3 => ?_) fun h3 => ?_
 ·have hlt : j < sk.length := by
   have : ((j : Nat) : Int) < ((cSs sk).length : Nat) := of_decide_eq_true h3
   rw [hcs] at this
   omega
  rw [y0d hlt] at fit hch haf
  have hg := zd4 hlt
  generalize sk[j] = s at fit hch haf hg
  obtain ⟨a0, a1, ⟨e, hce⟩, hks⟩ := fit.at' s (y05 ..)
  have ft := fun c o => fit.tail c o
  clear fit
  obtain ⟨a, o⟩ := s
  have a0 : 0 ≤ a := a0
  have a1 : a < 4 := a1
  have hg : (cSs sk)[((j : Nat) : Int).toNat]? = some [.int .i64 a, .bool o] := hg
  rcases (show a = 0 ∨ a = 1 ∨ a = 2 ∨ a = 3 by omega) with rfl | rfl | rfl | rfl
  ·have hce : c0 = [e] := hce
   have hks : k0 = some 1 := hks
   subst hce hks
   refine onu (za7 (zb2 rfl (zab (za8 (za7 (zad (zsr rfl (zba rfl rfl (by omega) (by assumption) rfl (zal rfl rfl rfl rfl (zay ?_))))))))))
   refine zah rfl rfl rfl rfl zav rfl rfl ?_
   rw [zc3]
   refine onu ?_
   refine zq (zam q (6 + 4)) (lvF [e0, e1, e2, e3] [(some (5, 0), chM 6 [[e], c1, c2, c3] [some 1, k1, k2, k3]), (some (6, 0), [.int .i64 e]), (some (7, 0), c1.map (AV.int .i64)), (some (8, 0), c2.map (AV.int .i64)), (some (9, 0), c3.map (AV.int .i64))]) [(q + (6 + 4), 1, [.int .i64 0, .bool o])] (b18 f n l i sk w 4 [(13, .ms 5 0 1 0 4 none), (58, .vs (cSs sk)), (59, .int .i64 (cSs sk).length), (60, .int .i64 ((j : Nat) : Int)), (17, .vptr [.int .i64 0, .bool o])]) rfl (.cons (by (repeat (first | rw [za0, if_neg (by omega)] | rw [za0, if_pos rfl] | rw [za3, if_neg (by omega)] | rw [za3, if_pos rfl])); try rfl) rfl .nil) (zfn rfl rfl rfl rfl rfl (.cons rfl (.cons (.ms rfl) (.cons (.ms rfl) (.cons (.ms rfl) (.cons (.ms rfl) .nil)))) (.cons rfl (.keep rfl) (.cons rfl (.keep (zaj _)) (.cons rfl (.keep (zaj _)) (.cons rfl (.keep (zaj _)) .nil)))))) (zhg rfl rfl rfl rfl rfl rfl rfl rfl rfl rfl rfl rfl rfl rfl rfl rfl rfl (.cons rfl (.ms rfl) (.cons rfl (.same rfl) (.cons rfl (.same rfl) (.cons rfl (.same rfl) (.cons rfl (.fptr (by simp [fzl]) rfl) .nil)))))) ?_
   show Zm _ _ _ _ _ (st _ _ _ (q + (6 + 4)) 1 _) _ _
   obtain ⟨o', ho⟩ : ∃ o', o' = o := ⟨_, rfl⟩
   cases o
   all_goals
    repeat (first | refine za7 ?_ | refine za5 rfl ?_ | refine zai ?_ | refine za8 ?_ | refine zab ?_ | refine zb2 rfl ?_ | refine zb5 rfl ?_ | refine za1 rfl ?_ | refine za6 rfl rfl ?_ | refine zak rfl rfl rfl ?_)
    refine ze8 env0_ok (fun d => Nat.beq d 76) (fun d => Nat.beq d 73) [] (fun x hx => absurd hx y0f) (fun _ => false) [] (fun x hx => absurd hx y0f) (fun _ => false) rfl rfl rfl ?_
    repeat (first | refine za1 rfl ?_ | refine za6 rfl rfl ?_ | refine zak rfl rfl rfl ?_ | refine zb7 rfl rfl (by omega) (by omega) ?_)
    refine o_lo rfl (zfi (sp := 0) rfl rfl (by omega) rfl) ?_
    refine za1 rfl (za1 rfl ?_)
    refine zdk rfl rfl rfl rfl rfl ?_
    refine zc2 [[.int .i64 _], [.int .i64 _]] rfl rfl rfl (fun h => Nat.noConfusion h) rfl (by decide) rfl (y0c 1) (by show 1 + 2 ≤ _; omega) (by show 1 < 1 + 2; omega) ?_
    refine zb7 rfl rfl (by decide) (by decide) ?_
    refine zah (sp := 0) rfl rfl rfl rfl rfl rfl rfl ?_
    refine onR rfl (za1 rfl (zak rfl rfl rfl (za6 rfl rfl (za1 rfl (zb7 rfl rfl (by omega) (by omega) (zah rfl rfl rfl rfl rfl rfl rfl (zai (zb9 (za8 (za5 rfl (zb3 (op := .add) rfl rfl rfl ?_)))))))))))
    refine za1 rfl (zai ?_)
    rw [zar j (by omega)]
    exact zat (show sk.length - (j + 1) < sk.length - j by omega) (sq (zam q (6 + 4)) (lvF [o', e1, e2, e3] ((some (5, 0), chM 6 [[e] ++ zhz o', c1, c2, c3] [none, k1, k2, k3]) :: [(some (q + (6 + 4), 1), ([e] ++ zhz o').map (AV.int .i64)), (some (7, 0), c1.map (AV.int .i64)), (some (8, 0), c2.map (AV.int .i64)), (some (9, 0), c3.map (AV.int .i64))])) [] rfl rfl rfl rfl .nil (by subst ho; exact (zfn rfl rfl rfl rfl rfl (.cons rfl (.cons (.ms rfl) (.cons (.ms rfl) (.cons (.ms rfl) (.cons (.ms rfl) .nil)))) (.cons (by (repeat (first | rw [za0, if_neg (by omega)] | rw [za0, if_pos rfl] | rw [za3, if_neg (by omega)] | rw [za3, if_pos rfl])); try rfl) (.keep rfl) (.cons rfl (.keep (zaj _)) (.cons rfl (.keep (zaj _)) (.cons rfl (.keep (zaj _)) .nil)))))))
     (l' := (b18 f n l i sk w 4 [(13, .ms 5 0 1 0 4 none), (58, .vs (cSs sk)), (59, .int .i64 (cSs sk).length), (60, .int .i64 ((j + 1 : Nat) : Int))])) (zhg rfl rfl rfl rfl rfl rfl rfl rfl rfl rfl rfl rfl rfl rfl rfl rfl rfl (.cons rfl (.ms rfl) (.cons rfl (.same rfl) (.cons rfl (.same rfl) (.cons rfl (.same rfl) .nil)))))) (by subst ho; exact ⟨j + 1, _, [none, k1, k2, k3], _, rfl, hlt, ft ([e] ++ zhz _) _, hch, haf, rfl⟩)
  ·have hce : c1 = [e] := hce
   have hks : k1 = some 1 := hks
   subst hce hks
   refine onu (za7 (zb2 rfl (zab (za8 (za7 (zad (zsr rfl (zba rfl rfl (by omega) (by assumption) rfl (zal rfl rfl rfl rfl (zay ?_))))))))))
   refine zah rfl rfl rfl rfl zav rfl rfl ?_
   rw [zc3]
   refine onu ?_
   refine zq (zam q (6 + 4)) (lvF [e0, e1, e2, e3] [(some (5, 0), chM 6 [c0, [e], c2, c3] [k0, some 1, k2, k3]), (some (6, 0), c0.map (AV.int .i64)), (some (7, 0), [.int .i64 e]), (some (8, 0), c2.map (AV.int .i64)), (some (9, 0), c3.map (AV.int .i64))]) [(q + (6 + 4), 1, [.int .i64 1, .bool o])] (b18 f n l i sk w 4 [(13, .ms 5 0 1 0 4 none), (58, .vs (cSs sk)), (59, .int .i64 (cSs sk).length), (60, .int .i64 ((j : Nat) : Int)), (17, .vptr [.int .i64 1, .bool o])]) rfl (.cons (by (repeat (first | rw [za0, if_neg (by omega)] | rw [za0, if_pos rfl] | rw [za3, if_neg (by omega)] | rw [za3, if_pos rfl])); try rfl) rfl .nil) (zfn rfl rfl rfl rfl rfl (.cons rfl (.cons (.ms rfl) (.cons (.ms rfl) (.cons (.ms rfl) (.cons (.ms rfl) .nil)))) (.cons rfl (.keep (zaj _)) (.cons rfl (.keep rfl) (.cons rfl (.keep (zaj _)) (.cons rfl (.keep (zaj _)) .nil)))))) (zhg rfl rfl rfl rfl rfl rfl rfl rfl rfl rfl rfl rfl rfl rfl rfl rfl rfl (.cons rfl (.ms rfl) (.cons rfl (.same rfl) (.cons rfl (.same rfl) (.cons rfl (.same rfl) (.cons rfl (.fptr (by simp [fzl]) rfl) .nil)))))) ?_
   show Zm _ _ _ _ _ (st _ _ _ (q + (6 + 4)) 1 _) _ _
   obtain ⟨o', ho⟩ : ∃ o', o' = o := ⟨_, rfl⟩
   cases o
   all_goals
    repeat (first | refine za7 ?_ | refine za5 rfl ?_ | refine zai ?_ | refine za8 ?_ | refine zab ?_ | refine zb2 rfl ?_ | refine zb5 rfl ?_ | refine za1 rfl ?_ | refine za6 rfl rfl ?_ | refine zak rfl rfl rfl ?_)
    refine ze8 env0_ok (fun d => Nat.beq d 76) (fun d => Nat.beq d 73) [] (fun x hx => absurd hx y0f) (fun _ => false) [] (fun x hx => absurd hx y0f) (fun _ => false) rfl rfl rfl ?_
    repeat (first | refine za1 rfl ?_ | refine za6 rfl rfl ?_ | refine zak rfl rfl rfl ?_ | refine zb7 rfl rfl (by omega) (by omega) ?_)
    refine o_lo rfl (zfi (sp := 0) rfl rfl (by omega) rfl) ?_
    refine za1 rfl (za1 rfl ?_)
    refine zdk rfl rfl rfl rfl rfl ?_
    refine zc2 [[.int .i64 _], [.int .i64 _]] rfl rfl rfl (fun h => Nat.noConfusion h) rfl (by decide) rfl (y0c 1) (by show 1 + 2 ≤ _; omega) (by show 1 < 1 + 2; omega) ?_
    refine zb7 rfl rfl (by decide) (by decide) ?_
    refine zah (sp := 0) rfl rfl rfl rfl rfl rfl rfl ?_
    refine onR rfl (za1 rfl (zak rfl rfl rfl (za6 rfl rfl (za1 rfl (zb7 rfl rfl (by omega) (by omega) (zah rfl rfl rfl rfl rfl rfl rfl (zai (zb9 (za8 (za5 rfl (zb3 (op := .add) rfl rfl rfl ?_)))))))))))
    refine za1 rfl (zai ?_)
    rw [zar j (by omega)]
    exact zat (show sk.length - (j + 1) < sk.length - j by omega) (sq (zam q (6 + 4)) (lvF [e0, o', e2, e3] ((some (5, 0), chM 6 [c0, [e] ++ zhz o', c2, c3] [k0, none, k2, k3]) :: [(some (6, 0), c0.map (AV.int .i64)), (some (q + (6 + 4), 1), ([e] ++ zhz o').map (AV.int .i64)), (some (8, 0), c2.map (AV.int .i64)), (some (9, 0), c3.map (AV.int .i64))])) [] rfl rfl rfl rfl .nil (by subst ho; exact (zfn rfl rfl rfl rfl rfl (.cons rfl (.cons (.ms rfl) (.cons (.ms rfl) (.cons (.ms rfl) (.cons (.ms rfl) .nil)))) (.cons rfl (.keep (zaj _)) (.cons (by (repeat (first | rw [za0, if_neg (by omega)] | rw [za0, if_pos rfl] | rw [za3, if_neg (by omega)] | rw [za3, if_pos rfl])); try rfl) (.keep rfl) (.cons rfl (.keep (zaj _)) (.cons rfl (.keep (zaj _)) .nil)))))))
     (l' := (b18 f n l i sk w 4 [(13, .ms 5 0 1 0 4 none), (58, .vs (cSs sk)), (59, .int .i64 (cSs sk).length), (60, .int .i64 ((j + 1 : Nat) : Int))])) (zhg rfl rfl rfl rfl rfl rfl rfl rfl rfl rfl rfl rfl rfl rfl rfl rfl rfl (.cons rfl (.ms rfl) (.cons rfl (.same rfl) (.cons rfl (.same rfl) (.cons rfl (.same rfl) .nil)))))) (by subst ho; exact ⟨j + 1, _, [k0, none, k2, k3], _, rfl, hlt, ft ([e] ++ zhz _) _, hch, haf, rfl⟩)
  ·have hce : c2 = [e] := hce
   have hks : k2 = some 1 := hks
   subst hce hks
   refine onu (za7 (zb2 rfl (zab (za8 (za7 (zad (zsr rfl (zba rfl rfl (by omega) (by assumption) rfl (zal rfl rfl rfl rfl (zay ?_))))))))))
   refine zah rfl rfl rfl rfl zav rfl rfl ?_
   rw [zc3]
   refine onu ?_
   refine zq (zam q (6 + 4)) (lvF [e0, e1, e2, e3] [(some (5, 0), chM 6 [c0, c1, [e], c3] [k0, k1, some 1, k3]), (some (6, 0), c0.map (AV.int .i64)), (some (7, 0), c1.map (AV.int .i64)), (some (8, 0), [.int .i64 e]), (some (9, 0), c3.map (AV.int .i64))]) [(q + (6 + 4), 1, [.int .i64 2, .bool o])] (b18 f n l i sk w 4 [(13, .ms 5 0 1 0 4 none), (58, .vs (cSs sk)), (59, .int .i64 (cSs sk).length), (60, .int .i64 ((j : Nat) : Int)), (17, .vptr [.int .i64 2, .bool o])]) rfl (.cons (by (repeat (first | rw [za0, if_neg (by omega)] | rw [za0, if_pos rfl] | rw [za3, if_neg (by omega)] | rw [za3, if_pos rfl])); try rfl) rfl .nil) (zfn rfl rfl rfl rfl rfl (.cons rfl (.cons (.ms rfl) (.cons (.ms rfl) (.cons (.ms rfl) (.cons (.ms rfl) .nil)))) (.cons rfl (.keep (zaj _)) (.cons rfl (.keep (zaj _)) (.cons rfl (.keep rfl) (.cons rfl (.keep (zaj _)) .nil)))))) (zhg rfl rfl rfl rfl rfl rfl rfl rfl rfl rfl rfl rfl rfl rfl rfl rfl rfl (.cons rfl (.ms rfl) (.cons rfl (.same rfl) (.cons rfl (.same rfl) (.cons rfl (.same rfl) (.cons rfl (.fptr (by simp [fzl]) rfl) .nil)))))) ?_
   show Zm _ _ _ _ _ (st _ _ _ (q + (6 + 4)) 1 _) _ _
   obtain ⟨o', ho⟩ : ∃ o', o' = o := ⟨_, rfl⟩
   cases o
   all_goals
    repeat (first | refine za7 ?_ | refine za5 rfl ?_ | refine zai ?_ | refine za8 ?_ | refine zab ?_ | refine zb2 rfl ?_ | refine zb5 rfl ?_ | refine za1 rfl ?_ | refine za6 rfl rfl ?_ | refine zak rfl rfl rfl ?_)
    refine ze8 env0_ok (fun d => Nat.beq d 76) (fun d => Nat.beq d 73) [] (fun x hx => absurd hx y0f) (fun _ => false) [] (fun x hx => absurd hx y0f) (fun _ => false) rfl rfl rfl ?_
    repeat (first | refine za1 rfl ?_ | refine za6 rfl rfl ?_ | refine zak rfl rfl rfl ?_ | refine zb7 rfl rfl (by omega) (by omega) ?_)
    refine o_lo rfl (zfi (sp := 0) rfl rfl (by omega) rfl) ?_
    refine za1 rfl (za1 rfl ?_)
    refine zdk rfl rfl rfl rfl rfl ?_
    refine zc2 [[.int .i64 _], [.int .i64 _]] rfl rfl rfl (fun h => Nat.noConfusion h) rfl (by decide) rfl (y0c 1) (by show 1 + 2 ≤ _; omega) (by show 1 < 1 + 2; omega) ?_
    refine zb7 rfl rfl (by decide) (by decide) ?_
    refine zah (sp := 0) rfl rfl rfl rfl rfl rfl rfl ?_
    refine onR rfl (za1 rfl (zak rfl rfl rfl (za6 rfl rfl (za1 rfl (zb7 rfl rfl (by omega) (by omega) (zah rfl rfl rfl rfl rfl rfl rfl (zai (zb9 (za8 (za5 rfl (zb3 (op := .add) rfl rfl rfl ?_)))))))))))
    refine za1 rfl (zai ?_)
    rw [zar j (by omega)]
    exact zat (show sk.length - (j + 1) < sk.length - j by omega) (sq (zam q (6 + 4)) (lvF [e0, e1, o', e3] ((some (5, 0), chM 6 [c0, c1, [e] ++ zhz o', c3] [k0, k1, none, k3]) :: [(some (6, 0), c0.map (AV.int .i64)), (some (7, 0), c1.map (AV.int .i64)), (some (q + (6 + 4), 1), ([e] ++ zhz o').map (AV.int .i64)), (some (9, 0), c3.map (AV.int .i64))])) [] rfl rfl rfl rfl .nil (by subst ho; exact (zfn rfl rfl rfl rfl rfl (.cons rfl (.cons (.ms rfl) (.cons (.ms rfl) (.cons (.ms rfl) (.cons (.ms rfl) .nil)))) (.cons rfl (.keep (zaj _)) (.cons rfl (.keep (zaj _)) (.cons (by (repeat (first | rw [za0, if_neg (by omega)] | rw [za0, if_pos rfl] | rw [za3, if_neg (by omega)] | rw [za3, if_pos rfl])); try rfl) (.keep rfl) (.cons rfl (.keep (zaj _)) .nil)))))))
     (l' := (b18 f n l i sk w 4 [(13, .ms 5 0 1 0 4 none), (58, .vs (cSs sk)), (59, .int .i64 (cSs sk).length), (60, .int .i64 ((j + 1 : Nat) : Int))])) (zhg rfl rfl rfl rfl rfl rfl rfl rfl rfl rfl rfl rfl rfl rfl rfl rfl rfl (.cons rfl (.ms rfl) (.cons rfl (.same rfl) (.cons rfl (.same rfl) (.cons rfl (.same rfl) .nil)))))) (by subst ho; exact ⟨j + 1, _, [k0, k1, none, k3], _, rfl, hlt, ft ([e] ++ zhz _) _, hch, haf, rfl⟩)
  ·have hce : c3 = [e] := hce
   have hks : k3 = some 1 := hks
   subst hce hks
   refine onu (za7 (zb2 rfl (zab (za8 (za7 (zad (zsr rfl (zba rfl rfl (by omega) (by assumption) rfl (zal rfl rfl rfl rfl (zay ?_))))))))))
   refine zah rfl rfl rfl rfl zav rfl rfl ?_
   rw [zc3]
   refine onu ?_
   refine zq (zam q (6 + 4)) (lvF [e0, e1, e2, e3] [(some (5, 0), chM 6 [c0, c1, c2, [e]] [k0, k1, k2, some 1]), (some (6, 0), c0.map (AV.int .i64)), (some (7, 0), c1.map (AV.int .i64)), (some (8, 0), c2.map (AV.int .i64)), (some (9, 0), [.int .i64 e])]) [(q + (6 + 4), 1, [.int .i64 3, .bool o])] (b18 f n l i sk w 4 [(13, .ms 5 0 1 0 4 none), (58, .vs (cSs sk)), (59, .int .i64 (cSs sk).length), (60, .int .i64 ((j : Nat) : Int)), (17, .vptr [.int .i64 3, .bool o])]) rfl (.cons (by (repeat (first | rw [za0, if_neg (by omega)] | rw [za0, if_pos rfl] | rw [za3, if_neg (by omega)] | rw [za3, if_pos rfl])); try rfl) rfl .nil) (zfn rfl rfl rfl rfl rfl (.cons rfl (.cons (.ms rfl) (.cons (.ms rfl) (.cons (.ms rfl) (.cons (.ms rfl) .nil)))) (.cons rfl (.keep (zaj _)) (.cons rfl (.keep (zaj _)) (.cons rfl (.keep (zaj _)) (.cons rfl (.keep rfl) .nil)))))) (zhg rfl rfl rfl rfl rfl rfl rfl rfl rfl rfl rfl rfl rfl rfl rfl rfl rfl (.cons rfl (.ms rfl) (.cons rfl (.same rfl) (.cons rfl (.same rfl) (.cons rfl (.same rfl) (.cons rfl (.fptr (by simp [fzl]) rfl) .nil)))))) ?_
   show Zm _ _ _ _ _ (st _ _ _ (q + (6 + 4)) 1 _) _ _
   obtain ⟨o', ho⟩ : ∃ o', o' = o := ⟨_, rfl⟩
   cases o
   all_goals
    repeat (first | refine za7 ?_ | refine za5 rfl ?_ | refine zai ?_ | refine za8 ?_ | refine zab ?_ | refine zb2 rfl ?_ | refine zb5 rfl ?_ | refine za1 rfl ?_ | refine za6 rfl rfl ?_ | refine zak rfl rfl rfl ?_)
    refine ze8 env0_ok (fun d => Nat.beq d 76) (fun d => Nat.beq d 73) [] (fun x hx => absurd hx y0f) (fun _ => false) [] (fun x hx => absurd hx y0f) (fun _ => false) rfl rfl rfl ?_
    repeat (first | refine za1 rfl ?_ | refine za6 rfl rfl ?_ | refine zak rfl rfl rfl ?_ | refine zb7 rfl rfl (by omega) (by omega) ?_)
    refine o_lo rfl (zfi (sp := 0) rfl rfl (by omega) rfl) ?_
    refine za1 rfl (za1 rfl ?_)
    refine zdk rfl rfl rfl rfl rfl ?_
    refine zc2 [[.int .i64 _], [.int .i64 _]] rfl rfl rfl (fun h => Nat.noConfusion h) rfl (by decide) rfl (y0c 1) (by show 1 + 2 ≤ _; omega) (by show 1 < 1 + 2; omega) ?_
    refine zb7 rfl rfl (by decide) (by decide) ?_
    refine zah (sp := 0) rfl rfl rfl rfl rfl rfl rfl ?_
    refine onR rfl (za1 rfl (zak rfl rfl rfl (za6 rfl rfl (za1 rfl (zb7 rfl rfl (by omega) (by omega) (zah rfl rfl rfl rfl rfl rfl rfl (zai (zb9 (za8 (za5 rfl (zb3 (op := .add) rfl rfl rfl ?_)))))))))))
    refine za1 rfl (zai ?_)
    rw [zar j (by omega)]
    exact zat (show sk.length - (j + 1) < sk.length - j by omega) (sq (zam q (6 + 4)) (lvF [e0, e1, e2, o'] ((some (5, 0), chM 6 [c0, c1, c2, [e] ++ zhz o'] [k0, k1, k2, none]) :: [(some (6, 0), c0.map (AV.int .i64)), (some (7, 0), c1.map (AV.int .i64)), (some (8, 0), c2.map (AV.int .i64)), (some (q + (6 + 4), 1), ([e] ++ zhz o').map (AV.int .i64))])) [] rfl rfl rfl rfl .nil (by subst ho; exact (zfn rfl rfl rfl rfl rfl (.cons rfl (.cons (.ms rfl) (.cons (.ms rfl) (.cons (.ms rfl) (.cons (.ms rfl) .nil)))) (.cons rfl (.keep (zaj _)) (.cons rfl (.keep (zaj _)) (.cons rfl (.keep (zaj _)) (.cons (by (repeat (first | rw [za0, if_neg (by omega)] | rw [za0, if_pos rfl] | rw [za3, if_neg (by omega)] | rw [za3, if_pos rfl])); try rfl) (.keep rfl) .nil)))))))
     (l' := (b18 f n l i sk w 4 [(13, .ms 5 0 1 0 4 none), (58, .vs (cSs sk)), (59, .int .i64 (cSs sk).length), (60, .int .i64 ((j + 1 : Nat) : Int))])) (zhg rfl rfl rfl rfl rfl rfl rfl rfl rfl rfl rfl rfl rfl rfl rfl rfl rfl (.cons rfl (.ms rfl) (.cons rfl (.same rfl) (.cons rfl (.same rfl) (.cons rfl (.same rfl) .nil)))))) (by subst ho; exact ⟨j + 1, _, [k0, k1, k2, none], _, rfl, hlt, ft ([e] ++ zhz _) _, hch, haf, rfl⟩)
 ·have hj2 : j = sk.length := by
   have : ¬ ((j : Nat) : Int) < ((cSs sk).length : Nat) := of_decide_eq_false h3
   rw [hcs] at this
   omega
  subst hj2
  rw [y0p] at hch haf
  refine onu (za7 (zb5 rfl (zbi (zan ?_))))
  refine zc9 (zbh (za8 ?_))
  have := fin [k0, k1, k2, k3] [e0, e1, e2, e3] rfl haf.symm
  rw [hch] at this
  exact zf6 (zaq (.cons rfl (.cons rfl (.cons rfl (.cons rfl (.cons rfl (.cons rfl (.cons rfl (.cons rfl (.cons rfl (.cons rfl (.cons rfl (.cons rfl (.cons rfl .nil)))))))))))))) this
end
def yar (f : List Ex) (_ : Unit) (p : List Int) : Unit ⊕ List Int := if (zh2 f p).isEmpty = true then .inl () else .inr p
theorem zmt (f : List Ex) : ∀ C : List (List Int), zm9 (yar f) C () = match badP f C with | some p => .inr p | none => .inl ()
 | [] => rfl
 | p :: C => by
  rw [zm9]
  unfold badP
  rw [List.find?_cons]
  unfold yar
  cases h : (zh2 f p).isEmpty with
  | true => exact zmt f C
  | false => rfl
theorem zkv {f : List Ex} {m : Nat} : ∀ (C : List (List Int)) (s : Unit), (∀ p ∈ C, p.length = m) → Along (yar f) (fun _ p => p.length = m) C s
 | [], _, _ => trivial
 | p :: C, _, h => ⟨h p (y05 ..), fun s' _ => zkv C s' fun q hq => h q (y04 _ hq)⟩
structure I18 (D : Nat) (es : List Int) (ltm : List (Nat × AV)) (_ : Unit) (H : HS) : Prop where
 nx : D + 2 ≤ H.next
 h4 : Am.look (D + 1) H.heap = some (2, .loop .ready none 97 (zdh ltm) [87] zmi zmk (D, 1))
 h3 : Am.look D H.heap = some (1, .deferred)
 r0 : Am.look 0 H.heap = some (0, .cells [.int .i64 0])
 r1 : Am.look 1 H.heap = some (0, .cells [.nils])
 r2 : Am.look 2 H.heap = some (0, .cells [.bool false])
 r3 : Am.look 3 H.heap = some (0, .cells [.int .i64 0])
 he : Am.look 4 H.heap = some (0, .cells (es.map (AV.int .i64)))
structure J18 (D i : Nat) (p : List Int) (H : HS) : Prop where
 nx : D + 2 ≤ H.next
 h4 : ∃ tm, Am.look (D + 1) H.heap = some (2, .loop .done (some .ret) 97 tm [87] zmi zmk (D, 1))
 h3 : Am.look D H.heap = some (1, .deferred)
 r0 : Am.look 0 H.heap = some (0, .cells [.int .i64 (i : Nat)])
 r1 : Am.look 1 H.heap = some (0, .cells [vsI p])
 r2 : Am.look 2 H.heap = some (0, .cells [.bool true])
 r3 : Am.look 3 H.heap = some (0, .cells [.int .i64 0])
def M18 (D i : Nat) : Prop := i < 5 ∨ i = D ∨ i = D + 1
theorem local18 {D : Nat} (hD : 5 ≤ D) (es : List Int) (ltm : List (Nat × AV)) : Local (M18 D) (I18 D es ltm) :=
 ⟨fun s H h i hi => by have := h.nx; rcases hi with hi | hi | hi <;> omega, fun s H H' h hn hl =>
  ⟨y0t h.nx hn, (hl (D + 1) (.inr (.inr rfl))).trans h.h4, (hl D (.inr (.inl rfl))).trans h.h3, (hl 0 (.inl (by decide))).trans h.r0, (hl 1 (.inl (by decide))).trans h.r1, (hl 2 (.inl (by decide))).trans h.r2, (hl 3 (.inl (by decide))).trans h.r3, (hl 4 (.inl (by decide))).trans h.he⟩⟩
def l18 (f : List Ex) (n : Int) (l : List Sp) (m i : Nat) (C : AV) : List (Nat × AV) := [(86, C), (2, .vptr [.vs (cXs f)]), (3, .vptr [.int .i64 n, .vs (cPs l)]), (4, .mptr 0 0 0), (5, .mptr 1 0 0), (6, .mptr 2 0 0), (7, .mptr 3 0 0), (10, .ms 4 0 1 0 m (some m)), (38, .vs (cPs l)), (39, .int .i64 (cPs l).length), (40, .int .i64 (i : Nat)), (11, .vptr [.int .i64 (i : Nat)])]
set_option maxHeartbeats 2000000 in
theorem yield18 {w0 : World} {N0 D : Nat} (hD : 5 ≤ D) {f : List Ex} {m : Nat} (hsl : ∀ y ∈ f, Slim y) (hg : zc0 f m = 0) (n : Int) (l : List Sp) (i : Nat) (C : AV) (es : List Int) (ha : Com Try.prog zmi zrn) (hb : Com Try.prog zmk ya6) (s : Unit) (p : List Int) (H : HS) (hp : p.length = m) (h : I18 D es (l18 f n l m i C) s H) :
  CT Try.prog w0 N0 (.yield (D + 1) 2) [vsI p] H (zwp (M18 D) (I18 D es (l18 f n l m i C)) (J18 D i) H (yar f s p)) := by
 obtain ⟨nx, h4, h3, r0, r1, r2, r3, he⟩ := h
 have h53 := whichG hsl hg hp
 refine zic (l0 := (87, vsI p) :: l18 f n l m i C) h4 ha hb rfl (by decide) rfl ?_
 unfold zrn
 refine za5 rfl (za1 rfl (zai ?_))
 refine zae ⟨rfl, _, rfl, ?_⟩
 unfold ya6 l18 yar
 refine zad (zsr rfl (zak rfl rfl rfl (za6 rfl rfl (za1 rfl ?_))))
 refine zas rfl rfl h53 noC ?_
 refine zbb rfl rfl ?_
 refine zao rfl rfl rfl (fun h6 => ?_) fun h6 => ?_
 ·have h6 : (zh2 f p).isEmpty = false := by
   cases ht : zh2 f p with
   | nil => rw [ht] at h6; exact absurd h6 (by decide)
   | cons _ _ => rfl
  rw [h6, if_neg (fun h => Bool.noConfusion h)]
  refine onu (zb2 rfl (zsr rfl (za6 rfl rfl (za1 rfl ?_))))
  refine zah (sp := 0) rfl rfl rfl rfl (by (repeat (first | rw [za0, if_pos rfl] | rw [za0, if_neg (by omega)] | rw [za4, if_neg (by omega)])); all_goals (first | rfl | assumption)) rfl rfl ?_
  refine zah (sp := 0) rfl rfl rfl rfl (by (repeat (first | rw [za0, if_pos rfl] | rw [za0, if_neg (by omega)] | rw [za4, if_neg (by omega)])); all_goals (first | rfl | assumption)) rfl rfl ?_
  refine zah (sp := 0) rfl rfl rfl rfl (by (repeat (first | rw [za0, if_pos rfl] | rw [za0, if_neg (by omega)] | rw [za4, if_neg (by omega)])); all_goals (first | rfl | assumption)) rfl rfl ?_
  refine zah (sp := 0) rfl rfl rfl rfl (by (repeat (first | rw [za0, if_pos rfl] | rw [za0, if_neg (by omega)] | rw [za4, if_neg (by omega)])); all_goals (first | rfl | assumption)) rfl rfl ?_
  refine onu (zaf (zaa ?_))
  refine zae ⟨97, zdh (l18 f n l m i C), [87], zmi, zmk, (D, 1), ?_, some .ret, rfl, ⟨y0c _, y0c _, fun j hj _ => ?_⟩, rfl, ⟨nx, ⟨zdh (l18 f n l m i C), ?_⟩, ?_, ?_, ?_, ?_, ?_⟩⟩
  ·show Am.look (D + 1) (zb0 3 _ (zb0 2 _ (zb0 1 _ (zb0 0 _ (zb0 (D + 1) _ H.heap))))) = _
   exact (by (repeat (first | rw [za0, if_pos rfl] | rw [za0, if_neg (by omega)] | rw [za4, if_neg (by omega)])); all_goals (first | rfl | assumption))
  ·show Am.look j (zb0 (D + 1) _ (zb0 3 _ (zb0 2 _ (zb0 1 _ (zb0 0 _ (zb0 (D + 1) _ H.heap)))))) = _
   have h1 : D + 1 ≠ j := fun e => hj (.inr (.inr e.symm))
   have h2 : 5 ≤ j := Nat.le_of_not_lt fun e => hj (.inl e)
   rw [za0, if_neg h1, za0, if_neg (by omega), za0, if_neg (by omega), za0, if_neg (by omega), za0, if_neg (by omega), za0, if_neg h1]
  ·show Am.look (D + 1) (zb0 (D + 1) _ _) = _
   rw [za0, if_pos rfl]; rfl
  ·show Am.look D (zb0 (D + 1) _ (zb0 3 _ (zb0 2 _ (zb0 1 _ (zb0 0 _ (zb0 (D + 1) _ H.heap)))))) = _
   exact (by (repeat (first | rw [za0, if_pos rfl] | rw [za0, if_neg (by omega)] | rw [za4, if_neg (by omega)])); all_goals (first | rfl | assumption))
  ·show Am.look 0 (zb0 (D + 1) _ (zb0 3 _ (zb0 2 _ (zb0 1 _ (zb0 0 _ (zb0 (D + 1) _ H.heap)))))) = _
   exact (by (repeat (first | rw [za0, if_pos rfl] | rw [za0, if_neg (by omega)] | rw [za4, if_neg (by omega)])); all_goals (first | rfl | assumption))
  ·show Am.look 1 (zb0 (D + 1) _ (zb0 3 _ (zb0 2 _ (zb0 1 _ (zb0 0 _ (zb0 (D + 1) _ H.heap)))))) = _
   exact (by (repeat (first | rw [za0, if_pos rfl] | rw [za0, if_neg (by omega)] | rw [za4, if_neg (by omega)])); all_goals (first | rfl | assumption))
  ·show Am.look 2 (zb0 (D + 1) _ (zb0 3 _ (zb0 2 _ (zb0 1 _ (zb0 0 _ (zb0 (D + 1) _ H.heap)))))) = _
   exact (by (repeat (first | rw [za0, if_pos rfl] | rw [za0, if_neg (by omega)] | rw [za4, if_neg (by omega)])); all_goals (first | rfl | assumption))
  ·show Am.look 3 (zb0 (D + 1) _ (zb0 3 _ (zb0 2 _ (zb0 1 _ (zb0 0 _ (zb0 (D + 1) _ H.heap)))))) = _
   exact (by (repeat (first | rw [za0, if_pos rfl] | rw [za0, if_neg (by omega)] | rw [za4, if_neg (by omega)])); all_goals (first | rfl | assumption))
 ·have h6 : (zh2 f p).isEmpty = true := by
   cases ht : zh2 f p with
   | nil => rfl
   | cons _ t => rw [ht] at h6; exact absurd (show (_ : Int) > 0 from by show ((t.map _).length + 1 : Nat) > (0 : Int); omega) (of_decide_eq_false h6)
  rw [h6, if_pos rfl]
  refine onu (zb5 rfl (zab (zb9 ?_)))
  refine zae ⟨97, zdh (l18 f n l m i C), [87], zmi, zmk, (D, 1), ?_, none, rfl, ⟨y0c _, y0c _, fun j hj _ => ?_⟩, rfl, ⟨nx, ?_, ?_, ?_, ?_, ?_, ?_, ?_⟩⟩
  ·show Am.look (D + 1) (zb0 (D + 1) _ H.heap) = _
   exact (by (repeat (first | rw [za0, if_pos rfl] | rw [za0, if_neg (by omega)] | rw [za4, if_neg (by omega)])); all_goals (first | rfl | assumption))
  ·show Am.look j (zb0 (D + 1) _ (zb0 (D + 1) _ H.heap)) = _
   rw [za0, if_neg (fun e => hj (.inr (.inr e.symm))), za0, if_neg (fun e => hj (.inr (.inr e.symm)))]
  ·show Am.look (D + 1) (zb0 (D + 1) _ _) = _
   rw [za0, if_pos rfl]; rfl
  ·show Am.look D (zb0 (D + 1) _ (zb0 (D + 1) _ H.heap)) = _
   exact (by (repeat (first | rw [za0, if_pos rfl] | rw [za0, if_neg (by omega)] | rw [za4, if_neg (by omega)])); all_goals (first | rfl | assumption))
  ·show Am.look 0 (zb0 (D + 1) _ (zb0 (D + 1) _ H.heap)) = _
   exact (by (repeat (first | rw [za0, if_pos rfl] | rw [za0, if_neg (by omega)] | rw [za4, if_neg (by omega)])); all_goals (first | rfl | assumption))
  ·show Am.look 1 (zb0 (D + 1) _ (zb0 (D + 1) _ H.heap)) = _
   exact (by (repeat (first | rw [za0, if_pos rfl] | rw [za0, if_neg (by omega)] | rw [za4, if_neg (by omega)])); all_goals (first | rfl | assumption))
  ·show Am.look 2 (zb0 (D + 1) _ (zb0 (D + 1) _ H.heap)) = _
   exact (by (repeat (first | rw [za0, if_pos rfl] | rw [za0, if_neg (by omega)] | rw [za4, if_neg (by omega)])); all_goals (first | rfl | assumption))
  ·show Am.look 3 (zb0 (D + 1) _ (zb0 (D + 1) _ H.heap)) = _
   exact (by (repeat (first | rw [za0, if_pos rfl] | rw [za0, if_neg (by omega)] | rw [za4, if_neg (by omega)])); all_goals (first | rfl | assumption))
  ·show Am.look 4 (zb0 (D + 1) _ (zb0 (D + 1) _ H.heap)) = _
   exact (by (repeat (first | rw [za0, if_pos rfl] | rw [za0, if_neg (by omega)] | rw [za4, if_neg (by omega)])); all_goals (first | rfl | assumption))
end Go.Proofs.Ytoiblgbaeglgoaa
