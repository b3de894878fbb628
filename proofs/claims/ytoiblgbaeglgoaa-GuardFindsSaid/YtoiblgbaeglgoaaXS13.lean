/-
  THE CHOICES OF A STEP: the loops of guard.Danger.
-/
import Derived.Test.YtoiblgbaeglgoaaXS12
import Derived.Test.YtoiblgbaeglgoaaXG1
namespace Go.Proofs.Ytoiblgbaeglgoaa
open Go Go.Am
theorem zbz {P : Program} {w0 : World} {N0 n nx ck : Nat} {mk : List (Nat × Nat)} {md : Md} {l : List (Nat × AV)} {hp : List (Nat × Nat × AObj)} {k : List Fr} {Q : Exit → AS → Prop} {ios : List Opr} {pf : Kn} {d sz bytes : Nat} {z : List AV} {s x : Arg} {xv : AV} (es : List (List AV)) {id sp len c : Nat} {cs : List AV} (hs : zbv s l = some (.ms id sp sz 0 len (some c))) (hx : zbv x l = some xv) (he : (st n l hp nx ck mk).elems sz xv = some es) (hne : es.length ≠ 0) (hc : es.flatten.all AV.isCell = true) (hb : bytes ≤ 16777216) (hlk : Am.look id hp = some (sp, .cells cs))
  (h0 : len * sz ≤ cs.length) (h2 : len + es.length ≤ 1048576) (h3 : c < len + es.length) (go : Om P w0 N0 md pf ios (st n ((d, .ms nx ck sz 0 (len + es.length) none) :: l) ((nx, ck, .cells (cs.take (len * sz) ++ es.flatten)) :: hp) (nx + 1) (ck + 1) mk) k Q) :
  Om P w0 N0 md pf (⟨some d, .append sz bytes z s x, none⟩ :: ios) (st n l hp nx ck mk) k Q := by
 have hi : iop (st n l hp nx ck mk) (.append sz bytes z s x) = some (.ms nx ck sz 0 (len + es.length) none, st n l ((nx, ck, .cells (cs.take (len * sz) ++ es.flatten)) :: hp) (nx + 1) (ck + 1) mk) := by
  simp only [iop, zbl, hs, hx, he]
  unfold zd6
  rw [if_neg hne, if_pos ⟨hc, hb⟩]
  simp only [show (st n l hp nx ck mk).heap = hp from rfl, hlk]
  rw [if_pos ⟨trivial, trivial, by omega, h2⟩]
  rw [if_neg (by omega), List.drop_zero]
  rfl
 exact zfd hi go
def chM : Nat → List (List Int) → List (Option Nat) → List AV
 | b, c :: cs, k :: ks => .ms b 0 1 0 c.length k :: chM (b + 1) cs ks
 | _, _, _ => []
def inL (C : List (List Int)) : zgj := C.map fun c => (none, c.map (AV.int .i64))
def zj8 (E : List Bool) (C : List (List Int)) (ks : List (Option Nat)) : zgj :=
 (none, [.int .i64 0]) :: (none, [.nils]) :: (none, [.bool false]) :: (none, [.int .i64 0]) :: (none, (enE E).map (AV.int .i64)) :: (none, chM 6 C ks) :: inL C
def lvF (E : List Bool) (r : zgj) : zgj :=
 (some (0, 0), [.int .i64 0]) :: (some (1, 0), [.nils]) :: (some (2, 0), [.bool false]) :: (some (3, 0), [.int .i64 0]) :: (some (4, 0), (enE E).map (AV.int .i64)) :: r
def b18 (f : List Ex) (n : Int) (l : List Sp) (i : Nat) (sk : List Sk) (w : Int) (m : Nat) (r : List (Nat × AV)) : List (Nat × AV) :=
 (2, .vptr [.vs (cXs f)]) :: (3, .vptr [.int .i64 n, .vs (cPs l)]) :: (4, .mptr 0 0 0) :: (5, .mptr 1 0 0) :: (6, .mptr 2 0 0) :: (7, .mptr 3 0 0) :: (10, .ms 4 0 1 0 m (some m)) :: (38, .vs (cPs l)) :: (39, .int .i64 (cPs l).length) :: (40, .int .i64 (i : Nat)) :: (11, .vptr [.int .i64 (i : Nat)]) :: (12, .vptr [.vs (cSs sk), .int .i64 w]) :: r
theorem zgu {live : zgj} {fz : List (Nat × Nat × List AV)} {la r : List (Nat × AV)} {f : List Ex} {n : Int} {l : List Sp} {i : Nat} {sk : List Sk} {w : Int} {m : Nat} {c0 c1 c2 c3 c4 : List AV}
  (h2 : zc8 2 la = some (.vptr [.vs (cXs f)])) (h3 : zc8 3 la = some (.vptr [.int .i64 n, .vs (cPs l)])) (h4 : zc8 4 la = some (.mptr 0 0 0)) (h5 : zc8 5 la = some (.mptr 1 0 0)) (h6 : zc8 6 la = some (.mptr 2 0 0)) (h7 : zc8 7 la = some (.mptr 3 0 0)) (h10 : zc8 10 la = some (.ms 4 0 1 0 m (some m))) (h38 : zc8 38 la = some (.vs (cPs l))) (h39 : zc8 39 la = some (.int .i64 (cPs l).length)) (h40 : zc8 40 la = some (.int .i64 (i : Nat))) (h11 : zc8 11 la = some (.vptr [.int .i64 (i : Nat)])) (h12 : zc8 12 la = some (.vptr [.vs (cSs sk), .int .i64 w]))
  (l0 : live[0]? = some (some (0, 0), c0)) (l1 : live[1]? = some (some (1, 0), c1)) (l2 : live[2]? = some (some (2, 0), c2)) (l3 : live[3]? = some (some (3, 0), c3)) (l4 : live[4]? = some (some (4, 0), c4)) (hr : RnA live fz la r) : RnA live fz la (b18 f n l i sk w m r) :=
 .cons h2 (.same rfl) (.cons h3 (.same rfl) (.cons h4 (.mptr l0) (.cons h5 (.mptr l1) (.cons h6 (.mptr l2) (.cons h7 (.mptr l3) (.cons h10 (.ms l4) (.cons h38 (.same rfl) (.cons h39 (.same rfl) (.cons h40 (.same rfl) (.cons h11 (.same rfl) (.cons h12 (.same rfl) hr)))))))))))
theorem zff {live r : zgj} {fz : List (Nat × Nat × List AV)} {hp : List (Nat × Nat × AObj)} {E : List Bool}
  (h0 : Am.look 0 hp = some (0, .cells [.int .i64 0])) (h1 : Am.look 1 hp = some (0, .cells [.nils])) (h2 : Am.look 2 hp = some (0, .cells [.bool false])) (h3 : Am.look 3 hp = some (0, .cells [.int .i64 0])) (h4 : Am.look 4 hp = some (0, .cells ((enE E).map (AV.int .i64)))) (hr : RnH live fz hp r) : RnH live fz hp (lvF E r) :=
 .cons h0 (.keep rfl) (.cons h1 (.keep rfl) (.cons h2 (.keep rfl) (.cons h3 (.keep rfl) (.cons h4 (.keep (zai _)) hr))))
noncomputable def zl8 : Code := match env0.fn 18 with
 | some i => ((zcu i.ic)[0]?.getD (.skip, .skip)).1
 | none => .skip
noncomputable def zl9 : Code := match env0.fn 18 with
 | some i => ((zcu i.ic)[0]?.getD (.skip, .skip)).2
 | none => .skip
def zp7 : IC := .region [⟨(some 20), .mov (.t 87), none⟩] none
def zw3 : IC := .block 7 (.seq (.region [⟨(some 88), .faddr 0 (.t 2), none⟩,
  ⟨(some 89), .load none (.t 88), none⟩,
  ⟨(some 90), .mov (.t 20), none⟩,
  ⟨(some 91), .call (.c (.fn 83 [] [])) [(.t 89), (.t 90)], none⟩,
  ⟨(some 92), .len false (.t 91), none⟩,
  ⟨(some 93), .bin .gtr (.t 92) (.c (.int .i64 0)), none⟩] none)
 (.cond (.t 93) (.seq (.region [⟨(some 94), .load none (.t 11), none⟩,
  ⟨(some 95), .mov (.t 20), none⟩,
  ⟨none, .store 1 (.t 4) (.t 94), none⟩,
  ⟨none, .store 1 (.t 5) (.t 95), none⟩,
  ⟨none, .store 1 (.t 6) (.c (.bool true)), none⟩,
  ⟨none, .store 1 (.t 7) (.c (.int .i64 0)), none⟩] none)
 (.ret))
 (.skip)))
def zkz : IC := .seq (.region [⟨(some 48), .bin .lss (.t 47) (.t 46), none⟩] none)
 (.seq (.cond (.t 48) (.skip)
 (.exit 2))
 (.seq (.block 3 (.seq (.region [⟨(some 49), .idxs 1 (.t 45) (.t 47), none⟩,
  ⟨(some 50), .load none (.t 49), none⟩,
  ⟨(some 15), .mov (.t 50), none⟩] none)
 (.region [⟨(some 51), .mov (.t 13), none⟩,
  ⟨(some 52), .mov (.t 15), none⟩,
  ⟨(some 53), .bslice 1 1 [.int .i64 0] [(0, 1, (.t 52))], none⟩,
  ⟨(some 54), .bslice 1 1 [.nils] [(0, 1, (.t 53))], none⟩,
  ⟨(some 55), .append 1 24 [.nils] (.t 51) (.t 54), none⟩,
  ⟨(some 13), .mov (.t 55), none⟩] none)))
 (.region [⟨(some 56), .bin .add (.t 47) (.c (.int .i64 1)), none⟩,
  ⟨(some 47), .mov (.t 56), none⟩] none)))
def zl0 : IC := .seq (.region [⟨(some 61), .bin .lss (.t 60) (.t 59), none⟩] none)
 (.seq (.cond (.t 61) (.skip)
 (.exit 4))
 (.seq (.block 5 (.seq (.region [⟨(some 62), .idxs 2 (.t 58) (.t 60), none⟩,
  ⟨(some 63), .load (some 2) (.t 62), none⟩,
  ⟨(some 17), .alloc [.int .i64 0, .bool false], none⟩,
  ⟨none, .store 2 (.t 17) (.t 63), none⟩] none)
 (.seq (.region [⟨(some 18), .mov (.c (.int .i64 3)), none⟩,
  ⟨(some 19), .mov (.c (.int .i64 0)), none⟩] none)
 (.seq (.seq (.region [⟨(some 64), .faddr 1 (.t 17), none⟩,
  ⟨(some 65), .load none (.t 64), none⟩] none)
 (.cond (.t 65) (.region [⟨(some 18), .mov (.c (.int .i64 1)), none⟩,
  ⟨(some 19), .mov (.c (.int .i64 2)), none⟩] none)
 (.skip)))
 (.seq (.region [⟨(some 66), .mov (.t 13), none⟩,
  ⟨(some 67), .faddr 0 (.t 17), none⟩,
  ⟨(some 68), .load none (.t 67), none⟩,
  ⟨(some 69), .mov (.t 13), none⟩,
  ⟨(some 70), .faddr 0 (.t 17), none⟩,
  ⟨(some 71), .load none (.t 70), none⟩,
  ⟨(some 72), .idxs 1 (.t 69) (.t 71), none⟩,
  ⟨(some 73), .load none (.t 72), none⟩,
  ⟨(some 74), .mov (.t 18), none⟩,
  ⟨(some 75), .mov (.t 19), none⟩,
  ⟨(some 76), .bslice 1 2 [.int .i64 0, .int .i64 0] [(0, 1, (.t 74)), (1, 1, (.t 75))], none⟩,
  ⟨(some 77), .append 1 8 [.int .i64 0] (.t 73) (.t 76), none⟩,
  ⟨(some 78), .idxs 1 (.t 66) (.t 68), none⟩,
  ⟨none, .store 1 (.t 78) (.t 77), none⟩] (some [[], [], [1], [], [], [4], [3, 5], [6], [], [], [8, 9], [7, 10], [0, 2, 0, 1, 2, 3, 4, 5, 6, 7, 8, 9, 10, 11], [12, 11, 11, 0, 1, 2, 3, 4, 5, 6, 7, 8, 9, 10, 11]]))
 (.region [⟨(some 79), .mov (.t 10), none⟩,
  ⟨(some 80), .faddr 0 (.t 17), none⟩,
  ⟨(some 81), .load none (.t 80), none⟩,
  ⟨(some 82), .mov (.t 19), none⟩,
  ⟨(some 83), .idxs 1 (.t 79) (.t 81), none⟩,
  ⟨none, .store 1 (.t 83) (.t 82), none⟩] none))))))
 (.region [⟨(some 84), .bin .add (.t 60) (.c (.int .i64 1)), none⟩,
  ⟨(some 60), .mov (.t 84), none⟩] none)))
noncomputable def b18_0 : IC := .seq (.region [⟨(some 41), .bin .lss (.t 40) (.t 39), none⟩] none)
 (.seq (.cond (.t 41) (.skip)
 (.exit 0))
 (.seq (.block 1 (.seq (.region [⟨(some 42), .mov (.t 40), none⟩,
  ⟨(some 43), .idxs 2 (.t 38) (.t 40), none⟩,
  ⟨(some 44), .load (some 2) (.t 43), none⟩,
  ⟨(some 11), .alloc [.int .i64 0], none⟩,
  ⟨(some 12), .alloc [.nils, .int .i64 0], none⟩,
  ⟨none, .store 1 (.t 11) (.t 42), none⟩,
  ⟨none, .store 2 (.t 12) (.t 44), none⟩] none)
 (.seq (.region [⟨(some 13), .mov (.c (.nils)), none⟩] none)
 (.seq (.seq (.region [⟨(some 45), .mov (.t 10), none⟩,
  ⟨(some 46), .len false (.t 45), none⟩,
  ⟨(some 47), .mov (.c (.int .i64 0)), none⟩] none)
 (.block 2 (.loop zkz)))
 (.seq (.seq (.region [⟨(some 57), .faddr 0 (.t 12), none⟩,
  ⟨(some 58), .load none (.t 57), none⟩,
  ⟨(some 59), .len false (.t 58), none⟩,
  ⟨(some 60), .mov (.c (.int .i64 0)), none⟩] none)
 (.block 4 (.loop zl0)))
 (.seq (.region [⟨(some 85), .mov (.t 13), none⟩,
  ⟨(some 86), .call (.c (.fn 82 [] [])) [(.t 85)], none⟩] none)
 (.block 6 (.rangeFunc (.t 86) [87] zl8 zl9 zp7 zw3))))))))
 (.region [⟨(some 96), .bin .add (.t 40) (.c (.int .i64 1)), none⟩,
  ⟨(some 40), .mov (.t 96), none⟩] none)))
-- pneumatic/guard.Danger
noncomputable def ic18 : IC := .seq (.region [⟨(some 2), .box (.t 0), none⟩,
  ⟨(some 3), .box (.t 1), none⟩,
  ⟨(some 4), .alloc [.int .i64 0], none⟩,
  ⟨(some 5), .alloc [.nils], none⟩,
  ⟨(some 6), .alloc [.bool false], none⟩,
  ⟨(some 7), .alloc [.int .i64 0], none⟩] none)
 (.seq (.seq (.region [⟨(some 21), .load (some 2) (.t 3), none⟩,
  ⟨(some 22), .call (.c (.fn 72 [] [])) [(.t 21)], none⟩,
  ⟨(some 8), .mov (.t 22), none⟩] none)
 (.seq (.region [⟨(some 23), .mov (.t 8), none⟩,
  ⟨(some 24), .bin .neq (.t 23) (.c (.int .i64 0)), none⟩] none)
 (.cond (.t 24) (.seq (.region [⟨(some 25), .mov (.t 8), none⟩,
  ⟨none, .store 1 (.t 4) (.c (.int .i64 0)), none⟩,
  ⟨none, .store 1 (.t 5) (.c (.nils)), none⟩,
  ⟨none, .store 1 (.t 6) (.c (.bool false)), none⟩,
  ⟨none, .store 1 (.t 7) (.t 25), none⟩] none)
 (.ret))
 (.skip))))
 (.seq (.seq (.region [⟨(some 26), .load (some 1) (.t 2), none⟩,
  ⟨(some 27), .faddr 0 (.t 3), none⟩,
  ⟨(some 28), .load none (.t 27), none⟩,
  ⟨(some 29), .call (.c (.fn 80 [] [])) [(.t 26), (.t 28)], none⟩,
  ⟨(some 9), .mov (.t 29), none⟩] none)
 (.seq (.region [⟨(some 30), .mov (.t 9), none⟩,
  ⟨(some 31), .bin .neq (.t 30) (.c (.int .i64 0)), none⟩] none)
 (.cond (.t 31) (.seq (.region [⟨(some 32), .mov (.t 9), none⟩,
  ⟨none, .store 1 (.t 4) (.c (.int .i64 0)), none⟩,
  ⟨none, .store 1 (.t 5) (.c (.nils)), none⟩,
  ⟨none, .store 1 (.t 6) (.c (.bool false)), none⟩,
  ⟨none, .store 1 (.t 7) (.t 32), none⟩] none)
 (.ret))
 (.skip))))
 (.seq (.region [⟨(some 33), .bslice 1 1 [.int .i64 0] [(0, 1, (.c (.int .i64 0)))], none⟩,
  ⟨(some 34), .faddr 0 (.t 3), none⟩,
  ⟨(some 35), .load none (.t 34), none⟩,
  ⟨(some 36), .call (.c (.fn 81 [] [])) [(.t 33), (.t 35)], none⟩,
  ⟨(some 10), .mov (.t 36), none⟩] none)
 (.seq (.seq (.region [⟨(some 37), .faddr 1 (.t 3), none⟩,
  ⟨(some 38), .load none (.t 37), none⟩,
  ⟨(some 39), .len false (.t 38), none⟩,
  ⟨(some 40), .mov (.c (.int .i64 0)), none⟩] none)
 (.block 0 (.loop b18_0)))
 (.seq (.region [⟨none, .store 1 (.t 4) (.c (.int .i64 0)), none⟩,
  ⟨none, .store 1 (.t 5) (.c (.nils)), none⟩,
  ⟨none, .store 1 (.t 6) (.c (.bool false)), none⟩,
  ⟨none, .store 1 (.t 7) (.c (.int .i64 0)), none⟩] none)
 (.ret))))))
theorem fn18 : env0.fn 18 = some ⟨97, ic18, [.cell 4 none, .cell 5 none, .cell 6 none, .cell 7 none]⟩ := by kernel_rfl
section
variable {w0 : World} {N0 : Nat} {k : List Fr} {Q : Exit → AS → Prop}
set_option maxHeartbeats 4000000 in
theorem loopA1 (f : List Ex) (n : Int) (l : List Sp) (i : Nat) (sk : List Sk) (w : Int) (b0 : Bool) (q : Nat) {y : IC}
  (fin : Zm Try.prog w0 N0 none y (st 97 (b18 f n l i sk w 1 [(13, .ms 5 0 1 0 1 none)]) (zc9 0 (zj8 [b0] (chA [b0]) (List.replicate 1 (some 1))) ++ zcc (6 + 1) q) (q + (6 + 1)) 1 (ze5 (6 + 1) q)) k Q) :
  Zm Try.prog w0 N0 none (.loop zkz) (st 97 (b18 f n l i sk w 1 [(13, .ms 5 0 1 0 0 none), (45, .ms 4 0 1 0 1 (some 1)), (46, .int .i64 1), (47, .int .i64 ((0 : Nat) : Int))]) (zc9 0 (zj8 [b0] ((chA [b0]).take 0) (List.replicate 0 (some 1))) ++ zcc (6 + 0) q) (q + (6 + 0)) 1 (ze5 (6 + 0) q)) (.blk 2 :: .seq y :: k) Q := by
 refine zbq (fun mm S => ∃ j, mm = 1 - j ∧ j ≤ 1 ∧ S = st 97 (b18 f n l i sk w 1 [(13, .ms 5 0 1 0 j none), (45, .ms 4 0 1 0 1 (some 1)), (46, .int .i64 1), (47, .int .i64 ((j : Nat) : Int))]) (zc9 0 (zj8 [b0] ((chA [b0]).take j) (List.replicate j (some 1))) ++ zcc (6 + j) q) (q + (6 + j)) 1 (ze5 (6 + j) q)) 1
  (zao (.cons rfl (.cons rfl (.cons rfl (.cons rfl (.cons rfl (.cons rfl (.cons rfl (.cons rfl (.cons rfl (.cons rfl (.cons rfl (.cons rfl (.cons rfl (.cons rfl (.cons rfl (.cons rfl .nil))))))))))))))))) ⟨0, rfl, Nat.zero_le _, rfl⟩ ?_
 rintro mm S ⟨j, rfl, hj, rfl⟩
 unfold zkz
 rcases (show j = 0 ∨ j = 1 by omega) with rfl | rfl
 ·repeat (first | refine za6 ?_ | refine za0 rfl ?_ | refine za3 ?_ | refine za2 ?_ | refine zad ?_ | refine zab ?_ | refine zb0 rfl ?_ | refine za4 rfl ?_ | refine za8 rfl rfl ?_ | refine zbf rfl rfl ?_ | refine zbp rfl rfl rfl ?_ | refine zaw rfl rfl (by omega) (by omega) ?_)
  refine zbx [[.ms (q + 6) 1 1 0 1 (some 1)]] rfl rfl (ze6 (ys := []) zaz rfl (fun x hx => by obtain rfl := List.mem_singleton.1 hx; rfl)) (fun h => Nat.noConfusion h) rfl (by decide) (by (repeat (first | rw [za1, if_neg (by omega)] | rw [za1, if_pos rfl] | rw [za7, if_neg (by omega)] | rw [za7, if_pos rfl])); try rfl) rfl (by show _ + 1 ≤ _; omega) ?_
  repeat (first | refine za0 rfl ?_ | refine za3 ?_ | refine za2 ?_ | refine zb6 ?_ | refine za4 rfl ?_ | refine zay (op := .add) rfl rfl rfl ?_)
  exact zat (show 1 - (0 + 1) < 1 - 0 by decide) (sq (zan q (6 + 0)) (lvF [b0] [(some (5, 3), [.ms 6 0 1 0 1 (some 1)]), (some (q + (6 + 0), 1), [.int .i64 (zgm b0)])]) [] rfl rfl rfl rfl .nil (zff rfl rfl rfl rfl rfl (.cons rfl (.cons (.ms rfl) .nil) (.cons (by (repeat (first | rw [za1, if_neg (by omega)] | rw [za1, if_pos rfl] | rw [za7, if_neg (by omega)] | rw [za7, if_pos rfl])); try rfl) (.keep rfl) .nil)))
   (l' := (b18 f n l i sk w 1 [(13, .ms 5 0 1 0 (0 + 1) none), (45, .ms 4 0 1 0 1 (some 1)), (46, .int .i64 1), (47, .int .i64 ((0 + 1 : Nat) : Int))])) (zgu rfl rfl rfl rfl rfl rfl rfl rfl rfl rfl rfl rfl rfl rfl rfl rfl rfl (.cons rfl (.ms rfl) (.cons rfl (.ms rfl) (.cons rfl (.same rfl) (.cons rfl (.same rfl) .nil)))))) ⟨0 + 1, rfl, by decide, rfl⟩
 ·repeat (first | refine za6 ?_ | refine za0 rfl ?_ | refine za3 ?_ | refine za2 ?_ | refine zb8 rfl ?_ | refine zbb ?_ | refine zaj ?_ | refine zbn rfl rfl rfl ?_)
  refine zcl (zba (za2 ?_))
  exact zen (zao (.cons rfl (.cons rfl (.cons rfl (.cons rfl (.cons rfl (.cons rfl (.cons rfl (.cons rfl (.cons rfl (.cons rfl (.cons rfl (.cons rfl (.cons rfl .nil)))))))))))))) fin
set_option maxHeartbeats 4000000 in
theorem loopA2 (f : List Ex) (n : Int) (l : List Sp) (i : Nat) (sk : List Sk) (w : Int) (b0 b1 : Bool) (q : Nat) {y : IC}
  (fin : Zm Try.prog w0 N0 none y (st 97 (b18 f n l i sk w 2 [(13, .ms 5 0 1 0 2 none)]) (zc9 0 (zj8 [b0, b1] (chA [b0, b1]) (List.replicate 2 (some 1))) ++ zcc (6 + 2) q) (q + (6 + 2)) 1 (ze5 (6 + 2) q)) k Q) :
  Zm Try.prog w0 N0 none (.loop zkz) (st 97 (b18 f n l i sk w 2 [(13, .ms 5 0 1 0 0 none), (45, .ms 4 0 1 0 2 (some 2)), (46, .int .i64 2), (47, .int .i64 ((0 : Nat) : Int))]) (zc9 0 (zj8 [b0, b1] ((chA [b0, b1]).take 0) (List.replicate 0 (some 1))) ++ zcc (6 + 0) q) (q + (6 + 0)) 1 (ze5 (6 + 0) q)) (.blk 2 :: .seq y :: k) Q := by
 refine zbq (fun mm S => ∃ j, mm = 2 - j ∧ j ≤ 2 ∧ S = st 97 (b18 f n l i sk w 2 [(13, .ms 5 0 1 0 j none), (45, .ms 4 0 1 0 2 (some 2)), (46, .int .i64 2), (47, .int .i64 ((j : Nat) : Int))]) (zc9 0 (zj8 [b0, b1] ((chA [b0, b1]).take j) (List.replicate j (some 1))) ++ zcc (6 + j) q) (q + (6 + j)) 1 (ze5 (6 + j) q)) 2
  (zao (.cons rfl (.cons rfl (.cons rfl (.cons rfl (.cons rfl (.cons rfl (.cons rfl (.cons rfl (.cons rfl (.cons rfl (.cons rfl (.cons rfl (.cons rfl (.cons rfl (.cons rfl (.cons rfl .nil))))))))))))))))) ⟨0, rfl, Nat.zero_le _, rfl⟩ ?_
 rintro mm S ⟨j, rfl, hj, rfl⟩
 unfold zkz
 rcases (show j = 0 ∨ j = 1 ∨ j = 2 by omega) with rfl | rfl | rfl
 ·repeat (first | refine za6 ?_ | refine za0 rfl ?_ | refine za3 ?_ | refine za2 ?_ | refine zad ?_ | refine zab ?_ | refine zb0 rfl ?_ | refine za4 rfl ?_ | refine za8 rfl rfl ?_ | refine zbf rfl rfl ?_ | refine zbp rfl rfl rfl ?_ | refine zaw rfl rfl (by omega) (by omega) ?_)
  refine zbx [[.ms (q + 6) 1 1 0 1 (some 1)]] rfl rfl (ze6 (ys := []) zaz rfl (fun x hx => by obtain rfl := List.mem_singleton.1 hx; rfl)) (fun h => Nat.noConfusion h) rfl (by decide) (by (repeat (first | rw [za1, if_neg (by omega)] | rw [za1, if_pos rfl] | rw [za7, if_neg (by omega)] | rw [za7, if_pos rfl])); try rfl) rfl (by show _ + 1 ≤ _; omega) ?_
  repeat (first | refine za0 rfl ?_ | refine za3 ?_ | refine za2 ?_ | refine zb6 ?_ | refine za4 rfl ?_ | refine zay (op := .add) rfl rfl rfl ?_)
  exact zat (show 2 - (0 + 1) < 2 - 0 by decide) (sq (zan q (6 + 0)) (lvF [b0, b1] [(some (5, 3), [.ms 6 0 1 0 1 (some 1)]), (some (q + (6 + 0), 1), [.int .i64 (zgm b0)])]) [] rfl rfl rfl rfl .nil (zff rfl rfl rfl rfl rfl (.cons rfl (.cons (.ms rfl) .nil) (.cons (by (repeat (first | rw [za1, if_neg (by omega)] | rw [za1, if_pos rfl] | rw [za7, if_neg (by omega)] | rw [za7, if_pos rfl])); try rfl) (.keep rfl) .nil)))
   (l' := (b18 f n l i sk w 2 [(13, .ms 5 0 1 0 (0 + 1) none), (45, .ms 4 0 1 0 2 (some 2)), (46, .int .i64 2), (47, .int .i64 ((0 + 1 : Nat) : Int))])) (zgu rfl rfl rfl rfl rfl rfl rfl rfl rfl rfl rfl rfl rfl rfl rfl rfl rfl (.cons rfl (.ms rfl) (.cons rfl (.ms rfl) (.cons rfl (.same rfl) (.cons rfl (.same rfl) .nil)))))) ⟨0 + 1, rfl, by decide, rfl⟩
 ·repeat (first | refine za6 ?_ | refine za0 rfl ?_ | refine za3 ?_ | refine za2 ?_ | refine zad ?_ | refine zab ?_ | refine zb0 rfl ?_ | refine za4 rfl ?_ | refine za8 rfl rfl ?_ | refine zbf rfl rfl ?_ | refine zbp rfl rfl rfl ?_ | refine zaw rfl rfl (by omega) (by omega) ?_)
  refine zbx [[.ms (q + 7) 1 1 0 1 (some 1)]] rfl rfl (ze6 (ys := []) zaz rfl (fun x hx => by obtain rfl := List.mem_singleton.1 hx; rfl)) (fun h => Nat.noConfusion h) rfl (by decide) (by (repeat (first | rw [za1, if_neg (by omega)] | rw [za1, if_pos rfl] | rw [za7, if_neg (by omega)] | rw [za7, if_pos rfl])); try rfl) rfl (by show _ + 1 ≤ _; omega) ?_
  repeat (first | refine za0 rfl ?_ | refine za3 ?_ | refine za2 ?_ | refine zb6 ?_ | refine za4 rfl ?_ | refine zay (op := .add) rfl rfl rfl ?_)
  exact zat (show 2 - (1 + 1) < 2 - 1 by decide) (sq (zan q (6 + 1)) (lvF [b0, b1] [(some (5, 3), [.ms 6 0 1 0 1 (some 1), .ms 7 0 1 0 1 (some 1)]), (some (6, 0), [.int .i64 (zgm b0)]), (some (q + (6 + 1), 1), [.int .i64 (zgm b1)])]) [] rfl rfl rfl rfl .nil (zff rfl rfl rfl rfl rfl (.cons rfl (.cons (.ms rfl) (.cons (.ms rfl) .nil)) (.cons rfl (.keep rfl) (.cons (by (repeat (first | rw [za1, if_neg (by omega)] | rw [za1, if_pos rfl] | rw [za7, if_neg (by omega)] | rw [za7, if_pos rfl])); try rfl) (.keep rfl) .nil))))
   (l' := (b18 f n l i sk w 2 [(13, .ms 5 0 1 0 (1 + 1) none), (45, .ms 4 0 1 0 2 (some 2)), (46, .int .i64 2), (47, .int .i64 ((1 + 1 : Nat) : Int))])) (zgu rfl rfl rfl rfl rfl rfl rfl rfl rfl rfl rfl rfl rfl rfl rfl rfl rfl (.cons rfl (.ms rfl) (.cons rfl (.ms rfl) (.cons rfl (.same rfl) (.cons rfl (.same rfl) .nil)))))) ⟨1 + 1, rfl, by decide, rfl⟩
 ·repeat (first | refine za6 ?_ | refine za0 rfl ?_ | refine za3 ?_ | refine za2 ?_ | refine zb8 rfl ?_ | refine zbb ?_ | refine zaj ?_ | refine zbn rfl rfl rfl ?_)
  refine zcl (zba (za2 ?_))
  exact zen (zao (.cons rfl (.cons rfl (.cons rfl (.cons rfl (.cons rfl (.cons rfl (.cons rfl (.cons rfl (.cons rfl (.cons rfl (.cons rfl (.cons rfl (.cons rfl .nil)))))))))))))) fin
set_option maxHeartbeats 4000000 in
theorem loopA3 (f : List Ex) (n : Int) (l : List Sp) (i : Nat) (sk : List Sk) (w : Int) (b0 b1 b2 : Bool) (q : Nat) {y : IC}
  (fin : Zm Try.prog w0 N0 none y (st 97 (b18 f n l i sk w 3 [(13, .ms 5 0 1 0 3 none)]) (zc9 0 (zj8 [b0, b1, b2] (chA [b0, b1, b2]) (List.replicate 3 (some 1))) ++ zcc (6 + 3) q) (q + (6 + 3)) 1 (ze5 (6 + 3) q)) k Q) :
  Zm Try.prog w0 N0 none (.loop zkz) (st 97 (b18 f n l i sk w 3 [(13, .ms 5 0 1 0 0 none), (45, .ms 4 0 1 0 3 (some 3)), (46, .int .i64 3), (47, .int .i64 ((0 : Nat) : Int))]) (zc9 0 (zj8 [b0, b1, b2] ((chA [b0, b1, b2]).take 0) (List.replicate 0 (some 1))) ++ zcc (6 + 0) q) (q + (6 + 0)) 1 (ze5 (6 + 0) q)) (.blk 2 :: .seq y :: k) Q := by
 refine zbq (fun mm S => ∃ j, mm = 3 - j ∧ j ≤ 3 ∧ S = st 97 (b18 f n l i sk w 3 [(13, .ms 5 0 1 0 j none), (45, .ms 4 0 1 0 3 (some 3)), (46, .int .i64 3), (47, .int .i64 ((j : Nat) : Int))]) (zc9 0 (zj8 [b0, b1, b2] ((chA [b0, b1, b2]).take j) (List.replicate j (some 1))) ++ zcc (6 + j) q) (q + (6 + j)) 1 (ze5 (6 + j) q)) 3
  (zao (.cons rfl (.cons rfl (.cons rfl (.cons rfl (.cons rfl (.cons rfl (.cons rfl (.cons rfl (.cons rfl (.cons rfl (.cons rfl (.cons rfl (.cons rfl (.cons rfl (.cons rfl (.cons rfl .nil))))))))))))))))) ⟨0, rfl, Nat.zero_le _, rfl⟩ ?_
 rintro mm S ⟨j, rfl, hj, rfl⟩
 unfold zkz
 rcases (show j = 0 ∨ j = 1 ∨ j = 2 ∨ j = 3 by omega) with rfl | rfl | rfl | rfl
 ·repeat (first | refine za6 ?_ | refine za0 rfl ?_ | refine za3 ?_ | refine za2 ?_ | refine zad ?_ | refine zab ?_ | refine zb0 rfl ?_ | refine za4 rfl ?_ | refine za8 rfl rfl ?_ | refine zbf rfl rfl ?_ | refine zbp rfl rfl rfl ?_ | refine zaw rfl rfl (by omega) (by omega) ?_)
  refine zbx [[.ms (q + 6) 1 1 0 1 (some 1)]] rfl rfl (ze6 (ys := []) zaz rfl (fun x hx => by obtain rfl := List.mem_singleton.1 hx; rfl)) (fun h => Nat.noConfusion h) rfl (by decide) (by (repeat (first | rw [za1, if_neg (by omega)] | rw [za1, if_pos rfl] | rw [za7, if_neg (by omega)] | rw [za7, if_pos rfl])); try rfl) rfl (by show _ + 1 ≤ _; omega) ?_
  repeat (first | refine za0 rfl ?_ | refine za3 ?_ | refine za2 ?_ | refine zb6 ?_ | refine za4 rfl ?_ | refine zay (op := .add) rfl rfl rfl ?_)
  exact zat (show 3 - (0 + 1) < 3 - 0 by decide) (sq (zan q (6 + 0)) (lvF [b0, b1, b2] [(some (5, 3), [.ms 6 0 1 0 1 (some 1)]), (some (q + (6 + 0), 1), [.int .i64 (zgm b0)])]) [] rfl rfl rfl rfl .nil (zff rfl rfl rfl rfl rfl (.cons rfl (.cons (.ms rfl) .nil) (.cons (by (repeat (first | rw [za1, if_neg (by omega)] | rw [za1, if_pos rfl] | rw [za7, if_neg (by omega)] | rw [za7, if_pos rfl])); try rfl) (.keep rfl) .nil)))
   (l' := (b18 f n l i sk w 3 [(13, .ms 5 0 1 0 (0 + 1) none), (45, .ms 4 0 1 0 3 (some 3)), (46, .int .i64 3), (47, .int .i64 ((0 + 1 : Nat) : Int))])) (zgu rfl rfl rfl rfl rfl rfl rfl rfl rfl rfl rfl rfl rfl rfl rfl rfl rfl (.cons rfl (.ms rfl) (.cons rfl (.ms rfl) (.cons rfl (.same rfl) (.cons rfl (.same rfl) .nil)))))) ⟨0 + 1, rfl, by decide, rfl⟩
 ·repeat (first | refine za6 ?_ | refine za0 rfl ?_ | refine za3 ?_ | refine za2 ?_ | refine zad ?_ | refine zab ?_ | refine zb0 rfl ?_ | refine za4 rfl ?_ | refine za8 rfl rfl ?_ | refine zbf rfl rfl ?_ | refine zbp rfl rfl rfl ?_ | refine zaw rfl rfl (by omega) (by omega) ?_)
  refine zbx [[.ms (q + 7) 1 1 0 1 (some 1)]] rfl rfl (ze6 (ys := []) zaz rfl (fun x hx => by obtain rfl := List.mem_singleton.1 hx; rfl)) (fun h => Nat.noConfusion h) rfl (by decide) (by (repeat (first | rw [za1, if_neg (by omega)] | rw [za1, if_pos rfl] | rw [za7, if_neg (by omega)] | rw [za7, if_pos rfl])); try rfl) rfl (by show _ + 1 ≤ _; omega) ?_
  repeat (first | refine za0 rfl ?_ | refine za3 ?_ | refine za2 ?_ | refine zb6 ?_ | refine za4 rfl ?_ | refine zay (op := .add) rfl rfl rfl ?_)
  exact zat (show 3 - (1 + 1) < 3 - 1 by decide) (sq (zan q (6 + 1)) (lvF [b0, b1, b2] [(some (5, 3), [.ms 6 0 1 0 1 (some 1), .ms 7 0 1 0 1 (some 1)]), (some (6, 0), [.int .i64 (zgm b0)]), (some (q + (6 + 1), 1), [.int .i64 (zgm b1)])]) [] rfl rfl rfl rfl .nil (zff rfl rfl rfl rfl rfl (.cons rfl (.cons (.ms rfl) (.cons (.ms rfl) .nil)) (.cons rfl (.keep rfl) (.cons (by (repeat (first | rw [za1, if_neg (by omega)] | rw [za1, if_pos rfl] | rw [za7, if_neg (by omega)] | rw [za7, if_pos rfl])); try rfl) (.keep rfl) .nil))))
   (l' := (b18 f n l i sk w 3 [(13, .ms 5 0 1 0 (1 + 1) none), (45, .ms 4 0 1 0 3 (some 3)), (46, .int .i64 3), (47, .int .i64 ((1 + 1 : Nat) : Int))])) (zgu rfl rfl rfl rfl rfl rfl rfl rfl rfl rfl rfl rfl rfl rfl rfl rfl rfl (.cons rfl (.ms rfl) (.cons rfl (.ms rfl) (.cons rfl (.same rfl) (.cons rfl (.same rfl) .nil)))))) ⟨1 + 1, rfl, by decide, rfl⟩
 ·repeat (first | refine za6 ?_ | refine za0 rfl ?_ | refine za3 ?_ | refine za2 ?_ | refine zad ?_ | refine zab ?_ | refine zb0 rfl ?_ | refine za4 rfl ?_ | refine za8 rfl rfl ?_ | refine zbf rfl rfl ?_ | refine zbp rfl rfl rfl ?_ | refine zaw rfl rfl (by omega) (by omega) ?_)
  refine zbx [[.ms (q + 8) 1 1 0 1 (some 1)]] rfl rfl (ze6 (ys := []) zaz rfl (fun x hx => by obtain rfl := List.mem_singleton.1 hx; rfl)) (fun h => Nat.noConfusion h) rfl (by decide) (by (repeat (first | rw [za1, if_neg (by omega)] | rw [za1, if_pos rfl] | rw [za7, if_neg (by omega)] | rw [za7, if_pos rfl])); try rfl) rfl (by show _ + 1 ≤ _; omega) ?_
  repeat (first | refine za0 rfl ?_ | refine za3 ?_ | refine za2 ?_ | refine zb6 ?_ | refine za4 rfl ?_ | refine zay (op := .add) rfl rfl rfl ?_)
  exact zat (show 3 - (2 + 1) < 3 - 2 by decide) (sq (zan q (6 + 2)) (lvF [b0, b1, b2] [(some (5, 3), [.ms 6 0 1 0 1 (some 1), .ms 7 0 1 0 1 (some 1), .ms 8 0 1 0 1 (some 1)]), (some (6, 0), [.int .i64 (zgm b0)]), (some (7, 0), [.int .i64 (zgm b1)]), (some (q + (6 + 2), 1), [.int .i64 (zgm b2)])]) [] rfl rfl rfl rfl .nil (zff rfl rfl rfl rfl rfl (.cons rfl (.cons (.ms rfl) (.cons (.ms rfl) (.cons (.ms rfl) .nil))) (.cons rfl (.keep rfl) (.cons rfl (.keep rfl) (.cons (by (repeat (first | rw [za1, if_neg (by omega)] | rw [za1, if_pos rfl] | rw [za7, if_neg (by omega)] | rw [za7, if_pos rfl])); try rfl) (.keep rfl) .nil)))))
   (l' := (b18 f n l i sk w 3 [(13, .ms 5 0 1 0 (2 + 1) none), (45, .ms 4 0 1 0 3 (some 3)), (46, .int .i64 3), (47, .int .i64 ((2 + 1 : Nat) : Int))])) (zgu rfl rfl rfl rfl rfl rfl rfl rfl rfl rfl rfl rfl rfl rfl rfl rfl rfl (.cons rfl (.ms rfl) (.cons rfl (.ms rfl) (.cons rfl (.same rfl) (.cons rfl (.same rfl) .nil)))))) ⟨2 + 1, rfl, by decide, rfl⟩
 ·repeat (first | refine za6 ?_ | refine za0 rfl ?_ | refine za3 ?_ | refine za2 ?_ | refine zb8 rfl ?_ | refine zbb ?_ | refine zaj ?_ | refine zbn rfl rfl rfl ?_)
  refine zcl (zba (za2 ?_))
  exact zen (zao (.cons rfl (.cons rfl (.cons rfl (.cons rfl (.cons rfl (.cons rfl (.cons rfl (.cons rfl (.cons rfl (.cons rfl (.cons rfl (.cons rfl (.cons rfl .nil)))))))))))))) fin
set_option maxHeartbeats 4000000 in
theorem loopA4 (f : List Ex) (n : Int) (l : List Sp) (i : Nat) (sk : List Sk) (w : Int) (b0 b1 b2 b3 : Bool) (q : Nat) {y : IC}
  (fin : Zm Try.prog w0 N0 none y (st 97 (b18 f n l i sk w 4 [(13, .ms 5 0 1 0 4 none)]) (zc9 0 (zj8 [b0, b1, b2, b3] (chA [b0, b1, b2, b3]) (List.replicate 4 (some 1))) ++ zcc (6 + 4) q) (q + (6 + 4)) 1 (ze5 (6 + 4) q)) k Q) :
  Zm Try.prog w0 N0 none (.loop zkz) (st 97 (b18 f n l i sk w 4 [(13, .ms 5 0 1 0 0 none), (45, .ms 4 0 1 0 4 (some 4)), (46, .int .i64 4), (47, .int .i64 ((0 : Nat) : Int))]) (zc9 0 (zj8 [b0, b1, b2, b3] ((chA [b0, b1, b2, b3]).take 0) (List.replicate 0 (some 1))) ++ zcc (6 + 0) q) (q + (6 + 0)) 1 (ze5 (6 + 0) q)) (.blk 2 :: .seq y :: k) Q := by
 refine zbq (fun mm S => ∃ j, mm = 4 - j ∧ j ≤ 4 ∧ S = st 97 (b18 f n l i sk w 4 [(13, .ms 5 0 1 0 j none), (45, .ms 4 0 1 0 4 (some 4)), (46, .int .i64 4), (47, .int .i64 ((j : Nat) : Int))]) (zc9 0 (zj8 [b0, b1, b2, b3] ((chA [b0, b1, b2, b3]).take j) (List.replicate j (some 1))) ++ zcc (6 + j) q) (q + (6 + j)) 1 (ze5 (6 + j) q)) 4
  (zao (.cons rfl (.cons rfl (.cons rfl (.cons rfl (.cons rfl (.cons rfl (.cons rfl (.cons rfl (.cons rfl (.cons rfl (.cons rfl (.cons rfl (.cons rfl (.cons rfl (.cons rfl (.cons rfl .nil))))))))))))))))) ⟨0, rfl, Nat.zero_le _, rfl⟩ ?_
 rintro mm S ⟨j, rfl, hj, rfl⟩
 unfold zkz
 rcases (show j = 0 ∨ j = 1 ∨ j = 2 ∨ j = 3 ∨ j = 4 by omega) with rfl | rfl | rfl | rfl | rfl
 ·repeat (first | refine za6 ?_ | refine za0 rfl ?_ | refine za3 ?_ | refine za2 ?_ | refine zad ?_ | refine zab ?_ | refine zb0 rfl ?_ | refine za4 rfl ?_ | refine za8 rfl rfl ?_ | refine zbf rfl rfl ?_ | refine zbp rfl rfl rfl ?_ | refine zaw rfl rfl (by omega) (by omega) ?_)
  refine zbx [[.ms (q + 6) 1 1 0 1 (some 1)]] rfl rfl (ze6 (ys := []) zaz rfl (fun x hx => by obtain rfl := List.mem_singleton.1 hx; rfl)) (fun h => Nat.noConfusion h) rfl (by decide) (by (repeat (first | rw [za1, if_neg (by omega)] | rw [za1, if_pos rfl] | rw [za7, if_neg (by omega)] | rw [za7, if_pos rfl])); try rfl) rfl (by show _ + 1 ≤ _; omega) ?_
  repeat (first | refine za0 rfl ?_ | refine za3 ?_ | refine za2 ?_ | refine zb6 ?_ | refine za4 rfl ?_ | refine zay (op := .add) rfl rfl rfl ?_)
  exact zat (show 4 - (0 + 1) < 4 - 0 by decide) (sq (zan q (6 + 0)) (lvF [b0, b1, b2, b3] [(some (5, 3), [.ms 6 0 1 0 1 (some 1)]), (some (q + (6 + 0), 1), [.int .i64 (zgm b0)])]) [] rfl rfl rfl rfl .nil (zff rfl rfl rfl rfl rfl (.cons rfl (.cons (.ms rfl) .nil) (.cons (by (repeat (first | rw [za1, if_neg (by omega)] | rw [za1, if_pos rfl] | rw [za7, if_neg (by omega)] | rw [za7, if_pos rfl])); try rfl) (.keep rfl) .nil)))
   (l' := (b18 f n l i sk w 4 [(13, .ms 5 0 1 0 (0 + 1) none), (45, .ms 4 0 1 0 4 (some 4)), (46, .int .i64 4), (47, .int .i64 ((0 + 1 : Nat) : Int))])) (zgu rfl rfl rfl rfl rfl rfl rfl rfl rfl rfl rfl rfl rfl rfl rfl rfl rfl (.cons rfl (.ms rfl) (.cons rfl (.ms rfl) (.cons rfl (.same rfl) (.cons rfl (.same rfl) .nil)))))) ⟨0 + 1, rfl, by decide, rfl⟩
 ·repeat (first | refine za6 ?_ | refine za0 rfl ?_ | refine za3 ?_ | refine za2 ?_ | refine zad ?_ | refine zab ?_ | refine zb0 rfl ?_ | refine za4 rfl ?_ | refine za8 rfl rfl ?_ | refine zbf rfl rfl ?_ | refine zbp rfl rfl rfl ?_ | refine zaw rfl rfl (by omega) (by omega) ?_)
  refine zbx [[.ms (q + 7) 1 1 0 1 (some 1)]] rfl rfl (ze6 (ys := []) zaz rfl (fun x hx => by obtain rfl := List.mem_singleton.1 hx; rfl)) (fun h => Nat.noConfusion h) rfl (by decide) (by (repeat (first | rw [za1, if_neg (by omega)] | rw [za1, if_pos rfl] | rw [za7, if_neg (by omega)] | rw [za7, if_pos rfl])); try rfl) rfl (by show _ + 1 ≤ _; omega) ?_
  repeat (first | refine za0 rfl ?_ | refine za3 ?_ | refine za2 ?_ | refine zb6 ?_ | refine za4 rfl ?_ | refine zay (op := .add) rfl rfl rfl ?_)
  exact zat (show 4 - (1 + 1) < 4 - 1 by decide) (sq (zan q (6 + 1)) (lvF [b0, b1, b2, b3] [(some (5, 3), [.ms 6 0 1 0 1 (some 1), .ms 7 0 1 0 1 (some 1)]), (some (6, 0), [.int .i64 (zgm b0)]), (some (q + (6 + 1), 1), [.int .i64 (zgm b1)])]) [] rfl rfl rfl rfl .nil (zff rfl rfl rfl rfl rfl (.cons rfl (.cons (.ms rfl) (.cons (.ms rfl) .nil)) (.cons rfl (.keep rfl) (.cons (by (repeat (first | rw [za1, if_neg (by omega)] | rw [za1, if_pos rfl] | rw [za7, if_neg (by omega)] | rw [za7, if_pos rfl])); try rfl) (.keep rfl) .nil))))
   (l' := (b18 f n l i sk w 4 [(13, .ms 5 0 1 0 (1 + 1) none), (45, .ms 4 0 1 0 4 (some 4)), (46, .int .i64 4), (47, .int .i64 ((1 + 1 : Nat) : Int))])) (zgu rfl rfl rfl rfl rfl rfl rfl rfl rfl rfl rfl rfl rfl rfl rfl rfl rfl (.cons rfl (.ms rfl) (.cons rfl (.ms rfl) (.cons rfl (.same rfl) (.cons rfl (.same rfl) .nil)))))) ⟨1 + 1, rfl, by decide, rfl⟩
 ·repeat (first | refine za6 ?_ | refine za0 rfl ?_ | refine za3 ?_ | refine za2 ?_ | refine zad ?_ | refine zab ?_ | refine zb0 rfl ?_ | refine za4 rfl ?_ | refine za8 rfl rfl ?_ | refine zbf rfl rfl ?_ | refine zbp rfl rfl rfl ?_ | refine zaw rfl rfl (by omega) (by omega) ?_)
  refine zbx [[.ms (q + 8) 1 1 0 1 (some 1)]] rfl rfl (ze6 (ys := []) zaz rfl (fun x hx => by obtain rfl := List.mem_singleton.1 hx; rfl)) (fun h => Nat.noConfusion h) rfl (by decide) (by (repeat (first | rw [za1, if_neg (by omega)] | rw [za1, if_pos rfl] | rw [za7, if_neg (by omega)] | rw [za7, if_pos rfl])); try rfl) rfl (by show _ + 1 ≤ _; omega) ?_
  repeat (first | refine za0 rfl ?_ | refine za3 ?_ | refine za2 ?_ | refine zb6 ?_ | refine za4 rfl ?_ | refine zay (op := .add) rfl rfl rfl ?_)
  exact zat (show 4 - (2 + 1) < 4 - 2 by decide) (sq (zan q (6 + 2)) (lvF [b0, b1, b2, b3] [(some (5, 3), [.ms 6 0 1 0 1 (some 1), .ms 7 0 1 0 1 (some 1), .ms 8 0 1 0 1 (some 1)]), (some (6, 0), [.int .i64 (zgm b0)]), (some (7, 0), [.int .i64 (zgm b1)]), (some (q + (6 + 2), 1), [.int .i64 (zgm b2)])]) [] rfl rfl rfl rfl .nil (zff rfl rfl rfl rfl rfl (.cons rfl (.cons (.ms rfl) (.cons (.ms rfl) (.cons (.ms rfl) .nil))) (.cons rfl (.keep rfl) (.cons rfl (.keep rfl) (.cons (by (repeat (first | rw [za1, if_neg (by omega)] | rw [za1, if_pos rfl] | rw [za7, if_neg (by omega)] | rw [za7, if_pos rfl])); try rfl) (.keep rfl) .nil)))))
   (l' := (b18 f n l i sk w 4 [(13, .ms 5 0 1 0 (2 + 1) none), (45, .ms 4 0 1 0 4 (some 4)), (46, .int .i64 4), (47, .int .i64 ((2 + 1 : Nat) : Int))])) (zgu rfl rfl rfl rfl rfl rfl rfl rfl rfl rfl rfl rfl rfl rfl rfl rfl rfl (.cons rfl (.ms rfl) (.cons rfl (.ms rfl) (.cons rfl (.same rfl) (.cons rfl (.same rfl) .nil)))))) ⟨2 + 1, rfl, by decide, rfl⟩
 ·repeat (first | refine za6 ?_ | refine za0 rfl ?_ | refine za3 ?_ | refine za2 ?_ | refine zad ?_ | refine zab ?_ | refine zb0 rfl ?_ | refine za4 rfl ?_ | refine za8 rfl rfl ?_ | refine zbf rfl rfl ?_ | refine zbp rfl rfl rfl ?_ | refine zaw rfl rfl (by omega) (by omega) ?_)
  refine zbx [[.ms (q + 9) 1 1 0 1 (some 1)]] rfl rfl (ze6 (ys := []) zaz rfl (fun x hx => by obtain rfl := List.mem_singleton.1 hx; rfl)) (fun h => Nat.noConfusion h) rfl (by decide) (by (repeat (first | rw [za1, if_neg (by omega)] | rw [za1, if_pos rfl] | rw [za7, if_neg (by omega)] | rw [za7, if_pos rfl])); try rfl) rfl (by show _ + 1 ≤ _; omega) ?_
  repeat (first | refine za0 rfl ?_ | refine za3 ?_ | refine za2 ?_ | refine zb6 ?_ | refine za4 rfl ?_ | refine zay (op := .add) rfl rfl rfl ?_)
  exact zat (show 4 - (3 + 1) < 4 - 3 by decide) (sq (zan q (6 + 3)) (lvF [b0, b1, b2, b3] [(some (5, 3), [.ms 6 0 1 0 1 (some 1), .ms 7 0 1 0 1 (some 1), .ms 8 0 1 0 1 (some 1), .ms 9 0 1 0 1 (some 1)]), (some (6, 0), [.int .i64 (zgm b0)]), (some (7, 0), [.int .i64 (zgm b1)]), (some (8, 0), [.int .i64 (zgm b2)]), (some (q + (6 + 3), 1), [.int .i64 (zgm b3)])]) [] rfl rfl rfl rfl .nil (zff rfl rfl rfl rfl rfl (.cons rfl (.cons (.ms rfl) (.cons (.ms rfl) (.cons (.ms rfl) (.cons (.ms rfl) .nil)))) (.cons rfl (.keep rfl) (.cons rfl (.keep rfl) (.cons rfl (.keep rfl) (.cons (by (repeat (first | rw [za1, if_neg (by omega)] | rw [za1, if_pos rfl] | rw [za7, if_neg (by omega)] | rw [za7, if_pos rfl])); try rfl) (.keep rfl) .nil))))))
   (l' := (b18 f n l i sk w 4 [(13, .ms 5 0 1 0 (3 + 1) none), (45, .ms 4 0 1 0 4 (some 4)), (46, .int .i64 4), (47, .int .i64 ((3 + 1 : Nat) : Int))])) (zgu rfl rfl rfl rfl rfl rfl rfl rfl rfl rfl rfl rfl rfl rfl rfl rfl rfl (.cons rfl (.ms rfl) (.cons rfl (.ms rfl) (.cons rfl (.same rfl) (.cons rfl (.same rfl) .nil)))))) ⟨3 + 1, rfl, by decide, rfl⟩
 ·repeat (first | refine za6 ?_ | refine za0 rfl ?_ | refine za3 ?_ | refine za2 ?_ | refine zb8 rfl ?_ | refine zbb ?_ | refine zaj ?_ | refine zbn rfl rfl rfl ?_)
  refine zcl (zba (za2 ?_))
  exact zen (zao (.cons rfl (.cons rfl (.cons rfl (.cons rfl (.cons rfl (.cons rfl (.cons rfl (.cons rfl (.cons rfl (.cons rfl (.cons rfl (.cons rfl (.cons rfl .nil)))))))))))))) fin
end
end Go.Proofs.Ytoiblgbaeglgoaa
