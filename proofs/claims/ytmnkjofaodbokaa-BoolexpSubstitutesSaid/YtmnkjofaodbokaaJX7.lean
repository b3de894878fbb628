/-
  THE LAW OF SUBSTITUTIONS.
-/
import Derived.Test.YtmnkjofaodbokaaJX6
namespace Go.Proofs.Ytmnkjofaodbokaa
open Go Go.Am
def Gb (b : Nat) (q : List Bool) (w : AV) (hp : List (Nat × Nat × AObj)) (nx : Nat) : Prop :=
 (q = [] ∧ w = .nils) ∨ ∃ id sp, w = .ms id sp 1 0 q.length none ∧ Am.look id hp = some (sp, .cells (q.map AV.bool)) ∧ b ≤ id ∧ id < nx
section
variable {b nx : Nat} {q : List Bool} {w : AV} {hp : List (Nat × Nat × AObj)}
theorem Gb.view {S : AS} {d : Nat} (h : Gb b q w S.heap nx) : S.view (d + 2) w = vsB q := by
 rcases h with ⟨rfl, rfl⟩ | ⟨id, sp, rfl, hl, _, _⟩
 ·rfl
 ·exact zsa q rfl hl
theorem Gb.fresh (h : Gb b q w hp nx) (ck : Nat) (x : AObj) : Gb b q w ((nx, ck, x) :: hp) (nx + 1) := by
 rcases h with h | ⟨id, sp, e, hl, h1, h2⟩
 ·exact .inl h
 ·exact .inr ⟨id, sp, e, by rw [zax, if_neg (by omega)]; exact hl, h1, by omega⟩
theorem Gb.box (h : Gb b q w hp nx) (ck : Nat) (x : AObj) (y : Nat × AObj) : Gb b q w (zc1 nx (zc3 nx y ((nx, ck, x) :: hp))) (nx + 1) := by
 rcases h with h | ⟨id, sp, e, hl, h1, h2⟩
 ·exact .inl h
 ·exact .inr ⟨id, sp, e, by rw [zao, if_neg (by omega), za1, if_neg (by omega), zax, if_neg (by omega)]; exact hl, h1, by omega⟩
theorem o_bapp {w0 : World} {N0 n d ck : Nat} {md : Md} {pf : Kn} {k : List Fr} {Q : Exit → AS → Prop} {l : List (Nat × AV)} {ios : List Opr} {bytes j sj : Nat} {x0 : Bool} {z : List AV} {s x : Arg} (hsd : ∀ i, pf.sd i = true) (hF : Gb b q w hp nx) (hbn : b ≤ nx) (hlen : q.length ≤ 1000000) (hs : zc0 s l = some w) (hx : zc0 x l = some (.ms j sj 1 0 1 (some 1))) (hj : Am.look j hp = some (sj, .cells [.bool x0])) (hb : bytes ≤ 16777216)
  (go : ∀ w' hp' nx' ck', Gb b (q ++ [x0]) w' hp' nx' → b ≤ nx' → Om Try.prog w0 N0 md pf ios (st n ((d, w') :: l) hp' nx' ck') k Q) :
  Om Try.prog w0 N0 md pf (⟨some d, .append 1 bytes z s x, none⟩ :: ios) (st n l hp nx ck) k Q := by
 have hel : ∀ l, (st n l hp nx ck []).elems 1 (.ms j sj 1 0 1 (some 1)) = some [[.bool x0]] := fun l => zgq (xs := [[.bool x0]]) (ys := []) hj rfl fun x hx => by obtain rfl := List.mem_singleton.1 hx; rfl
 rcases hF with ⟨rfl, rfl⟩ | ⟨id, sp, rfl, hl, h1, h2⟩
 ·have hi : iop (st n l hp nx ck) (.append 1 bytes z s x) = some (.ms nx ck 1 0 1 none, st n l ((nx, ck, .cells [.bool x0]) :: hp) (nx + 1) (ck + 1)) := by
   simp only [iop, zbp, hs, hx, hel]
   unfold zcw
   rw [if_neg (show ¬ [[AV.bool x0]].length = 0 from Nat.succ_ne_zero 0), if_pos (show [[AV.bool x0]].flatten.all AV.isCell = true ∧ bytes ≤ 16777216 from ⟨rfl, hb⟩)]
   rfl
  exact zew hi (go _ _ _ _ (.inr ⟨nx, ck, rfl, zbs, hbn, Nat.lt_succ_self _⟩) (by omega)) (napOk hs)
 ·refine zjo [[.bool x0]] hs hx (hel _) (fun h => Nat.noConfusion h) rfl hb hl (by rw [List.length_map, Nat.mul_one]) (by show _ + 1 ≤ _; omega) ?_ (apOk hs (hsd id))
  exact go _ _ _ _ (.inr ⟨id, ck, by rw [List.length_append]; rfl, by rw [za1, if_pos rfl, List.map_append]; rfl, h1, h2⟩) hbn
theorem Gb.cell (h : Gb b q w hp nx) : hasM w = true → w ≠ .nils := fun e1 e2 => by subst e2; cases e1
end
def b6_0 : IC := .seq (.region [⟨(some 41), .bin .lss (.t 40) (.t 39), none⟩] none)
 (.seq (.cond (.t 41) (.skip)
 (.exit 0))
 (.seq (.block 1 (.seq (.region [⟨(some 42), .idxs 3 (.t 38) (.t 40), none⟩,
  ⟨(some 43), .load (some 3) (.t 42), none⟩,
  ⟨(some 9), .alloc [.int .i64 0, .int .i64 0, .nils], none⟩,
  ⟨none, .store 3 (.t 9) (.t 43), none⟩] none)
 (.seq (.seq (.region [⟨(some 44), .load (some 3) (.t 9), none⟩,
  ⟨(some 45), .mov (.t 2), none⟩,
  ⟨(some 46), .len false (.t 45), none⟩,
  ⟨(some 47), .call (.c (.fn 11 [] [])) [(.t 44), (.t 46)], none⟩,
  ⟨(some 48), .un .not (.t 47), none⟩] none)
 (.cond (.t 48) (.seq (.region [⟨(some 49), .call (.c (.fn 13 [] [])) [], none⟩,
  ⟨(some 6), .mov (.t 49), none⟩] none)
 (.ret))
 (.skip)))
 (.seq (.region [⟨(some 51), .load (some 3) (.t 9), none⟩,
  ⟨(some 52), .mov (.t 2), none⟩,
  ⟨(some 53), .call (.c (.fn 18 [] [])) [(.t 51), (.t 52)], none⟩,
  ⟨(some 50), .mov (.t 53), none⟩,
  ⟨(some 54), .extract (.t 50) 0, none⟩,
  ⟨(some 55), .extract (.t 50) 1, none⟩,
  ⟨(some 10), .mov (.t 54), none⟩,
  ⟨(some 11), .mov (.t 55), none⟩] none)
 (.seq (.seq (.region [⟨(some 56), .mov (.t 11), none⟩,
  ⟨(some 57), .bin .neq (.t 56) (.c (.int .i64 0)), none⟩] none)
 (.cond (.t 57) (.seq (.region [⟨(some 6), .mov (.c (.bool false)), none⟩] none)
 (.ret))
 (.skip)))
 (.region [⟨(some 58), .mov (.t 7), none⟩,
  ⟨(some 59), .mov (.t 10), none⟩,
  ⟨(some 60), .bslice 1 1 [.bool false] [(0, 1, (.t 59))], none⟩,
  ⟨(some 61), .append 1 1 [.bool false] (.t 58) (.t 60), none⟩,
  ⟨(some 7), .mov (.t 61), none⟩] none))))))
 (.region [⟨(some 62), .bin .add (.t 40) (.c (.int .i64 1)), none⟩,
  ⟨(some 40), .mov (.t 62), none⟩] none)))
-- pneumatic/pneumaticlaw05.BoolexpSubstitutes
def ic6 : IC := .seq (.region [⟨(some 3), .box (.t 0), none⟩,
  ⟨(some 6), .mov (.c (.bool false)), none⟩] none)
 (.seq (.seq (.region [⟨(some 17), .mov (.t 1), none⟩,
  ⟨(some 18), .len false (.t 17), none⟩,
  ⟨(some 19), .bin .gtr (.t 18) (.c (.int .i64 8)), none⟩,
  ⟨(some 20), .mov (.t 19), none⟩,
  ⟨(some 21), .mov (.t 2), some (20, false)⟩,
  ⟨(some 22), .len false (.t 21), some (20, false)⟩,
  ⟨(some 23), .bin .gtr (.t 22) (.c (.int .i64 8)), some (20, false)⟩,
  ⟨(some 24), .pick (.t 20) (.c (.bool true)) (.t 23), none⟩,
  ⟨(some 25), .mov (.t 24), none⟩,
  ⟨(some 26), .load (some 3) (.t 3), some (25, false)⟩,
  ⟨(some 27), .mov (.t 1), some (25, false)⟩,
  ⟨(some 28), .len false (.t 27), some (25, false)⟩,
  ⟨(some 29), .call (.c (.fn 11 [] [])) [(.t 26), (.t 28)], some (25, false)⟩,
  ⟨(some 30), .un .not (.t 29), some (25, false)⟩,
  ⟨(some 31), .pick (.t 25) (.c (.bool true)) (.t 30), none⟩,
  ⟨(some 32), .mov (.t 31), none⟩,
  ⟨(some 33), .mov (.t 1), some (32, false)⟩,
  ⟨(some 34), .call (.c (.fn 17 [] [])) [(.t 33)], some (32, false)⟩,
  ⟨(some 35), .un .not (.t 34), some (32, false)⟩,
  ⟨(some 36), .pick (.t 32) (.c (.bool true)) (.t 35), none⟩] none)
 (.cond (.t 36) (.seq (.region [⟨(some 37), .call (.c (.fn 13 [] [])) [], none⟩,
  ⟨(some 6), .mov (.t 37), none⟩] none)
 (.ret))
 (.skip)))
 (.seq (.region [⟨(some 7), .mov (.c (.nils)), none⟩] none)
 (.seq (.seq (.region [⟨(some 38), .mov (.t 1), none⟩,
  ⟨(some 39), .len false (.t 38), none⟩,
  ⟨(some 40), .mov (.c (.int .i64 0)), none⟩] none)
 (.block 0 (.loop b6_0)))
 (.seq (.region [⟨(some 64), .load (some 3) (.t 3), none⟩,
  ⟨(some 65), .mov (.t 1), none⟩,
  ⟨(some 66), .mov (.t 2), none⟩,
  ⟨(some 67), .len false (.t 66), none⟩,
  ⟨(some 68), .call (.c (.fn 25 [] [])) [(.t 64), (.t 65), (.t 67)], none⟩,
  ⟨(some 63), .mov (.t 68), none⟩,
  ⟨(some 69), .extract (.t 63) 0, none⟩,
  ⟨(some 70), .extract (.t 63) 1, none⟩,
  ⟨(some 12), .alloc [.int .i64 0, .int .i64 0, .nils], none⟩,
  ⟨none, .store 3 (.t 12) (.t 69), none⟩,
  ⟨(some 13), .mov (.t 70), none⟩] none)
 (.seq (.seq (.region [⟨(some 71), .mov (.t 13), none⟩,
  ⟨(some 72), .bin .neq (.t 71) (.c (.int .i64 0)), none⟩] none)
 (.cond (.t 72) (.seq (.region [⟨(some 73), .mov (.t 13), none⟩,
  ⟨(some 74), .bin .eql (.t 73) (.c (.int .i64 5)), none⟩,
  ⟨(some 75), .mov (.t 74), none⟩,
  ⟨(some 76), .call (.c (.fn 13 [] [])) [], some (75, true)⟩,
  ⟨(some 77), .pick (.t 75) (.t 76) (.c (.bool false)), none⟩,
  ⟨(some 6), .mov (.t 77), none⟩] none)
 (.ret))
 (.skip)))
 (.seq (.region [⟨(some 79), .load (some 3) (.t 3), none⟩,
  ⟨(some 80), .mov (.t 7), none⟩,
  ⟨(some 81), .call (.c (.fn 18 [] [])) [(.t 79), (.t 80)], none⟩,
  ⟨(some 78), .mov (.t 81), none⟩,
  ⟨(some 82), .extract (.t 78) 0, none⟩,
  ⟨(some 83), .extract (.t 78) 1, none⟩,
  ⟨(some 14), .mov (.t 82), none⟩,
  ⟨(some 13), .mov (.t 83), none⟩] none)
 (.seq (.region [⟨(some 85), .load (some 3) (.t 12), none⟩,
  ⟨(some 86), .mov (.t 2), none⟩,
  ⟨(some 87), .call (.c (.fn 18 [] [])) [(.t 85), (.t 86)], none⟩,
  ⟨(some 84), .mov (.t 87), none⟩,
  ⟨(some 88), .extract (.t 84) 0, none⟩,
  ⟨(some 89), .extract (.t 84) 1, none⟩,
  ⟨(some 15), .mov (.t 88), none⟩,
  ⟨(some 16), .mov (.t 89), none⟩] none)
 (.seq (.region [⟨(some 90), .mov (.t 13), none⟩,
  ⟨(some 91), .mov (.t 16), none⟩,
  ⟨(some 92), .bin .add (.t 90) (.t 91), none⟩,
  ⟨(some 93), .bin .eql (.t 92) (.c (.int .i64 0)), none⟩,
  ⟨(some 94), .mov (.t 93), none⟩,
  ⟨(some 95), .mov (.t 14), some (94, true)⟩,
  ⟨(some 96), .mov (.t 15), some (94, true)⟩,
  ⟨(some 97), .eqb false (.t 95) (.t 96), some (94, true)⟩,
  ⟨(some 98), .pick (.t 94) (.t 97) (.c (.bool false)), none⟩,
  ⟨(some 99), .mov (.t 98), none⟩,
  ⟨(some 100), .call (.c (.fn 13 [] [])) [], some (99, true)⟩,
  ⟨(some 101), .pick (.t 99) (.t 100) (.c (.bool false)), none⟩,
  ⟨(some 6), .mov (.t 101), none⟩] none)
 (.ret)))))))))
theorem fn6 : env0.fn 6 = some ⟨102, ic6, [.t 6]⟩ := by kernel_rfl
set_option maxRecDepth 100000 in
set_option maxHeartbeats 8000000 in
theorem law6 (x : Ex) (hs : Slim x) (l : List Ex) (hlen : l.length < 9223372036854775808) (hls : ∀ y ∈ l, Slim y) (v : List Bool) : PF Try.prog 6 [.agg (cX x), .vs (cXs l), vsB v] (.bool true) := by
 have hcl := zan l
 have hvl : (v.map fun b => ([.bool b] : List AV)).length = v.length := List.length_map ..
 have p11 := zvi x hs (l.length : Nat)
 have q17 := few17w l hlen hls
 have q11 : ∀ y ∈ l, PF Try.prog 11 [.agg (cX y), .int .i64 (v.length : Nat)] (.bool (rgtX y (v.length : Nat))) := fun y hy => zvi y (hls y hy) _
 have q18 : ∀ y ∈ l, PF Try.prog 18 [.agg (cX y), vsB v] (ztr y v) := fun y hy => ztq y (hls y hy) v
 have p25 : l.length ≤ 8 → _ := fun h => zhx x hs l h hls (v.length : Nat)
 have p18 := ztq x hs (l.map (zck v))
 have r18 : zcj (zeo l x) = true → _ := fun h => ztq (zeo l x) (zet ((zcy _).1 h).1) v
 generalize l.all zhy = f2 at *
 have hx0 : ∃ x', x' = x := ⟨x, rfl⟩
 obtain ⟨op, ix, args⟩ := x
 refine zb3 env0_ok fn6 [(0, .agg (cX (.nd op ix args))), (1, .vs (cXs l)), (2, vsB v)] (by show 3 ≤ 102; decide) rfl fun w0 N0 => ?_
 unfold ic6
 refine za6 (za0 rfl (zbd rfl rfl (za4 rfl (za3 (za2 ?_)))))
 refine zce [] [(0, 0, cX (.nd op ix args))] [(1, .vs (cXs l)), (2, vsB v), (3, .vptr (cX (.nd op ix args)))] rfl (.cons rfl rfl .nil) .nil (.cons rfl (.same rfl) (.cons rfl (.same rfl) (.cons rfl (.fptr rfl rfl) .nil))) ?_
 repeat (first | refine za6 ?_ | refine za0 rfl ?_ | refine za4 rfl ?_ | refine zbf rfl rfl ?_)
 refine zaw rfl rfl rfl (fun h => ?_) fun h => ?_
 ·repeat (first | refine za6 ?_ | refine za0 rfl ?_ | refine za3 ?_ | refine za2 ?_ | refine zbg rfl ?_ | refine zcv rfl rfl ?_ | refine za4 rfl ?_ | refine zaj rfl rfl ?_)
  refine zar rfl rfl ze6 (fun _ => rfl) ?_
  repeat (first | refine za3 ?_ | refine za2 ?_ | refine zah ?_ | refine za5 ?_ | refine za4 rfl ?_)
  exact zak ⟨.inr rfl, _, rfl, rfl⟩
 have h8 : l.length ≤ 8 := by
  have h : ¬ (((cXs l).length : Nat) : Int) > 8 := of_decide_eq_false h
  omega
 replace p25 := p25 h8
 repeat (first | refine zc2 rfl ?_ | refine za4 rfl ?_ | refine zbf rfl rfl ?_)
 refine zaw rfl rfl rfl (fun h => ?_) fun h => ?_
 ·repeat (first | refine za6 ?_ | refine za0 rfl ?_ | refine za3 ?_ | refine za2 ?_ | refine zbg rfl ?_ | refine zcv rfl rfl ?_ | refine za4 rfl ?_ | refine zaj rfl rfl ?_ | refine zac rfl rfl ?_)
  refine zar rfl rfl ze6 (fun _ => rfl) ?_
  repeat (first | refine za3 ?_ | refine za2 ?_ | refine zah ?_ | refine za5 ?_ | refine za4 rfl ?_)
  exact zak ⟨.inr rfl, _, rfl, rfl⟩
 have h9 : v.length ≤ 8 := by
  have h : ¬ (((v.map fun b => ([.bool b] : List AV)).length : Nat) : Int) > 8 := of_decide_eq_false h
  omega
 repeat (first | refine zc2 rfl ?_ | refine za4 rfl ?_ | refine zaa rfl rfl rfl rfl ?_ | refine zac rfl rfl ?_ | refine zbf rfl rfl ?_)
 refine zar rfl (by rw [hcl]; rfl) p11 (fun h => Bool.noConfusion (show false = true from h)) ?_
 cases hr : rgtX (.nd op ix args) (l.length : Nat) with
 | false =>
  repeat (first | refine za6 ?_ | refine za0 rfl ?_ | refine za3 ?_ | refine za2 ?_ | refine zbg rfl ?_ | refine zc2 rfl ?_ | refine zcv rfl rfl ?_ | refine za4 rfl ?_ | refine zaj rfl rfl ?_ | refine zac rfl rfl ?_ | refine zd2 rfl rfl ?_)
  refine zar rfl rfl ze6 (fun _ => rfl) ?_
  repeat (first | refine za3 ?_ | refine za2 ?_ | refine zah ?_ | refine za5 ?_ | refine za4 rfl ?_)
  exact zak ⟨.inr rfl, _, rfl, rfl⟩
 | true =>
 have hck : zbq (.nd op ix args) (l.length : Nat) = 0 := by
  unfold rgtX at hr
  exact of_decide_eq_true (Bool.and_eq_true_iff.1 hr).2
 repeat (first | refine zc2 rfl ?_ | refine za4 rfl ?_ | refine zac rfl rfl ?_ | refine zd2 rfl rfl ?_)
 refine zar rfl rfl q17 (fun h => Bool.noConfusion (show false = true from h)) ?_
 cases f2 with
 | false =>
  repeat (first | refine za6 ?_ | refine za0 rfl ?_ | refine za3 ?_ | refine za2 ?_ | refine zbg rfl ?_ | refine zc2 rfl ?_ | refine zac rfl rfl ?_ | refine zd2 rfl rfl ?_)
  refine zar rfl rfl ze6 (fun _ => rfl) ?_
  repeat (first | refine za3 ?_ | refine za2 ?_ | refine zah ?_ | refine za5 ?_ | refine za4 rfl ?_)
  exact zak ⟨.inr rfl, _, rfl, rfl⟩
 | true =>
 repeat (first | refine za6 ?_ | refine za0 rfl ?_ | refine za3 ?_ | refine za2 ?_ | refine zal ?_ | refine zae ?_ | refine zbl rfl ?_ | refine zc2 rfl ?_ | refine za4 rfl ?_ | refine zac rfl rfl ?_ | refine zd2 rfl rfl ?_ | refine zbf rfl rfl ?_)
 refine zce [] [] [(1, .vs (cXs l)), (2, vsB v), (3, .vptr (cX (.nd op ix args))), (7, .nils), (38, .vs (cXs l)), (39, .int .i64 ((cXs l).length : Nat)), (40, .int .i64 0)] rfl .nil .nil (.cons rfl (.same rfl) (.cons rfl (.same rfl) (.cons rfl (.same rfl) (.cons rfl (.same rfl) (.cons rfl (.same rfl) (.cons rfl (.same rfl) (.cons rfl (.same rfl) .nil))))))) ?_
 refine zd9 (fun mm S => ∃ i w hp nx ck, mm = l.length - i ∧ i ≤ l.length ∧ (∀ y ∈ l.take i, zbq y (v.length : Nat) = 0) ∧ Gb 0 ((l.take i).map (zck v)) w hp nx ∧ S = st 102 [(1, .vs (cXs l)), (2, vsB v), (3, .vptr (cX (.nd op ix args))), (7, w), (38, .vs (cXs l)), (39, .int .i64 ((cXs l).length : Nat)), (40, .int .i64 (i : Nat))] hp nx ck) l.length
  (zat (.cons rfl (.cons rfl (.cons rfl (.cons rfl (.cons rfl (.cons rfl (.cons rfl .nil)))))))) ⟨0, .nils, _, _, _, rfl, Nat.zero_le _, (fun y hy => absurd hy List.not_mem_nil), .inl ⟨rfl, rfl⟩, rfl⟩ ?_
 rintro mm S ⟨i, w, hp, nx, ck, rfl, hi, hall, hG, rfl⟩
 unfold b6_0
 repeat (first | refine za6 ?_ | refine za0 rfl ?_)
 refine zaw rfl rfl rfl (fun h3 => ?_) fun h3 => ?_
 ·have hlt : i < l.length := by
   have h4 : ((i : Nat) : Int) < (((cXs l).length : Nat) : Int) := of_decide_eq_true h3
   omega
  have w1 : IntKind.wrap .i64 (((i : Nat) : Int) + 1) = ((i + 1 : Nat) : Int) := zbo i (by omega)
  have hge := zcg hlt
  have q11 := q11 l[i] (List.getElem_mem hlt)
  have q18 := q18 l[i] (List.getElem_mem hlt)
  have hta : l.take (i + 1) = l.take i ++ [l[i]] := by rw [List.take_add_one, List.getElem?_eq_getElem hlt]; rfl
  unfold ztr at q18
  generalize l[i] = y at *
  have hyr : rgtX y (v.length : Nat) = true → zbq y (v.length : Nat) = 0 := fun h => by
   unfold rgtX at h
   exact of_decide_eq_true (Bool.and_eq_true_iff.1 h).2
  generalize rgtX y (v.length : Nat) = ry at *
  have hql : ((l.take i).map (zck v)).length ≤ 1000000 := by rw [List.length_map, List.length_take]; omega
  obtain ⟨yo, yi, ya⟩ := y
  repeat (first | refine za6 ?_ | refine za0 rfl ?_ | refine za3 ?_ | refine za2 ?_ | refine zal ?_ | refine zae ?_ | refine zbg rfl ?_ | refine zaa rfl rfl rfl rfl ?_ | refine zam ?_ | refine zb4 rfl rfl (by omega) (by assumption) rfl ?_)
  refine za8 (id := nx) (sp := ck) (off := 0) rfl rfl rfl rfl zbs rfl rfl ?_
  refine za3 (za2 ?_)
  refine zg0 nx ck (cs := cX (.nd yo yi ya)) (l' := [(9, .vptr (cX (.nd yo yi ya))), (1, .vs (cXs l)), (2, vsB v), (3, .vptr (cX (.nd op ix args))), (7, w), (38, .vs (cXs l)), (39, .int .i64 ((cXs l).length : Nat)), (40, .int .i64 (i : Nat))]) (by rw [za1, if_pos rfl]; rfl) rfl (.cons rfl (.fptr rfl) (.cons rfl .same (.cons rfl .same (.cons rfl .same (.cons rfl .same (.cons rfl .same (.cons rfl .same (.cons rfl .same .nil)))))))) ?_
  have hG2 := hG.box ck (.cells [.int .i64 0, .int .i64 0, .nils]) (ck, .cells (setAt 0 [.int .i64 0, .int .i64 0, .nils] (List.take 3 (cX (.nd yo yi ya)))))
  generalize zc1 nx (zc3 nx (ck, AObj.cells (setAt 0 [.int .i64 0, .int .i64 0, .nils] (List.take 3 (cX (.nd yo yi ya))))) ((nx, ck, AObj.cells [.int .i64 0, .int .i64 0, .nils]) :: hp)) = hp2 at *
  repeat (first | refine za6 ?_ | refine za0 rfl ?_ | refine za4 rfl ?_ | refine zaa rfl rfl rfl rfl ?_ | refine zbf rfl rfl ?_)
  refine zar rfl (by rw [hvl]; rfl) q11 (fun h => Bool.noConfusion (show false = true from h)) ?_
  cases ry with
  | false =>
   repeat (first | refine za6 ?_ | refine za0 rfl ?_ | refine za3 ?_ | refine za2 ?_ | refine zbg rfl ?_ | refine zd2 rfl rfl ?_)
   refine zar rfl rfl ze6 (fun _ => rfl) ?_
   repeat (first | refine za3 ?_ | refine za2 ?_ | refine zah ?_ | refine za5 ?_ | refine zad ?_ | refine za4 rfl ?_)
   exact zak ⟨.inr rfl, _, rfl, rfl⟩
  | true =>
  have hyc := hyr rfl
  rw [if_pos hyc] at q18
  have hsn : (l.take (i + 1)).map (zck v) = (l.take i).map (zck v) ++ [zck v (.nd yo yi ya)] := by rw [hta, List.map_append]; rfl
  have hall2 : ∀ y ∈ l.take (i + 1), zbq y (v.length : Nat) = 0 := fun y hy => by
   rw [hta] at hy
   rcases List.mem_append.1 hy with hy | hy
   ·exact hall y hy
   ·obtain rfl := List.mem_singleton.1 hy
    exact hyc
  generalize zck v (.nd yo yi ya) = hb at *
  repeat (first | refine za6 ?_ | refine za0 rfl ?_ | refine za3 ?_ | refine za2 ?_ | refine zae ?_ | refine zbl rfl ?_ | refine za4 rfl ?_ | refine zaa rfl rfl rfl rfl ?_ | refine zd2 rfl rfl ?_)
  refine zar rfl rfl q18 (fun h => Bool.noConfusion (show false = true from h)) ?_
  repeat (first | refine za6 ?_ | refine za0 rfl ?_ | refine za3 ?_ | refine za2 ?_ | refine zae ?_ | refine zbl rfl ?_ | refine za4 rfl ?_ | refine zav rfl rfl ?_ | refine zas rfl rfl ?_ | refine zb5 rfl rfl rfl ?_)
  refine o_bapp (x0 := hb) (fun _ => rfl) (hG2.fresh _ (.cells [.bool hb])) (Nat.zero_le _) hql rfl rfl zbs (by decide) fun w' hp' nx' ck' hG' _ => ?_
  repeat (first | refine za0 rfl ?_ | refine za3 ?_ | refine za2 ?_ | refine zbk ?_ | refine za4 rfl ?_ | refine zaz (op := .add) rfl rfl rfl ?_)
  rw [w1]
  exact zbz (show l.length - (i + 1) < l.length - i by omega) (zat (.cons rfl (.cons rfl (.cons rfl (.cons rfl (.cons rfl (.cons rfl (.cons rfl .nil)))))))) ⟨i + 1, w', _, _, _, rfl, hlt, hall2, by rw [hsn]; exact hG', rfl⟩
 ·have hie : i = l.length := by
   have h4 : ¬ ((i : Nat) : Int) < (((cXs l).length : Nat) : Int) := of_decide_eq_false h3
   omega
  subst hie
  rw [List.take_length] at hall hG
  repeat (first | refine za6 ?_ | refine za3 ?_ | refine za2 ?_ | refine zbl rfl ?_ | refine zb8 ?_ | refine zaf ?_)
  refine zdq ?_
  repeat (first | refine za6 ?_ | refine za0 rfl ?_ | refine za2 ?_ | refine zb7 ?_ | refine za4 rfl ?_ | refine zaa rfl rfl rfl rfl ?_ | refine zbf rfl rfl ?_)
  have hsub : subV (.nd op ix args) l (v.length : Nat) = if zcj (zeo l (.nd op ix args)) = true then .tup [.agg (cX (zeo l (.nd op ix args))), .int .i64 0] else .tup [.agg (cX (.nd 0 0 [])), .int .i64 5] := by
   unfold subV
   rw [if_neg (fun k => k hck), if_neg (fun k => k (zn2 hall))]
  rw [hsub] at p25
  have hnd := zfl hck
  have hput : nds (v.length : Nat) (zeo l (.nd op ix args)) = 0 := put_rgt (fun y hy => zfl (hall y hy)) _ _ (Nat.le_refl _) hnd
  have hph := put_hold v _ _ (Nat.le_refl _) hnd
  have hml : (l.map (zck v)).length = l.length := List.length_map ..
  unfold ztr at p18 r18
  rw [hml, if_pos hck, ← hph] at p18
  have hchk : zcj (zeo l (.nd op ix args)) = true → zbq (zeo l (.nd op ix args)) (v.length : Nat) = 0 := fun h => by
   unfold zbq
   rw [if_neg (by omega), if_pos h]
   exact hput
  replace r18 : zcj (zeo l (.nd op ix args)) = true → PF Try.prog 18 [.agg (cX (zeo l (.nd op ix args))), vsB v] (.tup [.bool (zck v (zeo l (.nd op ix args))), .int .i64 0]) := fun h => by
   have := r18 h
   rw [if_pos (hchk h)] at this
   exact this
  clear hsub hput hph hchk
  generalize l.map (zck v) = inn at *
  generalize zck v (zeo l (.nd op ix args)) = hb at *
  generalize zeo l (.nd op ix args) = R at *
  generalize zcj R = li at *
  cases li with
  | false =>
   rw [if_neg Bool.false_ne_true] at p25
   refine zar rfl (by rw [hvl]; rfl) p25 (fun h => Bool.noConfusion (show false = true from h)) ?_
   repeat (first | refine za4 rfl ?_ | refine zam ?_ | refine zas rfl rfl ?_)
   refine za8 (id := nx) (sp := ck) (off := 0) rfl rfl rfl rfl zbs rfl rfl ?_
   repeat (first | refine za6 ?_ | refine za0 rfl ?_ | refine za3 ?_ | refine za2 ?_ | refine zbg rfl ?_ | refine zc2 rfl ?_ | refine za4 rfl ?_ | refine zbe rfl rfl rfl ?_)
   refine zar rfl rfl ze6 (fun _ => rfl) ?_
   repeat (first | refine za3 ?_ | refine za2 ?_ | refine zah ?_ | refine za5 ?_ | refine za4 rfl ?_ | refine zaj rfl rfl ?_)
   exact zak ⟨.inr rfl, _, rfl, rfl⟩
  | true =>
   rw [if_pos rfl] at p25
   have r18 := r18 rfl
   obtain ⟨ro, ri, ra⟩ := R
   refine zar rfl (by rw [hvl]; rfl) p25 (fun h => Bool.noConfusion (show false = true from h)) ?_
   repeat (first | refine za4 rfl ?_ | refine zam ?_ | refine zas rfl rfl ?_)
   refine za8 (id := nx) (sp := ck) (off := 0) rfl rfl rfl rfl zbs rfl rfl ?_
   refine za4 rfl (za3 (za2 ?_))
   refine zg0 nx ck (cs := cX (.nd ro ri ra)) (l' := [(12, .vptr (cX (.nd ro ri ra))), (13, .int .i64 0), (1, .vs (cXs l)), (2, vsB v), (3, .vptr (cX (.nd op ix args))), (7, w)]) (by rw [za1, if_pos rfl]; rfl) rfl (.cons rfl (.fptr rfl) (.cons rfl .same (.cons rfl .same (.cons rfl .same (.cons rfl .same (.cons rfl .same .nil)))))) ?_
   have hG2 := hG.box ck (.cells [.int .i64 0, .int .i64 0, .nils]) (ck, .cells (setAt 0 [.int .i64 0, .int .i64 0, .nils] (cX (.nd ro ri ra))))
   generalize zc1 nx (zc3 nx (ck, AObj.cells (setAt 0 [.int .i64 0, .int .i64 0, .nils] (cX (.nd ro ri ra)))) ((nx, ck, AObj.cells [.int .i64 0, .int .i64 0, .nils]) :: hp)) = hp2 at *
   repeat (first | refine za6 ?_ | refine za0 rfl ?_ | refine za3 ?_ | refine za2 ?_ | refine zae ?_ | refine zbl rfl ?_ | refine za4 rfl ?_ | refine zaa rfl rfl rfl rfl ?_ | refine zb5 rfl rfl rfl ?_)
   refine zar rfl (zjq rfl (hG2.view (d := 6))) p18 (fun _ => rfl) ?_
   repeat (first | refine za6 ?_ | refine za0 rfl ?_ | refine za3 ?_ | refine za2 ?_ | refine za4 rfl ?_ | refine zaa rfl rfl rfl rfl ?_ | refine zas rfl rfl ?_)
   refine zar rfl rfl r18 (fun h => Bool.noConfusion (show false = true from h)) ?_
   repeat (first | refine za6 ?_ | refine za0 rfl ?_ | refine za3 ?_ | refine za2 ?_ | refine zc2 rfl ?_ | refine za4 rfl ?_ | refine zas rfl rfl ?_ | refine zaz (op := .add) rfl rfl rfl ?_ | refine zbe rfl rfl rfl ?_)
   refine zew (v := .bool true) (by show some (AV.bool (hb == hb), _) = _; rw [beq_self_eq_true]) ?_
   repeat (first | refine zc2 rfl ?_ | refine za4 rfl ?_ | refine zaj rfl rfl ?_)
   refine zar rfl rfl ze6 (fun _ => rfl) ?_
   repeat (first | refine za3 ?_ | refine za2 ?_ | refine zah ?_ | refine za4 rfl ?_ | refine zaj rfl rfl ?_)
   exact zak ⟨.inr rfl, _, rfl, rfl⟩
end Go.Proofs.Ytmnkjofaodbokaa
