/-
  SORTING SHORT LISTS: slices.Sort of at most twelve numbers.
-/
import Derived.Test.YtknomkcdpcnmaaaEVL
namespace Go.Proofs.Ytknomkcdpcnmaaa
open Go Go.Am
def b65_0 : IC := .block 1 (.seq (.region [⟨(some 19), .mov (.t 2), none⟩,
  ⟨(some 20), .mov (.t 1), none⟩,
  ⟨(some 21), .bin .sub (.t 19) (.t 20), none⟩,
  ⟨(some 10), .mov (.t 21), none⟩] none)
 (.seq (.seq (.region [⟨(some 22), .mov (.t 10), none⟩,
  ⟨(some 23), .bin .leq (.t 22) (.c (.int .i64 12)), none⟩] none)
 (.cond (.t 23) (.seq (.region [⟨(some 24), .mov (.t 0), none⟩,
  ⟨(some 25), .mov (.t 1), none⟩,
  ⟨(some 26), .mov (.t 2), none⟩,
  ⟨(some 27), .call (.c (.fn 70 [] [])) [(.t 24), (.t 25), (.t 26)], none⟩] none)
 (.ret))
 (.skip)))
 (.seq (.seq (.region [⟨(some 28), .mov (.t 3), none⟩,
  ⟨(some 29), .bin .eql (.t 28) (.c (.int .i64 0)), none⟩] none)
 (.cond (.t 29) (.seq (.region [⟨(some 30), .mov (.t 0), none⟩,
  ⟨(some 31), .mov (.t 1), none⟩,
  ⟨(some 32), .mov (.t 2), none⟩,
  ⟨(some 33), .call (.c (.fn 71 [] [])) [(.t 30), (.t 31), (.t 32)], none⟩] none)
 (.ret))
 (.skip)))
 (.seq (.seq (.region [⟨(some 34), .mov (.t 8), none⟩,
  ⟨(some 35), .un .not (.t 34), none⟩] none)
 (.cond (.t 35) (.seq (.region [⟨(some 36), .mov (.t 0), none⟩,
  ⟨(some 37), .mov (.t 1), none⟩,
  ⟨(some 38), .mov (.t 2), none⟩,
  ⟨(some 39), .call (.c (.fn 72 [] [])) [(.t 36), (.t 37), (.t 38)], none⟩] none)
 (.region [⟨(some 40), .mov (.t 3), none⟩,
  ⟨(some 41), .bin .sub (.t 40) (.c (.int .i64 1)), none⟩,
  ⟨(some 3), .mov (.t 41), none⟩] none))
 (.skip)))
 (.seq (.region [⟨(some 43), .mov (.t 0), none⟩,
  ⟨(some 44), .mov (.t 1), none⟩,
  ⟨(some 45), .mov (.t 2), none⟩,
  ⟨(some 46), .call (.c (.fn 73 [] [])) [(.t 43), (.t 44), (.t 45)], none⟩,
  ⟨(some 42), .mov (.t 46), none⟩,
  ⟨(some 47), .extract (.t 42) 0, none⟩,
  ⟨(some 48), .extract (.t 42) 1, none⟩,
  ⟨(some 11), .mov (.t 47), none⟩,
  ⟨(some 12), .mov (.t 48), none⟩] none)
 (.seq (.seq (.region [⟨(some 49), .mov (.t 12), none⟩,
  ⟨(some 50), .bin .eql (.t 49) (.c (.int .i64 2)), none⟩] none)
 (.cond (.t 50) (.seq (.region [⟨(some 51), .mov (.t 0), none⟩,
  ⟨(some 52), .mov (.t 1), none⟩,
  ⟨(some 53), .mov (.t 2), none⟩,
  ⟨(some 54), .call (.c (.fn 74 [] [])) [(.t 51), (.t 52), (.t 53)], none⟩] none)
 (.seq (.region [⟨(some 55), .mov (.t 2), none⟩,
  ⟨(some 56), .bin .sub (.t 55) (.c (.int .i64 1)), none⟩,
  ⟨(some 57), .mov (.t 11), none⟩,
  ⟨(some 58), .mov (.t 1), none⟩,
  ⟨(some 59), .bin .sub (.t 57) (.t 58), none⟩,
  ⟨(some 60), .bin .sub (.t 56) (.t 59), none⟩,
  ⟨(some 11), .mov (.t 60), none⟩] none)
 (.region [⟨(some 12), .mov (.c (.int .i64 1)), none⟩] none)))
 (.skip)))
 (.seq (.seq (.region [⟨(some 61), .mov (.t 8), none⟩,
  ⟨(some 62), .mov (.t 61), none⟩,
  ⟨(some 63), .mov (.t 9), some (62, true)⟩,
  ⟨(some 64), .pick (.t 62) (.t 63) (.c (.bool false)), none⟩,
  ⟨(some 65), .mov (.t 64), none⟩,
  ⟨(some 66), .mov (.t 12), some (65, true)⟩,
  ⟨(some 67), .bin .eql (.t 66) (.c (.int .i64 1)), some (65, true)⟩,
  ⟨(some 68), .pick (.t 65) (.t 67) (.c (.bool false)), none⟩] none)
 (.cond (.t 68) (.seq (.region [⟨(some 69), .mov (.t 0), none⟩,
  ⟨(some 70), .mov (.t 1), none⟩,
  ⟨(some 71), .mov (.t 2), none⟩,
  ⟨(some 72), .call (.c (.fn 75 [] [])) [(.t 69), (.t 70), (.t 71)], none⟩] none)
 (.cond (.t 72) (.ret)
 (.skip)))
 (.skip)))
 (.seq (.seq (.region [⟨(some 73), .mov (.t 1), none⟩,
  ⟨(some 74), .bin .gtr (.t 73) (.c (.int .i64 0)), none⟩,
  ⟨(some 75), .mov (.t 74), none⟩,
  ⟨(some 76), .mov (.t 0), some (75, true)⟩,
  ⟨(some 77), .mov (.t 1), some (75, true)⟩,
  ⟨(some 78), .bin .sub (.t 77) (.c (.int .i64 1)), some (75, true)⟩,
  ⟨(some 79), .idxs 1 (.t 76) (.t 78), some (75, true)⟩,
  ⟨(some 80), .load none (.t 79), some (75, true)⟩,
  ⟨(some 81), .mov (.t 0), some (75, true)⟩,
  ⟨(some 82), .mov (.t 11), some (75, true)⟩,
  ⟨(some 83), .idxs 1 (.t 81) (.t 82), some (75, true)⟩,
  ⟨(some 84), .load none (.t 83), some (75, true)⟩,
  ⟨(some 85), .call (.c (.fn 76 [] [])) [(.t 80), (.t 84)], some (75, true)⟩,
  ⟨(some 86), .un .not (.t 85), some (75, true)⟩,
  ⟨(some 87), .pick (.t 75) (.t 86) (.c (.bool false)), none⟩] (some [[], [0], [1], [2], [2], [4, 2], [3, 5, 2], [6, 2], [2], [2], [8, 9, 2], [10, 2], [7, 11, 2, 2], [12, 2], [2, 13]]))
 (.cond (.t 87) (.seq (.region [⟨(some 88), .mov (.t 0), none⟩,
  ⟨(some 89), .mov (.t 1), none⟩,
  ⟨(some 90), .mov (.t 2), none⟩,
  ⟨(some 91), .mov (.t 11), none⟩,
  ⟨(some 92), .call (.c (.fn 77 [] [])) [(.t 88), (.t 89), (.t 90), (.t 91)], none⟩,
  ⟨(some 13), .mov (.t 92), none⟩] none)
 (.seq (.region [⟨(some 93), .mov (.t 13), none⟩,
  ⟨(some 1), .mov (.t 93), none⟩] none)
 (.exit 1)))
 (.skip)))
 (.seq (.region [⟨(some 95), .mov (.t 0), none⟩,
  ⟨(some 96), .mov (.t 1), none⟩,
  ⟨(some 97), .mov (.t 2), none⟩,
  ⟨(some 98), .mov (.t 11), none⟩,
  ⟨(some 99), .call (.c (.fn 78 [] [])) [(.t 95), (.t 96), (.t 97), (.t 98)], none⟩,
  ⟨(some 94), .mov (.t 99), none⟩,
  ⟨(some 100), .extract (.t 94) 0, none⟩,
  ⟨(some 101), .extract (.t 94) 1, none⟩,
  ⟨(some 14), .mov (.t 100), none⟩,
  ⟨(some 15), .mov (.t 101), none⟩] none)
 (.seq (.region [⟨(some 102), .mov (.t 15), none⟩,
  ⟨(some 9), .mov (.t 102), none⟩] none)
 (.seq (.region [⟨(some 103), .mov (.t 14), none⟩,
  ⟨(some 104), .mov (.t 1), none⟩,
  ⟨(some 105), .bin .sub (.t 103) (.t 104), none⟩,
  ⟨(some 106), .mov (.t 2), none⟩,
  ⟨(some 107), .mov (.t 14), none⟩,
  ⟨(some 108), .bin .sub (.t 106) (.t 107), none⟩,
  ⟨(some 16), .mov (.t 105), none⟩,
  ⟨(some 17), .mov (.t 108), none⟩] none)
 (.seq (.region [⟨(some 109), .mov (.t 10), none⟩,
  ⟨(some 110), .bin .quo (.t 109) (.c (.int .i64 8)), none⟩,
  ⟨(some 18), .mov (.t 110), none⟩] none)
 (.seq (.region [⟨(some 111), .mov (.t 16), none⟩,
  ⟨(some 112), .mov (.t 17), none⟩,
  ⟨(some 113), .bin .lss (.t 111) (.t 112), none⟩] none)
 (.cond (.t 113) (.seq (.region [⟨(some 114), .mov (.t 16), none⟩,
  ⟨(some 115), .mov (.t 18), none⟩,
  ⟨(some 116), .bin .geq (.t 114) (.t 115), none⟩,
  ⟨(some 8), .mov (.t 116), none⟩] none)
 (.seq (.region [⟨(some 117), .mov (.t 0), none⟩,
  ⟨(some 118), .mov (.t 1), none⟩,
  ⟨(some 119), .mov (.t 14), none⟩,
  ⟨(some 120), .mov (.t 3), none⟩,
  ⟨(some 121), .call (.c (.fn 65 [] [])) [(.t 117), (.t 118), (.t 119), (.t 120)], none⟩] none)
 (.region [⟨(some 122), .mov (.t 14), none⟩,
  ⟨(some 123), .bin .add (.t 122) (.c (.int .i64 1)), none⟩,
  ⟨(some 1), .mov (.t 123), none⟩] none)))
 (.seq (.region [⟨(some 124), .mov (.t 17), none⟩,
  ⟨(some 125), .mov (.t 18), none⟩,
  ⟨(some 126), .bin .geq (.t 124) (.t 125), none⟩,
  ⟨(some 8), .mov (.t 126), none⟩] none)
 (.seq (.region [⟨(some 127), .mov (.t 0), none⟩,
  ⟨(some 128), .mov (.t 14), none⟩,
  ⟨(some 129), .bin .add (.t 128) (.c (.int .i64 1)), none⟩,
  ⟨(some 130), .mov (.t 2), none⟩,
  ⟨(some 131), .mov (.t 3), none⟩,
  ⟨(some 132), .call (.c (.fn 65 [] [])) [(.t 127), (.t 129), (.t 130), (.t 131)], none⟩] none)
 (.region [⟨(some 133), .mov (.t 14), none⟩,
  ⟨(some 2), .mov (.t 133), none⟩] none)))))))))))))))))
-- slices.pdqsortOrdered[int]
def ic65 : IC := .seq (.region [⟨(some 8), .mov (.c (.bool true)), none⟩] none)
 (.seq (.region [⟨(some 9), .mov (.c (.bool true)), none⟩] none)
 (.block 0 (.loop b65_0)))
theorem fn65 : env0.fn 65 = some ⟨134, ic65, []⟩ := by kernel_rfl
-- math/bits.Len
-- slices.Sort[[]int,int]
def ic53 : IC := .seq (.region [⟨(some 3), .mov (.t 0), none⟩,
  ⟨(some 4), .len false (.t 3), none⟩,
  ⟨(some 2), .mov (.t 4), none⟩] none)
 (.region [⟨(some 5), .mov (.t 0), none⟩,
  ⟨(some 6), .mov (.t 2), none⟩,
  ⟨(some 7), .mov (.t 2), none⟩,
  ⟨(some 8), .conv .u64 (.t 7), none⟩,
  ⟨(some 9), .call (.c (.fn 66 [] [])) [(.t 8)], none⟩,
  ⟨(some 10), .call (.c (.fn 65 [] [])) [(.t 5), (.c (.int .i64 0)), (.t 6), (.t 9)], none⟩] none)
theorem fn53 : env0.fn 53 = some ⟨11, ic53, []⟩ := by kernel_rfl
theorem zq6 (l : List Int) (j : Nat) (v : Int) : (l.map (AV.int .i64)).set j (.int .i64 v) = (l.set j v).map (AV.int .i64) := by
 rw [List.map_set]
theorem zuh (l : List Int) (i : Nat) : insF l i 0 = l := rfl
theorem insF_go {l : List Int} {i m : Nat} (h : i < m) : insF l i (m - i) = insF (bub i l) (i + 1) (m - (i + 1)) := by
 rw [show m - i = (m - (i + 1)) + 1 by omega, insF]
set_option maxHeartbeats 4000000 in
theorem ins70 {w0 : World} {N0 id sp m : Nat} {cap : Option Nat} (l : List Int) (hm : l.length = m) (h12 : m ≤ 12) (H : HS) (hl : Am.look id H.heap = some (sp, .cells (l.map (AV.int .i64)))) (hid : id < H.next) :
  FT Try.prog w0 N0 70 [.ms id sp 1 0 m cap, .int .i64 0, .int .i64 (m : Nat)] H fun _ H' => Keep (fun j => j = id) H H' ∧ Am.look id H'.heap = some (sp, .cells ((zp3 l).map (AV.int .i64))) := by
 refine zcs env0_ok fn70 [(0, .ms id sp 1 0 m cap), (1, .int .i64 0), (2, .int .i64 (m : Nat))] (by show 3 ≤ 49; decide) rfl ?_
 unfold ic70
 repeat (first | refine za6 ?_ | refine za0 rfl ?_ | refine za3 ?_ | refine za4 ?_ | refine zai ?_ | refine za1 rfl ?_ | refine zac (op := .add) rfl rfl rfl ?_)
 refine zcr (fun mm S => ∃ i l' H', mm = 13 - i ∧ 1 ≤ i ∧ (i ≤ m ∨ i = 1) ∧ l'.length = m ∧ zp3 l = insF l' i (m - i) ∧ Keep (fun j => j = id) H H' ∧ Am.look id H'.heap = some (sp, .cells (l'.map (AV.int .i64))) ∧
   S = st 49 [(0, .ms id sp 1 0 m cap), (1, .int .i64 0), (2, .int .i64 (m : Nat)), (6, .int .i64 (i : Nat))] H'.heap H'.next H'.clk) 12
  (zaa (.cons rfl (.cons rfl (.cons rfl (.cons rfl .nil))))) ⟨1, l, H, rfl, Nat.le_refl _, .inr rfl, hm, by unfold zp3; rw [hm], .refl _ _, hl, rfl⟩ ?_
 rintro mm S ⟨i, l', H', rfl, hi1, him, hlen, hall, hK, hl', rfl⟩
 have hid' : id < H'.next := Nat.lt_of_lt_of_le hid hK.next
 unfold b70_0
 repeat (first | refine za6 ?_ | refine za0 rfl ?_ | refine za1 rfl ?_)
 refine zax rfl rfl rfl (fun h3 => ?_) fun h3 => ?_
 ·have hlt : i < m := Int.ofNat_lt.1 (of_decide_eq_true h3)
  rw [insF_go hlt] at hall
  repeat (first | refine za6 ?_ | refine za0 rfl ?_ | refine za3 ?_ | refine za4 ?_ | refine zai ?_ | refine zad ?_ | refine zc1 rfl ?_ | refine za1 rfl ?_)
  refine zcr (fun mm S => ∃ j l2 H2, mm = j + 1 ∧ j ≤ i ∧ l2.length = m ∧ bub i l' = bub j l2 ∧ Keep (fun j => j = id) H H2 ∧ Am.look id H2.heap = some (sp, .cells (l2.map (AV.int .i64))) ∧
    S = st 49 [(0, .ms id sp 1 0 m cap), (1, .int .i64 0), (2, .int .i64 (m : Nat)), (6, .int .i64 (i : Nat)), (7, .int .i64 (j : Nat))] H2.heap H2.next H2.clk) (i + 1)
   (zaa (.cons rfl (.cons rfl (.cons rfl (.cons rfl (.cons rfl .nil)))))) ⟨i, l', H', rfl, Nat.le_refl _, hlen, rfl, hK, hl', rfl⟩ ?_
  rintro mm S ⟨j, l2, H2, rfl, hj, hlen2, hbub, hK2, hl2, rfl⟩
  have hid2 : id < H2.next := Nat.lt_of_lt_of_le hid hK2.next
  have w1 : IntKind.wrap .i64 (((i : Nat) : Int) + 1) = ((i + 1 : Nat) : Int) := zb0 i (by omega)
  unfold b70_2
  repeat (first | refine za6 ?_)
  cases j with
  | zero =>
   refine zjt env0_ok [] (fun _ hx => absurd hx List.not_mem_nil) (fun f => Nat.beq f 76) rfl rfl rfl ?_
   repeat (first | refine za3 ?_ | refine za4 ?_ | refine zbt rfl ?_ | refine zbc ?_ | refine zaf ?_ | refine zh8 rfl rfl ?_ | refine za1 rfl ?_ | refine zam rfl rfl ?_ | refine zb5 rfl rfl rfl ?_)
   refine ze6 ?_
   repeat (first | refine za0 rfl ?_ | refine za3 ?_ | refine za4 ?_ | refine zbj ?_ | refine zbb ?_ | refine za1 rfl ?_ | refine zac (op := .add) rfl rfl rfl ?_)
   rw [w1]
   exact zb4 (show 13 - (i + 1) < 13 - i by omega) (zaa (.cons rfl (.cons rfl (.cons rfl (.cons rfl .nil))))) ⟨i + 1, l2, H2, rfl, by omega, .inl (by omega), hlen2, by rw [hall, hbub]; rfl, hK2, hl2, rfl⟩
  | succ j =>
   have w2 : IntKind.wrap .i64 (((j + 1 : Nat) : Int) - 1) = ((j : Nat) : Int) := by rw [zdp _ (by omega) (by omega)]; omega
   have pl := less76 (l2.getD (j + 1) 0) (l2.getD j 0)
   refine zjt env0_ok [(76, [.int .i64 (l2.getD (j + 1) 0), .int .i64 (l2.getD j 0)], .bool (decide (l2.getD (j + 1) 0 < l2.getD j 0)))] (fun x hx => by obtain rfl := List.mem_singleton.1 hx; exact pl) (fun f => Nat.beq f 76) rfl rfl rfl ?_
   repeat (first | refine za1 rfl ?_)
   refine zbr rfl rfl (by show some (AV.bool (decide (((j + 1 : Nat) : Int) > 0))) = _; rw [decide_eq_true (by omega)]) ?_
   repeat (first | refine zcp rfl ?_ | refine za1 rfl ?_)
   refine zbv rfl rfl (Int.natCast_nonneg _) (by omega) (zcp rfl (zjc rfl hl2 hid2 (by rw [Nat.zero_add, Int.toNat_natCast, Nat.mul_one]; exact zln (by omega)) ?_))
   repeat (first | refine zcp rfl ?_ | refine za1 rfl ?_ | refine zac (op := .sub) rfl rfl rfl ?_)
   rw [w2]
   refine zbv rfl rfl (Int.natCast_nonneg _) (by omega) (zcp rfl (zjc rfl hl2 hid2 (by rw [Nat.zero_add, Int.toNat_natCast, Nat.mul_one]; exact zln (by omega)) (zcp rfl ?_)))
   refine zay rfl rfl zfm (fun h => Bool.noConfusion (show false = true from h)) ?_
   by_cases hlt2 : l2.getD (j + 1) 0 < l2.getD j 0
   ·rw [decide_eq_true hlt2]
    have hb : bub (j + 1) l2 = bub j ((l2.set (j + 1) (l2.getD j 0)).set j (l2.getD (j + 1) 0)) := by rw [bub, if_pos hlt2]
    repeat (first | refine za6 ?_ | refine za3 ?_ | refine za4 ?_ | refine zai ?_ | refine zad ?_ | refine zc1 rfl ?_ | refine za1 rfl ?_ | refine zan rfl rfl ?_ | refine zcm env0_ok rfl rfl rfl ?_ | refine zac (op := .sub) rfl rfl rfl ?_)
    rw [w2]
    refine zbv rfl rfl (Int.natCast_nonneg _) (by omega) (zjc rfl hl2 hid2 (by rw [Nat.zero_add, Int.toNat_natCast, Nat.mul_one]; exact zln (by omega)) ?_)
    repeat (first | refine za1 rfl ?_)
    refine zbv rfl rfl (Int.natCast_nonneg _) (by omega) (zjc rfl hl2 hid2 (by rw [Nat.zero_add, Int.toNat_natCast, Nat.mul_one]; exact zln (by omega)) ?_)
    refine zbv rfl rfl (Int.natCast_nonneg _) (by omega) (zlv rfl rfl rfl hl2 (by rw [List.length_map, Nat.zero_add, Int.toNat_natCast, Nat.mul_one]; omega) rfl ?_)
    refine zbv rfl rfl (Int.natCast_nonneg _) (by omega) (zlv rfl rfl rfl (by rw [za5, if_pos rfl]) (by rw [List.length_set, List.length_map, Nat.zero_add, Int.toNat_natCast, Nat.mul_one]; omega) rfl ?_)
    rw [Nat.zero_add, Nat.zero_add, Int.toNat_natCast, Int.toNat_natCast, Nat.mul_one, Nat.mul_one, zq6, zq6]
    repeat (first | refine za0 rfl ?_ | refine za3 ?_ | refine za4 ?_ | refine zbj ?_ | refine za1 rfl ?_ | refine zac (op := .sub) rfl rfl rfl ?_)
    rw [w2]
    refine zb4 (show j + 1 < j + 1 + 1 by omega) (zaa (.cons rfl (.cons rfl (.cons rfl (.cons rfl (.cons rfl .nil)))))) ⟨j, (l2.set (j + 1) (l2.getD j 0)).set j (l2.getD (j + 1) 0), ⟨zaz id (sp, .cells (((l2.set (j + 1) (l2.getD j 0)).set j (l2.getD (j + 1) 0)).map (AV.int .i64))) (zaz id (sp, .cells ((l2.set (j + 1) (l2.getD j 0)).map (AV.int .i64))) H2.heap), H2.next, H2.clk⟩, rfl, by omega, by rw [List.length_set, List.length_set]; exact hlen2, hbub.trans hb, ⟨hK2.next, hK2.clk, fun q hq hq2 => ?_⟩, ?_, rfl⟩
    ·show Am.look q (zaz id _ (zaz id _ H2.heap)) = _
     rw [za5, if_neg fun e => hq e.symm, za5, if_neg fun e => hq e.symm]
     exact hK2.look q hq hq2
    ·show Am.look id (zaz id _ _) = _
     rw [za5, if_pos rfl]
   ·rw [decide_eq_false hlt2]
    have hb : bub (j + 1) l2 = l2 := by rw [bub, if_neg hlt2]
    repeat (first | refine za3 ?_ | refine za4 ?_ | refine zbt rfl ?_ | refine zbc ?_ | refine zaf ?_ | refine zan rfl rfl ?_)
    refine ze6 ?_
    repeat (first | refine za0 rfl ?_ | refine za3 ?_ | refine za4 ?_ | refine zbj ?_ | refine zbb ?_ | refine za1 rfl ?_ | refine zac (op := .add) rfl rfl rfl ?_)
    rw [w1]
    exact zb4 (show 13 - (i + 1) < 13 - i by omega) (zaa (.cons rfl (.cons rfl (.cons rfl (.cons rfl .nil))))) ⟨i + 1, l2, H2, rfl, by omega, .inl (by omega), hlen2, by rw [hall, hbub, hb], hK2, hl2, rfl⟩
 ·have hge : ¬ i < m := fun h => of_decide_eq_false h3 (Int.ofNat_lt.2 h)
  rw [show m - i = 0 by omega, zuh] at hall
  repeat (first | refine za3 ?_ | refine za4 ?_ | refine zbt rfl ?_ | refine zbc ?_ | refine zaf ?_)
  refine ze6 ?_
  repeat (first | refine zbb ?_)
  exact zal ⟨.inl rfl, _, rfl, hK, by rw [hall]; exact hl'⟩
-- math/bits.Len64
def tabLen : Tab := [(66, (List.range 13).map fun k => ([.int .u64 (k : Nat)], .int .i64 ((if k = 0 then 0 else Nat.log2 k + 1 : Nat) : Int)))]
theorem zw2 : TabOk Try.prog tabLen := TabOk.of_run (env0_ok.tab TabOk.nil (pure := [])) (n := 60) (by kernel_rfl)
theorem len66 {k : Nat} (h : k ≤ 12) : ∃ v, PF Try.prog 66 [.int .u64 (k : Nat)] (.int .i64 v) :=
 ⟨_, zw2 (66, _) (List.mem_singleton.2 rfl) _ (List.mem_map.2 ⟨k, List.mem_range.2 (by omega), rfl⟩)⟩
theorem pdq65 {w0 : World} {N0 id sp m : Nat} {cap : Option Nat} (v : Int) (l : List Int) (hm : l.length = m) (h12 : m ≤ 12) (H : HS) (hl : Am.look id H.heap = some (sp, .cells (l.map (AV.int .i64)))) (hid : id < H.next) :
  FT Try.prog w0 N0 65 [.ms id sp 1 0 m cap, .int .i64 0, .int .i64 (m : Nat), .int .i64 v] H fun _ H' => Keep (fun j => j = id) H H' ∧ Am.look id H'.heap = some (sp, .cells ((zp3 l).map (AV.int .i64))) := by
 refine zcs env0_ok fn65 [(0, .ms id sp 1 0 m cap), (1, .int .i64 0), (2, .int .i64 (m : Nat)), (3, .int .i64 v)] (by show 4 ≤ 134; decide) rfl ?_
 unfold ic65
 repeat (first | refine za6 ?_ | refine za0 rfl ?_ | refine za3 ?_ | refine za4 ?_ | refine zai ?_ | refine za1 rfl ?_)
 refine zcr (fun mm S => S = st 134 [(0, .ms id sp 1 0 m cap), (1, .int .i64 0), (2, .int .i64 (m : Nat)), (3, .int .i64 v)] H.heap H.next H.clk) 0
  (zaa (.cons rfl (.cons rfl (.cons rfl (.cons rfl .nil))))) rfl ?_
 rintro mm S rfl
 unfold b65_0
 have w1 : IntKind.wrap .i64 (((m : Nat) : Int) - 0) = (m : Int) := by rw [zdp _ (by omega) (by omega)]; omega
 repeat (first | refine za6 ?_ | refine za0 rfl ?_ | refine za3 ?_ | refine za4 ?_ | refine zai ?_ | refine za1 rfl ?_ | refine zac (op := .sub) rfl rfl rfl ?_)
 rw [w1]
 refine zbr rfl rfl (by show some (AV.bool (decide ((m : Int) ≤ 12))) = _; rw [decide_eq_true (by omega)]) ?_
 repeat (first | refine za6 ?_ | refine za0 rfl ?_ | refine za3 ?_ | refine za4 ?_ | refine zc1 rfl ?_ | refine za1 rfl ?_)
 refine o_ct _ rfl rfl (zho (first := []) (cap := []) (by rw [List.nil_append, List.append_nil]; exact ins70 l hm h12 H hl hid)) (fun _ _ _ _ h => absurd h List.not_mem_nil) fun v1 H1 hF => ?_
 repeat (first | refine za3 ?_ | refine za4 ?_ | refine zas ?_ | refine za8 ?_ | refine zab ?_)
 refine zbk ?_
 repeat (first | refine zab ?_)
 exact zal ⟨.inr rfl, _, rfl, hF⟩
theorem sort53 {w0 : World} {N0 id sp m : Nat} {cap : Option Nat} (l : List Int) (hm : l.length = m) (h12 : m ≤ 12) (H : HS) (hl : Am.look id H.heap = some (sp, .cells (l.map (AV.int .i64)))) (hid : id < H.next) :
  FT Try.prog w0 N0 53 [.ms id sp 1 0 m cap] H fun _ H' => Keep (fun j => j = id) H H' ∧ Am.look id H'.heap = some (sp, .cells ((zp3 l).map (AV.int .i64))) := by
 obtain ⟨v, pv⟩ := len66 h12
 refine zcs env0_ok fn53 [(0, .ms id sp 1 0 m cap)] (by show 1 ≤ 11; decide) rfl ?_
 unfold ic53
 repeat (first | refine za6 ?_ | refine za0 rfl ?_ | refine za3 ?_ | refine za4 ?_ | refine za1 rfl ?_ | refine zbf rfl rfl ?_)
 refine zec rfl (show zju .u64 (.int .i64 (m : Nat)) = some (.int .u64 (m : Nat)) from ?_) ?_
 ·rcases (show m = 0 ∨ m = 1 ∨ m = 2 ∨ m = 3 ∨ m = 4 ∨ m = 5 ∨ m = 6 ∨ m = 7 ∨ m = 8 ∨ m = 9 ∨ m = 10 ∨ m = 11 ∨ m = 12 by omega) with h | h | h | h | h | h | h | h | h | h | h | h | h <;> rw [h] <;> rfl
 refine zay rfl rfl pv (fun h => Bool.noConfusion (show false = true from h)) ?_
 refine o_ct _ rfl rfl (zho (first := []) (cap := []) (by rw [List.nil_append, List.append_nil]; exact pdq65 v l hm h12 H hl hid)) (fun _ _ _ _ h => absurd h List.not_mem_nil) fun v1 H1 hF => ?_
 refine za3 (zal ⟨.inl rfl, _, rfl, hF⟩)
end Go.Proofs.Ytknomkcdpcnmaaa
