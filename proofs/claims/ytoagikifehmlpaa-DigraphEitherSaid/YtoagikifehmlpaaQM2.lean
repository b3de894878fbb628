/-
  A path has the length of the distance: the law.
-/
import Derived.Test.YtoagikifehmlpaaQM1
import Derived.Test.YtoagikifehmlpaaQP5
import Derived.Test.YtoagikifehmlpaaQJ8
import Derived.Test.YtoagikifehmlpaaQW1
namespace Go.Proofs.Ytoagikifehmlpaa
open Go Go.Am
theorem rchL_has (o : List Int) (m b : Nat) (h : b < m) : (zm0 o m).contains ((b : Nat) : Int) = decide (gI o b ≥ 0) := by
 rw [Bool.eq_iff_iff, List.contains_iff_mem, decide_eq_true_eq]
 unfold zm0
 rw [List.mem_map]
 constructor
 ·rintro ⟨w, hw, e⟩
  have := (List.mem_filter.1 hw).2
  rw [Int.ofNat_inj.1 e] at this
  exact of_decide_eq_true this
 ·intro h2
  exact ⟨b, List.mem_filter.2 ⟨List.mem_range.2 h, decide_eq_true h2⟩, rfl⟩
theorem zis {l : List Nat} {i : Nat} (h : i < l.length) : ((iL l).map fun z => ([.int .i64 z] : List AV))[((i : Nat) : Int).toNat]? = some [.int .i64 (gN l i : Nat)] := by
 rw [zdn (by unfold iL; rw [List.length_map]; exact h)]
 unfold iL
 rw [List.getElem_map, gN_at h]
theorem zn8 (z : Int) (h0 : 0 ≤ z) {m : Nat} (hm : m ≠ 0) : Am.binOp .rem (.int .i64 z) (.int .i64 (m : Nat)) = some (.int .i64 ((z.toNat % m : Nat) : Int)) := by
 show (if ((m : Nat) : Int) = 0 then none else some (AV.int .i64 (Int.tmod z (m : Nat)))) = _
 rw [if_neg (by omega)]
 obtain ⟨u, rfl⟩ := Int.eq_ofNat_of_zero_le h0
 rfl
def b8_0 : IC := .seq (.region [⟨(some 84), .bin .lss (.t 83) (.t 82), none⟩] none)
 (.seq (.cond (.t 84) (.skip)
 (.exit 0))
 (.seq (.block 1 (.seq (.region [⟨(some 85), .idxs 2 (.t 81) (.t 83), none⟩,
  ⟨(some 86), .load (some 2) (.t 85), none⟩,
  ⟨(some 16), .alloc [.int .i64 0, .int .i64 0], none⟩,
  ⟨none, .store 2 (.t 16) (.t 86), none⟩] none)
 (.seq (.region [⟨(some 87), .mov (.t 9), none⟩,
  ⟨(some 88), .faddr 0 (.t 16), none⟩,
  ⟨(some 89), .load none (.t 88), none⟩,
  ⟨(some 90), .idxs 1 (.t 87) (.t 89), none⟩,
  ⟨(some 91), .load none (.t 90), none⟩,
  ⟨(some 92), .bin .geq (.t 91) (.c (.int .i64 0)), none⟩,
  ⟨(some 93), .mov (.t 92), none⟩,
  ⟨(some 94), .mov (.t 9), some (93, true)⟩,
  ⟨(some 95), .faddr 1 (.t 16), some (93, true)⟩,
  ⟨(some 96), .load none (.t 95), some (93, true)⟩,
  ⟨(some 97), .idxs 1 (.t 94) (.t 96), some (93, true)⟩,
  ⟨(some 98), .load none (.t 97), some (93, true)⟩,
  ⟨(some 99), .bin .lss (.t 98) (.c (.int .i64 0)), some (93, true)⟩,
  ⟨(some 100), .mov (.t 99), some (93, true)⟩,
  ⟨(some 101), .mov (.t 9), some (100, false)⟩,
  ⟨(some 102), .faddr 1 (.t 16), some (100, false)⟩,
  ⟨(some 103), .load none (.t 102), some (100, false)⟩,
  ⟨(some 104), .idxs 1 (.t 101) (.t 103), some (100, false)⟩,
  ⟨(some 105), .load none (.t 104), some (100, false)⟩,
  ⟨(some 106), .mov (.t 9), some (100, false)⟩,
  ⟨(some 107), .faddr 0 (.t 16), some (100, false)⟩,
  ⟨(some 108), .load none (.t 107), some (100, false)⟩,
  ⟨(some 109), .idxs 1 (.t 106) (.t 108), some (100, false)⟩,
  ⟨(some 110), .load none (.t 109), some (100, false)⟩,
  ⟨(some 111), .bin .add (.t 110) (.c (.int .i64 1)), some (100, false)⟩,
  ⟨(some 112), .bin .gtr (.t 105) (.t 111), some (100, false)⟩,
  ⟨(some 113), .pick (.t 100) (.c (.bool true)) (.t 112), some (93, true)⟩,
  ⟨(some 114), .pick (.t 93) (.t 113) (.c (.bool false)), none⟩] (some [[], [], [1], [0, 2], [3], [4], [5], [6], [6], [8, 6], [7, 9, 6], [10, 6], [11, 6], [12, 6, 6], [13], [13], [15, 13], [14, 16, 13], [17, 13], [13], [13], [20, 13], [19, 21, 13], [22, 13], [23, 13], [18, 24, 13], [13, 25, 6], [6, 26]]))
 (.cond (.t 114) (.seq (.region [⟨(some 6), .mov (.c (.bool false)), none⟩] none)
 (.ret))
 (.skip)))))
 (.region [⟨(some 115), .bin .add (.t 83) (.c (.int .i64 1)), none⟩,
  ⟨(some 83), .mov (.t 115), none⟩] none)))
def b8_2 : IC := .seq (.seq (.region [⟨(some 160), .mov (.t 17), none⟩,
  ⟨(some 161), .mov (.t 11), none⟩,
  ⟨(some 162), .len false (.t 161), none⟩,
  ⟨(some 163), .bin .lss (.t 160) (.t 162), none⟩] none)
 (.cond (.t 163) (.skip)
 (.exit 2)))
 (.seq (.block 3 (.seq (.region [⟨(some 166), .faddr 1 (.t 3), none⟩,
  ⟨(some 167), .load none (.t 166), none⟩,
  ⟨(some 168), .mov (.t 11), none⟩,
  ⟨(some 169), .mov (.t 17), none⟩,
  ⟨(some 170), .bin .sub (.t 169) (.c (.int .i64 1)), none⟩,
  ⟨(some 171), .idxs 1 (.t 168) (.t 170), none⟩,
  ⟨(some 172), .load none (.t 171), none⟩,
  ⟨(some 173), .mov (.t 11), none⟩,
  ⟨(some 174), .mov (.t 17), none⟩,
  ⟨(some 175), .idxs 1 (.t 173) (.t 174), none⟩,
  ⟨(some 176), .load none (.t 175), none⟩,
  ⟨(some 177), .build [.int .i64 0, .int .i64 0] [(0, 1, (.t 172)), (1, 1, (.t 176))], none⟩,
  ⟨(some 178), .call (.c (.fn 25 [] [])) [(.t 167), (.t 177)], none⟩,
  ⟨(some 179), .un .not (.t 178), none⟩] (some [[], [0], [], [], [3], [2, 4], [5], [], [], [7, 8], [9], [6, 10], [1, 11], [12]]))
 (.cond (.t 179) (.seq (.region [⟨(some 6), .mov (.c (.bool false)), none⟩] none)
 (.ret))
 (.skip))))
 (.region [⟨(some 164), .mov (.t 17), none⟩,
  ⟨(some 165), .bin .add (.t 164) (.c (.int .i64 1)), none⟩,
  ⟨(some 17), .mov (.t 165), none⟩] none))
-- pneumatic/pneumaticlaw10.DigraphDistances
def ic8 : IC := .seq (.region [⟨(some 3), .box (.t 0), none⟩,
  ⟨(some 6), .mov (.c (.bool false)), none⟩] none)
 (.seq (.seq (.region [⟨(some 18), .load (some 2) (.t 3), none⟩,
  ⟨(some 19), .call (.c (.fn 20 [] [])) [(.t 18)], none⟩,
  ⟨(some 20), .un .not (.t 19), none⟩,
  ⟨(some 21), .mov (.t 20), none⟩,
  ⟨(some 22), .faddr 0 (.t 3), some (21, false)⟩,
  ⟨(some 23), .load none (.t 22), some (21, false)⟩,
  ⟨(some 24), .bin .eql (.t 23) (.c (.int .i64 0)), some (21, false)⟩,
  ⟨(some 25), .pick (.t 21) (.c (.bool true)) (.t 24), none⟩] none)
 (.cond (.t 25) (.seq (.region [⟨(some 26), .call (.c (.fn 12 [] [])) [], none⟩,
  ⟨(some 6), .mov (.t 26), none⟩] none)
 (.ret))
 (.skip)))
 (.seq (.region [⟨(some 27), .mov (.t 1), none⟩,
  ⟨(some 28), .conv .i64 (.t 27), none⟩,
  ⟨(some 29), .faddr 0 (.t 3), none⟩,
  ⟨(some 30), .load none (.t 29), none⟩,
  ⟨(some 31), .bin .rem (.t 28) (.t 30), none⟩,
  ⟨(some 32), .mov (.t 2), none⟩,
  ⟨(some 33), .conv .i64 (.t 32), none⟩,
  ⟨(some 34), .faddr 0 (.t 3), none⟩,
  ⟨(some 35), .load none (.t 34), none⟩,
  ⟨(some 36), .bin .rem (.t 33) (.t 35), none⟩,
  ⟨(some 7), .mov (.t 31), none⟩,
  ⟨(some 8), .mov (.t 36), none⟩] (some [[], [0], [], [2], [1, 3], [], [5], [], [7], [6, 8], [4, 0, 1, 2, 3, 4], [9, 10, 0, 1, 2, 3, 4, 5, 6, 7, 8, 9, 10]]))
 (.seq (.region [⟨(some 38), .load (some 2) (.t 3), none⟩,
  ⟨(some 39), .mov (.t 7), none⟩,
  ⟨(some 40), .call (.c (.fn 22 [] [])) [(.t 38), (.t 39)], none⟩,
  ⟨(some 37), .mov (.t 40), none⟩,
  ⟨(some 41), .extract (.t 37) 0, none⟩,
  ⟨(some 42), .extract (.t 37) 1, none⟩,
  ⟨(some 9), .mov (.t 41), none⟩,
  ⟨(some 10), .mov (.t 42), none⟩] none)
 (.seq (.region [⟨(some 44), .load (some 2) (.t 3), none⟩,
  ⟨(some 45), .mov (.t 7), none⟩,
  ⟨(some 46), .mov (.t 8), none⟩,
  ⟨(some 47), .call (.c (.fn 27 [] [])) [(.t 44), (.t 45), (.t 46)], none⟩,
  ⟨(some 43), .mov (.t 47), none⟩,
  ⟨(some 48), .extract (.t 43) 0, none⟩,
  ⟨(some 49), .extract (.t 43) 1, none⟩,
  ⟨(some 11), .mov (.t 48), none⟩,
  ⟨(some 12), .mov (.t 49), none⟩] none)
 (.seq (.region [⟨(some 51), .load (some 2) (.t 3), none⟩,
  ⟨(some 52), .mov (.t 7), none⟩,
  ⟨(some 53), .call (.c (.fn 31 [] [])) [(.t 51), (.t 52)], none⟩,
  ⟨(some 50), .mov (.t 53), none⟩,
  ⟨(some 54), .extract (.t 50) 0, none⟩,
  ⟨(some 55), .extract (.t 50) 1, none⟩,
  ⟨(some 13), .mov (.t 54), none⟩,
  ⟨(some 14), .mov (.t 55), none⟩] none)
 (.seq (.seq (.region [⟨(some 56), .mov (.t 10), none⟩,
  ⟨(some 57), .bin .neq (.t 56) (.c (.int .i64 0)), none⟩,
  ⟨(some 58), .mov (.t 57), none⟩,
  ⟨(some 59), .mov (.t 14), some (58, false)⟩,
  ⟨(some 60), .bin .neq (.t 59) (.c (.int .i64 0)), some (58, false)⟩,
  ⟨(some 61), .pick (.t 58) (.c (.bool true)) (.t 60), none⟩,
  ⟨(some 62), .mov (.t 61), none⟩,
  ⟨(some 63), .mov (.t 9), some (62, false)⟩,
  ⟨(some 64), .len false (.t 63), some (62, false)⟩,
  ⟨(some 65), .faddr 0 (.t 3), some (62, false)⟩,
  ⟨(some 66), .load none (.t 65), some (62, false)⟩,
  ⟨(some 67), .bin .neq (.t 64) (.t 66), some (62, false)⟩,
  ⟨(some 68), .pick (.t 62) (.c (.bool true)) (.t 67), none⟩,
  ⟨(some 69), .mov (.t 68), none⟩,
  ⟨(some 70), .mov (.t 13), some (69, false)⟩,
  ⟨(some 71), .mov (.t 8), some (69, false)⟩,
  ⟨(some 72), .call (.c (.fn 24 [] [])) [(.t 70), (.t 71)], some (69, false)⟩,
  ⟨(some 73), .mov (.t 9), some (69, false)⟩,
  ⟨(some 74), .mov (.t 8), some (69, false)⟩,
  ⟨(some 75), .idxs 1 (.t 73) (.t 74), some (69, false)⟩,
  ⟨(some 76), .load none (.t 75), some (69, false)⟩,
  ⟨(some 77), .bin .geq (.t 76) (.c (.int .i64 0)), some (69, false)⟩,
  ⟨(some 78), .eqb true (.t 72) (.t 77), some (69, false)⟩,
  ⟨(some 79), .pick (.t 69) (.c (.bool true)) (.t 78), none⟩] (some [[], [0], [1], [2], [3, 2], [2, 4], [5, 2], [6], [7, 6], [6], [9, 6], [8, 10, 6], [6, 11], [12, 6], [13], [13], [14, 15, 13, 13], [13], [13], [17, 18, 13], [19, 13], [20, 13], [16, 21, 13], [13, 22]]))
 (.cond (.t 79) (.seq (.region [⟨(some 6), .mov (.c (.bool false)), none⟩] none)
 (.ret))
 (.skip)))
 (.seq (.seq (.region [⟨(some 80), .faddr 1 (.t 3), none⟩,
  ⟨(some 81), .load none (.t 80), none⟩,
  ⟨(some 82), .len false (.t 81), none⟩,
  ⟨(some 83), .mov (.c (.int .i64 0)), none⟩] none)
 (.block 0 (.loop b8_0)))
 (.seq (.seq (.region [⟨(some 116), .mov (.t 9), none⟩,
  ⟨(some 117), .mov (.t 8), none⟩,
  ⟨(some 118), .idxs 1 (.t 116) (.t 117), none⟩,
  ⟨(some 119), .load none (.t 118), none⟩,
  ⟨(some 120), .bin .lss (.t 119) (.c (.int .i64 0)), none⟩] none)
 (.cond (.t 120) (.seq (.region [⟨(some 121), .mov (.t 12), none⟩,
  ⟨(some 122), .bin .eql (.t 121) (.c (.int .i64 6)), none⟩,
  ⟨(some 123), .mov (.t 122), none⟩,
  ⟨(some 124), .mov (.t 11), some (123, true)⟩,
  ⟨(some 125), .len false (.t 124), some (123, true)⟩,
  ⟨(some 126), .bin .eql (.t 125) (.c (.int .i64 0)), some (123, true)⟩,
  ⟨(some 127), .pick (.t 123) (.t 126) (.c (.bool false)), none⟩,
  ⟨(some 128), .mov (.t 127), none⟩,
  ⟨(some 129), .call (.c (.fn 12 [] [])) [], some (128, true)⟩,
  ⟨(some 130), .pick (.t 128) (.t 129) (.c (.bool false)), none⟩,
  ⟨(some 6), .mov (.t 130), none⟩] none)
 (.ret))
 (.skip)))
 (.seq (.seq (.region [⟨(some 131), .mov (.t 12), none⟩,
  ⟨(some 132), .bin .neq (.t 131) (.c (.int .i64 0)), none⟩,
  ⟨(some 133), .mov (.t 132), none⟩,
  ⟨(some 134), .mov (.t 11), some (133, false)⟩,
  ⟨(some 135), .len false (.t 134), some (133, false)⟩,
  ⟨(some 136), .mov (.t 9), some (133, false)⟩,
  ⟨(some 137), .mov (.t 8), some (133, false)⟩,
  ⟨(some 138), .idxs 1 (.t 136) (.t 137), some (133, false)⟩,
  ⟨(some 139), .load none (.t 138), some (133, false)⟩,
  ⟨(some 140), .bin .add (.t 139) (.c (.int .i64 1)), some (133, false)⟩,
  ⟨(some 141), .bin .neq (.t 135) (.t 140), some (133, false)⟩,
  ⟨(some 142), .pick (.t 133) (.c (.bool true)) (.t 141), none⟩,
  ⟨(some 143), .mov (.t 142), none⟩,
  ⟨(some 144), .mov (.t 11), some (143, false)⟩,
  ⟨(some 145), .idxs 1 (.t 144) (.c (.int .i64 0)), some (143, false)⟩,
  ⟨(some 146), .load none (.t 145), some (143, false)⟩,
  ⟨(some 147), .mov (.t 7), some (143, false)⟩,
  ⟨(some 148), .bin .neq (.t 146) (.t 147), some (143, false)⟩,
  ⟨(some 149), .pick (.t 143) (.c (.bool true)) (.t 148), none⟩,
  ⟨(some 150), .mov (.t 149), none⟩,
  ⟨(some 151), .mov (.t 11), some (150, false)⟩,
  ⟨(some 152), .mov (.t 11), some (150, false)⟩,
  ⟨(some 153), .len false (.t 152), some (150, false)⟩,
  ⟨(some 154), .bin .sub (.t 153) (.c (.int .i64 1)), some (150, false)⟩,
  ⟨(some 155), .idxs 1 (.t 151) (.t 154), some (150, false)⟩,
  ⟨(some 156), .load none (.t 155), some (150, false)⟩,
  ⟨(some 157), .mov (.t 8), some (150, false)⟩,
  ⟨(some 158), .bin .neq (.t 156) (.t 157), some (150, false)⟩,
  ⟨(some 159), .pick (.t 150) (.c (.bool true)) (.t 158), none⟩] none)
 (.cond (.t 159) (.seq (.region [⟨(some 6), .mov (.c (.bool false)), none⟩] none)
 (.ret))
 (.skip)))
 (.seq (.seq (.region [⟨(some 17), .mov (.c (.int .i64 1)), none⟩] none)
 (.block 2 (.loop b8_2)))
 (.seq (.region [⟨(some 180), .call (.c (.fn 12 [] [])) [], none⟩,
  ⟨(some 6), .mov (.t 180), none⟩] none)
 (.ret))))))))))))
theorem fn8 : env0.fn 8 = some ⟨181, ic8, [.t 6]⟩ := by kernel_rfl
set_option maxRecDepth 100000 in
set_option maxHeartbeats 8000000 in
theorem law8 (n : Int) (es : List (Int × Int)) (f : Int) (hf : 0 ≤ f ∧ f ≤ 255) (t : Int) (ht : 0 ≤ t ∧ t ≤ 255) : PF Try.prog 8 [cG n es, .int .u8 f, .int .u8 t] (.bool true) := by
 have p20 := zt8 n es
 refine zb4 env0_ok fn8 [(0, .agg [.int .i64 n, .vs (cE es)]), (1, .int .u8 f), (2, .int .u8 t)] (by show 3 ≤ 181; decide) rfl fun w0 N0 => ?_
 unfold ic8
 refine za6 (za0 rfl (ze8 rfl rfl (za2 rfl (za5 (za3 ?_)))))
 refine zby [] [(0, 0, [.int .i64 n, .vs (cE es)])] [(1, .int .u8 f), (2, .int .u8 t), (3, .vptr [.int .i64 n, .vs (cE es)])] rfl (.cons rfl rfl .nil) .nil (.cons rfl (.same rfl) (.cons rfl (.same rfl) (.cons rfl (.fptr rfl rfl) .nil))) ?_
 repeat (first | refine za6 ?_ | refine za0 rfl ?_ | refine zax rfl rfl rfl rfl ?_)
 refine zak rfl rfl p20 (fun h => Bool.noConfusion (show false = true from h)) ?_
 cases hr : rgtB n es with
 | false =>
  repeat (first | refine za6 ?_ | refine za0 rfl ?_ | refine za5 ?_ | refine za3 ?_ | refine zcp rfl ?_ | refine zq7 rfl rfl ?_ | refine za2 rfl ?_ | refine zbg rfl rfl ?_ | refine zpr rfl rfl ?_)
  refine zak rfl rfl zf4 (fun h => Bool.noConfusion (show false = true from h)) ?_
  repeat (first | refine za5 ?_ | refine za3 ?_ | refine zaq ?_ | refine zac ?_ | refine za2 rfl ?_)
  exact zao ⟨.inr rfl, _, rfl, rfl⟩
 | true =>
 obtain ⟨m, E, rfl, rfl, hm, hE, hck, hb⟩ := rgt_ok hr
 repeat (first | refine zee rfl ?_ | refine za2 rfl ?_ | refine zaf rfl rfl ?_ | refine zan rfl rfl rfl ?_ | refine zpr rfl rfl ?_)
 refine zau rfl rfl rfl (fun h0 => ?_) fun h0 => ?_
 ·repeat (first | refine za6 ?_ | refine za0 rfl ?_ | refine za5 ?_ | refine za3 ?_ | refine zcp rfl ?_ | refine zas rfl rfl ?_)
  refine zak rfl rfl zf4 (fun h => Bool.noConfusion (show false = true from h)) ?_
  repeat (first | refine za5 ?_ | refine za3 ?_ | refine zaq ?_ | refine zac ?_ | refine za2 rfl ?_)
  exact zao ⟨.inr rfl, _, rfl, rfl⟩
 have hm0 : m ≠ 0 := by
  have h0 : ¬ ((m : Nat) : Int) = 0 := by simpa using h0
  omega
 have ha := Nat.mod_lt f.toNat (Nat.pos_of_ne_zero hm0)
 have hbm := Nat.mod_lt t.toNat (Nat.pos_of_ne_zero hm0)
 have w1 : IntKind.wrap .i64 f = f := zda _ (by omega) (by omega)
 have w2 : IntKind.wrap .i64 t = t := zda _ (by omega) (by omega)
 have r1 := zn8 f hf.1 hm0
 have r2 := zn8 t ht.1 hm0
 generalize f.toNat % m = a at *
 generalize t.toNat % m = b at *
 have hcl : (cE (zal E)).length = E.length := by rw [zcg]; exact List.length_map ..
 have hbad : ∀ x : Nat, x < m → zf5 (m : Nat) (x : Nat) = false := fun x hx => by
  unfold zf5
  rw [Bool.or_eq_false_iff, decide_eq_false_iff_not, decide_eq_false_iff_not]
  omega
 have hg1 : zel (m : Nat) (zal E) [(a : Int)] = 0 := by
  unfold zel
  rw [if_pos hck]
  unfold zh3
  rw [List.any_cons, List.any_nil, hbad a ha]
  rfl
 have hg2 : zel (m : Nat) (zal E) [(a : Int), (b : Int)] = 0 := by
  unfold zel
  rw [if_pos hck]
  unfold zh3
  rw [List.any_cons, List.any_cons, List.any_nil, hbad a ha, hbad b hbm]
  rfl
 have p22 := zme (m : Nat) (zal E) (fun _ => by omega) (a : Nat)
 have p27 := path27 (m : Nat) (zal E) (fun _ => by omega) (a : Nat) (b : Nat)
 have p31 := reach31 (m : Nat) (zal E) (fun _ => by omega) (a : Nat)
 rw [zre hg1] at p22
 rw [zst hg2] at p27
 rw [zt0 hg1] at p31
 have hD := zd4 (es := E) ha fun u v h => (hb u v h).2
 have hB := zd4 (es := rvE E) hbm fun u v h => (zfu hb u v h).2
 have hrev := zmi hb hbm ha
 unfold ptN at p27
 have hro := zn9 hB hb (gI (zcx (rvE E) m b m) a).toNat a
 have hDl : ∀ v, gI (zcx E m a m) v < m := ziu hD.len hD.down
 generalize zcx (rvE E) m b m = back at *
 have p24 := zim (zm0 (zcx E m a m) m) (b : Nat) (by have := zon (zcx E m a m) m; omega)
 rw [rchL_has _ _ _ hbm] at p24
 generalize zcx E m a m = d at *
 have hdl := hD.len
 have hvd : (d.map fun z => ([.int .i64 z] : List AV)).length = m := by rw [List.length_map]; exact hdl
 have hgd : ∀ v, v < m → (d.map fun z => ([.int .i64 z] : List AV))[((v : Nat) : Int).toNat]? = some [.int .i64 (gI d v)] := fun v hv => by rw [zdn (by omega), zrq]
 have hgb := hgd b hbm
 obtain ⟨l, er, hpt, hcs⟩ : ∃ (l : List Nat) (er : Int), (if gI back a < 0 then AV.tup [.vs [], .int .i64 6] else .tup [vsI (iL (a :: zcm E m back (gI back a).toNat a)), .int .i64 0]) = .tup [vsI (iL l), .int .i64 er] ∧ ((gI d b < 0 ∧ er = 6 ∧ l = []) ∨ (0 ≤ gI d b ∧ er = 0 ∧ (l.length : Int) = gI d b + 1 ∧ gN l 0 = a ∧ gN l (l.length - 1) = b ∧ ∀ i, i + 1 < l.length → (gN l i, gN l (i + 1)) ∈ E)) := by
  by_cases c : gI back a < 0
  ·exact ⟨[], 6, if_pos c, .inl ⟨by omega, rfl, rfl⟩⟩
  ·obtain ⟨q1, q2, _⟩ := hro (by omega)
   have hln : (a :: zcm E m back (gI back a).toNat a).length = (gI back a).toNat + 1 := by rw [List.length_cons, zen]
   refine ⟨_, 0, if_neg c, .inr ⟨by omega, rfl, by rw [hln]; omega, rfl, by rw [hln]; exact q2, fun i hi => q1 i (by omega)⟩⟩
 rw [hpt] at p27
 repeat (first | refine za6 ?_ | refine za5 ?_ | refine za3 ?_ | refine zad ?_ | refine zce rfl ?_ | refine za2 rfl ?_ | refine zaf rfl rfl ?_ | refine zan rfl rfl rfl ?_ | refine zas rfl rfl ?_ | refine o_conv rfl rfl ?_ | refine zg0 env0_ok rfl rfl rfl ?_)
 rw [w1]
 refine zbe (op := .rem) rfl rfl r1 ?_
 repeat (first | refine za2 rfl ?_ | refine zaf rfl rfl ?_ | refine zan rfl rfl rfl ?_ | refine o_conv rfl rfl ?_)
 rw [w2]
 refine zbe (op := .rem) rfl rfl r2 ?_
 repeat (first | refine za6 ?_ | refine za0 rfl ?_ | refine za5 ?_ | refine za3 ?_ | refine za2 rfl ?_ | refine zax rfl rfl rfl rfl ?_)
 refine zak rfl rfl p22 (fun h => Bool.noConfusion (show false = true from h)) ?_
 repeat (first | refine za6 ?_ | refine za0 rfl ?_ | refine za5 ?_ | refine za3 ?_ | refine za2 rfl ?_ | refine zax rfl rfl rfl rfl ?_ | refine zav rfl rfl ?_)
 refine zak rfl rfl p27 (fun h => Bool.noConfusion (show false = true from h)) ?_
 repeat (first | refine za6 ?_ | refine za0 rfl ?_ | refine za5 ?_ | refine za3 ?_ | refine za2 rfl ?_ | refine zax rfl rfl rfl rfl ?_ | refine zav rfl rfl ?_)
 refine zak rfl rfl p31 (fun h => Bool.noConfusion (show false = true from h)) ?_
 repeat (first | refine za6 ?_ | refine za5 ?_ | refine za3 ?_ | refine za2 rfl ?_ | refine zav rfl rfl ?_)
 refine zgh env0_ok [(24, [vsI (zm0 d m), .int .i64 (b : Nat)], .bool (decide (gI d b ≥ 0)))] (fun x hx => by
  obtain rfl := List.mem_singleton.1 hx
  exact p24) (fun f => Nat.beq f 24) rfl rfl rfl ?_
 repeat (first | refine zee rfl ?_ | refine za2 rfl ?_ | refine zaf rfl rfl ?_ | refine zan rfl rfl rfl ?_ | refine zas rfl rfl ?_ | refine zbf rfl rfl ?_ | refine zc0 rfl rfl rfl ?_)
 refine zc0 rfl rfl (by show some (AV.bool (!((((d.map fun z => ([.int .i64 z] : List AV)).length : Nat) : Int) == ((m : Nat) : Int)))) = _; rw [hvd]; simp) ?_
 repeat (first | refine zee rfl ?_ | refine za2 rfl ?_ | refine zas rfl rfl ?_)
 refine zak rfl rfl zbm (fun h => Bool.noConfusion (show false = true from h)) ?_
 repeat (first | refine zee rfl ?_ | refine za2 rfl ?_ | refine zaf rfl rfl ?_ | refine zaw rfl rfl (by omega) (by assumption) rfl ?_)
 refine zbe (op := .geq) rfl rfl rfl ?_
 refine zee rfl ?_
 refine o_eqbf rfl rfl (by cases decide (gI d b ≥ 0) <;> rfl) ?_
 repeat (first | refine za6 ?_ | refine za0 rfl ?_ | refine za5 ?_ | refine za3 ?_ | refine zae ?_ | refine zad ?_ | refine zce rfl ?_ | refine za2 rfl ?_ | refine zaf rfl rfl ?_ | refine zan rfl rfl rfl ?_ | refine zas rfl rfl ?_ | refine zbf rfl rfl ?_)
 have hcE : (cE (zal E)).length = E.length := hcl
 refine zbx (fun mm S => ∃ i hp nx ck, mm = E.length - i ∧ i ≤ E.length ∧ S = st 181 [(3, .vptr [.int .i64 (m : Nat), .vs (cE (zal E))]), (8, .int .i64 (b : Nat)), (7, .int .i64 (a : Nat)), (9, vsI d), (11, vsI (iL l)), (12, .int .i64 er), (81, .vs (cE (zal E))), (82, .int .i64 (E.length : Nat)), (83, .int .i64 (i : Nat))] hp nx ck) E.length
  (za9 (.cons rfl (.cons rfl (.cons rfl (.cons rfl (.cons rfl (.cons rfl (.cons rfl (.cons (by exact congrArg (fun z : Nat => some (AV.int .i64 (z : Nat))) hcE) (.cons rfl .nil)))))))))) ⟨0, _, _, _, rfl, Nat.zero_le _, rfl⟩ ?_
 rintro mm S ⟨i, hp, nx, ck, rfl, hi, rfl⟩
 unfold b8_0
 repeat (first | refine za6 ?_ | refine za0 rfl ?_)
 refine zau rfl rfl rfl (fun h3 => ?_) fun h3 => ?_
 ·have hlt : i < E.length := Int.ofNat_lt.1 (of_decide_eq_true h3)
  have w3 : IntKind.wrap .i64 (((i : Nat) : Int) + 1) = ((i + 1 : Nat) : Int) := zar i (by omega)
  have hg := zhb hlt
  have hmm : (E[i].1, E[i].2) ∈ E := List.getElem_mem hlt
  obtain ⟨hx, hy⟩ := hb _ _ hmm
  have hup := hD.up _ _ hmm
  generalize E[i].1 = x at *
  generalize E[i].2 = y at *
  have hgx := hgd x hx
  have hgy := hgd y hy
  have hlx := hDl x
  have hlo := hD.low x
  repeat (first | refine za6 ?_ | refine za0 rfl ?_ | refine za5 ?_ | refine za3 ?_ | refine zae ?_ | refine zad ?_ | refine zcp rfl ?_ | refine zax rfl rfl rfl rfl ?_ | refine ze6 ?_ | refine zaw rfl rfl (by omega) (by assumption) rfl ?_)
  refine zdm (id := nx) (sp := ck) (off := 0) rfl rfl rfl rfl zb5 rfl rfl ?_
  have k5 : Am.look nx (zca nx (ck, AObj.cells [.int .i64 (x : Nat), .int .i64 (y : Nat)]) ((nx, ck, AObj.cells [.int .i64 0, .int .i64 0]) :: hp)) = some (ck, .cells [.int .i64 (x : Nat), .int .i64 (y : Nat)]) := by
   rw [za7, if_pos rfl]
  repeat (first | refine za6 ?_ | refine za5 ?_ | refine za3 ?_ | refine za2 rfl ?_ | refine zbq rfl ?_ | refine zg0 env0_ok rfl rfl rfl ?_)
  refine zb1 (id := nx) (sp := ck) (off := 0) rfl k5 (Nat.lt_succ_self _) rfl ?_
  repeat (first | refine zaf rfl rfl ?_ | refine zaw rfl rfl (by omega) (by assumption) rfl ?_)
  refine zau rfl rfl rfl (fun h4 => ?_) fun h4 => ?_
  ·have h4 : gI d x ≥ 0 := of_decide_eq_true h4
   obtain ⟨u1, u2⟩ := hup h4
   have w4 : IntKind.wrap .i64 (gI d x + 1) = gI d x + 1 := zda _ (by omega) (by omega)
   repeat (first | refine zee rfl ?_ | refine za2 rfl ?_ | refine zbq rfl ?_)
   refine zb1 (id := nx) (sp := ck) (off := 0 + 1) rfl k5 (Nat.lt_succ_self _) rfl ?_
   repeat (first | refine zee rfl ?_ | refine zaf rfl rfl ?_ | refine zaw rfl rfl (by omega) (by assumption) rfl ?_)
   refine zc0 rfl rfl (by show some (AV.bool (decide (gI d y < 0))) = _; rw [decide_eq_false (by omega)]) ?_
   repeat (first | refine zee rfl ?_ | refine za2 rfl ?_ | refine zbq rfl ?_)
   refine zb1 (id := nx) (sp := ck) (off := 0 + 1) rfl k5 (Nat.lt_succ_self _) rfl ?_
   repeat (first | refine zee rfl ?_ | refine za2 rfl ?_ | refine zaf rfl rfl ?_ | refine zbq rfl ?_ | refine zaw rfl rfl (by omega) (by assumption) rfl ?_)
   refine zb1 (id := nx) (sp := ck) (off := 0) rfl k5 (Nat.lt_succ_self _) rfl ?_
   repeat (first | refine zee rfl ?_ | refine zaf rfl rfl ?_ | refine zbe (op := .add) rfl rfl rfl ?_ | refine zaw rfl rfl (by omega) (by assumption) rfl ?_)
   rw [w4]
   refine zc0 rfl rfl (by show some (AV.bool (decide (gI d y > gI d x + 1))) = _; rw [decide_eq_false (by omega)]) ?_
   repeat (first | refine za0 rfl ?_ | refine za5 ?_ | refine za3 ?_ | refine zcb ?_ | refine zad ?_ | refine zce rfl ?_ | refine zee rfl ?_ | refine za2 rfl ?_ | refine zbg rfl rfl ?_ | refine zas rfl rfl ?_ | refine zbe (op := .add) rfl rfl rfl ?_)
   rw [w3]
   exact zay (show E.length - (i + 1) < E.length - i by omega) (za9 (.cons rfl (.cons rfl (.cons rfl (.cons rfl (.cons rfl (.cons rfl (.cons rfl (.cons rfl (.cons rfl .nil)))))))))) ⟨i + 1, _, _, _, rfl, hlt, rfl⟩
  ·repeat (first | refine za0 rfl ?_ | refine za5 ?_ | refine za3 ?_ | refine zcb ?_ | refine zad ?_ | refine zce rfl ?_ | refine zq7 rfl rfl ?_ | refine o_gt rfl ?_ | refine za2 rfl ?_ | refine zas rfl rfl ?_ | refine zbe (op := .add) rfl rfl rfl ?_)
   rw [w3]
   exact zay (show E.length - (i + 1) < E.length - i by omega) (za9 (.cons rfl (.cons rfl (.cons rfl (.cons rfl (.cons rfl (.cons rfl (.cons rfl (.cons rfl (.cons rfl .nil)))))))))) ⟨i + 1, _, _, _, rfl, hlt, rfl⟩
 repeat (first | refine za6 ?_ | refine za5 ?_ | refine za3 ?_ | refine zce rfl ?_ | refine zbw ?_ | refine zag ?_)
 refine zdb ?_
 repeat (first | refine za6 ?_ | refine za0 rfl ?_ | refine za3 ?_ | refine zbv ?_ | refine za2 rfl ?_ | refine zaf rfl rfl ?_ | refine zaw rfl rfl (by omega) (by assumption) rfl ?_)
 refine zau rfl rfl rfl (fun h4 => ?_) fun h4 => ?_
 ·have h4 : gI d b < 0 := of_decide_eq_true h4
  obtain ⟨rfl, rfl⟩ : er = 6 ∧ l = [] := by
   rcases hcs with h | h
   ·exact h.2
   ·omega
  repeat (first | refine za6 ?_ | refine za0 rfl ?_ | refine za5 ?_ | refine za3 ?_ | refine zcp rfl ?_ | refine zee rfl ?_ | refine za2 rfl ?_ | refine zbg rfl rfl ?_ | refine zbf rfl rfl ?_ | refine zlm rfl rfl rfl ?_)
  refine zak rfl rfl zf4 (fun h => Bool.noConfusion (show false = true from h)) ?_
  repeat (first | refine za5 ?_ | refine za3 ?_ | refine zaq ?_ | refine zac ?_ | refine za2 rfl ?_ | refine zbg rfl rfl ?_)
  exact zao ⟨.inr rfl, _, rfl, rfl⟩
 have h4 : ¬ gI d b < 0 := of_decide_eq_false h4
 obtain ⟨rfl, hll, hl0, hl1, hle⟩ : er = 0 ∧ (l.length : Int) = gI d b + 1 ∧ gN l 0 = a ∧ gN l (l.length - 1) = b ∧ ∀ i, i + 1 < l.length → (gN l i, gN l (i + 1)) ∈ E := by
  rcases hcs with h | h
  ·omega
  ·exact h.2
 have hlb := hDl b
 have hvl : ((iL l).map fun z => ([.int .i64 z] : List AV)).length = l.length := by rw [List.length_map]; unfold iL; rw [List.length_map]
 have w5 : IntKind.wrap .i64 (gI d b + 1) = gI d b + 1 := zda _ (by omega) (by omega)
 have w6 : IntKind.wrap .i64 (((l.length : Nat) : Int) - 1) = ((l.length - 1 : Nat) : Int) := by rw [zda _ (by omega) (by omega)]; omega
 have g0 := zis (l := l) (i := 0) (by omega)
 have g1 := zis (l := l) (i := l.length - 1) (by omega)
 rw [hl0] at g0
 rw [hl1] at g1
 repeat (first | refine za6 ?_ | refine za0 rfl ?_ | refine za5 ?_ | refine za3 ?_ | refine zad ?_ | refine zce rfl ?_ | refine zee rfl ?_ | refine za2 rfl ?_ | refine zaf rfl rfl ?_ | refine zbf rfl rfl ?_ | refine zbe (op := .add) rfl rfl rfl ?_ | refine zc0 rfl rfl rfl ?_ | refine zaw rfl rfl (by omega) (by assumption) rfl ?_)
 rw [w5]
 refine zc0 rfl rfl (by show some (AV.bool (!((((iL l).map fun z => ([.int .i64 z] : List AV)).length : Int) == gI d b + 1))) = _; rw [hvl, hll]; simp) ?_
 repeat (first | refine zee rfl ?_ | refine za2 rfl ?_ | refine zaf rfl rfl ?_ | refine zas rfl rfl ?_ | refine zaw rfl rfl (by omega) (by assumption) rfl ?_)
 refine zc0 rfl rfl (by show some (AV.bool (!(((a : Nat) : Int) == (a : Nat)))) = _; simp) ?_
 repeat (first | refine zee rfl ?_ | refine za2 rfl ?_ | refine zas rfl rfl ?_ | refine zbf rfl rfl ?_ | refine zbe (op := .sub) rfl rfl rfl ?_)
 rw [hvl, w6]
 repeat (first | refine zee rfl ?_ | refine za2 rfl ?_ | refine zaf rfl rfl ?_ | refine zaw rfl rfl (by omega) (by assumption) rfl ?_)
 refine zc0 rfl rfl (by show some (AV.bool (!(((b : Nat) : Int) == (b : Nat)))) = _; simp) ?_
 repeat (first | refine za6 ?_ | refine za0 rfl ?_ | refine za5 ?_ | refine za3 ?_ | refine zae ?_ | refine zad ?_ | refine zce rfl ?_ | refine za2 rfl ?_ | refine zas rfl rfl ?_)
 refine zbx (fun mm S => ∃ i : Nat, mm = l.length - i ∧ 1 ≤ i ∧ i ≤ l.length ∧ S = st 181 [(3, .vptr [.int .i64 (m : Nat), .vs (cE (zal E))]), (11, vsI (iL l)), (17, .int .i64 (i : Nat))] hp nx ck) (l.length - 1)
  (za9 (.cons rfl (.cons rfl (.cons rfl .nil)))) ⟨1, rfl, Nat.le_refl _, by omega, rfl⟩ ?_
 rintro mm S ⟨i, rfl, hi1, hi2, rfl⟩
 unfold b8_2
 repeat (first | refine za6 ?_ | refine za0 rfl ?_ | refine za2 rfl ?_ | refine zbf rfl rfl ?_)
 rw [hvl]
 refine zau rfl rfl rfl (fun h3 => ?_) fun h3 => ?_
 ·have hlt : i < l.length := Int.ofNat_lt.1 (of_decide_eq_true h3)
  have w7 : IntKind.wrap .i64 (((i : Nat) : Int) + 1) = ((i + 1 : Nat) : Int) := zar i (by omega)
  have w8 : IntKind.wrap .i64 (((i : Nat) : Int) - 1) = ((i - 1 : Nat) : Int) := by rw [zda _ (by omega) (by omega)]; omega
  have ga := zis (l := l) (i := i - 1) (by omega)
  have gb := zis hlt
  have he := hle (i - 1) (by omega)
  rw [show i - 1 + 1 = i by omega] at he
  have p25 := zin (zal E) (gN l (i - 1) : Nat) (gN l i : Nat) (by unfold zal; rw [List.length_map]; omega)
  rw [zky, List.contains_iff_mem.2 he] at p25
  generalize gN l (i - 1) = x at *
  generalize gN l i = y at *
  repeat (first | refine za6 ?_ | refine za5 ?_ | refine za3 ?_ | refine zae ?_ | refine zad ?_ | refine zcp rfl ?_)
  refine zgh env0_ok [(25, [.vs (cE (zal E)), .agg [.int .i64 (x : Nat), .int .i64 (y : Nat)]], .bool true)] (fun x hx => by
   obtain rfl := List.mem_singleton.1 hx
   exact p25) (fun f => Nat.beq f 25) rfl rfl rfl ?_
  repeat (first | refine za2 rfl ?_ | refine zaf rfl rfl ?_ | refine zan rfl rfl rfl ?_ | refine zbe (op := .sub) rfl rfl rfl ?_)
  rw [w8]
  repeat (first | refine za2 rfl ?_ | refine zaf rfl rfl ?_ | refine zk8 rfl rfl ?_ | refine zaw rfl rfl (by omega) (by assumption) rfl ?_)
  refine zak rfl rfl zbm (fun h => Bool.noConfusion (show false = true from h)) ?_
  repeat (first | refine za0 rfl ?_ | refine za5 ?_ | refine za3 ?_ | refine zcb ?_ | refine zad ?_ | refine zce rfl ?_ | refine za2 rfl ?_ | refine zpr rfl rfl ?_ | refine zbe (op := .add) rfl rfl rfl ?_)
  rw [w7]
  exact zay (show l.length - (i + 1) < l.length - i by omega) (za9 (.cons rfl (.cons rfl (.cons rfl .nil)))) ⟨i + 1, rfl, by omega, hlt, rfl⟩
 ·repeat (first | refine za5 ?_ | refine za3 ?_ | refine zce rfl ?_ | refine zbw ?_ | refine zag ?_)
  refine zdb ?_
  repeat (first | refine za6 ?_ | refine za0 rfl ?_ | refine za3 ?_ | refine zbv ?_)
  refine zak rfl rfl zf4 (fun h => Bool.noConfusion (show false = true from h)) ?_
  repeat (first | refine za5 ?_ | refine za3 ?_ | refine zaq ?_ | refine za2 rfl ?_)
  exact zao ⟨.inr rfl, _, rfl, rfl⟩
end Go.Proofs.Ytoagikifehmlpaa
