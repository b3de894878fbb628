/-
  ALL ENDS OF FEW ACTUATORS: the inner loop of GuardTells.
-/
import Derived.Test.YtoiblgbaeglgoaaWS25
import Derived.Test.YtoiblgbaeglgoaaWS27
import Derived.Test.YtoiblgbaeglgoaaWS20
namespace Go.Proofs.Ytoiblgbaeglgoaa
open Go Go.Am
def b5_2 : IC := .seq (.region [⟨(some 65), .bin .lss (.t 64) (.t 63), none⟩] none)
 (.seq (.cond (.t 65) (.skip)
 (.exit 2))
 (.seq (.block 3 (.seq (.region [⟨(some 66), .mov (.t 64), none⟩,
  ⟨(some 14), .mov (.t 66), none⟩] none)
 (.region [⟨(some 67), .load none (.t 13), none⟩,
  ⟨(some 68), .mov (.t 12), none⟩,
  ⟨(some 69), .mov (.t 1), none⟩,
  ⟨(some 70), .bin .sub (.t 69) (.c (.int .i64 1)), none⟩,
  ⟨(some 71), .mov (.t 14), none⟩,
  ⟨(some 72), .bin .sub (.t 70) (.t 71), none⟩,
  ⟨(some 73), .bin .shr (.t 68) (.t 72), none⟩,
  ⟨(some 74), .bin .and (.t 73) (.c (.int .i64 1)), none⟩,
  ⟨(some 75), .bin .mul (.c (.int .i64 2)) (.t 74), none⟩,
  ⟨(some 76), .bslice 1 1 [.int .i64 0] [(0, 1, (.t 75))], none⟩,
  ⟨(some 77), .append 1 8 [.int .i64 0] (.t 67) (.t 76), none⟩,
  ⟨none, .store 1 (.t 13) (.t 77), none⟩] (some [[], [], [], [2], [], [3, 4], [1, 5], [6], [7], [8], [0, 9], [10, 10, 0, 1, 2, 3, 4, 5, 6, 7, 8, 9, 10]]))))
 (.region [⟨(some 78), .bin .add (.t 64) (.c (.int .i64 1)), none⟩,
  ⟨(some 64), .mov (.t 78), none⟩] none)))
def b5_0 : IC := .seq (.region [⟨(some 61), .bin .lss (.t 60) (.t 59), none⟩] none)
 (.seq (.cond (.t 61) (.skip)
 (.exit 0))
 (.seq (.block 1 (.seq (.region [⟨(some 62), .mov (.t 60), none⟩,
  ⟨(some 12), .mov (.t 62), none⟩] none)
 (.seq (.region [⟨(some 13), .alloc [.nils], none⟩] none)
 (.seq (.seq (.region [⟨(some 63), .mov (.t 1), none⟩,
  ⟨(some 64), .mov (.c (.int .i64 0)), none⟩] none)
 (.block 2 (.loop b5_2)))
 (.seq (.region [⟨(some 80), .load (some 1) (.t 3), none⟩,
  ⟨(some 81), .load none (.t 13), none⟩,
  ⟨(some 82), .call (.c (.fn 25 [] [])) [(.t 80), (.t 81)], none⟩,
  ⟨(some 79), .mov (.t 82), none⟩,
  ⟨(some 83), .extract (.t 79) 0, none⟩,
  ⟨(some 84), .extract (.t 79) 1, none⟩,
  ⟨(some 15), .mov (.t 83), none⟩,
  ⟨(some 16), .mov (.t 84), none⟩] none)
 (.seq (.region [⟨(some 86), .load (some 1) (.t 3), none⟩,
  ⟨(some 87), .load none (.t 13), none⟩,
  ⟨(some 88), .call (.c (.fn 28 [] [])) [(.t 86), (.t 87)], none⟩,
  ⟨(some 85), .mov (.t 88), none⟩,
  ⟨(some 89), .extract (.t 85) 0, none⟩,
  ⟨(some 90), .extract (.t 85) 1, none⟩,
  ⟨(some 17), .mov (.t 89), none⟩,
  ⟨(some 18), .mov (.t 90), none⟩] none)
 (.seq (.region [⟨(some 92), .load (some 1) (.t 7), none⟩,
  ⟨(some 93), .load none (.t 13), none⟩,
  ⟨(some 94), .call (.c (.fn 25 [] [])) [(.t 92), (.t 93)], none⟩,
  ⟨(some 91), .mov (.t 94), none⟩,
  ⟨(some 95), .extract (.t 91) 0, none⟩,
  ⟨(some 96), .extract (.t 91) 1, none⟩,
  ⟨(some 19), .mov (.t 95), none⟩,
  ⟨(some 20), .mov (.t 96), none⟩] none)
 (.seq (.region [⟨(some 97), .mkfn 29 [] [(.t 13)], none⟩,
  ⟨(some 21), .mov (.t 97), none⟩] none)
 (.seq (.region [⟨(some 98), .mov (.t 16), none⟩,
  ⟨(some 99), .mov (.t 18), none⟩,
  ⟨(some 100), .bin .add (.t 98) (.t 99), none⟩,
  ⟨(some 101), .mov (.t 20), none⟩,
  ⟨(some 102), .bin .add (.t 100) (.t 101), none⟩,
  ⟨(some 103), .bin .neq (.t 102) (.c (.int .i64 0)), none⟩,
  ⟨(some 104), .mov (.t 103), none⟩,
  ⟨(some 105), .mov (.t 15), some (104, false)⟩,
  ⟨(some 106), .mov (.t 17), some (104, false)⟩,
  ⟨(some 107), .len false (.t 106), some (104, false)⟩,
  ⟨(some 108), .bin .eql (.t 107) (.c (.int .i64 0)), some (104, false)⟩,
  ⟨(some 109), .eqb true (.t 105) (.t 108), some (104, false)⟩,
  ⟨(some 110), .pick (.t 104) (.c (.bool true)) (.t 109), none⟩,
  ⟨(some 111), .mov (.t 110), none⟩,
  ⟨(some 112), .mov (.t 15), some (111, false)⟩,
  ⟨(some 113), .mov (.t 8), some (111, false)⟩,
  ⟨(some 114), .mov (.t 21), some (111, false)⟩,
  ⟨(some 115), .call (.c (.fn 30 [] [])) [(.t 113), (.t 114)], some (111, false)⟩,
  ⟨(some 116), .eqb true (.t 112) (.t 115), some (111, false)⟩,
  ⟨(some 117), .pick (.t 111) (.c (.bool true)) (.t 116), none⟩,
  ⟨(some 118), .mov (.t 117), none⟩,
  ⟨(some 119), .mov (.t 19), some (118, false)⟩,
  ⟨(some 120), .mov (.t 10), some (118, false)⟩,
  ⟨(some 121), .mov (.t 21), some (118, false)⟩,
  ⟨(some 122), .call (.c (.fn 30 [] [])) [(.t 120), (.t 121)], some (118, false)⟩,
  ⟨(some 123), .eqb true (.t 119) (.t 122), some (118, false)⟩,
  ⟨(some 124), .pick (.t 118) (.c (.bool true)) (.t 123), none⟩,
  ⟨(some 125), .mov (.t 124), none⟩,
  ⟨(some 126), .mov (.t 19), some (125, false)⟩,
  ⟨(some 127), .mov (.t 126), some (125, false)⟩,
  ⟨(some 128), .mov (.t 15), some (127, true)⟩,
  ⟨(some 129), .un .not (.t 128), some (127, true)⟩,
  ⟨(some 130), .pick (.t 127) (.t 129) (.c (.bool false)), some (125, false)⟩,
  ⟨(some 131), .pick (.t 125) (.c (.bool true)) (.t 130), none⟩] none)
 (.cond (.t 131) (.seq (.region [⟨(some 6), .mov (.c (.bool false)), none⟩] none)
 (.ret))
 (.skip)))))))))))
 (.region [⟨(some 132), .bin .add (.t 60) (.c (.int .i64 1)), none⟩,
  ⟨(some 60), .mov (.t 132), none⟩] none)))
-- pneumatic/pneumaticlaw49.GuardTells
def ic5 : IC := .seq (.region [⟨(some 3), .box (.t 0), none⟩,
  ⟨(some 5), .box (.t 2), none⟩,
  ⟨(some 6), .mov (.c (.bool false)), none⟩] none)
 (.seq (.seq (.region [⟨(some 22), .load (some 1) (.t 3), none⟩,
  ⟨(some 23), .mov (.t 1), none⟩,
  ⟨(some 24), .call (.c (.fn 22 [] [])) [(.t 22), (.t 23)], none⟩,
  ⟨(some 25), .un .not (.t 24), none⟩,
  ⟨(some 26), .mov (.t 25), none⟩,
  ⟨(some 27), .load (some 3) (.t 5), some (26, false)⟩,
  ⟨(some 28), .bslice 3 1 [.int .i64 0, .int .i64 0, .nils] [(0, 3, (.t 27))], some (26, false)⟩,
  ⟨(some 29), .build [.nils] [(0, 1, (.t 28))], some (26, false)⟩,
  ⟨(some 30), .mov (.t 1), some (26, false)⟩,
  ⟨(some 31), .call (.c (.fn 22 [] [])) [(.t 29), (.t 30)], some (26, false)⟩,
  ⟨(some 32), .un .not (.t 31), some (26, false)⟩,
  ⟨(some 33), .pick (.t 26) (.c (.bool true)) (.t 32), none⟩] none)
 (.cond (.t 33) (.seq (.region [⟨(some 34), .call (.c (.fn 17 [] [])) [], none⟩,
  ⟨(some 6), .mov (.t 34), none⟩] none)
 (.ret))
 (.skip)))
 (.seq (.region [⟨(some 35), .faddr 0 (.t 3), none⟩,
  ⟨(some 36), .load none (.t 35), none⟩,
  ⟨(some 37), .call (.c (.fn 26 [] [])) [(.t 36)], none⟩,
  ⟨(some 38), .load (some 3) (.t 5), none⟩,
  ⟨(some 39), .bslice 3 1 [.int .i64 0, .int .i64 0, .nils] [(0, 3, (.t 38))], none⟩,
  ⟨(some 40), .append 3 40 [.int .i64 0, .int .i64 0, .nils] (.t 37) (.t 39), none⟩,
  ⟨(some 41), .build [.nils] [(0, 1, (.t 40))], none⟩,
  ⟨(some 7), .alloc [.nils], none⟩,
  ⟨none, .store 1 (.t 7) (.t 41), none⟩] (some [[], [0], [1], [], [3], [2, 4, 2], [5], [], [7, 6, 5, 0, 1, 2, 3, 4, 5, 6, 7]]))
 (.seq (.region [⟨(some 43), .load (some 1) (.t 3), none⟩,
  ⟨(some 44), .mov (.t 1), none⟩,
  ⟨(some 45), .call (.c (.fn 27 [] [])) [(.t 43), (.t 44)], none⟩,
  ⟨(some 42), .mov (.t 45), none⟩,
  ⟨(some 46), .extract (.t 42) 0, none⟩,
  ⟨(some 47), .extract (.t 42) 1, none⟩,
  ⟨(some 8), .mov (.t 46), none⟩,
  ⟨(some 9), .mov (.t 47), none⟩] none)
 (.seq (.region [⟨(some 49), .load (some 1) (.t 7), none⟩,
  ⟨(some 50), .mov (.t 1), none⟩,
  ⟨(some 51), .call (.c (.fn 27 [] [])) [(.t 49), (.t 50)], none⟩,
  ⟨(some 48), .mov (.t 51), none⟩,
  ⟨(some 52), .extract (.t 48) 0, none⟩,
  ⟨(some 53), .extract (.t 48) 1, none⟩,
  ⟨(some 10), .mov (.t 52), none⟩,
  ⟨(some 11), .mov (.t 53), none⟩] none)
 (.seq (.seq (.region [⟨(some 54), .mov (.t 9), none⟩,
  ⟨(some 55), .mov (.t 11), none⟩,
  ⟨(some 56), .bin .add (.t 54) (.t 55), none⟩,
  ⟨(some 57), .bin .neq (.t 56) (.c (.int .i64 0)), none⟩] none)
 (.cond (.t 57) (.seq (.region [⟨(some 6), .mov (.c (.bool false)), none⟩] none)
 (.ret))
 (.skip)))
 (.seq (.seq (.region [⟨(some 58), .mov (.t 1), none⟩,
  ⟨(some 59), .bin .shl (.c (.int .i64 1)) (.t 58), none⟩,
  ⟨(some 60), .mov (.c (.int .i64 0)), none⟩] none)
 (.block 0 (.loop b5_0)))
 (.seq (.region [⟨(some 133), .mov (.t 8), none⟩,
  ⟨(some 134), .call (.c (.fn 31 [] [])) [(.t 133), (.c (.fn 32 [] []))], none⟩,
  ⟨(some 135), .mov (.t 134), none⟩,
  ⟨(some 136), .call (.c (.fn 17 [] [])) [], some (135, true)⟩,
  ⟨(some 137), .pick (.t 135) (.t 136) (.c (.bool false)), none⟩,
  ⟨(some 6), .mov (.t 137), none⟩] none)
 (.ret))))))))
theorem fn5 : env0.fn 5 = some ⟨138, ic5, [.t 6]⟩ := by kernel_rfl
section
variable {w0 : World} {N0 : Nat} {k : List Fr} {Q : Exit → AS → Prop}
def b5 (m : Nat) (F G A B : AV) (kk : Nat) (r : List (Nat × AV)) : List (Nat × AV) := (1, .int .i64 (m : Nat)) :: (3, F) :: (6, .bool false) :: (7, G) :: (8, A) :: (10, B) :: (59, .int .i64 (2 ^ m : Nat)) :: (60, .int .i64 (kk : Nat)) :: (12, .int .i64 (kk : Nat)) :: r
theorem RnC.eqk {live : zi4} {fz : List (Nat × Nat × List AV)} {us vs : List AV} (h : us = vs) (hm : hasM.hasML vs = false) : RnC live fz us vs := by
 subst h
 exact .keep hm
theorem rb5 {live : zi4} {fz : List (Nat × Nat × List AV)} {la r : List (Nat × AV)} {m kk : Nat} {F G A B : AV} (hF : hasM F = false) (hG : hasM G = false) (hA : hasM A = false) (hB : hasM B = false)
  (h1 : zbx 1 la = some (.int .i64 (m : Nat))) (h3 : zbx 3 la = some F) (h6 : zbx 6 la = some (.bool false)) (h7 : zbx 7 la = some G) (h8 : zbx 8 la = some A) (h10 : zbx 10 la = some B) (h59 : zbx 59 la = some (.int .i64 (2 ^ m : Nat))) (h60 : zbx 60 la = some (.int .i64 (kk : Nat))) (h12 : zbx 12 la = some (.int .i64 (kk : Nat))) (hr : RnA live fz la r) : RnA live fz la (b5 m F G A B kk r) :=
 .cons h1 (.same rfl) (.cons h3 (.same hF) (.cons h6 (.same rfl) (.cons h7 (.same hG) (.cons h8 (.same hA) (.cons h10 (.same hB) (.cons h59 (.same rfl) (.cons h60 (.same rfl) (.cons h12 (.same rfl) hr))))))))
set_option maxHeartbeats 8000000 in
theorem inner1 (F G A B : AV) (hF : hasM F = false) (hG : hasM G = false) (hA : hasM A = false) (hB : hasM B = false) (kk : Nat) (hk : kk < 2 ^ 1) {y : IC}
  (fin : Zm Try.prog w0 N0 none y (st 138 (b5 1 F G A B kk [(13, .vptr [vsI (zb9 1 kk)])]) [] 0 1) k Q) :
  Zm Try.prog w0 N0 none (.loop b5_2) (st 138 (b5 1 F G A B kk [(13, .mptr 0 0 0), (63, .int .i64 1), (64, .int .i64 ((0 : Nat) : Int))]) [(0, 0, .cells [.ms 1 0 1 0 0 none]), (1, 0, .cells (((zb9 1 kk).take 0).map (AV.int .i64)))] 2 1) (.blk 2 :: .seq y :: k) Q := by
 refine zcj (fun mm S => ∃ j, mm = 1 - j ∧ j ≤ 1 ∧ S = st 138 (b5 1 F G A B kk [(13, .mptr 0 0 0), (63, .int .i64 1), (64, .int .i64 ((j : Nat) : Int))]) [(0, 0, .cells [.ms 1 0 1 0 j none]), (1, 0, .cells (((zb9 1 kk).take j).map (AV.int .i64)))] 2 1) 1
  (zam (.cons rfl (.cons rfl (.cons rfl (.cons rfl (.cons rfl (.cons rfl (.cons rfl (.cons rfl (.cons rfl (.cons rfl (.cons rfl (.cons rfl .nil))))))))))))) ⟨0, rfl, Nat.zero_le _, rfl⟩ ?_
 rintro mm S ⟨j, rfl, hj, rfl⟩
 unfold b5_2
 rcases (show j = 0 ∨ j = 1 by omega) with rfl | rfl
 ·repeat (first | refine za5 ?_ | refine za0 rfl ?_ | refine za4 ?_ | refine za2 ?_ | refine zae ?_ | refine zab ?_ | refine zb6 rfl ?_ | refine za3 rfl ?_ | refine zbu rfl rfl rfl ?_)
  refine zdb env0_ok (fun d => Nat.beq d 76) (fun d => Nat.beq d 67) [] (fun x hx => absurd hx List.not_mem_nil) (fun _ => false) [] (fun x hx => absurd hx List.not_mem_nil) (fun _ => false) rfl rfl rfl ?_
  refine o_lo rfl (zeh (sp := 0) rfl rfl (by decide) rfl) ?_
  repeat (first | refine za3 rfl ?_ | refine zao (op := .sub) rfl rfl rfl ?_)
  refine zao (op := .shr) rfl rfl rfl ?_
  refine zao (op := .and) rfl rfl rfl ?_
  refine zao (op := .mul) rfl rfl rfl ?_
  refine zcr rfl rfl rfl rfl rfl ?_
  refine zbd [[.int .i64 _]] rfl rfl rfl (fun h => Nat.noConfusion h) rfl (by decide) rfl rfl (by show _ + 1 ≤ _; omega) ?_
  repeat (first | refine za0 rfl ?_ | refine za4 ?_ | refine za2 ?_ | refine zbe ?_ | refine za3 rfl ?_ | refine zap rfl rfl rfl rfl rfl rfl rfl ?_ | refine zao (op := .add) rfl rfl rfl ?_)
  exact zaz (show 1 - (0 + 1) < 1 - 0 by decide) (zd1 [(some (0, 0), [.ms 1 0 1 0 (0 + 1) none]), (some (1, 1), ((zb9 1 kk).take (0 + 1)).map (AV.int .i64))] [] rfl rfl rfl .nil (.cons rfl (.cons (.ms rfl) .nil) (.cons rfl (RnC.eqk (by clear fin; rcases (show kk = 0 ∨ kk = 1 by omega) with rfl | rfl <;> kernel_rfl) (zb8 _)) .nil)) (l' := b5 1 F G A B kk [(13, .mptr 0 0 0), (63, .int .i64 1), (64, .int .i64 ((0 + 1 : Nat) : Int))]) (rb5 hF hG hA hB rfl rfl rfl rfl rfl rfl rfl rfl rfl (.cons rfl (.mptr rfl) (.cons rfl (.same rfl) (.cons rfl (.same rfl) .nil))))) ⟨0 + 1, rfl, by decide, rfl⟩
 ·have hl : (zb9 1 kk).length = 1 := List.length_map ..
  rw [show (zb9 1 kk).take 1 = zb9 1 kk from List.take_of_length_le (Nat.le_of_eq hl)]
  repeat (first | refine za5 ?_ | refine za0 rfl ?_ | refine za4 ?_ | refine za2 ?_ | refine zbi rfl ?_ | refine zc0 ?_ | refine zan ?_ | refine zbt rfl rfl rfl ?_)
  refine zdk (zby (za2 ?_))
  refine zes [(some (0, 0), [vsI (zb9 1 kk)])] [(1, 0, (zb9 1 kk).map (AV.int .i64))] (b5 1 F G A B kk [(13, .mptr 0 0 0)]) rfl (.cons rfl (zb8 _) .nil) (.cons rfl (.cons (.fms0 rfl (by rw [List.length_map, hl]) (fun y hy => by obtain ⟨z, _, rfl⟩ := List.mem_map.1 hy; rfl) (zgk _)) .nil) .nil) (rb5 hF hG hA hB rfl rfl rfl rfl rfl rfl rfl rfl rfl (.cons rfl (.mptr rfl) .nil)) ?_
  exact zes [] [(0, 0, [vsI (zb9 1 kk)])] (b5 1 F G A B kk [(13, .vptr [vsI (zb9 1 kk)])]) rfl (.cons rfl rfl .nil) .nil (rb5 hF hG hA hB rfl rfl rfl rfl rfl rfl rfl rfl rfl (.cons rfl (.fptr rfl rfl) .nil)) fin
set_option maxHeartbeats 8000000 in
theorem inner2 (F G A B : AV) (hF : hasM F = false) (hG : hasM G = false) (hA : hasM A = false) (hB : hasM B = false) (kk : Nat) (hk : kk < 2 ^ 2) {y : IC}
  (fin : Zm Try.prog w0 N0 none y (st 138 (b5 2 F G A B kk [(13, .vptr [vsI (zb9 2 kk)])]) [] 0 1) k Q) :
  Zm Try.prog w0 N0 none (.loop b5_2) (st 138 (b5 2 F G A B kk [(13, .mptr 0 0 0), (63, .int .i64 2), (64, .int .i64 ((0 : Nat) : Int))]) [(0, 0, .cells [.ms 1 0 1 0 0 none]), (1, 0, .cells (((zb9 2 kk).take 0).map (AV.int .i64)))] 2 1) (.blk 2 :: .seq y :: k) Q := by
 refine zcj (fun mm S => ∃ j, mm = 2 - j ∧ j ≤ 2 ∧ S = st 138 (b5 2 F G A B kk [(13, .mptr 0 0 0), (63, .int .i64 2), (64, .int .i64 ((j : Nat) : Int))]) [(0, 0, .cells [.ms 1 0 1 0 j none]), (1, 0, .cells (((zb9 2 kk).take j).map (AV.int .i64)))] 2 1) 2
  (zam (.cons rfl (.cons rfl (.cons rfl (.cons rfl (.cons rfl (.cons rfl (.cons rfl (.cons rfl (.cons rfl (.cons rfl (.cons rfl (.cons rfl .nil))))))))))))) ⟨0, rfl, Nat.zero_le _, rfl⟩ ?_
 rintro mm S ⟨j, rfl, hj, rfl⟩
 unfold b5_2
 rcases (show j = 0 ∨ j = 1 ∨ j = 2 by omega) with rfl | rfl | rfl
 ·repeat (first | refine za5 ?_ | refine za0 rfl ?_ | refine za4 ?_ | refine za2 ?_ | refine zae ?_ | refine zab ?_ | refine zb6 rfl ?_ | refine za3 rfl ?_ | refine zbu rfl rfl rfl ?_)
  refine zdb env0_ok (fun d => Nat.beq d 76) (fun d => Nat.beq d 67) [] (fun x hx => absurd hx List.not_mem_nil) (fun _ => false) [] (fun x hx => absurd hx List.not_mem_nil) (fun _ => false) rfl rfl rfl ?_
  refine o_lo rfl (zeh (sp := 0) rfl rfl (by decide) rfl) ?_
  repeat (first | refine za3 rfl ?_ | refine zao (op := .sub) rfl rfl rfl ?_)
  refine zao (op := .shr) rfl rfl rfl ?_
  refine zao (op := .and) rfl rfl rfl ?_
  refine zao (op := .mul) rfl rfl rfl ?_
  refine zcr rfl rfl rfl rfl rfl ?_
  refine zbd [[.int .i64 _]] rfl rfl rfl (fun h => Nat.noConfusion h) rfl (by decide) rfl rfl (by show _ + 1 ≤ _; omega) ?_
  repeat (first | refine za0 rfl ?_ | refine za4 ?_ | refine za2 ?_ | refine zbe ?_ | refine za3 rfl ?_ | refine zap rfl rfl rfl rfl rfl rfl rfl ?_ | refine zao (op := .add) rfl rfl rfl ?_)
  exact zaz (show 2 - (0 + 1) < 2 - 0 by decide) (zd1 [(some (0, 0), [.ms 1 0 1 0 (0 + 1) none]), (some (1, 1), ((zb9 2 kk).take (0 + 1)).map (AV.int .i64))] [] rfl rfl rfl .nil (.cons rfl (.cons (.ms rfl) .nil) (.cons rfl (RnC.eqk (by clear fin; rcases (show kk = 0 ∨ kk = 1 ∨ kk = 2 ∨ kk = 3 by omega) with rfl | rfl | rfl | rfl <;> kernel_rfl) (zb8 _)) .nil)) (l' := b5 2 F G A B kk [(13, .mptr 0 0 0), (63, .int .i64 2), (64, .int .i64 ((0 + 1 : Nat) : Int))]) (rb5 hF hG hA hB rfl rfl rfl rfl rfl rfl rfl rfl rfl (.cons rfl (.mptr rfl) (.cons rfl (.same rfl) (.cons rfl (.same rfl) .nil))))) ⟨0 + 1, rfl, by decide, rfl⟩
 ·repeat (first | refine za5 ?_ | refine za0 rfl ?_ | refine za4 ?_ | refine za2 ?_ | refine zae ?_ | refine zab ?_ | refine zb6 rfl ?_ | refine za3 rfl ?_ | refine zbu rfl rfl rfl ?_)
  refine zdb env0_ok (fun d => Nat.beq d 76) (fun d => Nat.beq d 67) [] (fun x hx => absurd hx List.not_mem_nil) (fun _ => false) [] (fun x hx => absurd hx List.not_mem_nil) (fun _ => false) rfl rfl rfl ?_
  refine o_lo rfl (zeh (sp := 0) rfl rfl (by decide) rfl) ?_
  repeat (first | refine za3 rfl ?_ | refine zao (op := .sub) rfl rfl rfl ?_)
  refine zao (op := .shr) rfl rfl rfl ?_
  refine zao (op := .and) rfl rfl rfl ?_
  refine zao (op := .mul) rfl rfl rfl ?_
  refine zcr rfl rfl rfl rfl rfl ?_
  refine zbd [[.int .i64 _]] rfl rfl rfl (fun h => Nat.noConfusion h) rfl (by decide) rfl rfl (by show _ + 1 ≤ _; omega) ?_
  repeat (first | refine za0 rfl ?_ | refine za4 ?_ | refine za2 ?_ | refine zbe ?_ | refine za3 rfl ?_ | refine zap rfl rfl rfl rfl rfl rfl rfl ?_ | refine zao (op := .add) rfl rfl rfl ?_)
  exact zaz (show 2 - (1 + 1) < 2 - 1 by decide) (zd1 [(some (0, 0), [.ms 1 0 1 0 (1 + 1) none]), (some (1, 1), ((zb9 2 kk).take (1 + 1)).map (AV.int .i64))] [] rfl rfl rfl .nil (.cons rfl (.cons (.ms rfl) .nil) (.cons rfl (RnC.eqk (by clear fin; rcases (show kk = 0 ∨ kk = 1 ∨ kk = 2 ∨ kk = 3 by omega) with rfl | rfl | rfl | rfl <;> kernel_rfl) (zb8 _)) .nil)) (l' := b5 2 F G A B kk [(13, .mptr 0 0 0), (63, .int .i64 2), (64, .int .i64 ((1 + 1 : Nat) : Int))]) (rb5 hF hG hA hB rfl rfl rfl rfl rfl rfl rfl rfl rfl (.cons rfl (.mptr rfl) (.cons rfl (.same rfl) (.cons rfl (.same rfl) .nil))))) ⟨1 + 1, rfl, by decide, rfl⟩
 ·have hl : (zb9 2 kk).length = 2 := List.length_map ..
  rw [show (zb9 2 kk).take 2 = zb9 2 kk from List.take_of_length_le (Nat.le_of_eq hl)]
  repeat (first | refine za5 ?_ | refine za0 rfl ?_ | refine za4 ?_ | refine za2 ?_ | refine zbi rfl ?_ | refine zc0 ?_ | refine zan ?_ | refine zbt rfl rfl rfl ?_)
  refine zdk (zby (za2 ?_))
  refine zes [(some (0, 0), [vsI (zb9 2 kk)])] [(1, 0, (zb9 2 kk).map (AV.int .i64))] (b5 2 F G A B kk [(13, .mptr 0 0 0)]) rfl (.cons rfl (zb8 _) .nil) (.cons rfl (.cons (.fms0 rfl (by rw [List.length_map, hl]) (fun y hy => by obtain ⟨z, _, rfl⟩ := List.mem_map.1 hy; rfl) (zgk _)) .nil) .nil) (rb5 hF hG hA hB rfl rfl rfl rfl rfl rfl rfl rfl rfl (.cons rfl (.mptr rfl) .nil)) ?_
  exact zes [] [(0, 0, [vsI (zb9 2 kk)])] (b5 2 F G A B kk [(13, .vptr [vsI (zb9 2 kk)])]) rfl (.cons rfl rfl .nil) .nil (rb5 hF hG hA hB rfl rfl rfl rfl rfl rfl rfl rfl rfl (.cons rfl (.fptr rfl rfl) .nil)) fin
set_option maxHeartbeats 8000000 in
theorem inner3 (F G A B : AV) (hF : hasM F = false) (hG : hasM G = false) (hA : hasM A = false) (hB : hasM B = false) (kk : Nat) (hk : kk < 2 ^ 3) {y : IC}
  (fin : Zm Try.prog w0 N0 none y (st 138 (b5 3 F G A B kk [(13, .vptr [vsI (zb9 3 kk)])]) [] 0 1) k Q) :
  Zm Try.prog w0 N0 none (.loop b5_2) (st 138 (b5 3 F G A B kk [(13, .mptr 0 0 0), (63, .int .i64 3), (64, .int .i64 ((0 : Nat) : Int))]) [(0, 0, .cells [.ms 1 0 1 0 0 none]), (1, 0, .cells (((zb9 3 kk).take 0).map (AV.int .i64)))] 2 1) (.blk 2 :: .seq y :: k) Q := by
 refine zcj (fun mm S => ∃ j, mm = 3 - j ∧ j ≤ 3 ∧ S = st 138 (b5 3 F G A B kk [(13, .mptr 0 0 0), (63, .int .i64 3), (64, .int .i64 ((j : Nat) : Int))]) [(0, 0, .cells [.ms 1 0 1 0 j none]), (1, 0, .cells (((zb9 3 kk).take j).map (AV.int .i64)))] 2 1) 3
  (zam (.cons rfl (.cons rfl (.cons rfl (.cons rfl (.cons rfl (.cons rfl (.cons rfl (.cons rfl (.cons rfl (.cons rfl (.cons rfl (.cons rfl .nil))))))))))))) ⟨0, rfl, Nat.zero_le _, rfl⟩ ?_
 rintro mm S ⟨j, rfl, hj, rfl⟩
 unfold b5_2
 rcases (show j = 0 ∨ j = 1 ∨ j = 2 ∨ j = 3 by omega) with rfl | rfl | rfl | rfl
 ·repeat (first | refine za5 ?_ | refine za0 rfl ?_ | refine za4 ?_ | refine za2 ?_ | refine zae ?_ | refine zab ?_ | refine zb6 rfl ?_ | refine za3 rfl ?_ | refine zbu rfl rfl rfl ?_)
  refine zdb env0_ok (fun d => Nat.beq d 76) (fun d => Nat.beq d 67) [] (fun x hx => absurd hx List.not_mem_nil) (fun _ => false) [] (fun x hx => absurd hx List.not_mem_nil) (fun _ => false) rfl rfl rfl ?_
  refine o_lo rfl (zeh (sp := 0) rfl rfl (by decide) rfl) ?_
  repeat (first | refine za3 rfl ?_ | refine zao (op := .sub) rfl rfl rfl ?_)
  refine zao (op := .shr) rfl rfl rfl ?_
  refine zao (op := .and) rfl rfl rfl ?_
  refine zao (op := .mul) rfl rfl rfl ?_
  refine zcr rfl rfl rfl rfl rfl ?_
  refine zbd [[.int .i64 _]] rfl rfl rfl (fun h => Nat.noConfusion h) rfl (by decide) rfl rfl (by show _ + 1 ≤ _; omega) ?_
  repeat (first | refine za0 rfl ?_ | refine za4 ?_ | refine za2 ?_ | refine zbe ?_ | refine za3 rfl ?_ | refine zap rfl rfl rfl rfl rfl rfl rfl ?_ | refine zao (op := .add) rfl rfl rfl ?_)
  exact zaz (show 3 - (0 + 1) < 3 - 0 by decide) (zd1 [(some (0, 0), [.ms 1 0 1 0 (0 + 1) none]), (some (1, 1), ((zb9 3 kk).take (0 + 1)).map (AV.int .i64))] [] rfl rfl rfl .nil (.cons rfl (.cons (.ms rfl) .nil) (.cons rfl (RnC.eqk (by clear fin; rcases (show kk = 0 ∨ kk = 1 ∨ kk = 2 ∨ kk = 3 ∨ kk = 4 ∨ kk = 5 ∨ kk = 6 ∨ kk = 7 by omega) with rfl | rfl | rfl | rfl | rfl | rfl | rfl | rfl <;> kernel_rfl) (zb8 _)) .nil)) (l' := b5 3 F G A B kk [(13, .mptr 0 0 0), (63, .int .i64 3), (64, .int .i64 ((0 + 1 : Nat) : Int))]) (rb5 hF hG hA hB rfl rfl rfl rfl rfl rfl rfl rfl rfl (.cons rfl (.mptr rfl) (.cons rfl (.same rfl) (.cons rfl (.same rfl) .nil))))) ⟨0 + 1, rfl, by decide, rfl⟩
 ·repeat (first | refine za5 ?_ | refine za0 rfl ?_ | refine za4 ?_ | refine za2 ?_ | refine zae ?_ | refine zab ?_ | refine zb6 rfl ?_ | refine za3 rfl ?_ | refine zbu rfl rfl rfl ?_)
  refine zdb env0_ok (fun d => Nat.beq d 76) (fun d => Nat.beq d 67) [] (fun x hx => absurd hx List.not_mem_nil) (fun _ => false) [] (fun x hx => absurd hx List.not_mem_nil) (fun _ => false) rfl rfl rfl ?_
  refine o_lo rfl (zeh (sp := 0) rfl rfl (by decide) rfl) ?_
  repeat (first | refine za3 rfl ?_ | refine zao (op := .sub) rfl rfl rfl ?_)
  refine zao (op := .shr) rfl rfl rfl ?_
  refine zao (op := .and) rfl rfl rfl ?_
  refine zao (op := .mul) rfl rfl rfl ?_
  refine zcr rfl rfl rfl rfl rfl ?_
  refine zbd [[.int .i64 _]] rfl rfl rfl (fun h => Nat.noConfusion h) rfl (by decide) rfl rfl (by show _ + 1 ≤ _; omega) ?_
  repeat (first | refine za0 rfl ?_ | refine za4 ?_ | refine za2 ?_ | refine zbe ?_ | refine za3 rfl ?_ | refine zap rfl rfl rfl rfl rfl rfl rfl ?_ | refine zao (op := .add) rfl rfl rfl ?_)
  exact zaz (show 3 - (1 + 1) < 3 - 1 by decide) (zd1 [(some (0, 0), [.ms 1 0 1 0 (1 + 1) none]), (some (1, 1), ((zb9 3 kk).take (1 + 1)).map (AV.int .i64))] [] rfl rfl rfl .nil (.cons rfl (.cons (.ms rfl) .nil) (.cons rfl (RnC.eqk (by clear fin; rcases (show kk = 0 ∨ kk = 1 ∨ kk = 2 ∨ kk = 3 ∨ kk = 4 ∨ kk = 5 ∨ kk = 6 ∨ kk = 7 by omega) with rfl | rfl | rfl | rfl | rfl | rfl | rfl | rfl <;> kernel_rfl) (zb8 _)) .nil)) (l' := b5 3 F G A B kk [(13, .mptr 0 0 0), (63, .int .i64 3), (64, .int .i64 ((1 + 1 : Nat) : Int))]) (rb5 hF hG hA hB rfl rfl rfl rfl rfl rfl rfl rfl rfl (.cons rfl (.mptr rfl) (.cons rfl (.same rfl) (.cons rfl (.same rfl) .nil))))) ⟨1 + 1, rfl, by decide, rfl⟩
 ·repeat (first | refine za5 ?_ | refine za0 rfl ?_ | refine za4 ?_ | refine za2 ?_ | refine zae ?_ | refine zab ?_ | refine zb6 rfl ?_ | refine za3 rfl ?_ | refine zbu rfl rfl rfl ?_)
  refine zdb env0_ok (fun d => Nat.beq d 76) (fun d => Nat.beq d 67) [] (fun x hx => absurd hx List.not_mem_nil) (fun _ => false) [] (fun x hx => absurd hx List.not_mem_nil) (fun _ => false) rfl rfl rfl ?_
  refine o_lo rfl (zeh (sp := 0) rfl rfl (by decide) rfl) ?_
  repeat (first | refine za3 rfl ?_ | refine zao (op := .sub) rfl rfl rfl ?_)
  refine zao (op := .shr) rfl rfl rfl ?_
  refine zao (op := .and) rfl rfl rfl ?_
  refine zao (op := .mul) rfl rfl rfl ?_
  refine zcr rfl rfl rfl rfl rfl ?_
  refine zbd [[.int .i64 _]] rfl rfl rfl (fun h => Nat.noConfusion h) rfl (by decide) rfl rfl (by show _ + 1 ≤ _; omega) ?_
  repeat (first | refine za0 rfl ?_ | refine za4 ?_ | refine za2 ?_ | refine zbe ?_ | refine za3 rfl ?_ | refine zap rfl rfl rfl rfl rfl rfl rfl ?_ | refine zao (op := .add) rfl rfl rfl ?_)
  exact zaz (show 3 - (2 + 1) < 3 - 2 by decide) (zd1 [(some (0, 0), [.ms 1 0 1 0 (2 + 1) none]), (some (1, 1), ((zb9 3 kk).take (2 + 1)).map (AV.int .i64))] [] rfl rfl rfl .nil (.cons rfl (.cons (.ms rfl) .nil) (.cons rfl (RnC.eqk (by clear fin; rcases (show kk = 0 ∨ kk = 1 ∨ kk = 2 ∨ kk = 3 ∨ kk = 4 ∨ kk = 5 ∨ kk = 6 ∨ kk = 7 by omega) with rfl | rfl | rfl | rfl | rfl | rfl | rfl | rfl <;> kernel_rfl) (zb8 _)) .nil)) (l' := b5 3 F G A B kk [(13, .mptr 0 0 0), (63, .int .i64 3), (64, .int .i64 ((2 + 1 : Nat) : Int))]) (rb5 hF hG hA hB rfl rfl rfl rfl rfl rfl rfl rfl rfl (.cons rfl (.mptr rfl) (.cons rfl (.same rfl) (.cons rfl (.same rfl) .nil))))) ⟨2 + 1, rfl, by decide, rfl⟩
 ·have hl : (zb9 3 kk).length = 3 := List.length_map ..
  rw [show (zb9 3 kk).take 3 = zb9 3 kk from List.take_of_length_le (Nat.le_of_eq hl)]
  repeat (first | refine za5 ?_ | refine za0 rfl ?_ | refine za4 ?_ | refine za2 ?_ | refine zbi rfl ?_ | refine zc0 ?_ | refine zan ?_ | refine zbt rfl rfl rfl ?_)
  refine zdk (zby (za2 ?_))
  refine zes [(some (0, 0), [vsI (zb9 3 kk)])] [(1, 0, (zb9 3 kk).map (AV.int .i64))] (b5 3 F G A B kk [(13, .mptr 0 0 0)]) rfl (.cons rfl (zb8 _) .nil) (.cons rfl (.cons (.fms0 rfl (by rw [List.length_map, hl]) (fun y hy => by obtain ⟨z, _, rfl⟩ := List.mem_map.1 hy; rfl) (zgk _)) .nil) .nil) (rb5 hF hG hA hB rfl rfl rfl rfl rfl rfl rfl rfl rfl (.cons rfl (.mptr rfl) .nil)) ?_
  exact zes [] [(0, 0, [vsI (zb9 3 kk)])] (b5 3 F G A B kk [(13, .vptr [vsI (zb9 3 kk)])]) rfl (.cons rfl rfl .nil) .nil (rb5 hF hG hA hB rfl rfl rfl rfl rfl rfl rfl rfl rfl (.cons rfl (.fptr rfl rfl) .nil)) fin
set_option maxHeartbeats 8000000 in
theorem inner4 (F G A B : AV) (hF : hasM F = false) (hG : hasM G = false) (hA : hasM A = false) (hB : hasM B = false) (kk : Nat) (hk : kk < 2 ^ 4) {y : IC}
  (fin : Zm Try.prog w0 N0 none y (st 138 (b5 4 F G A B kk [(13, .vptr [vsI (zb9 4 kk)])]) [] 0 1) k Q) :
  Zm Try.prog w0 N0 none (.loop b5_2) (st 138 (b5 4 F G A B kk [(13, .mptr 0 0 0), (63, .int .i64 4), (64, .int .i64 ((0 : Nat) : Int))]) [(0, 0, .cells [.ms 1 0 1 0 0 none]), (1, 0, .cells (((zb9 4 kk).take 0).map (AV.int .i64)))] 2 1) (.blk 2 :: .seq y :: k) Q := by
 refine zcj (fun mm S => ∃ j, mm = 4 - j ∧ j ≤ 4 ∧ S = st 138 (b5 4 F G A B kk [(13, .mptr 0 0 0), (63, .int .i64 4), (64, .int .i64 ((j : Nat) : Int))]) [(0, 0, .cells [.ms 1 0 1 0 j none]), (1, 0, .cells (((zb9 4 kk).take j).map (AV.int .i64)))] 2 1) 4
  (zam (.cons rfl (.cons rfl (.cons rfl (.cons rfl (.cons rfl (.cons rfl (.cons rfl (.cons rfl (.cons rfl (.cons rfl (.cons rfl (.cons rfl .nil))))))))))))) ⟨0, rfl, Nat.zero_le _, rfl⟩ ?_
 rintro mm S ⟨j, rfl, hj, rfl⟩
 unfold b5_2
 rcases (show j = 0 ∨ j = 1 ∨ j = 2 ∨ j = 3 ∨ j = 4 by omega) with rfl | rfl | rfl | rfl | rfl
 ·repeat (first | refine za5 ?_ | refine za0 rfl ?_ | refine za4 ?_ | refine za2 ?_ | refine zae ?_ | refine zab ?_ | refine zb6 rfl ?_ | refine za3 rfl ?_ | refine zbu rfl rfl rfl ?_)
  refine zdb env0_ok (fun d => Nat.beq d 76) (fun d => Nat.beq d 67) [] (fun x hx => absurd hx List.not_mem_nil) (fun _ => false) [] (fun x hx => absurd hx List.not_mem_nil) (fun _ => false) rfl rfl rfl ?_
  refine o_lo rfl (zeh (sp := 0) rfl rfl (by decide) rfl) ?_
  repeat (first | refine za3 rfl ?_ | refine zao (op := .sub) rfl rfl rfl ?_)
  refine zao (op := .shr) rfl rfl rfl ?_
  refine zao (op := .and) rfl rfl rfl ?_
  refine zao (op := .mul) rfl rfl rfl ?_
  refine zcr rfl rfl rfl rfl rfl ?_
  refine zbd [[.int .i64 _]] rfl rfl rfl (fun h => Nat.noConfusion h) rfl (by decide) rfl rfl (by show _ + 1 ≤ _; omega) ?_
  repeat (first | refine za0 rfl ?_ | refine za4 ?_ | refine za2 ?_ | refine zbe ?_ | refine za3 rfl ?_ | refine zap rfl rfl rfl rfl rfl rfl rfl ?_ | refine zao (op := .add) rfl rfl rfl ?_)
  exact zaz (show 4 - (0 + 1) < 4 - 0 by decide) (zd1 [(some (0, 0), [.ms 1 0 1 0 (0 + 1) none]), (some (1, 1), ((zb9 4 kk).take (0 + 1)).map (AV.int .i64))] [] rfl rfl rfl .nil (.cons rfl (.cons (.ms rfl) .nil) (.cons rfl (RnC.eqk (by clear fin; rcases (show kk = 0 ∨ kk = 1 ∨ kk = 2 ∨ kk = 3 ∨ kk = 4 ∨ kk = 5 ∨ kk = 6 ∨ kk = 7 ∨ kk = 8 ∨ kk = 9 ∨ kk = 10 ∨ kk = 11 ∨ kk = 12 ∨ kk = 13 ∨ kk = 14 ∨ kk = 15 by omega) with rfl | rfl | rfl | rfl | rfl | rfl | rfl | rfl | rfl | rfl | rfl | rfl | rfl | rfl | rfl | rfl <;> kernel_rfl) (zb8 _)) .nil)) (l' := b5 4 F G A B kk [(13, .mptr 0 0 0), (63, .int .i64 4), (64, .int .i64 ((0 + 1 : Nat) : Int))]) (rb5 hF hG hA hB rfl rfl rfl rfl rfl rfl rfl rfl rfl (.cons rfl (.mptr rfl) (.cons rfl (.same rfl) (.cons rfl (.same rfl) .nil))))) ⟨0 + 1, rfl, by decide, rfl⟩
 ·repeat (first | refine za5 ?_ | refine za0 rfl ?_ | refine za4 ?_ | refine za2 ?_ | refine zae ?_ | refine zab ?_ | refine zb6 rfl ?_ | refine za3 rfl ?_ | refine zbu rfl rfl rfl ?_)
  refine zdb env0_ok (fun d => Nat.beq d 76) (fun d => Nat.beq d 67) [] (fun x hx => absurd hx List.not_mem_nil) (fun _ => false) [] (fun x hx => absurd hx List.not_mem_nil) (fun _ => false) rfl rfl rfl ?_
  refine o_lo rfl (zeh (sp := 0) rfl rfl (by decide) rfl) ?_
  repeat (first | refine za3 rfl ?_ | refine zao (op := .sub) rfl rfl rfl ?_)
  refine zao (op := .shr) rfl rfl rfl ?_
  refine zao (op := .and) rfl rfl rfl ?_
  refine zao (op := .mul) rfl rfl rfl ?_
  refine zcr rfl rfl rfl rfl rfl ?_
  refine zbd [[.int .i64 _]] rfl rfl rfl (fun h => Nat.noConfusion h) rfl (by decide) rfl rfl (by show _ + 1 ≤ _; omega) ?_
  repeat (first | refine za0 rfl ?_ | refine za4 ?_ | refine za2 ?_ | refine zbe ?_ | refine za3 rfl ?_ | refine zap rfl rfl rfl rfl rfl rfl rfl ?_ | refine zao (op := .add) rfl rfl rfl ?_)
  exact zaz (show 4 - (1 + 1) < 4 - 1 by decide) (zd1 [(some (0, 0), [.ms 1 0 1 0 (1 + 1) none]), (some (1, 1), ((zb9 4 kk).take (1 + 1)).map (AV.int .i64))] [] rfl rfl rfl .nil (.cons rfl (.cons (.ms rfl) .nil) (.cons rfl (RnC.eqk (by clear fin; rcases (show kk = 0 ∨ kk = 1 ∨ kk = 2 ∨ kk = 3 ∨ kk = 4 ∨ kk = 5 ∨ kk = 6 ∨ kk = 7 ∨ kk = 8 ∨ kk = 9 ∨ kk = 10 ∨ kk = 11 ∨ kk = 12 ∨ kk = 13 ∨ kk = 14 ∨ kk = 15 by omega) with rfl | rfl | rfl | rfl | rfl | rfl | rfl | rfl | rfl | rfl | rfl | rfl | rfl | rfl | rfl | rfl <;> kernel_rfl) (zb8 _)) .nil)) (l' := b5 4 F G A B kk [(13, .mptr 0 0 0), (63, .int .i64 4), (64, .int .i64 ((1 + 1 : Nat) : Int))]) (rb5 hF hG hA hB rfl rfl rfl rfl rfl rfl rfl rfl rfl (.cons rfl (.mptr rfl) (.cons rfl (.same rfl) (.cons rfl (.same rfl) .nil))))) ⟨1 + 1, rfl, by decide, rfl⟩
 ·repeat (first | refine za5 ?_ | refine za0 rfl ?_ | refine za4 ?_ | refine za2 ?_ | refine zae ?_ | refine zab ?_ | refine zb6 rfl ?_ | refine za3 rfl ?_ | refine zbu rfl rfl rfl ?_)
  refine zdb env0_ok (fun d => Nat.beq d 76) (fun d => Nat.beq d 67) [] (fun x hx => absurd hx List.not_mem_nil) (fun _ => false) [] (fun x hx => absurd hx List.not_mem_nil) (fun _ => false) rfl rfl rfl ?_
  refine o_lo rfl (zeh (sp := 0) rfl rfl (by decide) rfl) ?_
  repeat (first | refine za3 rfl ?_ | refine zao (op := .sub) rfl rfl rfl ?_)
  refine zao (op := .shr) rfl rfl rfl ?_
  refine zao (op := .and) rfl rfl rfl ?_
  refine zao (op := .mul) rfl rfl rfl ?_
  refine zcr rfl rfl rfl rfl rfl ?_
  refine zbd [[.int .i64 _]] rfl rfl rfl (fun h => Nat.noConfusion h) rfl (by decide) rfl rfl (by show _ + 1 ≤ _; omega) ?_
  repeat (first | refine za0 rfl ?_ | refine za4 ?_ | refine za2 ?_ | refine zbe ?_ | refine za3 rfl ?_ | refine zap rfl rfl rfl rfl rfl rfl rfl ?_ | refine zao (op := .add) rfl rfl rfl ?_)
  exact zaz (show 4 - (2 + 1) < 4 - 2 by decide) (zd1 [(some (0, 0), [.ms 1 0 1 0 (2 + 1) none]), (some (1, 1), ((zb9 4 kk).take (2 + 1)).map (AV.int .i64))] [] rfl rfl rfl .nil (.cons rfl (.cons (.ms rfl) .nil) (.cons rfl (RnC.eqk (by clear fin; rcases (show kk = 0 ∨ kk = 1 ∨ kk = 2 ∨ kk = 3 ∨ kk = 4 ∨ kk = 5 ∨ kk = 6 ∨ kk = 7 ∨ kk = 8 ∨ kk = 9 ∨ kk = 10 ∨ kk = 11 ∨ kk = 12 ∨ kk = 13 ∨ kk = 14 ∨ kk = 15 by omega) with rfl | rfl | rfl | rfl | rfl | rfl | rfl | rfl | rfl | rfl | rfl | rfl | rfl | rfl | rfl | rfl <;> kernel_rfl) (zb8 _)) .nil)) (l' := b5 4 F G A B kk [(13, .mptr 0 0 0), (63, .int .i64 4), (64, .int .i64 ((2 + 1 : Nat) : Int))]) (rb5 hF hG hA hB rfl rfl rfl rfl rfl rfl rfl rfl rfl (.cons rfl (.mptr rfl) (.cons rfl (.same rfl) (.cons rfl (.same rfl) .nil))))) ⟨2 + 1, rfl, by decide, rfl⟩
 ·repeat (first | refine za5 ?_ | refine za0 rfl ?_ | refine za4 ?_ | refine za2 ?_ | refine zae ?_ | refine zab ?_ | refine zb6 rfl ?_ | refine za3 rfl ?_ | refine zbu rfl rfl rfl ?_)
  refine zdb env0_ok (fun d => Nat.beq d 76) (fun d => Nat.beq d 67) [] (fun x hx => absurd hx List.not_mem_nil) (fun _ => false) [] (fun x hx => absurd hx List.not_mem_nil) (fun _ => false) rfl rfl rfl ?_
  refine o_lo rfl (zeh (sp := 0) rfl rfl (by decide) rfl) ?_
  repeat (first | refine za3 rfl ?_ | refine zao (op := .sub) rfl rfl rfl ?_)
  refine zao (op := .shr) rfl rfl rfl ?_
  refine zao (op := .and) rfl rfl rfl ?_
  refine zao (op := .mul) rfl rfl rfl ?_
  refine zcr rfl rfl rfl rfl rfl ?_
  refine zbd [[.int .i64 _]] rfl rfl rfl (fun h => Nat.noConfusion h) rfl (by decide) rfl rfl (by show _ + 1 ≤ _; omega) ?_
  repeat (first | refine za0 rfl ?_ | refine za4 ?_ | refine za2 ?_ | refine zbe ?_ | refine za3 rfl ?_ | refine zap rfl rfl rfl rfl rfl rfl rfl ?_ | refine zao (op := .add) rfl rfl rfl ?_)
  exact zaz (show 4 - (3 + 1) < 4 - 3 by decide) (zd1 [(some (0, 0), [.ms 1 0 1 0 (3 + 1) none]), (some (1, 1), ((zb9 4 kk).take (3 + 1)).map (AV.int .i64))] [] rfl rfl rfl .nil (.cons rfl (.cons (.ms rfl) .nil) (.cons rfl (RnC.eqk (by clear fin; rcases (show kk = 0 ∨ kk = 1 ∨ kk = 2 ∨ kk = 3 ∨ kk = 4 ∨ kk = 5 ∨ kk = 6 ∨ kk = 7 ∨ kk = 8 ∨ kk = 9 ∨ kk = 10 ∨ kk = 11 ∨ kk = 12 ∨ kk = 13 ∨ kk = 14 ∨ kk = 15 by omega) with rfl | rfl | rfl | rfl | rfl | rfl | rfl | rfl | rfl | rfl | rfl | rfl | rfl | rfl | rfl | rfl <;> kernel_rfl) (zb8 _)) .nil)) (l' := b5 4 F G A B kk [(13, .mptr 0 0 0), (63, .int .i64 4), (64, .int .i64 ((3 + 1 : Nat) : Int))]) (rb5 hF hG hA hB rfl rfl rfl rfl rfl rfl rfl rfl rfl (.cons rfl (.mptr rfl) (.cons rfl (.same rfl) (.cons rfl (.same rfl) .nil))))) ⟨3 + 1, rfl, by decide, rfl⟩
 ·have hl : (zb9 4 kk).length = 4 := List.length_map ..
  rw [show (zb9 4 kk).take 4 = zb9 4 kk from List.take_of_length_le (Nat.le_of_eq hl)]
  repeat (first | refine za5 ?_ | refine za0 rfl ?_ | refine za4 ?_ | refine za2 ?_ | refine zbi rfl ?_ | refine zc0 ?_ | refine zan ?_ | refine zbt rfl rfl rfl ?_)
  refine zdk (zby (za2 ?_))
  refine zes [(some (0, 0), [vsI (zb9 4 kk)])] [(1, 0, (zb9 4 kk).map (AV.int .i64))] (b5 4 F G A B kk [(13, .mptr 0 0 0)]) rfl (.cons rfl (zb8 _) .nil) (.cons rfl (.cons (.fms0 rfl (by rw [List.length_map, hl]) (fun y hy => by obtain ⟨z, _, rfl⟩ := List.mem_map.1 hy; rfl) (zgk _)) .nil) .nil) (rb5 hF hG hA hB rfl rfl rfl rfl rfl rfl rfl rfl rfl (.cons rfl (.mptr rfl) .nil)) ?_
  exact zes [] [(0, 0, [vsI (zb9 4 kk)])] (b5 4 F G A B kk [(13, .vptr [vsI (zb9 4 kk)])]) rfl (.cons rfl rfl .nil) .nil (rb5 hF hG hA hB rfl rfl rfl rfl rfl rfl rfl rfl rfl (.cons rfl (.fptr rfl rfl) .nil)) fin
end
end Go.Proofs.Ytoiblgbaeglgoaa
