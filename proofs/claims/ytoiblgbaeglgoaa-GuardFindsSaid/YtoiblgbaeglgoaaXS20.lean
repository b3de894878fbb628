/-
  THE LAW OF WHAT DANGER FINDS: its walk.
-/
import Derived.Test.YtoiblgbaeglgoaaXD3
import Derived.Test.YtoiblgbaeglgoaaXS18
namespace Go.Proofs.Ytoiblgbaeglgoaa
open Go Go.Am
def b4_0 : IC := .seq (.region [⟨(some 77), .bin .lss (.t 76) (.t 75), none⟩] none)
 (.seq (.cond (.t 77) (.skip)
 (.exit 0))
 (.seq (.block 1 (.seq (.region [⟨(some 78), .mov (.t 76), none⟩,
  ⟨(some 79), .idxs 1 (.t 74) (.t 76), none⟩,
  ⟨(some 80), .load none (.t 79), none⟩,
  ⟨(some 10), .mov (.t 78), none⟩,
  ⟨(some 11), .mov (.t 80), none⟩] none)
 (.seq (.region [⟨(some 81), .faddr 1 (.t 3), none⟩,
  ⟨(some 82), .load none (.t 81), none⟩,
  ⟨(some 83), .mov (.t 5), none⟩,
  ⟨(some 84), .idxs 2 (.t 82) (.t 83), none⟩,
  ⟨(some 85), .load (some 2) (.t 84), none⟩,
  ⟨(some 86), .mov (.t 10), none⟩,
  ⟨(some 87), .call (.c (.fn 24 [] [])) [(.t 85), (.t 86)], none⟩,
  ⟨(some 12), .mov (.t 87), none⟩] none)
 (.seq (.region [⟨(some 13), .mov (.c (.int .i64 0)), none⟩] none)
 (.seq (.seq (.region [⟨(some 88), .mov (.t 9), none⟩,
  ⟨(some 89), .mov (.t 10), none⟩,
  ⟨(some 90), .idxs 1 (.t 88) (.t 89), none⟩,
  ⟨(some 91), .load none (.t 90), none⟩] none)
 (.cond (.t 91) (.region [⟨(some 13), .mov (.c (.int .i64 2)), none⟩] none)
 (.skip)))
 (.seq (.region [⟨(some 92), .mov (.t 12), none⟩,
  ⟨(some 93), .bin .eql (.t 92) (.c (.int .i64 0)), none⟩,
  ⟨(some 94), .mov (.t 93), none⟩,
  ⟨(some 95), .mov (.t 11), some (94, true)⟩,
  ⟨(some 96), .mov (.t 13), some (94, true)⟩,
  ⟨(some 97), .bin .neq (.t 95) (.t 96), some (94, true)⟩,
  ⟨(some 98), .pick (.t 94) (.t 97) (.c (.bool false)), none⟩,
  ⟨(some 99), .mov (.t 98), none⟩,
  ⟨(some 100), .mov (.t 12), some (99, false)⟩,
  ⟨(some 101), .bin .gtr (.t 100) (.c (.int .i64 0)), some (99, false)⟩,
  ⟨(some 102), .mov (.t 101), some (99, false)⟩,
  ⟨(some 103), .mov (.t 11), some (102, true)⟩,
  ⟨(some 104), .bin .eql (.t 103) (.c (.int .i64 3)), some (102, true)⟩,
  ⟨(some 105), .pick (.t 102) (.t 104) (.c (.bool false)), some (99, false)⟩,
  ⟨(some 106), .pick (.t 99) (.c (.bool true)) (.t 105), none⟩,
  ⟨(some 107), .mov (.t 106), none⟩,
  ⟨(some 108), .mov (.t 12), some (107, false)⟩,
  ⟨(some 109), .bin .lss (.t 108) (.c (.int .i64 0)), some (107, false)⟩,
  ⟨(some 110), .mov (.t 109), some (107, false)⟩,
  ⟨(some 111), .mov (.t 11), some (110, true)⟩,
  ⟨(some 112), .bin .eql (.t 111) (.c (.int .i64 1)), some (110, true)⟩,
  ⟨(some 113), .pick (.t 110) (.t 112) (.c (.bool false)), some (107, false)⟩,
  ⟨(some 114), .pick (.t 107) (.c (.bool true)) (.t 113), none⟩] none)
 (.cond (.t 114) (.seq (.region [⟨(some 4), .mov (.c (.bool false)), none⟩] none)
 (.ret))
 (.skip))))))))
 (.region [⟨(some 115), .bin .add (.t 76) (.c (.int .i64 1)), none⟩,
  ⟨(some 76), .mov (.t 115), none⟩] none)))
def b4_4 : IC := .seq (.region [⟨(some 143), .bin .lss (.t 142) (.t 141), none⟩] none)
 (.seq (.cond (.t 143) (.skip)
 (.exit 4))
 (.seq (.block 5 (.seq (.region [⟨(some 144), .idxs 1 (.t 140) (.t 142), none⟩,
  ⟨(some 145), .load none (.t 144), none⟩,
  ⟨(some 19), .mov (.t 145), none⟩] none)
 (.seq (.region [⟨(some 146), .mov (.t 19), none⟩] none)
 (.cond (.t 146) (.region [⟨(some 147), .mov (.t 17), none⟩,
  ⟨(some 148), .bslice 1 1 [.int .i64 0] [(0, 1, (.c (.int .i64 2)))], none⟩,
  ⟨(some 149), .append 1 8 [.int .i64 0] (.t 147) (.t 148), none⟩,
  ⟨(some 17), .mov (.t 149), none⟩] none)
 (.region [⟨(some 150), .mov (.t 17), none⟩,
  ⟨(some 151), .bslice 1 1 [.int .i64 0] [(0, 1, (.c (.int .i64 0)))], none⟩,
  ⟨(some 152), .append 1 8 [.int .i64 0] (.t 150) (.t 151), none⟩,
  ⟨(some 17), .mov (.t 152), none⟩] none)))))
 (.region [⟨(some 153), .bin .add (.t 142) (.c (.int .i64 1)), none⟩,
  ⟨(some 142), .mov (.t 153), none⟩] none)))
def b4_2 : IC := .seq (.region [⟨(some 136), .bin .lss (.t 135) (.t 134), none⟩] none)
 (.seq (.cond (.t 136) (.skip)
 (.exit 2))
 (.seq (.block 3 (.seq (.region [⟨(some 137), .mov (.t 135), none⟩,
  ⟨(some 16), .mov (.t 137), none⟩] none)
 (.seq (.region [⟨(some 17), .mov (.c (.nils)), none⟩] none)
 (.seq (.seq (.region [⟨(some 138), .load (some 2) (.t 3), none⟩,
  ⟨(some 139), .mov (.t 16), none⟩,
  ⟨(some 140), .call (.c (.fn 23 [] [])) [(.t 138), (.t 139)], none⟩,
  ⟨(some 141), .len false (.t 140), none⟩,
  ⟨(some 142), .mov (.c (.int .i64 0)), none⟩] none)
 (.block 4 (.loop b4_4)))
 (.seq (.region [⟨(some 155), .load (some 1) (.t 2), none⟩,
  ⟨(some 156), .mov (.t 17), none⟩,
  ⟨(some 157), .call (.c (.fn 25 [] [])) [(.t 155), (.t 156)], none⟩,
  ⟨(some 154), .mov (.t 157), none⟩,
  ⟨(some 158), .extract (.t 154) 0, none⟩,
  ⟨(some 159), .extract (.t 154) 1, none⟩,
  ⟨(some 20), .mov (.t 158), none⟩,
  ⟨(some 21), .mov (.t 159), none⟩] none)
 (.seq (.region [⟨(some 160), .mov (.t 21), none⟩,
  ⟨(some 161), .bin .neq (.t 160) (.c (.int .i64 0)), none⟩,
  ⟨(some 162), .mov (.t 161), none⟩,
  ⟨(some 163), .mov (.t 20), some (162, false)⟩,
  ⟨(some 164), .un .not (.t 163), some (162, false)⟩,
  ⟨(some 165), .pick (.t 162) (.c (.bool true)) (.t 164), none⟩] none)
 (.cond (.t 165) (.seq (.region [⟨(some 4), .mov (.c (.bool false)), none⟩] none)
 (.ret))
 (.skip))))))))
 (.region [⟨(some 166), .bin .add (.t 135) (.c (.int .i64 1)), none⟩,
  ⟨(some 135), .mov (.t 166), none⟩] none)))
-- pneumatic/pneumaticlaw49.GuardFinds
def ic4 : IC := .seq (.region [⟨(some 2), .box (.t 0), none⟩,
  ⟨(some 3), .box (.t 1), none⟩,
  ⟨(some 4), .mov (.c (.bool false)), none⟩] none)
 (.seq (.seq (.region [⟨(some 22), .load (some 2) (.t 3), none⟩,
  ⟨(some 23), .call (.c (.fn 16 [] [])) [(.t 22)], none⟩,
  ⟨(some 24), .un .not (.t 23), none⟩,
  ⟨(some 25), .mov (.t 24), none⟩,
  ⟨(some 26), .faddr 1 (.t 3), some (25, false)⟩,
  ⟨(some 27), .load none (.t 26), some (25, false)⟩,
  ⟨(some 28), .len false (.t 27), some (25, false)⟩,
  ⟨(some 29), .bin .gtr (.t 28) (.c (.int .i64 12)), some (25, false)⟩,
  ⟨(some 30), .pick (.t 25) (.c (.bool true)) (.t 29), none⟩,
  ⟨(some 31), .mov (.t 30), none⟩,
  ⟨(some 32), .load (some 2) (.t 3), some (31, false)⟩,
  ⟨(some 33), .call (.c (.fn 21 [] [])) [(.t 32)], some (31, false)⟩,
  ⟨(some 34), .bin .neq (.t 33) (.c (.int .i64 0)), some (31, false)⟩,
  ⟨(some 35), .pick (.t 31) (.c (.bool true)) (.t 34), none⟩,
  ⟨(some 36), .mov (.t 35), none⟩,
  ⟨(some 37), .load (some 1) (.t 2), some (36, false)⟩,
  ⟨(some 38), .faddr 0 (.t 3), some (36, false)⟩,
  ⟨(some 39), .load none (.t 38), some (36, false)⟩,
  ⟨(some 40), .call (.c (.fn 22 [] [])) [(.t 37), (.t 39)], some (36, false)⟩,
  ⟨(some 41), .un .not (.t 40), some (36, false)⟩,
  ⟨(some 42), .pick (.t 36) (.c (.bool true)) (.t 41), none⟩] none)
 (.cond (.t 42) (.seq (.region [⟨(some 43), .call (.c (.fn 17 [] [])) [], none⟩,
  ⟨(some 4), .mov (.t 43), none⟩] none)
 (.ret))
 (.skip)))
 (.seq (.region [⟨(some 45), .load (some 1) (.t 2), none⟩,
  ⟨(some 46), .load (some 2) (.t 3), none⟩,
  ⟨(some 47), .call (.c (.fn 18 [] [])) [(.t 45), (.t 46)], none⟩,
  ⟨(some 44), .mov (.t 47), none⟩,
  ⟨(some 48), .extract (.t 44) 0, none⟩,
  ⟨(some 49), .extract (.t 44) 1, none⟩,
  ⟨(some 50), .extract (.t 44) 2, none⟩,
  ⟨(some 51), .extract (.t 44) 3, none⟩,
  ⟨(some 5), .mov (.t 48), none⟩,
  ⟨(some 6), .mov (.t 49), none⟩,
  ⟨(some 7), .mov (.t 50), none⟩,
  ⟨(some 8), .mov (.t 51), none⟩] none)
 (.seq (.seq (.region [⟨(some 52), .mov (.t 8), none⟩,
  ⟨(some 53), .bin .neq (.t 52) (.c (.int .i64 0)), none⟩] none)
 (.cond (.t 53) (.seq (.region [⟨(some 4), .mov (.c (.bool false)), none⟩] none)
 (.ret))
 (.skip)))
 (.seq (.seq (.region [⟨(some 54), .mov (.t 7), none⟩] none)
 (.cond (.t 54) (.seq (.seq (.region [⟨(some 55), .mov (.t 5), none⟩,
  ⟨(some 56), .bin .lss (.t 55) (.c (.int .i64 0)), none⟩,
  ⟨(some 57), .mov (.t 56), none⟩,
  ⟨(some 58), .mov (.t 5), some (57, false)⟩,
  ⟨(some 59), .faddr 1 (.t 3), some (57, false)⟩,
  ⟨(some 60), .load none (.t 59), some (57, false)⟩,
  ⟨(some 61), .len false (.t 60), some (57, false)⟩,
  ⟨(some 62), .bin .geq (.t 58) (.t 61), some (57, false)⟩,
  ⟨(some 63), .pick (.t 57) (.c (.bool true)) (.t 62), none⟩,
  ⟨(some 64), .mov (.t 63), none⟩,
  ⟨(some 65), .mov (.t 6), some (64, false)⟩,
  ⟨(some 66), .len false (.t 65), some (64, false)⟩,
  ⟨(some 67), .faddr 0 (.t 3), some (64, false)⟩,
  ⟨(some 68), .load none (.t 67), some (64, false)⟩,
  ⟨(some 69), .bin .neq (.t 66) (.t 68), some (64, false)⟩,
  ⟨(some 70), .pick (.t 64) (.c (.bool true)) (.t 69), none⟩] none)
 (.cond (.t 70) (.seq (.region [⟨(some 4), .mov (.c (.bool false)), none⟩] none)
 (.ret))
 (.skip)))
 (.seq (.region [⟨(some 71), .load (some 2) (.t 3), none⟩,
  ⟨(some 72), .mov (.t 5), none⟩,
  ⟨(some 73), .call (.c (.fn 23 [] [])) [(.t 71), (.t 72)], none⟩,
  ⟨(some 9), .mov (.t 73), none⟩] none)
 (.seq (.seq (.region [⟨(some 74), .mov (.t 6), none⟩,
  ⟨(some 75), .len false (.t 74), none⟩,
  ⟨(some 76), .mov (.c (.int .i64 0)), none⟩] none)
 (.block 0 (.loop b4_0)))
 (.seq (.region [⟨(some 117), .load (some 1) (.t 2), none⟩,
  ⟨(some 118), .mov (.t 6), none⟩,
  ⟨(some 119), .call (.c (.fn 25 [] [])) [(.t 117), (.t 118)], none⟩,
  ⟨(some 116), .mov (.t 119), none⟩,
  ⟨(some 120), .extract (.t 116) 0, none⟩,
  ⟨(some 121), .extract (.t 116) 1, none⟩,
  ⟨(some 14), .mov (.t 120), none⟩,
  ⟨(some 15), .mov (.t 121), none⟩] none)
 (.seq (.region [⟨(some 122), .mov (.t 15), none⟩,
  ⟨(some 123), .bin .eql (.t 122) (.c (.int .i64 0)), none⟩,
  ⟨(some 124), .mov (.t 123), none⟩,
  ⟨(some 125), .mov (.t 14), some (124, true)⟩,
  ⟨(some 126), .un .not (.t 125), some (124, true)⟩,
  ⟨(some 127), .pick (.t 124) (.t 126) (.c (.bool false)), none⟩,
  ⟨(some 128), .mov (.t 127), none⟩,
  ⟨(some 129), .call (.c (.fn 17 [] [])) [], some (128, true)⟩,
  ⟨(some 130), .pick (.t 128) (.t 129) (.c (.bool false)), none⟩,
  ⟨(some 4), .mov (.t 130), none⟩] none)
 (.ret))))))
 (.skip)))
 (.seq (.seq (.region [⟨(some 131), .faddr 1 (.t 3), none⟩,
  ⟨(some 132), .load none (.t 131), none⟩,
  ⟨(some 133), .len false (.t 132), none⟩,
  ⟨(some 134), .bin .add (.t 133) (.c (.int .i64 1)), none⟩,
  ⟨(some 135), .mov (.c (.int .i64 0)), none⟩] none)
 (.block 2 (.loop b4_2)))
 (.seq (.region [⟨(some 167), .call (.c (.fn 17 [] [])) [], none⟩,
  ⟨(some 4), .mov (.t 167), none⟩] none)
 (.ret)))))))
theorem fn4 : env0.fn 4 = some ⟨168, ic4, [.t 4]⟩ := by kernel_rfl
section
variable {w0 : World} {N0 : Nat} {k : List Fr} {Q : Exit → AS → Prop}
set_option maxHeartbeats 4000000 in
theorem belong4 (f : List Ex) (n : Nat) (l : List Sp) (ok : SeqOk n l) (kk : Nat) (hk : kk < l.length) (q : List Int) (hq : q ∈ zdr (zey (zg7 (List.replicate n false) (l.take kk)) (aft (zg7 (List.replicate n false) (l.take kk)) l[kk].l) l[kk].l n)) {y : IC}
  (fin : Zm Try.prog w0 N0 none y (st 168 [(2, .vptr [.vs (cXs f)]), (3, .vptr [.int .i64 (n : Nat), .vs (cPs l)]), (4, .bool false), (6, vsI q)] [] 0 1) k Q) :
  Zm Try.prog w0 N0 none (.loop b4_0) (st 168 [(2, .vptr [.vs (cXs f)]), (3, .vptr [.int .i64 (n : Nat), .vs (cPs l)]), (4, .bool false), (5, .int .i64 (kk : Nat)), (6, vsI q), (9, vsB (zg7 (List.replicate n false) (l.take kk))), (74, vsI q), (75, .int .i64 (q.map fun z => ([.int .i64 z] : List AV)).length), (76, .int .i64 0)] [] 0 1) (.blk 0 :: .seq y :: k) Q := by
 have n6 := ok.n6
 have hst := ok.step hk
 have hEl := SeqOk.behLen (n := n) (l := l) kk
 have hql := zjz _ q hq
 rw [zdy] at hql
 have hcq : (q.map fun z => ([.int .i64 z] : List AV)).length = q.length := List.length_map ..
 have hway : ∀ i, i < n → _ := fun i hi => stat_way hst (by rw [hEl]) (i := i) (v := q.getD i 0) (by
  have := zjy hq i (by rw [zdy]; exact hi)
  rwa [zit hi] at this)
 have hw := way33 l[kk] (by have := hst.len; omega)
 have hg := zh4 hk
 generalize zg7 (List.replicate n false) (l.take kk) = E at *
 generalize l[kk] = p at *
 obtain ⟨sk, w⟩ := p
 have hg : (cPs l)[((kk : Nat) : Int).toNat]? = some [.vs (cSs sk), .int .i64 w] := hg
 have hw : ∀ a, PF Try.prog 24 [.agg [.vs (cSs sk), .int .i64 w], .int .i64 a] (.int .i64 (zg4 a sk)) := hw
 refine zbq (fun mm S => ∃ i, mm = n - i ∧ i ≤ n ∧ S = st 168 [(2, .vptr [.vs (cXs f)]), (3, .vptr [.int .i64 (n : Nat), .vs (cPs l)]), (4, .bool false), (5, .int .i64 (kk : Nat)), (6, vsI q), (9, vsB E), (74, vsI q), (75, .int .i64 (q.map fun z => ([.int .i64 z] : List AV)).length), (76, .int .i64 (i : Nat))] [] 0 1) n
  (zao (.cons rfl (.cons rfl (.cons rfl (.cons rfl (.cons rfl (.cons rfl (.cons rfl (.cons rfl (.cons rfl .nil)))))))))) ⟨0, rfl, Nat.zero_le _, rfl⟩ ?_
 rintro mm S ⟨i, rfl, hi, rfl⟩
 unfold b4_0
 repeat (first | refine za6 ?_ | refine za0 rfl ?_)
 refine zar rfl rfl rfl (fun h3 => ?_) fun h3 => ?_
 ·have hlt : i < n := by
   have := of_decide_eq_true h3
   rw [hcq] at this
   omega
  have hgq := zkv q i (by omega)
  have hgE := zs3 (l := E) (i := i) (by omega)
  have hwi := hw (i : Nat)
  have hwy := hway i hlt
  have e1 : q.getD i 0 = q[i]'(by omega) := by rw [List.getD_eq_getElem?_getD, List.getElem?_eq_getElem (by omega)]; rfl
  have e2 : E.getD i false = E[i]'(by omega) := by rw [List.getD_eq_getElem?_getD, List.getElem?_eq_getElem (by omega)]; rfl
  rw [e1, e2] at hwy
  clear e1 e2
  generalize q[i]'(by omega) = v at hgq hwy
  generalize E[i]'(by omega) = b at hgE hwy
  have hwy : (zg4 (i : Nat) sk = 0 ∧ v = zgm b) ∨ (zg4 (i : Nat) sk = 1 ∧ v ≠ 3) ∨ (zg4 (i : Nat) sk = -1 ∧ v ≠ 1) := hwy
  generalize zg4 (i : Nat) sk = z at hwi hwy
  repeat (first | refine za6 ?_ | refine za0 rfl ?_ | refine za3 ?_ | refine za2 ?_ | refine zad ?_ | refine zab ?_ | refine zb0 rfl ?_ | refine za4 rfl ?_ | refine za8 rfl rfl ?_ | refine zas rfl rfl rfl rfl ?_ | refine zah rfl rfl rfl ?_ | refine zb1 rfl rfl (by omega) (by assumption) rfl ?_)
  refine zau rfl rfl hwi (fun h => Bool.noConfusion (show false = true from h)) ?_
  rcases hwy with ⟨rfl, rfl⟩ | ⟨rfl, hv⟩ | ⟨rfl, hv⟩
  ·cases b
   all_goals
    repeat (first | refine za6 ?_ | refine za0 rfl ?_ | refine za3 ?_ | refine za2 ?_ | refine zb6 ?_ | refine zab ?_ | refine zb0 rfl ?_ | refine zb8 rfl ?_ | refine zc5 rfl ?_ | refine zda rfl rfl ?_ | refine za4 rfl ?_ | refine za8 rfl rfl ?_ | refine zap rfl rfl ?_ | refine zag rfl rfl ?_ | refine zay (op := .add) rfl rfl rfl ?_ | refine zbp rfl rfl rfl ?_ | refine zbn rfl rfl rfl ?_ | refine zb1 rfl rfl (by omega) (by assumption) rfl ?_)
    rw [zaq i (by omega)]
    exact zat (show n - (i + 1) < n - i by omega) (zao (.cons rfl (.cons rfl (.cons rfl (.cons rfl (.cons rfl (.cons rfl (.cons rfl (.cons rfl (.cons rfl .nil)))))))))) ⟨i + 1, rfl, hlt, rfl⟩
  ·cases b
   all_goals
    repeat (first | refine za6 ?_ | refine za0 rfl ?_ | refine za3 ?_ | refine za2 ?_ | refine zab ?_ | refine zb0 rfl ?_ | refine zb8 rfl ?_ | refine zc5 rfl ?_ | refine zda rfl rfl ?_ | refine za4 rfl ?_ | refine za8 rfl rfl ?_ | refine zag rfl rfl ?_ | refine zbp rfl rfl rfl ?_ | refine zbn rfl rfl rfl ?_ | refine zb1 rfl rfl (by omega) (by assumption) rfl ?_)
    try refine zc5 rfl ?_
    refine zar rfl rfl rfl (fun h => absurd (by simpa using h) hv) fun _ => ?_
    repeat (first | refine za0 rfl ?_ | refine za3 ?_ | refine za2 ?_ | refine zb6 ?_ | refine zab ?_ | refine zb8 rfl ?_ | refine zc5 rfl ?_ | refine zda rfl rfl ?_ | refine za4 rfl ?_ | refine zap rfl rfl ?_ | refine zag rfl rfl ?_ | refine zay (op := .add) rfl rfl rfl ?_ | refine zbn rfl rfl rfl ?_)
    rw [zaq i (by omega)]
    exact zat (show n - (i + 1) < n - i by omega) (zao (.cons rfl (.cons rfl (.cons rfl (.cons rfl (.cons rfl (.cons rfl (.cons rfl (.cons rfl (.cons rfl .nil)))))))))) ⟨i + 1, rfl, hlt, rfl⟩
  ·cases b
   all_goals
    repeat (first | refine za6 ?_ | refine za0 rfl ?_ | refine za3 ?_ | refine za2 ?_ | refine zab ?_ | refine zb0 rfl ?_ | refine zb8 rfl ?_ | refine zc5 rfl ?_ | refine zda rfl rfl ?_ | refine za4 rfl ?_ | refine za8 rfl rfl ?_ | refine zag rfl rfl ?_ | refine zbp rfl rfl rfl ?_ | refine zbn rfl rfl rfl ?_ | refine zb1 rfl rfl (by omega) (by assumption) rfl ?_)
    try refine zc5 rfl ?_
    refine zar rfl rfl rfl (fun h => absurd (by simpa using h) hv) fun _ => ?_
    repeat (first | refine za0 rfl ?_ | refine za3 ?_ | refine za2 ?_ | refine zb6 ?_ | refine zab ?_ | refine zb8 rfl ?_ | refine zc5 rfl ?_ | refine za4 rfl ?_ | refine zap rfl rfl ?_ | refine zag rfl rfl ?_ | refine zay (op := .add) rfl rfl rfl ?_)
    rw [zaq i (by omega)]
    exact zat (show n - (i + 1) < n - i by omega) (zao (.cons rfl (.cons rfl (.cons rfl (.cons rfl (.cons rfl (.cons rfl (.cons rfl (.cons rfl (.cons rfl .nil)))))))))) ⟨i + 1, rfl, hlt, rfl⟩
 ·repeat (first | refine za6 ?_ | refine za3 ?_ | refine za2 ?_ | refine zb8 rfl ?_ | refine zbb ?_ | refine zaj ?_)
  refine zcl ?_
  repeat (first | refine za2 ?_ | refine zba ?_)
  exact zen (zao (.cons rfl (.cons rfl (.cons rfl (.cons rfl .nil))))) fin
theorem zqo {f : List Ex} (hsl : ∀ y ∈ f, Slim y) {n : Nat} (hg : zdd f n = 0) {q : List Int} (hq : q.length = n) (hp : zvz q = 0) : PF Try.prog 25 [.agg [.vs (cXs f)], vsI q] (.tup [.bool (zgi f q).isEmpty, .int .i64 0]) := by
 have := ztm f hsl q
 rw [zmc, if_pos (by unfold posC; rw [hq, if_pos hg]; exact hp)] at this
 exact this
set_option maxHeartbeats 4000000 in
theorem safe4 (f : List Ex) (hsl : ∀ y ∈ f, Slim y) (n : Nat) (l : List Sp) (ok : SeqOk n l) (hg : zdd f n = 0) (hs : (dgS f 0 (List.replicate n false) l).2.2 = false) {y : IC}
  (fin : Zm Try.prog w0 N0 none y (st 168 [(4, .bool false)] [] 0 1) k Q) :
  Zm Try.prog w0 N0 none (.loop b4_2) (st 168 [(2, .vptr [.vs (cXs f)]), (3, .vptr [.int .i64 (n : Nat), .vs (cPs l)]), (4, .bool false), (134, .int .i64 (l.length + 1 : Nat)), (135, .int .i64 0)] [] 0 1) (.blk 2 :: .seq y :: k) Q := by
 have n6 := ok.n6
 have l64 := ok.l64
 refine zbq (fun mm S => ∃ i, mm = l.length + 1 - i ∧ i ≤ l.length + 1 ∧ S = st 168 [(2, .vptr [.vs (cXs f)]), (3, .vptr [.int .i64 (n : Nat), .vs (cPs l)]), (4, .bool false), (134, .int .i64 (l.length + 1 : Nat)), (135, .int .i64 (i : Nat))] [] 0 1) (l.length + 1)
  (zao (.cons rfl (.cons rfl (.cons rfl (.cons rfl (.cons rfl .nil)))))) ⟨0, rfl, Nat.zero_le _, rfl⟩ ?_
 rintro mm S ⟨i, rfl, hi, rfl⟩
 unfold b4_2
 repeat (first | refine za6 ?_ | refine za0 rfl ?_)
 refine zar rfl rfl rfl (fun h3 => ?_) fun h3 => ?_
 ·have hlt : i < l.length + 1 := by
   have : ((i : Nat) : Int) < (l.length + 1 : Nat) := of_decide_eq_true h3
   omega
  have p1 : PF Try.prog 23 [.agg [.int .i64 (n : Nat), .vs (cPs l)], .int .i64 (i : Nat)] _ := zqv ok i (by omega)
  have hEl := SeqOk.behLen (n := n) (l := l) i
  have hsf := zwd ok hs (k := i) (by omega)
  generalize zg7 (List.replicate n false) (l.take i) = E at *
  have p2 := zqo hsl hg (q := enE E) (by rw [zk2]; exact hEl) (posL_enE E)
  rw [hsf] at p2
  have hcE : (E.map fun b => ([.bool b] : List AV)).length = E.length := List.length_map ..
  repeat (first | refine za6 ?_ | refine za0 rfl ?_ | refine za3 ?_ | refine za2 ?_ | refine zad ?_ | refine zab ?_ | refine zb0 rfl ?_ | refine za4 rfl ?_ | refine zas rfl rfl rfl rfl ?_)
  refine zau rfl rfl p1 (fun h => Bool.noConfusion (show false = true from h)) ?_
  repeat (first | refine za3 ?_ | refine za2 ?_ | refine zad ?_ | refine za4 rfl ?_ | refine zb9 rfl rfl ?_)
  rw [hcE]
  refine zbq (fun mm S => ∃ j, mm = E.length - j ∧ j ≤ E.length ∧ S = st 168 [(2, .vptr [.vs (cXs f)]), (3, .vptr [.int .i64 (n : Nat), .vs (cPs l)]), (4, .bool false), (134, .int .i64 (l.length + 1 : Nat)), (135, .int .i64 (i : Nat)), (17, .ms 0 0 1 0 j none), (140, vsB E), (141, .int .i64 (E.length : Nat)), (142, .int .i64 (j : Nat))] [(0, 0, .cells ((enE (E.take j)).map (AV.int .i64)))] 1 1) E.length
   (zbk [(none, [])] [] rfl rfl rfl .nil (.new .nil) (l' := [(2, .vptr [.vs (cXs f)]), (3, .vptr [.int .i64 (n : Nat), .vs (cPs l)]), (4, .bool false), (134, .int .i64 (l.length + 1 : Nat)), (135, .int .i64 (i : Nat)), (17, .ms 0 0 1 0 0 none), (140, vsB E), (141, .int .i64 (E.length : Nat)), (142, .int .i64 ((0 : Nat) : Int))]) (.cons rfl (.same rfl) (.cons rfl (.same rfl) (.cons rfl (.same rfl) (.cons rfl (.same rfl) (.cons rfl (.same rfl) (.cons rfl (.grow rfl) (.cons rfl (.same rfl) (.cons rfl (.same rfl) (.cons rfl (.same rfl) .nil)))))))))) ⟨0, rfl, Nat.zero_le _, rfl⟩ ?_
  rintro mm S ⟨j, rfl, hj, rfl⟩
  unfold b4_4
  repeat (first | refine za6 ?_ | refine za0 rfl ?_)
  refine zar rfl rfl rfl (fun h5 => ?_) fun h5 => ?_
  ·have hlj : j < E.length := by
    have : ((j : Nat) : Int) < (E.length : Nat) := of_decide_eq_true h5
    omega
   have hgE := zs3 (l := E) (i := j) hlj
   have htk : ∀ b, E[j] = b → enE (E.take (j + 1)) = enE (E.take j) ++ [zgm b] := fun b hb => by
    unfold enE
    rw [List.take_add_one, List.getElem?_eq_getElem hlj, hb, List.map_append]
    rfl
   have hlen : (enE (E.take j)).length = j := by rw [zk2, List.length_take]; omega
   generalize E[j] = b at hgE htk
   have htk := htk b rfl
   repeat (first | refine za6 ?_ | refine za0 rfl ?_ | refine za3 ?_ | refine za2 ?_ | refine zad ?_ | refine zab ?_ | refine zb0 rfl ?_ | refine za4 rfl ?_ | refine za8 rfl rfl ?_ | refine zb1 rfl rfl (by omega) (by assumption) rfl ?_)
   cases b
   all_goals
    repeat (first | refine za0 rfl ?_ | refine zb0 rfl ?_ | refine zb8 rfl ?_ | refine za4 rfl ?_)
    refine o_fsl [[.int .i64 _]] rfl rfl rfl rfl ?_
    refine zbx [[.int .i64 _]] rfl rfl rfl (fun h => Nat.noConfusion h) rfl (by decide) rfl (by rw [List.length_map, hlen, Nat.mul_one]) (by show j + 1 ≤ _; omega) ?_
    repeat (first | refine za0 rfl ?_ | refine za3 ?_ | refine za2 ?_ | refine zb6 ?_ | refine za4 rfl ?_ | refine zay (op := .add) rfl rfl rfl ?_)
    rw [zaq j (by omega)]
    exact zat (show E.length - (j + 1) < E.length - j by omega) (zbk (l' := [(2, .vptr [.vs (cXs f)]), (3, .vptr [.int .i64 (n : Nat), .vs (cPs l)]), (4, .bool false), (134, .int .i64 (l.length + 1 : Nat)), (135, .int .i64 (i : Nat)), (17, .ms 0 0 1 0 (j + 1) none), (140, vsB E), (141, .int .i64 (E.length : Nat)), (142, .int .i64 ((j + 1 : Nat) : Int))]) [(some (0, 1), (enE (E.take (j + 1))).map (AV.int .i64))] [] rfl rfl rfl .nil (.cons (by rw [htk, List.map_append]; rfl) (.keep (zai _)) .nil) (.cons rfl (.same rfl) (.cons rfl (.same rfl) (.cons rfl (.same rfl) (.cons rfl (.same rfl) (.cons rfl (.same rfl) (.cons rfl (.ms rfl) (.cons rfl (.same rfl) (.cons rfl (.same rfl) (.cons rfl (.same rfl) .nil)))))))))) ⟨j + 1, rfl, hlj, rfl⟩
  ·have hj2 : j = E.length := by
    have : ¬ ((j : Nat) : Int) < (E.length : Nat) := of_decide_eq_false h5
    omega
   subst hj2
   rw [List.take_length]
   repeat (first | refine za6 ?_ | refine za3 ?_ | refine za2 ?_ | refine zb8 rfl ?_ | refine zbb ?_ | refine zaj ?_)
   refine zcl (zba (za2 ?_))
   refine zs4 [] [(0, 0, (enE E).map (AV.int .i64))] [(2, .vptr [.vs (cXs f)]), (3, .vptr [.int .i64 (n : Nat), .vs (cPs l)]), (4, .bool false), (134, .int .i64 (l.length + 1 : Nat)), (135, .int .i64 (i : Nat)), (17, vsI (enE E))] rfl (.cons rfl (zai _) .nil) .nil (.cons rfl (.same rfl) (.cons rfl (.same rfl) (.cons rfl (.same rfl) (.cons rfl (.same rfl) (.cons rfl (.same rfl) (.cons rfl (.fms0 rfl (by rw [List.length_map, zk2]) (fun y hy => by obtain ⟨z, _, rfl⟩ := List.mem_map.1 hy; rfl) (zd7 _)) .nil)))))) ?_
   repeat (first | refine za6 ?_ | refine za0 rfl ?_ | refine za4 rfl ?_ | refine zas rfl rfl rfl rfl ?_)
   refine zau rfl rfl p2 (fun h => Bool.noConfusion (show false = true from h)) ?_
   repeat (first | refine za6 ?_ | refine za0 rfl ?_ | refine za3 ?_ | refine za2 ?_ | refine zb6 ?_ | refine zab ?_ | refine zb8 rfl ?_ | refine zc5 rfl ?_ | refine za4 rfl ?_ | refine zag rfl rfl ?_ | refine zem rfl rfl ?_ | refine zbe rfl rfl ?_ | refine zay (op := .add) rfl rfl rfl ?_ | refine zbn rfl rfl rfl ?_)
   rw [zaq i (by omega)]
   exact zat (show l.length + 1 - (i + 1) < l.length + 1 - i by omega) (zao (.cons rfl (.cons rfl (.cons rfl (.cons rfl (.cons rfl .nil)))))) ⟨i + 1, rfl, hlt, rfl⟩
 ·repeat (first | refine za6 ?_ | refine za3 ?_ | refine za2 ?_ | refine zb8 rfl ?_ | refine zbb ?_ | refine zaj ?_)
  refine zcl ?_
  repeat (first | refine za2 ?_ | refine zba ?_)
  exact zen (zao (.cons rfl .nil)) fin
end
end Go.Proofs.Ytoiblgbaeglgoaa
