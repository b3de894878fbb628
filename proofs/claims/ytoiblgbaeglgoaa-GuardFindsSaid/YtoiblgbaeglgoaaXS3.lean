/-
  STEPS IN THE REFERENCE: ref13.CheckStep.
-/
import Derived.Test.YtoiblgbaeglgoaaXS2
namespace Go.Proofs.Ytoiblgbaeglgoaa
open Go Go.Am
-- pneumatic/pneumaticref13.Actuator
def ic159 : IC := .seq (.region [⟨(some 2), .mov (.c (.bool false)), none⟩] none)
 (.seq (.region [⟨(some 3), .mov (.t 0), none⟩,
  ⟨(some 4), .bin .geq (.t 3) (.c (.int .i64 0)), none⟩,
  ⟨(some 5), .mov (.t 4), none⟩,
  ⟨(some 6), .mov (.t 0), some (5, true)⟩,
  ⟨(some 7), .bin .lss (.t 6) (.c (.int .i64 6)), some (5, true)⟩,
  ⟨(some 8), .pick (.t 5) (.t 7) (.c (.bool false)), none⟩,
  ⟨(some 2), .mov (.t 8), none⟩] none)
 (.ret))
theorem fn159 : env0.fn 159 = some ⟨9, ic159, [.t 2]⟩ := by kernel_rfl
theorem known105 (a : Int) : PF Try.prog 159 [.int .i64 a] (.bool (zfy a)) := by
 refine zbc env0_ok fn159 [(0, .int .i64 a)] (by show 1 ≤ 9; decide) rfl fun w0 N0 => ?_
 unfold ic159 zfy
 repeat (first | refine za6 ?_ | refine za0 rfl ?_ | refine za3 ?_ | refine za2 ?_ | refine za4 rfl ?_)
 refine zar rfl rfl rfl (fun h => ?_) fun h => ?_
 ·rw [h]
  repeat (first | refine zc5 rfl ?_ | refine za4 rfl ?_)
  refine zar rfl rfl rfl (fun h2 => ?_) fun h2 => ?_
  all_goals
   rw [h2]
   repeat (first | refine za3 ?_ | refine za2 ?_ | refine zam ?_ | refine za4 rfl ?_ | refine zap rfl rfl ?_)
   exact zak ⟨.inr rfl, _, rfl, rfl⟩
 ·rw [h]
  repeat (first | refine za3 ?_ | refine za2 ?_ | refine zam ?_ | refine zda rfl rfl ?_ | refine za4 rfl ?_ | refine zag rfl rfl ?_)
  exact zak ⟨.inr rfl, _, rfl, rfl⟩
-- pneumatic/pneumaticref03.Time
def ic160 : IC := .seq (.region [⟨(some 2), .mov (.c (.bool false)), none⟩] none)
 (.seq (.region [⟨(some 3), .mov (.t 0), none⟩,
  ⟨(some 4), .bin .geq (.t 3) (.c (.int .i64 0)), none⟩,
  ⟨(some 5), .mov (.t 4), none⟩,
  ⟨(some 6), .mov (.t 0), some (5, true)⟩,
  ⟨(some 7), .bin .leq (.t 6) (.c (.int .i64 1000000)), some (5, true)⟩,
  ⟨(some 8), .pick (.t 5) (.t 7) (.c (.bool false)), none⟩,
  ⟨(some 2), .mov (.t 8), none⟩] none)
 (.ret))
theorem fn160 : env0.fn 160 = some ⟨9, ic160, [.t 2]⟩ := by kernel_rfl
theorem time106 (a : Int) : PF Try.prog 160 [.int .i64 a] (.bool (decide (a ≥ 0) && decide (a ≤ 1000000))) := by
 refine zbc env0_ok fn160 [(0, .int .i64 a)] (by show 1 ≤ 9; decide) rfl fun w0 N0 => ?_
 unfold ic160
 repeat (first | refine za6 ?_ | refine za0 rfl ?_ | refine za3 ?_ | refine za2 ?_ | refine za4 rfl ?_)
 refine zar rfl rfl rfl (fun h => ?_) fun h => ?_
 ·rw [h]
  repeat (first | refine zc5 rfl ?_ | refine za4 rfl ?_)
  refine zar rfl rfl rfl (fun h2 => ?_) fun h2 => ?_
  all_goals
   rw [h2]
   repeat (first | refine za3 ?_ | refine za2 ?_ | refine zam ?_ | refine za4 rfl ?_ | refine zap rfl rfl ?_)
   exact zak ⟨.inr rfl, _, rfl, rfl⟩
 ·rw [h]
  repeat (first | refine za3 ?_ | refine za2 ?_ | refine zam ?_ | refine zda rfl rfl ?_ | refine za4 rfl ?_ | refine zag rfl rfl ?_)
  exact zak ⟨.inr rfl, _, rfl, rfl⟩
theorem zx2 (k : Nat) (h : k < 1000000000) : IntKind.i64.wrap (((k + 1 : Nat) : Int) - 1) = (k : Int) := by
 rw [zqg _ (by omega) (by omega)]
 omega
def b136_0 : IC := .seq (.seq (.region [⟨(some 12), .mov (.t 3), none⟩,
  ⟨(some 13), .faddr 0 (.t 1), none⟩,
  ⟨(some 14), .load none (.t 13), none⟩,
  ⟨(some 15), .len false (.t 14), none⟩,
  ⟨(some 16), .bin .lss (.t 12) (.t 15), none⟩] none)
 (.cond (.t 16) (.skip)
 (.exit 0)))
 (.seq (.block 1 (.seq (.seq (.region [⟨(some 19), .faddr 0 (.t 1), none⟩,
  ⟨(some 20), .load none (.t 19), none⟩,
  ⟨(some 21), .mov (.t 3), none⟩,
  ⟨(some 22), .idxs 2 (.t 20) (.t 21), none⟩,
  ⟨(some 23), .faddr 0 (.t 22), none⟩,
  ⟨(some 24), .load none (.t 23), none⟩,
  ⟨(some 25), .call (.c (.fn 159 [] [])) [(.t 24)], none⟩,
  ⟨(some 26), .un .not (.t 25), none⟩] none)
 (.cond (.t 26) (.seq (.region [⟨(some 2), .mov (.c (.int .i64 2)), none⟩] none)
 (.ret))
 (.skip)))
 (.seq (.seq (.region [⟨(some 27), .mov (.t 3), none⟩,
  ⟨(some 28), .bin .gtr (.t 27) (.c (.int .i64 0)), none⟩,
  ⟨(some 29), .mov (.t 28), none⟩,
  ⟨(some 30), .faddr 0 (.t 1), some (29, true)⟩,
  ⟨(some 31), .load none (.t 30), some (29, true)⟩,
  ⟨(some 32), .mov (.t 3), some (29, true)⟩,
  ⟨(some 33), .idxs 2 (.t 31) (.t 32), some (29, true)⟩,
  ⟨(some 34), .faddr 0 (.t 33), some (29, true)⟩,
  ⟨(some 35), .load none (.t 34), some (29, true)⟩,
  ⟨(some 36), .faddr 0 (.t 1), some (29, true)⟩,
  ⟨(some 37), .load none (.t 36), some (29, true)⟩,
  ⟨(some 38), .mov (.t 3), some (29, true)⟩,
  ⟨(some 39), .bin .sub (.t 38) (.c (.int .i64 1)), some (29, true)⟩,
  ⟨(some 40), .idxs 2 (.t 37) (.t 39), some (29, true)⟩,
  ⟨(some 41), .faddr 0 (.t 40), some (29, true)⟩,
  ⟨(some 42), .load none (.t 41), some (29, true)⟩,
  ⟨(some 43), .bin .eql (.t 35) (.t 42), some (29, true)⟩,
  ⟨(some 44), .pick (.t 29) (.t 43) (.c (.bool false)), none⟩] (some [[], [0], [1], [2], [3, 2], [2], [4, 5, 2], [6, 2], [7, 2], [2], [9, 2], [2], [11, 2], [10, 12, 2], [13, 2], [14, 2], [8, 15, 2], [2, 16]]))
 (.cond (.t 44) (.seq (.region [⟨(some 2), .mov (.c (.int .i64 7)), none⟩] none)
 (.ret))
 (.skip)))
 (.seq (.region [⟨(some 45), .mov (.t 3), none⟩,
  ⟨(some 46), .bin .gtr (.t 45) (.c (.int .i64 0)), none⟩,
  ⟨(some 47), .mov (.t 46), none⟩,
  ⟨(some 48), .faddr 0 (.t 1), some (47, true)⟩,
  ⟨(some 49), .load none (.t 48), some (47, true)⟩,
  ⟨(some 50), .mov (.t 3), some (47, true)⟩,
  ⟨(some 51), .idxs 2 (.t 49) (.t 50), some (47, true)⟩,
  ⟨(some 52), .faddr 0 (.t 51), some (47, true)⟩,
  ⟨(some 53), .load none (.t 52), some (47, true)⟩,
  ⟨(some 54), .faddr 0 (.t 1), some (47, true)⟩,
  ⟨(some 55), .load none (.t 54), some (47, true)⟩,
  ⟨(some 56), .mov (.t 3), some (47, true)⟩,
  ⟨(some 57), .bin .sub (.t 56) (.c (.int .i64 1)), some (47, true)⟩,
  ⟨(some 58), .idxs 2 (.t 55) (.t 57), some (47, true)⟩,
  ⟨(some 59), .faddr 0 (.t 58), some (47, true)⟩,
  ⟨(some 60), .load none (.t 59), some (47, true)⟩,
  ⟨(some 61), .bin .lss (.t 53) (.t 60), some (47, true)⟩,
  ⟨(some 62), .pick (.t 47) (.t 61) (.c (.bool false)), none⟩] (some [[], [0], [1], [2], [3, 2], [2], [4, 5, 2], [6, 2], [7, 2], [2], [9, 2], [2], [11, 2], [10, 12, 2], [13, 2], [14, 2], [8, 15, 2], [2, 16]]))
 (.cond (.t 62) (.seq (.region [⟨(some 2), .mov (.c (.int .i64 9)), none⟩] none)
 (.ret))
 (.skip))))))
 (.region [⟨(some 17), .mov (.t 3), none⟩,
  ⟨(some 18), .bin .add (.t 17) (.c (.int .i64 1)), none⟩,
  ⟨(some 3), .mov (.t 18), none⟩] none))
-- pneumatic/pneumaticref13.CheckStep
def ic136 : IC := .seq (.region [⟨(some 1), .box (.t 0), none⟩,
  ⟨(some 2), .mov (.c (.int .i64 0)), none⟩] none)
 (.seq (.seq (.region [⟨(some 4), .faddr 0 (.t 1), none⟩,
  ⟨(some 5), .load none (.t 4), none⟩,
  ⟨(some 6), .len false (.t 5), none⟩,
  ⟨(some 7), .bin .eql (.t 6) (.c (.int .i64 0)), none⟩] none)
 (.cond (.t 7) (.seq (.region [⟨(some 2), .mov (.c (.int .i64 13)), none⟩] none)
 (.ret))
 (.skip)))
 (.seq (.seq (.region [⟨(some 8), .faddr 0 (.t 1), none⟩,
  ⟨(some 9), .load none (.t 8), none⟩,
  ⟨(some 10), .len false (.t 9), none⟩,
  ⟨(some 11), .bin .gtr (.t 10) (.c (.int .i64 6)), none⟩] none)
 (.cond (.t 11) (.seq (.region [⟨(some 2), .mov (.c (.int .i64 5)), none⟩] none)
 (.ret))
 (.skip)))
 (.seq (.seq (.region [⟨(some 3), .mov (.c (.int .i64 0)), none⟩] none)
 (.block 0 (.loop b136_0)))
 (.seq (.seq (.region [⟨(some 63), .faddr 1 (.t 1), none⟩,
  ⟨(some 64), .load none (.t 63), none⟩,
  ⟨(some 65), .call (.c (.fn 160 [] [])) [(.t 64)], none⟩,
  ⟨(some 66), .un .not (.t 65), none⟩] none)
 (.cond (.t 66) (.seq (.region [⟨(some 2), .mov (.c (.int .i64 2)), none⟩] none)
 (.ret))
 (.skip)))
 (.seq (.region [⟨(some 2), .mov (.c (.int .i64 0)), none⟩] none)
 (.ret))))))
theorem fn136 : env0.fn 136 = some ⟨67, ic136, [.t 2]⟩ := by kernel_rfl
set_option maxHeartbeats 4000000 in
theorem step90 (p : Sp) : PF Try.prog 136 [.agg (cP p)] (.int .i64 (spC p)) := by
 obtain ⟨l, w⟩ := p
 have hcl : (cSs l).length = l.length := zc7 l
 have h106 := time106 w
 refine zbc env0_ok fn136 [(0, .agg [.vs (cSs l), .int .i64 w])] (by show 1 ≤ 67; decide) rfl fun w0 N0 => ?_
 unfold ic136
 repeat (first | refine za6 ?_ | refine za0 rfl ?_ | refine za3 ?_ | refine za2 ?_ | refine za4 rfl ?_ | refine za8 rfl rfl ?_ | refine zac rfl ?_ | refine zb9 rfl rfl ?_ | refine zby rfl rfl ?_)
 refine zar rfl rfl rfl (fun h => ?_) fun h => ?_
 ·have h : (((cSs l).length : Nat) : Int) = 0 := by simpa using h
  rw [show spC ⟨l, w⟩ = 13 from if_pos (by show l.length = 0; omega)]
  repeat (first | refine za6 ?_ | refine za0 rfl ?_ | refine za3 ?_ | refine za2 ?_ | refine zb0 rfl ?_ | refine zam ?_ | refine za5 ?_ | refine za4 rfl ?_)
  exact zak ⟨.inr rfl, _, rfl, rfl⟩
 have h : ¬ (((cSs l).length : Nat) : Int) = 0 := by simpa using h
 repeat (first | refine za6 ?_ | refine za0 rfl ?_ | refine za3 ?_ | refine za2 ?_ | refine zab ?_ | refine zb8 rfl ?_ | refine za8 rfl rfl ?_ | refine zac rfl ?_ | refine zb9 rfl rfl ?_)
 refine zar rfl rfl rfl (fun h2 => ?_) fun h2 => ?_
 ·have h2 : (((cSs l).length : Nat) : Int) > 6 := of_decide_eq_true h2
  rw [show spC ⟨l, w⟩ = 5 from (if_neg (by show ¬ l.length = 0; omega)).trans (if_pos (by show l.length > 6; omega))]
  repeat (first | refine za6 ?_ | refine za0 rfl ?_ | refine za3 ?_ | refine za2 ?_ | refine zb0 rfl ?_ | refine zam ?_ | refine za5 ?_ | refine za4 rfl ?_)
  exact zak ⟨.inr rfl, _, rfl, rfl⟩
 have h2 : ¬ (((cSs l).length : Nat) : Int) > 6 := of_decide_eq_false h2
 have hst : spC ⟨l, w⟩ = if zh0 (-1) l ≠ 0 then zh0 (-1) l else if w < 0 ∨ w > 1000000 then 2 else 0 := (if_neg (by show ¬ l.length = 0; omega)).trans (if_neg (by show ¬ l.length > 6; omega))
 rw [hst]
 repeat (first | refine za6 ?_ | refine za0 rfl ?_ | refine za3 ?_ | refine za2 ?_ | refine zad ?_ | refine zab ?_ | refine zb8 rfl ?_ | refine za4 rfl ?_)
 refine zbq (fun mm S => ∃ i z, mm = l.length - i ∧ i ≤ l.length ∧ zh0 (-1) l = zh0 z (l.drop i) ∧ (i = 0 → z = -1) ∧ (∀ k (h : k < l.length), i = k + 1 → z = l[k].a) ∧
   S = st 67 [(1, .vptr [.vs (cSs l), .int .i64 w]), (3, .int .i64 (i : Nat))] [] 0 1) l.length
  (zbk [] [(0, 0, [.vs (cSs l), .int .i64 w])] rfl rfl rfl (.cons rfl rfl .nil) .nil (l' := [(1, .vptr [.vs (cSs l), .int .i64 w]), (3, .int .i64 ((0 : Nat) : Int))]) (.cons rfl (.fptr rfl rfl) (.cons rfl (.same rfl) .nil))) ⟨0, -1, rfl, Nat.zero_le _, rfl, fun _ => rfl, fun k _ e => by omega, rfl⟩ ?_
 rintro mm S ⟨i, z, rfl, hi, hall, hz0, hz1, rfl⟩
 unfold b136_0
 repeat (first | refine za6 ?_ | refine za0 rfl ?_ | refine za4 rfl ?_ | refine za8 rfl rfl ?_ | refine zah rfl rfl rfl ?_ | refine zb9 rfl rfl ?_)
 refine zar rfl rfl rfl (fun h3 => ?_) fun h3 => ?_
 ·have hlt : i < l.length := by
   have : ((i : Nat) : Int) < ((cSs l).length : Nat) := of_decide_eq_true h3
   rw [hcl] at this
   omega
  have hd : l.drop i = l[i] :: l.drop (i + 1) := List.drop_eq_getElem_cons hlt
  rw [hd, zh0] at hall
  have hg := zdm hlt
  have hnx : ∀ k (h : k < l.length), i + 1 = k + 1 → l[i].a = l[k].a := fun k h e => by
   obtain rfl : i = k := by omega
   rfl
  generalize l[i] = s at hall hg hnx
  obtain ⟨a, o⟩ := s
  have h105 := known105 a
  have hg : (cSs l)[((i : Nat) : Int).toNat]? = some [.int .i64 a, .bool o] := hg
  have hall : zh0 (-1) l = if zfy a = false then 2 else if (a == z) = true then 7 else if decide (a < z) = true then 9 else zh0 a (l.drop (i + 1)) := hall
  repeat (first | refine za6 ?_ | refine za0 rfl ?_ | refine za3 ?_ | refine za2 ?_ | refine zad ?_ | refine zab ?_ | refine zb0 rfl ?_ | refine za4 rfl ?_ | refine za8 rfl rfl ?_ | refine zah rfl rfl rfl ?_ | refine zb1 rfl rfl (by omega) (by assumption) rfl ?_)
  refine zau rfl rfl h105 (fun h => Bool.noConfusion (show false = true from h)) ?_
  cases hk : zfy a with
  | false =>
   rw [hk, if_pos rfl] at hall
   rw [hall]
   repeat (first | refine za6 ?_ | refine za0 rfl ?_ | refine za3 ?_ | refine za2 ?_ | refine zb0 rfl ?_ | refine zam ?_ | refine za5 ?_ | refine zaa ?_ | refine za4 rfl ?_ | refine zem rfl rfl ?_)
   refine zb2 ?_
   repeat (first | refine za5 ?_ | refine zaa ?_)
   exact zak ⟨.inr rfl, _, rfl, rfl⟩
  | true =>
   have ha0 : 0 ≤ a := by
    unfold zfy at hk
    rw [Bool.and_eq_true] at hk
    exact of_decide_eq_true hk.1
   rw [hk, if_neg (by decide)] at hall
   repeat (first | refine za6 ?_ | refine za3 ?_ | refine za2 ?_ | refine zab ?_ | refine zb8 rfl ?_ | refine za4 rfl ?_ | refine zem rfl rfl ?_ | refine zbu env0_ok rfl rfl rfl ?_)
   cases i with
   | zero =>
    obtain rfl := hz0 rfl
    rw [if_neg (by simp; omega), if_neg (by simp; omega)] at hall
    repeat (first | refine za6 ?_ | refine za0 rfl ?_ | refine za3 ?_ | refine za2 ?_ | refine zb6 ?_ | refine zab ?_ | refine zb8 rfl ?_ | refine zda rfl rfl ?_ | refine za4 rfl ?_ | refine zag rfl rfl ?_ | refine zbu env0_ok rfl rfl rfl ?_ | refine zay (op := .add) rfl rfl rfl ?_ | refine zbn rfl rfl rfl ?_)
    rw [zaq 0 (by omega)]
    exact zat (show l.length - (0 + 1) < l.length - 0 by omega) (zao (.cons rfl (.cons rfl .nil))) ⟨0 + 1, a, rfl, hlt, hall, fun h => by omega, hnx, rfl⟩
   | succ k =>
    have hkl : k < l.length := by omega
    obtain rfl := hz1 k hkl rfl
    have hg1 := zdm hkl
    generalize l[k] = s1 at hall hg1
    obtain ⟨a1, o1⟩ := s1
    have hg1 : (cSs l)[((k : Nat) : Int).toNat]? = some [.int .i64 a1, .bool o1] := hg1
    have hall : zh0 (-1) l = if (a == a1) = true then 7 else if decide (a < a1) = true then 9 else zh0 a (l.drop (k + 1 + 1)) := hall
    have hwp := zx2 k (by omega)
    refine zar rfl rfl rfl (fun _ => ?_) fun h4 => absurd (of_decide_eq_false h4) (by omega)
    repeat (first | refine zc5 rfl ?_ | refine za4 rfl ?_ | refine za8 rfl rfl ?_ | refine zah rfl rfl rfl ?_ | refine zay (op := .sub) rfl rfl rfl ?_ | refine zb1 rfl rfl (by omega) (by assumption) rfl ?_)
    rw [hwp]
    repeat (first | refine zc5 rfl ?_ | refine za8 rfl rfl ?_ | refine zah rfl rfl rfl ?_ | refine zb1 rfl rfl (by omega) (by assumption) rfl ?_)
    refine zar rfl rfl rfl (fun h4 => ?_) fun h4 => ?_
    ·rw [if_pos h4] at hall
     rw [hall]
     repeat (first | refine za6 ?_ | refine za0 rfl ?_ | refine za3 ?_ | refine za2 ?_ | refine zb0 rfl ?_ | refine zam ?_ | refine za5 ?_ | refine zaa ?_ | refine za4 rfl ?_ | refine zap rfl rfl ?_)
     refine zb2 ?_
     repeat (first | refine za5 ?_ | refine zaa ?_)
     exact zak ⟨.inr rfl, _, rfl, rfl⟩
    rw [if_neg (by rw [h4]; decide)] at hall
    repeat (first | refine za6 ?_ | refine za3 ?_ | refine za2 ?_ | refine zab ?_ | refine zb8 rfl ?_ | refine za4 rfl ?_ | refine zap rfl rfl ?_ | refine zbu env0_ok rfl rfl rfl ?_)
    refine zar rfl rfl rfl (fun _ => ?_) fun h4 => absurd (of_decide_eq_false h4) (by omega)
    repeat (first | refine zc5 rfl ?_ | refine za4 rfl ?_ | refine za8 rfl rfl ?_ | refine zah rfl rfl rfl ?_ | refine zay (op := .sub) rfl rfl rfl ?_ | refine zb1 rfl rfl (by omega) (by assumption) rfl ?_)
    rw [hwp]
    repeat (first | refine zc5 rfl ?_ | refine za8 rfl rfl ?_ | refine zah rfl rfl rfl ?_ | refine zb1 rfl rfl (by omega) (by assumption) rfl ?_)
    refine zar rfl rfl rfl (fun h5 => ?_) fun h5 => ?_
    ·rw [if_pos h5] at hall
     rw [hall]
     repeat (first | refine za6 ?_ | refine za0 rfl ?_ | refine za3 ?_ | refine za2 ?_ | refine zb0 rfl ?_ | refine zam ?_ | refine za5 ?_ | refine zaa ?_ | refine za4 rfl ?_ | refine zap rfl rfl ?_)
     refine zb2 ?_
     repeat (first | refine za5 ?_ | refine zaa ?_)
     exact zak ⟨.inr rfl, _, rfl, rfl⟩
    rw [if_neg (by rw [h5]; decide)] at hall
    repeat (first | refine za0 rfl ?_ | refine za3 ?_ | refine za2 ?_ | refine zb6 ?_ | refine zab ?_ | refine zb8 rfl ?_ | refine za4 rfl ?_ | refine zap rfl rfl ?_ | refine zay (op := .add) rfl rfl rfl ?_)
    rw [zaq (k + 1) (by omega)]
    exact zat (show l.length - (k + 1 + 1) < l.length - (k + 1) by omega) (zao (.cons rfl (.cons rfl .nil))) ⟨k + 1 + 1, a, rfl, hlt, hall, fun h => by omega, hnx, rfl⟩
 ·have hi2 : i = l.length := by
   have : ¬ ((i : Nat) : Int) < ((cSs l).length : Nat) := of_decide_eq_false h3
   rw [hcl] at this
   omega
  rw [hi2, List.drop_length, zh0] at hall
  rw [hall, if_neg (by decide)]
  repeat (first | refine za3 ?_ | refine za2 ?_ | refine zb8 rfl ?_ | refine zbb ?_ | refine zaj ?_)
  refine zcl ?_
  repeat (first | refine za6 ?_ | refine za0 rfl ?_ | refine za2 ?_ | refine zba ?_ | refine za8 rfl rfl ?_ | refine zah rfl rfl rfl ?_)
  refine zau rfl rfl h106 (fun h => Bool.noConfusion (show false = true from h)) ?_
  by_cases hw : w < 0 ∨ w > 1000000
  ·rw [show (decide (w ≥ 0) && decide (w ≤ 1000000)) = false from by rw [Bool.and_eq_false_iff, decide_eq_false_iff_not, decide_eq_false_iff_not]; omega, if_pos hw]
   repeat (first | refine za6 ?_ | refine za0 rfl ?_ | refine za3 ?_ | refine za2 ?_ | refine zb0 rfl ?_ | refine zam ?_ | refine za5 ?_ | refine za4 rfl ?_ | refine zem rfl rfl ?_)
   exact zak ⟨.inr rfl, _, rfl, rfl⟩
  ·rw [show (decide (w ≥ 0) && decide (w ≤ 1000000)) = true from by rw [Bool.and_eq_true, decide_eq_true_eq, decide_eq_true_eq]; omega, if_neg hw]
   repeat (first | refine za6 ?_ | refine za0 rfl ?_ | refine za3 ?_ | refine za2 ?_ | refine zab ?_ | refine zb8 rfl ?_ | refine zam ?_ | refine za4 rfl ?_ | refine zem rfl rfl ?_)
   exact zak ⟨.inr rfl, _, rfl, rfl⟩
end Go.Proofs.Ytoiblgbaeglgoaa
