/-
  FAMILIES: given, union, Covers; and the same of the reference.
-/
import Derived.Test.YtknomkcdpcnmaaaVV1
namespace Go.Proofs.Ytknomkcdpcnmaaa
open Go Go.Am
def b48_0 : IC := .seq (.region [⟨(some 18), .bin .lss (.t 17) (.t 16), none⟩] none)
 (.seq (.cond (.t 18) (.skip)
 (.exit 0))
 (.seq (.block 1 (.seq (.region [⟨(some 19), .mov (.t 17), none⟩,
  ⟨(some 20), .idxs 1 (.t 15) (.t 17), none⟩,
  ⟨(some 21), .load none (.t 20), none⟩,
  ⟨(some 8), .mov (.t 19), none⟩,
  ⟨(some 9), .mov (.t 21), none⟩] none)
 (.block 2 (.seq (.region [⟨(some 23), .mov (.t 9), none⟩,
  ⟨(some 24), .bin .lss (.t 23) (.c (.int .i64 0)), none⟩,
  ⟨(some 25), .mov (.t 24), none⟩,
  ⟨(some 26), .mov (.t 9), some (25, false)⟩,
  ⟨(some 27), .mov (.t 2), some (25, false)⟩,
  ⟨(some 28), .bin .geq (.t 26) (.t 27), some (25, false)⟩,
  ⟨(some 29), .pick (.t 25) (.c (.bool true)) (.t 28), none⟩,
  ⟨(some 22), .mov (.t 29), none⟩] none)
 (.cond (.t 22) (.seq (.region [⟨(some 6), .mov (.c (.int .i64 2)), none⟩] none)
 (.ret))
 (.seq (.region [⟨(some 31), .mov (.t 8), none⟩,
  ⟨(some 32), .bin .gtr (.t 31) (.c (.int .i64 0)), none⟩,
  ⟨(some 33), .mov (.t 32), none⟩,
  ⟨(some 34), .mov (.t 9), some (33, true)⟩,
  ⟨(some 35), .mov (.t 1), some (33, true)⟩,
  ⟨(some 36), .mov (.t 8), some (33, true)⟩,
  ⟨(some 37), .bin .sub (.t 36) (.c (.int .i64 1)), some (33, true)⟩,
  ⟨(some 38), .idxs 1 (.t 35) (.t 37), some (33, true)⟩,
  ⟨(some 39), .load none (.t 38), some (33, true)⟩,
  ⟨(some 40), .bin .leq (.t 34) (.t 39), some (33, true)⟩,
  ⟨(some 41), .pick (.t 33) (.t 40) (.c (.bool false)), none⟩,
  ⟨(some 30), .mov (.t 41), none⟩] none)
 (.cond (.t 30) (.seq (.region [⟨(some 6), .mov (.c (.int .i64 9)), none⟩] none)
 (.ret))
 (.skip))))))))
 (.region [⟨(some 42), .bin .add (.t 17) (.c (.int .i64 1)), none⟩,
  ⟨(some 17), .mov (.t 42), none⟩] none)))
-- pneumatic/setcover.given
def ic48 : IC := .seq (.region [⟨(some 3), .box (.t 0), none⟩,
  ⟨(some 6), .mov (.c (.int .i64 0)), none⟩] none)
 (.seq (.seq (.region [⟨(some 10), .load (some 2) (.t 3), none⟩,
  ⟨(some 11), .call (.c (.fn 37 [] [])) [(.t 10)], none⟩,
  ⟨(some 7), .mov (.t 11), none⟩] none)
 (.seq (.region [⟨(some 12), .mov (.t 7), none⟩,
  ⟨(some 13), .bin .neq (.t 12) (.c (.int .i64 0)), none⟩] none)
 (.cond (.t 13) (.seq (.region [⟨(some 14), .mov (.t 7), none⟩,
  ⟨(some 6), .mov (.t 14), none⟩] none)
 (.ret))
 (.skip))))
 (.seq (.seq (.region [⟨(some 15), .mov (.t 1), none⟩,
  ⟨(some 16), .len false (.t 15), none⟩,
  ⟨(some 17), .mov (.c (.int .i64 0)), none⟩] none)
 (.block 0 (.loop b48_0)))
 (.seq (.region [⟨(some 6), .mov (.c (.int .i64 0)), none⟩] none)
 (.ret))))
theorem fn48 : env0.fn 48 = some ⟨43, ic48, [.t 6]⟩ := by kernel_rfl
def b50_0 : IC := .seq (.seq (.region [⟨(some 6), .mov (.t 5), none⟩,
  ⟨(some 7), .mov (.t 1), none⟩,
  ⟨(some 8), .len false (.t 7), none⟩,
  ⟨(some 9), .bin .lss (.t 6) (.t 8), none⟩] none)
 (.cond (.t 9) (.skip)
 (.exit 0)))
 (.seq (.block 1 (.seq (.seq (.region [⟨(some 12), .mov (.t 1), none⟩,
  ⟨(some 13), .mov (.t 5), none⟩,
  ⟨(some 14), .idxs 1 (.t 12) (.t 13), none⟩,
  ⟨(some 15), .load none (.t 14), none⟩,
  ⟨(some 16), .bin .lss (.t 15) (.c (.int .i64 0)), none⟩,
  ⟨(some 17), .mov (.t 16), none⟩,
  ⟨(some 18), .mov (.t 1), some (17, false)⟩,
  ⟨(some 19), .mov (.t 5), some (17, false)⟩,
  ⟨(some 20), .idxs 1 (.t 18) (.t 19), some (17, false)⟩,
  ⟨(some 21), .load none (.t 20), some (17, false)⟩,
  ⟨(some 22), .mov (.t 0), some (17, false)⟩,
  ⟨(some 23), .bin .geq (.t 21) (.t 22), some (17, false)⟩,
  ⟨(some 24), .pick (.t 17) (.c (.bool true)) (.t 23), none⟩] none)
 (.cond (.t 24) (.seq (.region [⟨(some 4), .mov (.c (.int .i64 2)), none⟩] none)
 (.ret))
 (.skip)))
 (.seq (.region [⟨(some 25), .mov (.t 5), none⟩,
  ⟨(some 26), .bin .gtr (.t 25) (.c (.int .i64 0)), none⟩,
  ⟨(some 27), .mov (.t 26), none⟩,
  ⟨(some 28), .mov (.t 1), some (27, true)⟩,
  ⟨(some 29), .mov (.t 5), some (27, true)⟩,
  ⟨(some 30), .idxs 1 (.t 28) (.t 29), some (27, true)⟩,
  ⟨(some 31), .load none (.t 30), some (27, true)⟩,
  ⟨(some 32), .mov (.t 1), some (27, true)⟩,
  ⟨(some 33), .mov (.t 5), some (27, true)⟩,
  ⟨(some 34), .bin .sub (.t 33) (.c (.int .i64 1)), some (27, true)⟩,
  ⟨(some 35), .idxs 1 (.t 32) (.t 34), some (27, true)⟩,
  ⟨(some 36), .load none (.t 35), some (27, true)⟩,
  ⟨(some 37), .bin .leq (.t 31) (.t 36), some (27, true)⟩,
  ⟨(some 38), .pick (.t 27) (.t 37) (.c (.bool false)), none⟩] (some [[], [0], [1], [2], [2], [3, 4, 2], [5, 2], [2], [2], [8, 2], [7, 9, 2], [10, 2], [6, 11, 2], [2, 12]]))
 (.cond (.t 38) (.seq (.region [⟨(some 4), .mov (.c (.int .i64 9)), none⟩] none)
 (.ret))
 (.skip)))))
 (.region [⟨(some 10), .mov (.t 5), none⟩,
  ⟨(some 11), .bin .add (.t 10) (.c (.int .i64 1)), none⟩,
  ⟨(some 5), .mov (.t 11), none⟩] none))
-- pneumatic/pneumaticref09.list
def ic50 : IC := .seq (.region [⟨(some 4), .mov (.c (.int .i64 0)), none⟩] none)
 (.seq (.seq (.region [⟨(some 5), .mov (.c (.int .i64 0)), none⟩] none)
 (.block 0 (.loop b50_0)))
 (.seq (.region [⟨(some 4), .mov (.c (.int .i64 0)), none⟩] none)
 (.ret)))
theorem fn50 : env0.fn 50 = some ⟨39, ic50, [.t 4]⟩ := by kernel_rfl
-- pneumatic/pneumaticref09.given
def ic62 : IC := .seq (.region [⟨(some 2), .box (.t 0), none⟩,
  ⟨(some 4), .mov (.c (.int .i64 0)), none⟩] none)
 (.seq (.seq (.region [⟨(some 6), .load (some 2) (.t 2), none⟩,
  ⟨(some 7), .call (.c (.fn 38 [] [])) [(.t 6)], none⟩,
  ⟨(some 5), .mov (.t 7), none⟩] none)
 (.seq (.region [⟨(some 8), .mov (.t 5), none⟩,
  ⟨(some 9), .bin .neq (.t 8) (.c (.int .i64 0)), none⟩] none)
 (.cond (.t 9) (.seq (.region [⟨(some 10), .mov (.t 5), none⟩,
  ⟨(some 4), .mov (.t 10), none⟩] none)
 (.ret))
 (.skip))))
 (.seq (.region [⟨(some 11), .faddr 1 (.t 2), none⟩,
  ⟨(some 12), .load none (.t 11), none⟩,
  ⟨(some 13), .len false (.t 12), none⟩,
  ⟨(some 14), .mov (.t 1), none⟩,
  ⟨(some 15), .call (.c (.fn 50 [] [])) [(.t 13), (.t 14)], none⟩,
  ⟨(some 4), .mov (.t 15), none⟩] none)
 (.ret)))
theorem fn62 : env0.fn 62 = some ⟨16, ic62, [.t 4]⟩ := by kernel_rfl
def b57_0 : IC := .seq (.region [⟨(some 11), .bin .lss (.t 10) (.t 9), none⟩] none)
 (.seq (.cond (.t 11) (.skip)
 (.exit 0))
 (.seq (.block 1 (.seq (.region [⟨(some 12), .idxs 1 (.t 8) (.t 10), none⟩,
  ⟨(some 13), .load none (.t 12), none⟩,
  ⟨(some 7), .mov (.t 13), none⟩] none)
 (.region [⟨(some 14), .mov (.t 5), none⟩,
  ⟨(some 15), .faddr 1 (.t 2), none⟩,
  ⟨(some 16), .load none (.t 15), none⟩,
  ⟨(some 17), .mov (.t 7), none⟩,
  ⟨(some 18), .idxs 1 (.t 16) (.t 17), none⟩,
  ⟨(some 19), .load none (.t 18), none⟩,
  ⟨(some 20), .bin .or (.t 14) (.t 19), none⟩,
  ⟨(some 5), .mov (.t 20), none⟩] none)))
 (.region [⟨(some 21), .bin .add (.t 10) (.c (.int .i64 1)), none⟩,
  ⟨(some 10), .mov (.t 21), none⟩] none)))
-- pneumatic/setcover.union
def ic57 : IC := .seq (.region [⟨(some 2), .box (.t 0), none⟩,
  ⟨(some 4), .mov (.c (.int .u64 0)), none⟩] none)
 (.seq (.region [⟨(some 5), .mov (.c (.int .u64 0)), none⟩] none)
 (.seq (.seq (.region [⟨(some 8), .mov (.t 1), none⟩,
  ⟨(some 9), .len false (.t 8), none⟩,
  ⟨(some 10), .mov (.c (.int .i64 0)), none⟩] none)
 (.block 0 (.loop b57_0)))
 (.seq (.region [⟨(some 22), .mov (.t 5), none⟩,
  ⟨(some 4), .mov (.t 22), none⟩] none)
 (.ret))))
theorem fn57 : env0.fn 57 = some ⟨23, ic57, [.t 4]⟩ := by kernel_rfl
def b60_0 : IC := .seq (.seq (.region [⟨(some 7), .mov (.t 6), none⟩,
  ⟨(some 8), .mov (.t 1), none⟩,
  ⟨(some 9), .len false (.t 8), none⟩,
  ⟨(some 10), .bin .lss (.t 7) (.t 9), none⟩] none)
 (.cond (.t 10) (.skip)
 (.exit 0)))
 (.seq (.block 1 (.region [⟨(some 13), .mov (.t 5), none⟩,
  ⟨(some 14), .faddr 1 (.t 2), none⟩,
  ⟨(some 15), .load none (.t 14), none⟩,
  ⟨(some 16), .mov (.t 1), none⟩,
  ⟨(some 17), .mov (.t 6), none⟩,
  ⟨(some 18), .idxs 1 (.t 16) (.t 17), none⟩,
  ⟨(some 19), .load none (.t 18), none⟩,
  ⟨(some 20), .idxs 1 (.t 15) (.t 19), none⟩,
  ⟨(some 21), .load none (.t 20), none⟩,
  ⟨(some 22), .bin .or (.t 13) (.t 21), none⟩,
  ⟨(some 5), .mov (.t 22), none⟩] (some [[], [], [1], [], [], [3, 4], [5], [2, 6], [7], [0, 8], [9, 0, 1, 2, 3, 4, 5, 6, 7, 8, 9]])))
 (.region [⟨(some 11), .mov (.t 6), none⟩,
  ⟨(some 12), .bin .add (.t 11) (.c (.int .i64 1)), none⟩,
  ⟨(some 6), .mov (.t 12), none⟩] none))
-- pneumatic/pneumaticref09.Union
def ic60 : IC := .seq (.region [⟨(some 2), .box (.t 0), none⟩,
  ⟨(some 4), .mov (.c (.int .u64 0)), none⟩] none)
 (.seq (.region [⟨(some 5), .mov (.c (.int .u64 0)), none⟩] none)
 (.seq (.seq (.region [⟨(some 6), .mov (.c (.int .i64 0)), none⟩] none)
 (.block 0 (.loop b60_0)))
 (.seq (.region [⟨(some 23), .mov (.t 5), none⟩,
  ⟨(some 4), .mov (.t 23), none⟩] none)
 (.ret))))
theorem fn60 : env0.fn 60 = some ⟨24, ic60, [.t 4]⟩ := by kernel_rfl
-- pneumatic/setcover.Covers
def ic33 : IC := .seq (.region [⟨(some 2), .box (.t 0), none⟩,
  ⟨(some 4), .mov (.c (.bool false)), none⟩,
  ⟨(some 5), .mov (.c (.int .i64 0)), none⟩] none)
 (.seq (.seq (.region [⟨(some 7), .load (some 2) (.t 2), none⟩,
  ⟨(some 8), .mov (.t 1), none⟩,
  ⟨(some 9), .faddr 1 (.t 2), none⟩,
  ⟨(some 10), .load none (.t 9), none⟩,
  ⟨(some 11), .len false (.t 10), none⟩,
  ⟨(some 12), .call (.c (.fn 48 [] [])) [(.t 7), (.t 8), (.t 11)], none⟩,
  ⟨(some 6), .mov (.t 12), none⟩] none)
 (.seq (.region [⟨(some 13), .mov (.t 6), none⟩,
  ⟨(some 14), .bin .neq (.t 13) (.c (.int .i64 0)), none⟩] none)
 (.cond (.t 14) (.seq (.region [⟨(some 15), .mov (.t 6), none⟩,
  ⟨(some 4), .mov (.c (.bool false)), none⟩,
  ⟨(some 5), .mov (.t 15), none⟩] none)
 (.ret))
 (.skip))))
 (.seq (.region [⟨(some 16), .load (some 2) (.t 2), none⟩,
  ⟨(some 17), .mov (.t 1), none⟩,
  ⟨(some 18), .call (.c (.fn 57 [] [])) [(.t 16), (.t 17)], none⟩,
  ⟨(some 19), .faddr 0 (.t 2), none⟩,
  ⟨(some 20), .load none (.t 19), none⟩,
  ⟨(some 21), .call (.c (.fn 43 [] [])) [(.t 20)], none⟩,
  ⟨(some 22), .bin .eql (.t 18) (.t 21), none⟩,
  ⟨(some 4), .mov (.t 22), none⟩,
  ⟨(some 5), .mov (.c (.int .i64 0)), none⟩] (some [[], [], [0, 1], [], [3], [4, 2], [2, 5], [6, 5, 0, 1, 2, 3, 4, 5, 6], [7, 0, 1, 2, 3, 4, 5, 6, 7]]))
 (.ret)))
theorem fn33 : env0.fn 33 = some ⟨23, ic33, [.t 4, .t 5]⟩ := by kernel_rfl
-- pneumatic/pneumaticref09.Covers
def ic34 : IC := .seq (.region [⟨(some 2), .box (.t 0), none⟩,
  ⟨(some 4), .mov (.c (.bool false)), none⟩,
  ⟨(some 5), .mov (.c (.int .i64 0)), none⟩] none)
 (.seq (.seq (.region [⟨(some 7), .load (some 2) (.t 2), none⟩,
  ⟨(some 8), .mov (.t 1), none⟩,
  ⟨(some 9), .call (.c (.fn 62 [] [])) [(.t 7), (.t 8)], none⟩,
  ⟨(some 6), .mov (.t 9), none⟩] none)
 (.seq (.region [⟨(some 10), .mov (.t 6), none⟩,
  ⟨(some 11), .bin .neq (.t 10) (.c (.int .i64 0)), none⟩] none)
 (.cond (.t 11) (.seq (.region [⟨(some 12), .mov (.t 6), none⟩,
  ⟨(some 4), .mov (.c (.bool false)), none⟩,
  ⟨(some 5), .mov (.t 12), none⟩] none)
 (.ret))
 (.skip))))
 (.seq (.region [⟨(some 13), .load (some 2) (.t 2), none⟩,
  ⟨(some 14), .mov (.t 1), none⟩,
  ⟨(some 15), .call (.c (.fn 60 [] [])) [(.t 13), (.t 14)], none⟩,
  ⟨(some 16), .faddr 0 (.t 2), none⟩,
  ⟨(some 17), .load none (.t 16), none⟩,
  ⟨(some 18), .call (.c (.fn 54 [] [])) [(.t 17)], none⟩,
  ⟨(some 19), .bin .eql (.t 15) (.t 18), none⟩,
  ⟨(some 4), .mov (.t 19), none⟩,
  ⟨(some 5), .mov (.c (.int .i64 0)), none⟩] (some [[], [], [0, 1], [], [3], [4, 2], [2, 5], [6, 5, 0, 1, 2, 3, 4, 5, 6], [7, 0, 1, 2, 3, 4, 5, 6, 7]]))
 (.ret)))
theorem fn34 : env0.fn 34 = some ⟨20, ic34, [.t 4, .t 5]⟩ := by kernel_rfl
theorem zu0 (n : Int) (s : List (BitVec 64)) (l : List Int) (hl : l.length ≤ 1000000) (m : Int) : PF Try.prog 48 [cF n s, vsI l, .int .i64 m] (.int .i64 (zmz n s l m)) := by
 have pC := zlc n s
 have hvl : (l.map fun z => ([.int .i64 z] : List AV)).length = l.length := List.length_map ..
 refine zc0 env0_ok fn48 [(0, cF n s), (1, vsI l), (2, .int .i64 m)] (by show 3 ≤ 43; decide) rfl fun w0 N0 => ?_
 unfold ic48 zmz
 refine za9 (za0 rfl (zbh (cs := [.int .i64 n, .vs (cUs s)]) rfl rfl (za5 rfl (za7 (za8 ?_)))))
 refine zdf [] [(0, 0, [.int .i64 n, .vs (cUs s)])] [(1, vsI l), (2, .int .i64 m), (3, .vptr [.int .i64 n, .vs (cUs s)])] rfl (.cons rfl rfl .nil) .nil (.cons rfl (.same rfl) (.cons rfl (.same rfl) (.cons rfl (.fptr rfl rfl) .nil))) ?_
 repeat (first | refine za9 ?_ | refine za0 rfl ?_ | refine zar rfl rfl rfl rfl ?_)
 refine zbn rfl rfl pC (fun h => Bool.noConfusion (show false = true from h)) ?_
 by_cases hc : zga n s = 0
 ·rw [if_pos hc, hc]
  repeat (first | refine za9 ?_ | refine za0 rfl ?_ | refine za7 ?_ | refine za8 ?_ | refine zai ?_ | refine zal ?_ | refine zbo rfl ?_ | refine za5 rfl ?_ | refine zbe rfl rfl ?_ | refine zb0 rfl rfl rfl ?_)
  unfold vsI
  refine zcz (fun mm S => ∃ i, mm = l.length - i ∧ i ≤ l.length ∧ zru m (-1) l = zru m (prv l i) (l.drop i) ∧ S = st 43 [(1, vsI l), (2, .int .i64 m), (15, vsI l), (16, .int .i64 l.length), (17, .int .i64 (i : Nat))] [] 0 1) l.length
   (zbd (.cons rfl (.cons rfl (.cons rfl (.cons (by rw [← hvl]; rfl) (.cons rfl .nil)))))) ⟨0, rfl, Nat.zero_le _, rfl, rfl⟩ ?_
  rintro mm S ⟨i, rfl, hi, hall, rfl⟩
  rw [hall]
  clear hall
  unfold b48_0 vsI
  repeat (first | refine za9 ?_ | refine za0 rfl ?_)
  refine zbp rfl rfl rfl (fun h3 => ?_) fun h3 => ?_
  ·have hlt : i < l.length := Int.ofNat_lt.1 (of_decide_eq_true h3)
   have hg := zdr hlt
   rw [zn9 hlt]
   repeat (first | refine za9 ?_ | refine za0 rfl ?_ | refine za7 ?_ | refine za8 ?_ | refine zai ?_ | refine zal ?_ | refine zbq rfl ?_ | refine za5 rfl ?_ | refine zat rfl rfl ?_ | refine zb1 rfl rfl (by omega) (by assumption) rfl ?_)
   refine zbp rfl rfl rfl (fun h => ?_) fun h => ?_
   ·rw [if_pos (of_decide_eq_true h)]
    repeat (first | refine za9 ?_ | refine za0 rfl ?_ | refine za7 ?_ | refine za8 ?_ | refine zbq rfl ?_ | refine zb4 ?_ | refine za2 ?_ | refine za6 ?_ | refine zc8 rfl rfl ?_ | refine za5 rfl ?_ | refine zau rfl rfl ?_)
    refine zc7 ?_
    repeat (first | refine za2 ?_ | refine za6 ?_)
    exact zbj ⟨.inr rfl, _, rfl, rfl⟩
   have hneg : ¬ l[i] < 0 := of_decide_eq_false h
   rw [if_neg hneg]
   repeat (first | refine zc3 rfl ?_ | refine za5 rfl ?_)
   refine zbp rfl rfl rfl (fun h => ?_) fun h => ?_
   ·rw [if_pos (of_decide_eq_true h)]
    repeat (first | refine za9 ?_ | refine za0 rfl ?_ | refine za7 ?_ | refine za8 ?_ | refine zbq rfl ?_ | refine zb4 ?_ | refine za2 ?_ | refine za6 ?_ | refine za5 rfl ?_ | refine zas rfl rfl ?_)
    refine zc7 ?_
    repeat (first | refine za2 ?_ | refine za6 ?_)
    exact zbj ⟨.inr rfl, _, rfl, rfl⟩
   rw [if_neg (of_decide_eq_false h)]
   repeat (first | refine za9 ?_ | refine za0 rfl ?_ | refine za7 ?_ | refine za8 ?_ | refine zbo rfl ?_ | refine za5 rfl ?_ | refine zas rfl rfl ?_)
   by_cases h0 : i = 0
   ·subst h0
    have hpos : ¬ l[0] ≤ prv l 0 := by
     show ¬ l[0] ≤ -1
     omega
    rw [if_neg hpos]
    repeat (first | refine za0 rfl ?_ | refine za7 ?_ | refine za8 ?_ | refine zbf ?_ | refine zal ?_ | refine zbo rfl ?_ | refine zc8 rfl rfl ?_ | refine za5 rfl ?_ | refine zas rfl rfl ?_ | refine zag (op := .add) rfl rfl rfl ?_ | refine zb0 rfl rfl rfl ?_)
    exact zby (show l.length - (0 + 1) < l.length - 0 by omega) (zbd (.cons rfl (.cons rfl (.cons rfl (.cons rfl (.cons rfl .nil)))))) ⟨0 + 1, rfl, hlt, rfl, rfl⟩
   ·refine zb5 rfl rfl (by show some (AV.bool (decide (((i : Nat) : Int) > 0))) = _; rw [decide_eq_true (by omega)]) ?_
    have hg2 := zdr (D := l) (k := i - 1) (by omega)
    have hw : IntKind.wrap .i64 (((i : Nat) : Int) - 1) = ((i - 1 : Nat) : Int) := by rw [zg0 _ (by omega) (by omega)]; omega
    have hp : prv l i = l[i - 1] := by
     unfold prv
     rw [if_neg h0, List.getD_eq_getElem?_getD, List.getElem?_eq_getElem (by omega)]
     rfl
    rw [hp]
    repeat (first | refine zc3 rfl ?_ | refine za5 rfl ?_ | refine zag (op := .sub) rfl rfl rfl ?_)
    rw [hw]
    repeat (first | refine zc3 rfl ?_ | refine zat rfl rfl ?_ | refine zb1 rfl rfl (by omega) (by assumption) rfl ?_)
    refine zbp rfl rfl rfl (fun h => ?_) fun h => ?_
    ·rw [if_pos (of_decide_eq_true h)]
     repeat (first | refine za9 ?_ | refine za0 rfl ?_ | refine za7 ?_ | refine za8 ?_ | refine zbq rfl ?_ | refine zb4 ?_ | refine za2 ?_ | refine za6 ?_ | refine za5 rfl ?_ | refine zau rfl rfl ?_)
     refine zc7 ?_
     repeat (first | refine za2 ?_ | refine za6 ?_)
     exact zbj ⟨.inr rfl, _, rfl, rfl⟩
    rw [if_neg (of_decide_eq_false h)]
    repeat (first | refine za0 rfl ?_ | refine za7 ?_ | refine za8 ?_ | refine zbf ?_ | refine zal ?_ | refine zbo rfl ?_ | refine za5 rfl ?_ | refine zau rfl rfl ?_ | refine zag (op := .add) rfl rfl rfl ?_)
    rw [zbw i (by omega)]
    exact zby (show l.length - (i + 1) < l.length - i by omega) (zbd (.cons rfl (.cons rfl (.cons rfl (.cons rfl (.cons rfl .nil)))))) ⟨i + 1, rfl, hlt, rfl, rfl⟩
  ·have hi2 : i = l.length := by
    have : ¬ i < l.length := fun h => of_decide_eq_false h3 (Int.ofNat_lt.2 h)
    omega
   subst hi2
   rw [List.drop_length]
   repeat (first | refine za9 ?_ | refine za7 ?_ | refine za8 ?_ | refine zbo rfl ?_ | refine zb3 ?_ | refine za4 ?_)
   refine ze4 ?_
   repeat (first | refine za9 ?_ | refine za0 rfl ?_ | refine za7 ?_ | refine za8 ?_ | refine zb4 ?_ | refine zb2 ?_ | refine za5 rfl ?_)
   exact zbj ⟨.inr rfl, _, rfl, rfl⟩
 ·rw [if_neg hc]
  repeat (first | refine za9 ?_ | refine za0 rfl ?_ | refine za7 ?_ | refine za8 ?_ | refine za5 rfl ?_)
  refine zbp rfl rfl rfl (fun h => ?_) fun h => absurd (by simpa using h) hc
  repeat (first | refine za9 ?_ | refine za0 rfl ?_ | refine za7 ?_ | refine za8 ?_ | refine zbq rfl ?_ | refine zb4 ?_ | refine za2 ?_ | refine za5 rfl ?_)
  exact zbj ⟨.inr rfl, _, rfl, rfl⟩
theorem list50 (m : Int) (l : List Int) (hl : l.length ≤ 1000000) : PF Try.prog 50 [.int .i64 m, vsI l] (.int .i64 (zru m (-1) l)) := by
 have hvl : (l.map fun z => ([.int .i64 z] : List AV)).length = l.length := List.length_map ..
 refine zc0 env0_ok fn50 [(0, .int .i64 m), (1, vsI l)] (by show 2 ≤ 39; decide) rfl fun w0 N0 => ?_
 unfold ic50
 repeat (first | refine za9 ?_ | refine za0 rfl ?_ | refine za7 ?_ | refine za8 ?_ | refine zai ?_ | refine za5 rfl ?_)
 refine zcz (fun mm S => ∃ i, mm = l.length - i ∧ i ≤ l.length ∧ zru m (-1) l = zru m (prv l i) (l.drop i) ∧ S = st 39 [(0, .int .i64 m), (1, vsI l), (5, .int .i64 (i : Nat))] [] 0 1) l.length
  (zd2 [] [] rfl rfl rfl .nil .nil (l' := [(0, .int .i64 m), (1, vsI l), (5, .int .i64 ((0 : Nat) : Int))]) (.cons rfl (.same rfl) (.cons rfl (.same rfl) (.cons rfl (.same rfl) .nil)))) ⟨0, rfl, Nat.zero_le _, rfl, rfl⟩ ?_
 rintro mm S ⟨i, rfl, hi, hall, rfl⟩
 rw [hall]
 clear hall
 unfold b50_0 vsI
 repeat (first | refine za9 ?_ | refine za0 rfl ?_ | refine za5 rfl ?_ | refine zbe rfl rfl ?_)
 refine zbp rfl rfl (by show some (AV.bool (decide (((i : Nat) : Int) < ((l.map fun z => ([.int .i64 z] : List AV)).length : Nat)))) = _; rw [hvl]) (fun h3 => ?_) fun h3 => ?_
 ·have hlt : i < l.length := Int.ofNat_lt.1 (of_decide_eq_true h3)
  have hg := zdr hlt
  rw [zn9 hlt]
  repeat (first | refine za9 ?_ | refine za0 rfl ?_ | refine za7 ?_ | refine za8 ?_ | refine zai ?_ | refine zal ?_ | refine zbq rfl ?_ | refine za5 rfl ?_ | refine zat rfl rfl ?_ | refine zb1 rfl rfl (by omega) (by assumption) rfl ?_)
  refine zbp rfl rfl rfl (fun h => ?_) fun h => ?_
  ·rw [if_pos (of_decide_eq_true h)]
   repeat (first | refine za9 ?_ | refine za0 rfl ?_ | refine za7 ?_ | refine za8 ?_ | refine zbq rfl ?_ | refine zb4 ?_ | refine za2 ?_ | refine za6 ?_ | refine zc8 rfl rfl ?_ | refine za5 rfl ?_ | refine zau rfl rfl ?_)
   refine zc7 ?_
   repeat (first | refine za2 ?_ | refine za6 ?_)
   exact zbj ⟨.inr rfl, _, rfl, rfl⟩
  have hneg : ¬ l[i] < 0 := of_decide_eq_false h
  rw [if_neg hneg]
  repeat (first | refine zc3 rfl ?_ | refine za5 rfl ?_ | refine zat rfl rfl ?_ | refine zb1 rfl rfl (by omega) (by assumption) rfl ?_)
  refine zbp rfl rfl rfl (fun h => ?_) fun h => ?_
  ·rw [if_pos (of_decide_eq_true h)]
   repeat (first | refine za9 ?_ | refine za0 rfl ?_ | refine za7 ?_ | refine za8 ?_ | refine zbq rfl ?_ | refine zb4 ?_ | refine za2 ?_ | refine za6 ?_ | refine za5 rfl ?_ | refine zas rfl rfl ?_)
   refine zc7 ?_
   repeat (first | refine za2 ?_ | refine za6 ?_)
   exact zbj ⟨.inr rfl, _, rfl, rfl⟩
  rw [if_neg (of_decide_eq_false h)]
  repeat (first | refine za9 ?_ | refine za7 ?_ | refine za8 ?_ | refine zal ?_ | refine zbo rfl ?_ | refine za5 rfl ?_ | refine zas rfl rfl ?_ | refine zam env0_ok rfl rfl rfl ?_)
  by_cases h0 : i = 0
  ·subst h0
   have hpos : ¬ l[0] ≤ prv l 0 := by
    show ¬ l[0] ≤ -1
    omega
   rw [if_neg hpos]
   repeat (first | refine za0 rfl ?_ | refine za7 ?_ | refine za8 ?_ | refine zbf ?_ | refine zal ?_ | refine zbo rfl ?_ | refine zc8 rfl rfl ?_ | refine za5 rfl ?_ | refine zas rfl rfl ?_ | refine zag (op := .add) rfl rfl rfl ?_ | refine zb0 rfl rfl rfl ?_)
   exact zby (show l.length - (0 + 1) < l.length - 0 by omega) (zbd (.cons rfl (.cons rfl (.cons rfl .nil)))) ⟨0 + 1, rfl, hlt, rfl, rfl⟩
  ·refine zb5 rfl rfl (by show some (AV.bool (decide (((i : Nat) : Int) > 0))) = _; rw [decide_eq_true (by omega)]) ?_
   have hg2 := zdr (D := l) (k := i - 1) (by omega)
   have hw : IntKind.wrap .i64 (((i : Nat) : Int) - 1) = ((i - 1 : Nat) : Int) := by rw [zg0 _ (by omega) (by omega)]; omega
   have hp : prv l i = l[i - 1] := by
    unfold prv
    rw [if_neg h0, List.getD_eq_getElem?_getD, List.getElem?_eq_getElem (by omega)]
    rfl
   rw [hp]
   repeat (first | refine zc3 rfl ?_ | refine za5 rfl ?_ | refine zat rfl rfl ?_ | refine zag (op := .sub) rfl rfl rfl ?_ | refine zb1 rfl rfl (by omega) (by assumption) rfl ?_)
   rw [hw]
   repeat (first | refine zc3 rfl ?_ | refine zat rfl rfl ?_ | refine zb1 rfl rfl (by omega) (by assumption) rfl ?_)
   refine zbp rfl rfl rfl (fun h => ?_) fun h => ?_
   ·rw [if_pos (of_decide_eq_true h)]
    repeat (first | refine za9 ?_ | refine za0 rfl ?_ | refine za7 ?_ | refine za8 ?_ | refine zbq rfl ?_ | refine zb4 ?_ | refine za2 ?_ | refine za6 ?_ | refine za5 rfl ?_ | refine zau rfl rfl ?_)
    refine zc7 ?_
    repeat (first | refine za2 ?_ | refine za6 ?_)
    exact zbj ⟨.inr rfl, _, rfl, rfl⟩
   rw [if_neg (of_decide_eq_false h)]
   repeat (first | refine za0 rfl ?_ | refine za7 ?_ | refine za8 ?_ | refine zbf ?_ | refine zal ?_ | refine zbo rfl ?_ | refine za5 rfl ?_ | refine zau rfl rfl ?_ | refine zag (op := .add) rfl rfl rfl ?_)
   rw [zbw i (by omega)]
   exact zby (show l.length - (i + 1) < l.length - i by omega) (zbd (.cons rfl (.cons rfl (.cons rfl .nil)))) ⟨i + 1, rfl, hlt, rfl, rfl⟩
 ·have hi2 : i = l.length := by
   have : ¬ i < l.length := fun h => of_decide_eq_false h3 (Int.ofNat_lt.2 h)
   omega
  subst hi2
  rw [List.drop_length]
  repeat (first | refine za7 ?_ | refine za8 ?_ | refine zbo rfl ?_ | refine zb3 ?_ | refine za4 ?_)
  refine ze4 ?_
  repeat (first | refine za9 ?_ | refine za0 rfl ?_ | refine za7 ?_ | refine za8 ?_ | refine zb4 ?_ | refine zb2 ?_ | refine za5 rfl ?_)
  exact zbj ⟨.inr rfl, _, rfl, rfl⟩
theorem zu1 (n : Int) (s : List (BitVec 64)) (hs : s.length ≤ 1000000) (l : List Int) (hl : l.length ≤ 1000000) : PF Try.prog 62 [cF n s, vsI l] (.int .i64 (zmz n s l s.length)) := by
 have pC := zo5 n s
 have pL := list50 s.length l hl
 have hcl := zcw s
 refine zc0 env0_ok fn62 [(0, cF n s), (1, vsI l)] (by show 2 ≤ 16; decide) rfl fun w0 N0 => ?_
 unfold ic62 zmz
 refine za9 (za0 rfl (zbh (cs := [.int .i64 n, .vs (cUs s)]) rfl rfl (za5 rfl (za7 (za8 ?_)))))
 refine zdf [] [(0, 0, [.int .i64 n, .vs (cUs s)])] [(1, vsI l), (2, .vptr [.int .i64 n, .vs (cUs s)])] rfl (.cons rfl rfl .nil) .nil (.cons rfl (.same rfl) (.cons rfl (.fptr rfl rfl) .nil)) ?_
 repeat (first | refine za9 ?_ | refine za0 rfl ?_ | refine zar rfl rfl rfl rfl ?_)
 refine zbn rfl rfl pC (fun h => Bool.noConfusion (show false = true from h)) ?_
 by_cases hc : zga n s = 0
 ·rw [if_pos hc, hc]
  repeat (first | refine za9 ?_ | refine za0 rfl ?_ | refine za7 ?_ | refine za8 ?_ | refine zal ?_ | refine zbo rfl ?_ | refine za5 rfl ?_ | refine zat rfl rfl ?_ | refine zaa rfl rfl rfl ?_ | refine zbe rfl rfl ?_ | refine zb0 rfl rfl rfl ?_)
  refine zbn rfl (by rw [hcl]; rfl) pL (fun h => Bool.noConfusion (show false = true from h)) ?_
  repeat (first | refine za7 ?_ | refine za8 ?_ | refine zb4 ?_ | refine za5 rfl ?_)
  exact zbj ⟨.inr rfl, _, rfl, rfl⟩
 ·rw [if_neg hc]
  repeat (first | refine za9 ?_ | refine za0 rfl ?_ | refine za7 ?_ | refine za8 ?_ | refine za5 rfl ?_)
  refine zbp rfl rfl rfl (fun h => ?_) fun h => absurd (by simpa using h) hc
  repeat (first | refine za9 ?_ | refine za0 rfl ?_ | refine za7 ?_ | refine za8 ?_ | refine zbq rfl ?_ | refine zb4 ?_ | refine za2 ?_ | refine za5 rfl ?_)
  exact zbj ⟨.inr rfl, _, rfl, rfl⟩
theorem zp4 (n : Int) (s : List (BitVec 64)) (c : List Int) (hl : c.length ≤ 1000000) (hc : ∀ z ∈ c, 0 ≤ z ∧ z < s.length) : PF Try.prog 57 [cF n s, vsI c] (cU (uni s c)) := by
 have hvl : (c.map fun z => ([.int .i64 z] : List AV)).length = c.length := List.length_map ..
 refine zc0 env0_ok fn57 [(0, cF n s), (1, vsI c)] (by show 2 ≤ 23; decide) rfl fun w0 N0 => ?_
 unfold ic57
 refine za9 (za0 rfl (zbh (cs := [.int .i64 n, .vs (cUs s)]) rfl rfl (za5 rfl (za7 (za8 ?_)))))
 refine zdf [] [(0, 0, [.int .i64 n, .vs (cUs s)])] [(1, vsI c), (2, .vptr [.int .i64 n, .vs (cUs s)])] rfl (.cons rfl rfl .nil) .nil (.cons rfl (.same rfl) (.cons rfl (.fptr rfl rfl) .nil)) ?_
 repeat (first | refine za9 ?_ | refine za0 rfl ?_ | refine za7 ?_ | refine za8 ?_ | refine zai ?_ | refine za5 rfl ?_ | refine zbe rfl rfl ?_)
 unfold vsI
 refine zcz (fun mm S => ∃ i, mm = c.length - i ∧ i ≤ c.length ∧ S = st 23 [(2, .vptr [.int .i64 n, .vs (cUs s)]), (5, cU (uni s (c.take i))), (8, vsI c), (9, .int .i64 c.length), (10, .int .i64 (i : Nat))] [] 0 1) c.length
  (zbd (.cons rfl (.cons rfl (.cons rfl (.cons (by rw [← hvl]; rfl) (.cons rfl .nil)))))) ⟨0, rfl, Nat.zero_le _, rfl⟩ ?_
 rintro mm S ⟨i, rfl, hi, rfl⟩
 unfold b57_0 vsI
 repeat (first | refine za9 ?_ | refine za0 rfl ?_)
 refine zbp rfl rfl rfl (fun h3 => ?_) fun h3 => ?_
 ·have hlt : i < c.length := Int.ofNat_lt.1 (of_decide_eq_true h3)
  have hg := zdr hlt
  obtain ⟨z0, z1⟩ := hc _ (List.getElem_mem hlt)
  have hg2 := zl7 z0 (s := s) (by omega)
  repeat (first | refine zag rfl rfl (zge _ _) ?_ | refine za9 ?_ | refine za0 rfl ?_ | refine za7 ?_ | refine za8 ?_ | refine zbf ?_ | refine zai ?_ | refine zal ?_ | refine zbq rfl ?_ | refine za5 rfl ?_ | refine zat rfl rfl ?_ | refine zaa rfl rfl rfl ?_ | refine zag (op := .add) rfl rfl rfl ?_ | refine zb1 rfl rfl (by omega) (by assumption) rfl ?_)
  rw [zbw i (by omega)]
  exact zby (show c.length - (i + 1) < c.length - i by omega) (zbd (.cons rfl (.cons rfl (.cons rfl (.cons rfl (.cons rfl .nil)))))) ⟨i + 1, rfl, hlt, by rw [zr0 hlt]⟩
 ·have hi2 : i = c.length := by
   have : ¬ i < c.length := fun h => of_decide_eq_false h3 (Int.ofNat_lt.2 h)
   omega
  subst hi2
  rw [List.take_length]
  repeat (first | refine za9 ?_ | refine za7 ?_ | refine za8 ?_ | refine zbo rfl ?_ | refine zb3 ?_ | refine za4 ?_)
  refine ze4 ?_
  repeat (first | refine za9 ?_ | refine za0 rfl ?_ | refine za7 ?_ | refine za8 ?_ | refine zb4 ?_ | refine zb2 ?_ | refine za5 rfl ?_)
  exact zbj ⟨.inr rfl, _, rfl, rfl⟩
theorem zp5 (n : Int) (s : List (BitVec 64)) (c : List Int) (hl : c.length ≤ 1000000) (hc : ∀ z ∈ c, 0 ≤ z ∧ z < s.length) : PF Try.prog 60 [cF n s, vsI c] (cU (uni s c)) := by
 have hvl : (c.map fun z => ([.int .i64 z] : List AV)).length = c.length := List.length_map ..
 refine zc0 env0_ok fn60 [(0, cF n s), (1, vsI c)] (by show 2 ≤ 24; decide) rfl fun w0 N0 => ?_
 unfold ic60
 refine za9 (za0 rfl (zbh (cs := [.int .i64 n, .vs (cUs s)]) rfl rfl (za5 rfl (za7 (za8 ?_)))))
 refine zdf [] [(0, 0, [.int .i64 n, .vs (cUs s)])] [(1, vsI c), (2, .vptr [.int .i64 n, .vs (cUs s)])] rfl (.cons rfl rfl .nil) .nil (.cons rfl (.same rfl) (.cons rfl (.fptr rfl rfl) .nil)) ?_
 repeat (first | refine za9 ?_ | refine za0 rfl ?_ | refine za7 ?_ | refine za8 ?_ | refine zai ?_ | refine za5 rfl ?_)
 refine zcz (fun mm S => ∃ i, mm = c.length - i ∧ i ≤ c.length ∧ S = st 24 [(1, vsI c), (2, .vptr [.int .i64 n, .vs (cUs s)]), (5, cU (uni s (c.take i))), (6, .int .i64 (i : Nat))] [] 0 1) c.length
  (zbd (.cons rfl (.cons rfl (.cons rfl (.cons rfl .nil))))) ⟨0, rfl, Nat.zero_le _, rfl⟩ ?_
 rintro mm S ⟨i, rfl, hi, rfl⟩
 unfold b60_0 vsI
 repeat (first | refine za9 ?_ | refine za0 rfl ?_ | refine za5 rfl ?_ | refine zbe rfl rfl ?_)
 refine zbp rfl rfl (by show some (AV.bool (decide (((i : Nat) : Int) < ((c.map fun z => ([.int .i64 z] : List AV)).length : Nat)))) = _; rw [hvl]) (fun h3 => ?_) fun h3 => ?_
 ·have hlt : i < c.length := Int.ofNat_lt.1 (of_decide_eq_true h3)
  have hg := zdr hlt
  obtain ⟨z0, z1⟩ := hc _ (List.getElem_mem hlt)
  have hg2 := zl7 z0 (s := s) (by omega)
  repeat (first | refine zag rfl rfl (zge _ _) ?_ | refine za9 ?_ | refine za0 rfl ?_ | refine za7 ?_ | refine za8 ?_ | refine zbf ?_ | refine zai ?_ | refine zal ?_ | refine zbq rfl ?_ | refine za5 rfl ?_ | refine zat rfl rfl ?_ | refine zaa rfl rfl rfl ?_ | refine zam env0_ok rfl rfl rfl ?_ | refine zag (op := .add) rfl rfl rfl ?_ | refine zb1 rfl rfl (by omega) (by assumption) rfl ?_)
  rw [zbw i (by omega)]
  exact zby (show c.length - (i + 1) < c.length - i by omega) (zbd (.cons rfl (.cons rfl (.cons rfl (.cons rfl .nil))))) ⟨i + 1, rfl, hlt, by rw [zr0 hlt]⟩
 ·have hi2 : i = c.length := by
   have : ¬ i < c.length := fun h => of_decide_eq_false h3 (Int.ofNat_lt.2 h)
   omega
  subst hi2
  rw [List.take_length]
  repeat (first | refine za7 ?_ | refine za8 ?_ | refine zbo rfl ?_ | refine zb3 ?_ | refine za4 ?_)
  refine ze4 ?_
  repeat (first | refine za9 ?_ | refine za0 rfl ?_ | refine za7 ?_ | refine za8 ?_ | refine zb4 ?_ | refine zb2 ?_ | refine za5 rfl ?_)
  exact zbj ⟨.inr rfl, _, rfl, rfl⟩
theorem zgf {n : Int} {s : List (BitVec 64)} (h : zga n s = 0) : 0 ≤ n ∧ n ≤ 64 ∧ s.length ≤ 64 ∧ ∀ x ∈ s, badU n x = false := by
 unfold zga zsa at h
 split at h
 ·exact absurd h (by decide)
 split at h
 ·exact absurd h (by decide)
 split at h
 ·exact absurd h (by decide)
 split at h
 ·exact absurd h (by decide)
 rename_i h4
 refine ⟨by omega, by omega, by omega, fun x hx => ?_⟩
 cases hb : badU n x with
 | false => rfl
 | true => exact absurd (List.any_eq_true.2 ⟨x, hx, hb⟩) h4
theorem zn0 {n : Int} {s : List (BitVec 64)} {l : List Int} {m : Int} (h : zmz n s l m = 0) : zga n s = 0 ∧ zru m (-1) l = 0 := by
 unfold zmz at h
 split at h
 ·exact ⟨by assumption, h⟩
 ·rename_i hc; exact absurd h hc
theorem zpw (n : Int) (s : List (BitVec 64)) (hs : s.length ≤ 1000000) (c : List Int) (hl : c.length ≤ 1000000) : PF Try.prog 33 [cF n s, vsI c] (covV n s c) := by
 have pG := zu0 n s c hl s.length
 have hcl := zcw s
 refine zc0 env0_ok fn33 [(0, cF n s), (1, vsI c)] (by show 2 ≤ 23; decide) rfl fun w0 N0 => ?_
 unfold ic33 covV
 refine za9 (za0 rfl (zbh (cs := [.int .i64 n, .vs (cUs s)]) rfl rfl (za5 rfl (za5 rfl (za7 (za8 ?_))))))
 refine zdf [] [(0, 0, [.int .i64 n, .vs (cUs s)])] [(1, vsI c), (2, .vptr [.int .i64 n, .vs (cUs s)])] rfl (.cons rfl rfl .nil) .nil (.cons rfl (.same rfl) (.cons rfl (.fptr rfl rfl) .nil)) ?_
 repeat (first | refine za9 ?_ | refine za0 rfl ?_ | refine za5 rfl ?_ | refine zat rfl rfl ?_ | refine zar rfl rfl rfl rfl ?_ | refine zaa rfl rfl rfl ?_ | refine zbe rfl rfl ?_)
 refine zbn rfl (by rw [hcl]; rfl) pG (fun h => Bool.noConfusion (show false = true from h)) ?_
 by_cases hg : zmz n s c s.length = 0
 ·rw [if_pos hg, hg]
  obtain ⟨hc, ho⟩ := zn0 hg
  obtain ⟨n0, n1, _, _⟩ := zgf hc
  have hin := zhq ho
  have pU := zp4 n s c hl fun z hz => ⟨(hin z hz).1, (hin z hz).2.1⟩
  have pA := znx n0 n1
  repeat (first | refine za9 ?_ | refine za0 rfl ?_ | refine za7 ?_ | refine za8 ?_ | refine zal ?_ | refine zbo rfl ?_ | refine za5 rfl ?_ | refine zb0 rfl rfl rfl ?_)
  refine zeu env0_ok [(57, [cF n s, vsI c], cU (uni s c)), (43, [.int .i64 n], cU (zdg n))] (fun x hx => by
   rcases List.mem_cons.1 hx with rfl | hx
   ·exact pU
   obtain rfl := List.mem_singleton.1 hx
   exact pA) (fun f => Nat.beq f 57 || Nat.beq f 43) rfl rfl rfl ?_
  repeat (first | refine za5 rfl ?_ | refine zar rfl rfl rfl rfl ?_)
  refine zbn rfl rfl zbx (fun h => Bool.noConfusion (show false = true from h)) ?_
  repeat (first | refine zat rfl rfl ?_ | refine zaa rfl rfl rfl ?_)
  refine zbn rfl rfl (zbz (by decide) zbx) (fun h => Bool.noConfusion (show false = true from h)) ?_
  refine zag rfl rfl (zdh _ _) ?_
  repeat (first | refine za7 ?_ | refine za8 ?_ | refine zb4 ?_ | refine za5 rfl ?_)
  exact zbj ⟨.inr rfl, _, rfl, rfl⟩
 ·rw [if_neg hg]
  repeat (first | refine za9 ?_ | refine za0 rfl ?_ | refine za7 ?_ | refine za8 ?_ | refine za5 rfl ?_)
  refine zbp rfl rfl rfl (fun h => ?_) fun h => absurd (by simpa using h) hg
  repeat (first | refine za9 ?_ | refine za0 rfl ?_ | refine za7 ?_ | refine za8 ?_ | refine zbq rfl ?_ | refine zb4 ?_ | refine za2 ?_ | refine za5 rfl ?_)
  exact zbj ⟨.inr rfl, _, rfl, rfl⟩
theorem covers34 (n : Int) (s : List (BitVec 64)) (hs : s.length ≤ 1000000) (c : List Int) (hl : c.length ≤ 1000000) : PF Try.prog 34 [cF n s, vsI c] (covV n s c) := by
 have pG := zu1 n s hs c hl
 refine zc0 env0_ok fn34 [(0, cF n s), (1, vsI c)] (by show 2 ≤ 20; decide) rfl fun w0 N0 => ?_
 unfold ic34 covV
 refine za9 (za0 rfl (zbh (cs := [.int .i64 n, .vs (cUs s)]) rfl rfl (za5 rfl (za5 rfl (za7 (za8 ?_))))))
 refine zdf [] [(0, 0, [.int .i64 n, .vs (cUs s)])] [(1, vsI c), (2, .vptr [.int .i64 n, .vs (cUs s)])] rfl (.cons rfl rfl .nil) .nil (.cons rfl (.same rfl) (.cons rfl (.fptr rfl rfl) .nil)) ?_
 repeat (first | refine za9 ?_ | refine za0 rfl ?_ | refine za5 rfl ?_ | refine zar rfl rfl rfl rfl ?_)
 refine zbn rfl rfl pG (fun h => Bool.noConfusion (show false = true from h)) ?_
 by_cases hg : zmz n s c s.length = 0
 ·rw [if_pos hg, hg]
  obtain ⟨hc, ho⟩ := zn0 hg
  obtain ⟨n0, n1, _, _⟩ := zgf hc
  have hin := zhq ho
  have pU := zp5 n s c hl fun z hz => ⟨(hin z hz).1, (hin z hz).2.1⟩
  have pA := all54 n0
  repeat (first | refine za9 ?_ | refine za0 rfl ?_ | refine za7 ?_ | refine za8 ?_ | refine zal ?_ | refine zbo rfl ?_ | refine za5 rfl ?_ | refine zb0 rfl rfl rfl ?_)
  refine zeu env0_ok [(60, [cF n s, vsI c], cU (uni s c)), (54, [.int .i64 n], cU (zdg n))] (fun x hx => by
   rcases List.mem_cons.1 hx with rfl | hx
   ·exact pU
   obtain rfl := List.mem_singleton.1 hx
   exact pA) (fun f => Nat.beq f 60 || Nat.beq f 54) rfl rfl rfl ?_
  repeat (first | refine za5 rfl ?_ | refine zar rfl rfl rfl rfl ?_)
  refine zbn rfl rfl zbx (fun h => Bool.noConfusion (show false = true from h)) ?_
  repeat (first | refine zat rfl rfl ?_ | refine zaa rfl rfl rfl ?_)
  refine zbn rfl rfl (zbz (by decide) zbx) (fun h => Bool.noConfusion (show false = true from h)) ?_
  refine zag rfl rfl (zdh _ _) ?_
  repeat (first | refine za7 ?_ | refine za8 ?_ | refine zb4 ?_ | refine za5 rfl ?_)
  exact zbj ⟨.inr rfl, _, rfl, rfl⟩
 ·rw [if_neg hg]
  repeat (first | refine za9 ?_ | refine za0 rfl ?_ | refine za7 ?_ | refine za8 ?_ | refine za5 rfl ?_)
  refine zbp rfl rfl rfl (fun h => ?_) fun h => absurd (by simpa using h) hg
  repeat (first | refine za9 ?_ | refine za0 rfl ?_ | refine za7 ?_ | refine za8 ?_ | refine zbq rfl ?_ | refine zb4 ?_ | refine za2 ?_ | refine za5 rfl ?_)
  exact zbj ⟨.inr rfl, _, rfl, rfl⟩
end Go.Proofs.Ytknomkcdpcnmaaa
