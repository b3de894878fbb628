/-
  THE RIGHT FAMILIES AND THEIR COVERS: right, has.
-/
import Derived.Test.YtknomkcdpcnmaaaELW
import Derived.Test.YtknomkcdpcnmaaaEP4
namespace Go.Proofs.Ytknomkcdpcnmaaa
open Go Go.Am
-- pneumatic/pneumaticlaw09.right
def ic23 : IC := .seq (.region [⟨(some 1), .box (.t 0), none⟩,
  ⟨(some 2), .mov (.c (.bool false)), none⟩] none)
 (.seq (.region [⟨(some 3), .faddr 0 (.t 1), none⟩,
  ⟨(some 4), .load none (.t 3), none⟩,
  ⟨(some 5), .bin .leq (.t 4) (.c (.int .i64 12)), none⟩,
  ⟨(some 6), .mov (.t 5), none⟩,
  ⟨(some 7), .faddr 1 (.t 1), some (6, true)⟩,
  ⟨(some 8), .load none (.t 7), some (6, true)⟩,
  ⟨(some 9), .len false (.t 8), some (6, true)⟩,
  ⟨(some 10), .bin .leq (.t 9) (.c (.int .i64 10)), some (6, true)⟩,
  ⟨(some 11), .pick (.t 6) (.t 10) (.c (.bool false)), none⟩,
  ⟨(some 12), .mov (.t 11), none⟩,
  ⟨(some 13), .load (some 2) (.t 1), some (12, true)⟩,
  ⟨(some 14), .call (.c (.fn 38 [] [])) [(.t 13)], some (12, true)⟩,
  ⟨(some 15), .bin .eql (.t 14) (.c (.int .i64 0)), some (12, true)⟩,
  ⟨(some 16), .pick (.t 12) (.t 15) (.c (.bool false)), none⟩,
  ⟨(some 2), .mov (.t 16), none⟩] none)
 (.ret))
theorem fn23 : env0.fn 23 = some ⟨17, ic23, [.t 2]⟩ := by kernel_rfl
def rigB (n : Int) (s : List (BitVec 64)) : Bool := decide (n ≤ 12) && (decide (s.length ≤ 10) && ze8 n s == 0)
set_option maxHeartbeats 2000000 in
theorem right23 (n : Int) (s : List (BitVec 64)) : PF Try.prog 23 [cF n s] (.bool (rigB n s)) := by
 have pC := check38 n s
 have hcl := zbh s
 refine zbd env0_ok fn23 [(0, cF n s)] (by show 1 ≤ 17; decide) rfl fun w0 N0 => ?_
 unfold ic23 rigB
 refine za6 (za0 rfl (zd7 (cs := [.int .i64 n, .vs (cUs s)]) rfl rfl (za1 rfl (za3 (za4 ?_)))))
 refine zd0 [] [(0, 0, [.int .i64 n, .vs (cUs s)])] [(1, .vptr [.int .i64 n, .vs (cUs s)])] rfl (.cons rfl rfl .nil) .nil (.cons rfl (.fptr rfl rfl) .nil) ?_
 repeat (first | refine za6 ?_ | refine za0 rfl ?_ | refine zah rfl rfl ?_ | refine za9 rfl rfl rfl ?_)
 refine zax rfl rfl rfl (fun h => ?_) fun h => ?_
 ·rw [show decide (n ≤ 12) = true from h, Bool.true_and]
  repeat (first | refine zcp rfl ?_ | refine za1 rfl ?_ | refine zah rfl rfl ?_ | refine za9 rfl rfl rfl ?_ | refine zbf rfl rfl ?_)
  refine zax rfl rfl rfl (fun h2 => ?_) fun h2 => ?_
  ·have h2 : (((cUs s).length : Nat) : Int) ≤ 10 := of_decide_eq_true h2
   rw [decide_eq_true (show s.length ≤ 10 by omega), Bool.true_and]
   repeat (first | refine zcp rfl ?_ | refine za1 rfl ?_ | refine zb2 rfl rfl rfl rfl ?_ | refine zan rfl rfl ?_)
   refine zay rfl rfl pC (fun h => Bool.noConfusion (show false = true from h)) ?_
   repeat (first | refine zcp rfl ?_)
   refine zax rfl rfl rfl (fun h3 => ?_) fun h3 => ?_
   all_goals
    rw [show (ze8 n s == 0) = _ from h3]
    repeat (first | refine za3 ?_ | refine za4 ?_ | refine zas ?_ | refine za1 rfl ?_ | refine zan rfl rfl ?_)
    exact zal ⟨.inr rfl, _, rfl, rfl⟩
  ·have h2 : ¬ (((cUs s).length : Nat) : Int) ≤ 10 := of_decide_eq_false h2
   rw [decide_eq_false (show ¬ s.length ≤ 10 by omega), Bool.false_and]
   repeat (first | refine za3 ?_ | refine za4 ?_ | refine zas ?_ | refine zh8 rfl rfl ?_ | refine za1 rfl ?_ | refine zan rfl rfl ?_ | refine zam rfl rfl ?_)
   exact zal ⟨.inr rfl, _, rfl, rfl⟩
 ·rw [show decide (n ≤ 12) = false from h, Bool.false_and]
  repeat (first | refine za3 ?_ | refine za4 ?_ | refine zas ?_ | refine zh8 rfl rfl ?_ | refine za1 rfl ?_ | refine zam rfl rfl ?_)
  exact zal ⟨.inr rfl, _, rfl, rfl⟩
theorem all_ok2 : (List.range 13).all (fun m => (1#64 <<< m) - 1#64 == zce (m : Nat)) = true := by decide +kernel
theorem all_shl {m : Nat} (h : m ≤ 12) : (1#64 <<< m) - 1#64 = zce (m : Nat) := by
 have := List.all_eq_true.1 all_ok2 m (List.mem_range.2 (by omega))
 simpa using this
def b25_0 : IC := .seq (.region [⟨(some 11), .bin .lss (.t 10) (.t 9), none⟩] none)
 (.seq (.cond (.t 11) (.skip)
 (.exit 0))
 (.seq (.block 1 (.seq (.region [⟨(some 12), .mov (.t 10), none⟩,
  ⟨(some 13), .idxs 1 (.t 8) (.t 10), none⟩,
  ⟨(some 14), .load none (.t 13), none⟩,
  ⟨(some 6), .mov (.t 12), none⟩,
  ⟨(some 7), .mov (.t 14), none⟩] none)
 (.seq (.seq (.region [⟨(some 15), .mov (.t 7), none⟩,
  ⟨(some 16), .bin .lss (.t 15) (.c (.int .i64 0)), none⟩,
  ⟨(some 17), .mov (.t 16), none⟩,
  ⟨(some 18), .mov (.t 7), some (17, false)⟩,
  ⟨(some 19), .faddr 1 (.t 2), some (17, false)⟩,
  ⟨(some 20), .load none (.t 19), some (17, false)⟩,
  ⟨(some 21), .len false (.t 20), some (17, false)⟩,
  ⟨(some 22), .bin .geq (.t 18) (.t 21), some (17, false)⟩,
  ⟨(some 23), .pick (.t 17) (.c (.bool true)) (.t 22), none⟩,
  ⟨(some 24), .mov (.t 23), none⟩,
  ⟨(some 25), .mov (.t 6), some (24, false)⟩,
  ⟨(some 26), .bin .gtr (.t 25) (.c (.int .i64 0)), some (24, false)⟩,
  ⟨(some 27), .mov (.t 26), some (24, false)⟩,
  ⟨(some 28), .mov (.t 7), some (27, true)⟩,
  ⟨(some 29), .mov (.t 1), some (27, true)⟩,
  ⟨(some 30), .mov (.t 6), some (27, true)⟩,
  ⟨(some 31), .bin .sub (.t 30) (.c (.int .i64 1)), some (27, true)⟩,
  ⟨(some 32), .idxs 1 (.t 29) (.t 31), some (27, true)⟩,
  ⟨(some 33), .load none (.t 32), some (27, true)⟩,
  ⟨(some 34), .bin .leq (.t 28) (.t 33), some (27, true)⟩,
  ⟨(some 35), .pick (.t 27) (.t 34) (.c (.bool false)), some (24, false)⟩,
  ⟨(some 36), .pick (.t 24) (.c (.bool true)) (.t 35), none⟩] none)
 (.cond (.t 36) (.seq (.region [⟨(some 4), .mov (.c (.bool false)), none⟩] none)
 (.ret))
 (.skip)))
 (.region [⟨(some 37), .mov (.t 5), none⟩,
  ⟨(some 38), .faddr 1 (.t 2), none⟩,
  ⟨(some 39), .load none (.t 38), none⟩,
  ⟨(some 40), .mov (.t 7), none⟩,
  ⟨(some 41), .idxs 1 (.t 39) (.t 40), none⟩,
  ⟨(some 42), .load none (.t 41), none⟩,
  ⟨(some 43), .bin .or (.t 37) (.t 42), none⟩,
  ⟨(some 5), .mov (.t 43), none⟩] none))))
 (.region [⟨(some 44), .bin .add (.t 10) (.c (.int .i64 1)), none⟩,
  ⟨(some 10), .mov (.t 44), none⟩] none)))
-- pneumatic/pneumaticlaw09.has
def ic25 : IC := .seq (.region [⟨(some 2), .box (.t 0), none⟩,
  ⟨(some 4), .mov (.c (.bool false)), none⟩] none)
 (.seq (.region [⟨(some 5), .mov (.c (.int .u64 0)), none⟩] none)
 (.seq (.seq (.region [⟨(some 8), .mov (.t 1), none⟩,
  ⟨(some 9), .len false (.t 8), none⟩,
  ⟨(some 10), .mov (.c (.int .i64 0)), none⟩] none)
 (.block 0 (.loop b25_0)))
 (.seq (.region [⟨(some 45), .mov (.t 5), none⟩,
  ⟨(some 46), .faddr 0 (.t 2), none⟩,
  ⟨(some 47), .load none (.t 46), none⟩,
  ⟨(some 48), .bin .shl (.c (.int .u64 1)) (.t 47), none⟩,
  ⟨(some 49), .bin .sub (.t 48) (.c (.int .u64 1)), none⟩,
  ⟨(some 50), .bin .eql (.t 45) (.t 49), none⟩,
  ⟨(some 4), .mov (.t 50), none⟩] none)
 (.ret))))
theorem fn25 : env0.fn 25 = some ⟨51, ic25, [.t 4]⟩ := by kernel_rfl
set_option maxHeartbeats 4000000 in
theorem has25 (m : Nat) (hm : m ≤ 12) (s : List (BitVec 64)) (hs : s.length ≤ 100) (c : List Int) (hl : c.length ≤ 1000) (hr : ∀ z ∈ c, 0 ≤ z ∧ z < s.length) (hp : c.Pairwise (· < ·)) (hu : uni s c = zce (m : Nat)) : PF Try.prog 25 [cF (m : Nat) s, vsI c] (.bool true) := by
 have hcl := zbh s
 have hva : (c.map fun z => ([.int .i64 z] : List AV)).length = c.length := List.length_map ..
 rw [List.pairwise_iff_getElem] at hp
 refine zbd env0_ok fn25 [(0, cF (m : Nat) s), (1, vsI c)] (by show 2 ≤ 51; decide) rfl fun w0 N0 => ?_
 unfold ic25
 refine za6 (za0 rfl (zd7 (cs := [.int .i64 (m : Nat), .vs (cUs s)]) rfl rfl (za1 rfl (za3 (za4 ?_)))))
 refine zd0 [] [(0, 0, [.int .i64 (m : Nat), .vs (cUs s)])] [(1, vsI c), (2, .vptr [.int .i64 (m : Nat), .vs (cUs s)])] rfl (.cons rfl rfl .nil) .nil (.cons rfl (.same rfl) (.cons rfl (.fptr rfl rfl) .nil)) ?_
 repeat (first | refine za6 ?_ | refine za0 rfl ?_ | refine za3 ?_ | refine za4 ?_ | refine zai ?_ | refine za1 rfl ?_ | refine zbf rfl rfl ?_)
 refine zcr (fun mm S => ∃ i, mm = c.length - i ∧ i ≤ c.length ∧ S = st 51 [(1, vsI c), (2, .vptr [.int .i64 (m : Nat), .vs (cUs s)]), (5, cU (uni s (c.take i))), (8, vsI c), (9, .int .i64 (c.length : Nat)), (10, .int .i64 (i : Nat))] [] 0 1) c.length
  (zaa (.cons rfl (.cons rfl (.cons rfl (.cons rfl (.cons (by rw [← hva]; rfl) (.cons rfl .nil))))))) ⟨0, rfl, Nat.zero_le _, rfl⟩ ?_
 rintro mm S ⟨i, rfl, hi, rfl⟩
 unfold b25_0
 repeat (first | refine za6 ?_ | refine za0 rfl ?_)
 refine zax rfl rfl rfl (fun h3 => ?_) fun h3 => ?_
 ·have hlt : i < c.length := Int.ofNat_lt.1 (of_decide_eq_true h3)
  have hg := zev hlt
  have hz := hr _ (List.getElem_mem hlt)
  have hts : c.take (i + 1) = c.take i ++ [c[i]] := by rw [List.take_add_one, List.getElem?_eq_getElem hlt]; rfl
  have hus := zqz s (c.take i) c[i]
  rw [← hts] at hus
  have hg2 := zl3 hz.1 (show c[i].toNat < s.length by omega)
  have w1 : IntKind.wrap .i64 (((i : Nat) : Int) + 1) = ((i + 1 : Nat) : Int) := zb0 i (by omega)
  repeat (first | refine za6 ?_ | refine za0 rfl ?_ | refine za3 ?_ | refine za4 ?_ | refine zai ?_ | refine zad ?_ | refine zc1 rfl ?_ | refine za1 rfl ?_ | refine zah rfl rfl ?_ | refine zba rfl rfl (by omega) (by assumption) rfl ?_)
  refine zb5 rfl rfl (congrArg (fun b => some (AV.bool b)) (decide_eq_false (show ¬ c[i] < 0 by omega))) ?_
  repeat (first | refine zcp rfl ?_ | refine za1 rfl ?_ | refine zah rfl rfl ?_ | refine za9 rfl rfl rfl ?_ | refine zbf rfl rfl ?_)
  refine zb5 rfl rfl (congrArg (fun b => some (AV.bool b)) (decide_eq_false (show ¬ c[i] ≥ (((cUs s).length : Nat) : Int) by omega))) ?_
  repeat (first | refine zcp rfl ?_ | refine za1 rfl ?_ | refine zam rfl rfl ?_)
  refine zax rfl rfl rfl (fun h4 => ?_) fun h4 => ?_
  ·obtain ⟨j, hj⟩ : ∃ j, i = j + 1 := ⟨i - 1, by have : ((i : Nat) : Int) > 0 := of_decide_eq_true h4; omega⟩
   subst hj
   have hg3 := zev (show j < c.length by omega)
   have hlt2 := hp j (j + 1) (by omega) hlt (by omega)
   have w2 : IntKind.wrap .i64 (((j + 1 : Nat) : Int) - 1) = ((j : Nat) : Int) := by rw [zdp _ (by omega) (by omega)]; omega
   repeat (first | refine zcp rfl ?_ | refine za1 rfl ?_)
   refine zac rfl rfl rfl ?_
   rw [w2]
   repeat (first | refine zcp rfl ?_ | refine zah rfl rfl ?_ | refine zba rfl rfl (by omega) (by assumption) rfl ?_)
   refine zb5 rfl rfl (congrArg (fun b => some (AV.bool b)) (decide_eq_false (show ¬ c[j + 1] ≤ c[j] by omega))) ?_
   repeat (first | refine za0 rfl ?_ | refine za3 ?_ | refine za4 ?_ | refine zad ?_ | refine zbt rfl ?_ | refine zcp rfl ?_ | refine za1 rfl ?_ | refine zah rfl rfl ?_ | refine za9 rfl rfl rfl ?_ | refine zan rfl rfl ?_ | refine zam rfl rfl ?_ | refine zba rfl rfl (by omega) (by assumption) rfl ?_)
   refine zac rfl rfl (zhg _ _) ?_
   repeat (first | refine za0 rfl ?_ | refine za3 ?_ | refine za4 ?_ | refine zbj ?_ | refine za1 rfl ?_ | refine zac (op := .add) rfl rfl rfl ?_)
   rw [w1]
   exact zb4 (show c.length - ((j + 1) + 1) < c.length - (j + 1) by omega) (zaa (.cons rfl (.cons rfl (.cons rfl (.cons rfl (.cons rfl (.cons rfl .nil))))))) ⟨(j + 1) + 1, rfl, hlt, by rw [hus]⟩
  ·repeat (first | refine za0 rfl ?_ | refine za3 ?_ | refine za4 ?_ | refine zad ?_ | refine zbt rfl ?_ | refine zcp rfl ?_ | refine zh8 rfl rfl ?_ | refine za1 rfl ?_ | refine zah rfl rfl ?_ | refine za9 rfl rfl rfl ?_ | refine zam rfl rfl ?_ | refine zba rfl rfl (by omega) (by assumption) rfl ?_)
   refine zac rfl rfl (zhg _ _) ?_
   repeat (first | refine za0 rfl ?_ | refine za3 ?_ | refine za4 ?_ | refine zbj ?_ | refine za1 rfl ?_ | refine zac (op := .add) rfl rfl rfl ?_)
   rw [w1]
   exact zb4 (show c.length - (i + 1) < c.length - i by omega) (zaa (.cons rfl (.cons rfl (.cons rfl (.cons rfl (.cons rfl (.cons rfl .nil))))))) ⟨i + 1, rfl, hlt, by rw [hus]⟩
 ·have hi3 : i = c.length := by
   have : ¬ i < c.length := fun h => of_decide_eq_false h3 (Int.ofNat_lt.2 h)
   omega
  rw [hi3, List.take_length, hu]
  repeat (first | refine za6 ?_ | refine za3 ?_ | refine za4 ?_ | refine zbt rfl ?_ | refine zbc ?_ | refine zaf ?_)
  refine ze6 ?_
  repeat (first | refine za6 ?_ | refine za0 rfl ?_ | refine za4 ?_ | refine zbb ?_ | refine za1 rfl ?_ | refine zah rfl rfl ?_ | refine za9 rfl rfl rfl ?_)
  refine zac rfl rfl (zl1 1#64 (by omega)) ?_
  refine zac rfl rfl (zl2 _ 1#64) ?_
  refine zac rfl rfl (zdf _ _) ?_
  rw [all_shl hm, beq_self_eq_true]
  repeat (first | refine za3 ?_ | refine za4 ?_ | refine zas ?_ | refine za1 rfl ?_)
  exact zal ⟨.inr rfl, _, rfl, rfl⟩
end Go.Proofs.Ytknomkcdpcnmaaa
