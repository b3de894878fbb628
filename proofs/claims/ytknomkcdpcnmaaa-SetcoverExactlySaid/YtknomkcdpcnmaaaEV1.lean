/-
  FAMILIES: all, Check, given; and the same of the reference.
-/
import Derived.Test.YtknomkcdpcnmaaaEU2
namespace Go.Proofs.Ytknomkcdpcnmaaa
open Go Go.Am
-- pneumatic/setcover.all
def ic43 : IC := .seq (.region [⟨(some 2), .mov (.c (.int .u64 0)), none⟩] none)
 (.seq (.seq (.region [⟨(some 3), .mov (.t 0), none⟩,
  ⟨(some 4), .bin .eql (.t 3) (.c (.int .i64 64)), none⟩] none)
 (.cond (.t 4) (.seq (.region [⟨(some 2), .mov (.c (.int .u64 18446744073709551615)), none⟩] none)
 (.ret))
 (.skip)))
 (.seq (.region [⟨(some 5), .mov (.t 0), none⟩,
  ⟨(some 6), .bin .shl (.c (.int .u64 1)) (.t 5), none⟩,
  ⟨(some 7), .bin .sub (.t 6) (.c (.int .u64 1)), none⟩,
  ⟨(some 2), .mov (.t 7), none⟩] none)
 (.ret)))
theorem fn43 : env0.fn 43 = some ⟨8, ic43, [.t 2]⟩ := by kernel_rfl
-- pneumatic/pneumaticref09.All
def ic54 : IC := .seq (.region [⟨(some 2), .mov (.c (.int .u64 0)), none⟩] none)
 (.seq (.seq (.region [⟨(some 3), .mov (.t 0), none⟩,
  ⟨(some 4), .bin .geq (.t 3) (.c (.int .i64 64)), none⟩] none)
 (.cond (.t 4) (.seq (.region [⟨(some 2), .mov (.c (.int .u64 18446744073709551615)), none⟩] none)
 (.ret))
 (.skip)))
 (.seq (.region [⟨(some 5), .mov (.t 0), none⟩,
  ⟨(some 6), .bin .shl (.c (.int .u64 1)) (.t 5), none⟩,
  ⟨(some 7), .bin .sub (.t 6) (.c (.int .u64 1)), none⟩,
  ⟨(some 2), .mov (.t 7), none⟩] none)
 (.ret)))
theorem fn54 : env0.fn 54 = some ⟨8, ic54, [.t 2]⟩ := by kernel_rfl
def b37_1 : IC := .seq (.region [⟨(some 23), .bin .lss (.t 22) (.t 21), none⟩] none)
 (.seq (.cond (.t 23) (.skip)
 (.exit 1))
 (.seq (.block 2 (.seq (.region [⟨(some 24), .idxs 1 (.t 20) (.t 22), none⟩,
  ⟨(some 25), .load none (.t 24), none⟩,
  ⟨(some 4), .mov (.t 25), none⟩] none)
 (.seq (.region [⟨(some 26), .mov (.t 4), none⟩,
  ⟨(some 27), .faddr 0 (.t 1), none⟩,
  ⟨(some 28), .load none (.t 27), none⟩,
  ⟨(some 29), .call (.c (.fn 43 [] [])) [(.t 28)], none⟩,
  ⟨(some 30), .bin .andNot (.t 26) (.t 29), none⟩,
  ⟨(some 31), .bin .neq (.t 30) (.c (.int .u64 0)), none⟩] none)
 (.cond (.t 31) (.seq (.region [⟨(some 2), .mov (.c (.int .i64 2)), none⟩] none)
 (.ret))
 (.skip)))))
 (.region [⟨(some 32), .bin .add (.t 22) (.c (.int .i64 1)), none⟩,
  ⟨(some 22), .mov (.t 32), none⟩] none)))
-- pneumatic/setcover.Check
def ic37 : IC := .seq (.region [⟨(some 1), .box (.t 0), none⟩,
  ⟨(some 2), .mov (.c (.int .i64 0)), none⟩] none)
 (.seq (.block 0 (.seq (.region [⟨(some 6), .faddr 0 (.t 1), none⟩,
  ⟨(some 7), .load none (.t 6), none⟩,
  ⟨(some 8), .bin .lss (.t 7) (.c (.int .i64 0)), none⟩,
  ⟨(some 9), .mov (.t 8), none⟩,
  ⟨(some 10), .faddr 0 (.t 1), some (9, false)⟩,
  ⟨(some 11), .load none (.t 10), some (9, false)⟩,
  ⟨(some 12), .bin .gtr (.t 11) (.c (.int .i64 64)), some (9, false)⟩,
  ⟨(some 13), .pick (.t 9) (.c (.bool true)) (.t 12), none⟩,
  ⟨(some 5), .mov (.t 13), none⟩] none)
 (.cond (.t 5) (.seq (.region [⟨(some 2), .mov (.c (.int .i64 2)), none⟩] none)
 (.ret))
 (.seq (.region [⟨(some 15), .faddr 1 (.t 1), none⟩,
  ⟨(some 16), .load none (.t 15), none⟩,
  ⟨(some 17), .len false (.t 16), none⟩,
  ⟨(some 18), .bin .gtr (.t 17) (.c (.int .i64 64)), none⟩,
  ⟨(some 14), .mov (.t 18), none⟩] none)
 (.cond (.t 14) (.seq (.region [⟨(some 2), .mov (.c (.int .i64 5)), none⟩] none)
 (.ret))
 (.skip))))))
 (.seq (.seq (.region [⟨(some 19), .faddr 1 (.t 1), none⟩,
  ⟨(some 20), .load none (.t 19), none⟩,
  ⟨(some 21), .len false (.t 20), none⟩,
  ⟨(some 22), .mov (.c (.int .i64 0)), none⟩] none)
 (.block 1 (.loop b37_1)))
 (.seq (.region [⟨(some 2), .mov (.c (.int .i64 0)), none⟩] none)
 (.ret))))
theorem fn37 : env0.fn 37 = some ⟨33, ic37, [.t 2]⟩ := by kernel_rfl
def b38_0 : IC := .seq (.seq (.region [⟨(some 16), .mov (.t 3), none⟩,
  ⟨(some 17), .faddr 1 (.t 1), none⟩,
  ⟨(some 18), .load none (.t 17), none⟩,
  ⟨(some 19), .len false (.t 18), none⟩,
  ⟨(some 20), .bin .lss (.t 16) (.t 19), none⟩] none)
 (.cond (.t 20) (.skip)
 (.exit 0)))
 (.seq (.block 1 (.seq (.region [⟨(some 23), .faddr 1 (.t 1), none⟩,
  ⟨(some 24), .load none (.t 23), none⟩,
  ⟨(some 25), .mov (.t 3), none⟩,
  ⟨(some 26), .idxs 1 (.t 24) (.t 25), none⟩,
  ⟨(some 27), .load none (.t 26), none⟩,
  ⟨(some 28), .faddr 0 (.t 1), none⟩,
  ⟨(some 29), .load none (.t 28), none⟩,
  ⟨(some 30), .call (.c (.fn 54 [] [])) [(.t 29)], none⟩,
  ⟨(some 31), .bin .andNot (.t 27) (.t 30), none⟩,
  ⟨(some 32), .bin .neq (.t 31) (.c (.int .u64 0)), none⟩] (some [[], [0], [], [1, 2], [3], [], [5], [6], [4, 7], [8]]))
 (.cond (.t 32) (.seq (.region [⟨(some 2), .mov (.c (.int .i64 2)), none⟩] none)
 (.ret))
 (.skip))))
 (.region [⟨(some 21), .mov (.t 3), none⟩,
  ⟨(some 22), .bin .add (.t 21) (.c (.int .i64 1)), none⟩,
  ⟨(some 3), .mov (.t 22), none⟩] none))
-- pneumatic/pneumaticref09.Check
def ic38 : IC := .seq (.region [⟨(some 1), .box (.t 0), none⟩,
  ⟨(some 2), .mov (.c (.int .i64 0)), none⟩] none)
 (.seq (.seq (.region [⟨(some 4), .faddr 0 (.t 1), none⟩,
  ⟨(some 5), .load none (.t 4), none⟩,
  ⟨(some 6), .bin .lss (.t 5) (.c (.int .i64 0)), none⟩,
  ⟨(some 7), .mov (.t 6), none⟩,
  ⟨(some 8), .faddr 0 (.t 1), some (7, false)⟩,
  ⟨(some 9), .load none (.t 8), some (7, false)⟩,
  ⟨(some 10), .bin .gtr (.t 9) (.c (.int .i64 64)), some (7, false)⟩,
  ⟨(some 11), .pick (.t 7) (.c (.bool true)) (.t 10), none⟩] none)
 (.cond (.t 11) (.seq (.region [⟨(some 2), .mov (.c (.int .i64 2)), none⟩] none)
 (.ret))
 (.skip)))
 (.seq (.seq (.region [⟨(some 12), .faddr 1 (.t 1), none⟩,
  ⟨(some 13), .load none (.t 12), none⟩,
  ⟨(some 14), .len false (.t 13), none⟩,
  ⟨(some 15), .bin .gtr (.t 14) (.c (.int .i64 64)), none⟩] none)
 (.cond (.t 15) (.seq (.region [⟨(some 2), .mov (.c (.int .i64 5)), none⟩] none)
 (.ret))
 (.skip)))
 (.seq (.seq (.region [⟨(some 3), .mov (.c (.int .i64 0)), none⟩] none)
 (.block 0 (.loop b38_0)))
 (.seq (.region [⟨(some 2), .mov (.c (.int .i64 0)), none⟩] none)
 (.ret)))))
theorem fn38 : env0.fn 38 = some ⟨33, ic38, [.t 2]⟩ := by kernel_rfl
theorem zsm {n : Int} (h0 : 0 ≤ n) (h1 : n ≤ 64) : PF Try.prog 43 [.int .i64 n] (cU (zce n)) := by
 obtain ⟨m, rfl⟩ : ∃ m : Nat, n = (m : Int) := ⟨n.toNat, by omega⟩
 refine zbd env0_ok fn43 [(0, .int .i64 (m : Nat))] (by show 1 ≤ 8; decide) rfl fun w0 N0 => ?_
 unfold ic43
 repeat (first | refine za6 ?_ | refine za0 rfl ?_ | refine za3 ?_ | refine za4 ?_ | refine za1 rfl ?_)
 refine zax rfl rfl rfl (fun h => ?_) fun h => ?_
 ·have h : (m : Int) = 64 := by simpa using h
  repeat (first | refine za6 ?_ | refine za0 rfl ?_ | refine za3 ?_ | refine za4 ?_ | refine zc1 rfl ?_ | refine zas ?_ | refine za8 ?_ | refine za1 rfl ?_)
  refine zal ⟨.inr rfl, _, rfl, ?_⟩
  show AV.int .u64 18446744073709551615 = cU (zce m)
  unfold zce
  rw [if_pos (by omega)]
  rfl
 ·have h : ¬ (m : Int) = 64 := by simpa using h
  repeat (first | refine za6 ?_ | refine za0 rfl ?_ | refine za3 ?_ | refine za4 ?_ | refine zad ?_ | refine zbt rfl ?_ | refine za1 rfl ?_)
  refine zac rfl rfl (zl1 (1#64) (kd := .i64) (n := m) (by omega)) ?_
  refine zac rfl rfl (zl2 _ (1#64)) ?_
  repeat (first | refine za3 ?_ | refine za4 ?_ | refine zas ?_ | refine za1 rfl ?_)
  refine zal ⟨.inr rfl, _, rfl, ?_⟩
  show cU _ = cU (zce m)
  unfold zce
  rw [if_neg (by omega)]
  rfl
theorem all54 {n : Int} (h0 : 0 ≤ n) : PF Try.prog 54 [.int .i64 n] (cU (zce n)) := by
 obtain ⟨m, rfl⟩ : ∃ m : Nat, n = (m : Int) := ⟨n.toNat, by omega⟩
 refine zbd env0_ok fn54 [(0, .int .i64 (m : Nat))] (by show 1 ≤ 8; decide) rfl fun w0 N0 => ?_
 unfold ic54
 repeat (first | refine za6 ?_ | refine za0 rfl ?_ | refine za3 ?_ | refine za4 ?_ | refine za1 rfl ?_)
 refine zax rfl rfl rfl (fun h => ?_) fun h => ?_
 ·have h : (m : Int) ≥ 64 := of_decide_eq_true h
  repeat (first | refine za6 ?_ | refine za0 rfl ?_ | refine za3 ?_ | refine za4 ?_ | refine zc1 rfl ?_ | refine zas ?_ | refine za8 ?_ | refine za1 rfl ?_)
  refine zal ⟨.inr rfl, _, rfl, ?_⟩
  show AV.int .u64 18446744073709551615 = cU (zce m)
  unfold zce
  rw [if_pos h]
  rfl
 ·have h : ¬ (m : Int) ≥ 64 := of_decide_eq_false h
  repeat (first | refine za6 ?_ | refine za0 rfl ?_ | refine za3 ?_ | refine za4 ?_ | refine zad ?_ | refine zbt rfl ?_ | refine za1 rfl ?_)
  refine zac rfl rfl (zl1 (1#64) (kd := .i64) (n := m) (by omega)) ?_
  refine zac rfl rfl (zl2 _ (1#64)) ?_
  repeat (first | refine za3 ?_ | refine za4 ?_ | refine zas ?_ | refine za1 rfl ?_)
  refine zal ⟨.inr rfl, _, rfl, ?_⟩
  show cU _ = cU (zce m)
  unfold zce
  rw [if_neg h]
  rfl
theorem ztc {n : Int} {s : List (BitVec 64)} (h : n < 0) : ze8 n s = 2 := by unfold ze8; rw [if_pos h]
theorem ztb {n : Int} {s : List (BitVec 64)} (h : n > 64) : ze8 n s = 2 := by unfold ze8; rw [if_neg (by omega), if_pos h]
theorem zps {n : Int} {s : List (BitVec 64)} (h0 : ¬ n < 0) (h1 : ¬ n > 64) (h : s.length > 64) : ze8 n s = 5 := by unfold ze8; rw [if_neg h0, if_neg h1, if_pos h]
theorem ztd {n : Int} {s : List (BitVec 64)} (h0 : ¬ n < 0) (h1 : ¬ n > 64) (h : ¬ s.length > 64) : ze8 n s = zqv n s := by unfold ze8; rw [if_neg h0, if_neg h1, if_neg h]
theorem znp {n : Int} {s : List (BitVec 64)} {i : Nat} (h : i < s.length) : zqv n (s.drop i) = if zt0 n s[i] = true then 2 else zqv n (s.drop (i + 1)) := by
 rw [List.drop_eq_getElem_cons h, zvt]
set_option maxHeartbeats 1000000 in
theorem zo5 (n : Int) (s : List (BitVec 64)) : PF Try.prog 37 [cF n s] (.int .i64 (ze8 n s)) := by
 have hcl := zbh s
 refine zbd env0_ok fn37 [(0, .agg [.int .i64 n, .vs (cUs s)])] (by show 1 ≤ 33; decide) rfl fun w0 N0 => ?_
 unfold ic37
 refine za6 (za0 rfl (zd7 rfl rfl (za1 rfl (za3 (za4 ?_)))))
 refine zd0 [] [(0, 0, [.int .i64 n, .vs (cUs s)])] [(1, .vptr [.int .i64 n, .vs (cUs s)])] rfl (.cons rfl rfl .nil) .nil (.cons rfl (.fptr rfl rfl) .nil) ?_
 repeat (first | refine za6 ?_ | refine za0 rfl ?_ | refine zai ?_ | refine zah rfl rfl ?_ | refine za9 rfl rfl rfl ?_)
 refine zax rfl rfl rfl (fun h => ?_) fun h => ?_
 ·rw [ztc (of_decide_eq_true h)]
  repeat (first | refine za6 ?_ | refine za0 rfl ?_ | refine za3 ?_ | refine za4 ?_ | refine zc1 rfl ?_ | refine zas ?_ | refine za8 ?_ | refine zab ?_ | refine zh8 rfl rfl ?_ | refine za1 rfl ?_ | refine zan rfl rfl ?_)
  exact zal ⟨.inr rfl, _, rfl, rfl⟩
 have h0 : ¬ n < 0 := of_decide_eq_false h
 repeat (first | refine zcp rfl ?_ | refine za1 rfl ?_ | refine zah rfl rfl ?_ | refine za9 rfl rfl rfl ?_)
 refine zax rfl rfl rfl (fun h => ?_) fun h => ?_
 ·rw [ztb (of_decide_eq_true h)]
  repeat (first | refine za6 ?_ | refine za0 rfl ?_ | refine za3 ?_ | refine za4 ?_ | refine zc1 rfl ?_ | refine zas ?_ | refine za8 ?_ | refine zab ?_ | refine za1 rfl ?_ | refine zam rfl rfl ?_)
  exact zal ⟨.inr rfl, _, rfl, rfl⟩
 have h1 : ¬ n > 64 := of_decide_eq_false h
 repeat (first | refine za6 ?_ | refine za0 rfl ?_ | refine za3 ?_ | refine za4 ?_ | refine zbt rfl ?_ | refine za1 rfl ?_ | refine zah rfl rfl ?_ | refine za9 rfl rfl rfl ?_ | refine zam rfl rfl ?_ | refine zbf rfl rfl ?_)
 refine zax rfl rfl rfl (fun h => ?_) fun h => ?_
 ·have h : (((cUs s).length : Nat) : Int) > 64 := of_decide_eq_true h
  rw [zps h0 h1 (by omega)]
  repeat (first | refine za6 ?_ | refine za0 rfl ?_ | refine za3 ?_ | refine za4 ?_ | refine zc1 rfl ?_ | refine zas ?_ | refine za8 ?_ | refine zab ?_ | refine za1 rfl ?_)
  exact zal ⟨.inr rfl, _, rfl, rfl⟩
 have h2 : ¬ (((cUs s).length : Nat) : Int) > 64 := of_decide_eq_false h
 rw [ztd h0 h1 (by omega)]
 have pA := zsm (n := n) (by omega) (by omega)
 repeat (first | refine za6 ?_ | refine za0 rfl ?_ | refine za3 ?_ | refine za4 ?_ | refine zbj ?_ | refine zai ?_ | refine zad ?_ | refine zbt rfl ?_ | refine za1 rfl ?_ | refine zah rfl rfl ?_ | refine za9 rfl rfl rfl ?_ | refine zbf rfl rfl ?_)
 refine zcr (fun mm S => ∃ i, mm = s.length - i ∧ i ≤ s.length ∧ zqv n s = zqv n (s.drop i) ∧ S = st 33 [(1, .vptr [.int .i64 n, .vs (cUs s)]), (20, .vs (cUs s)), (21, .int .i64 (cUs s).length), (22, .int .i64 (i : Nat))] [] 0 1) s.length
  (zaa (.cons rfl (.cons rfl (.cons rfl (.cons rfl .nil))))) ⟨0, rfl, Nat.zero_le _, rfl, rfl⟩ ?_
 rintro mm S ⟨i, rfl, hi, hall, rfl⟩
 rw [hall]
 clear hall
 unfold b37_1
 repeat (first | refine za6 ?_ | refine za0 rfl ?_)
 refine zax rfl rfl rfl (fun h3 => ?_) fun h3 => ?_
 ·have hlt : i < s.length := by
   have : ((i : Nat) : Int) < ((cUs s).length : Nat) := of_decide_eq_true h3
   omega
  have hg := zid hlt
  rw [znp hlt]
  repeat (first | refine za6 ?_ | refine za0 rfl ?_ | refine za3 ?_ | refine za4 ?_ | refine zai ?_ | refine zad ?_ | refine zc1 rfl ?_ | refine za1 rfl ?_ | refine zah rfl rfl ?_ | refine za9 rfl rfl rfl ?_ | refine zba rfl rfl (by omega) (by assumption) rfl ?_)
  refine zay rfl rfl pA (fun h => Bool.noConfusion (show false = true from h)) ?_
  repeat (first | refine zac rfl rfl (zh1 _ _) ?_)
  refine zax rfl rfl (zht _ (0#64)) (fun h => ?_) fun h => ?_
  ·rw [if_pos (show zt0 n s[i] = true from h)]
   repeat (first | refine za6 ?_ | refine za0 rfl ?_ | refine za3 ?_ | refine za4 ?_ | refine zc1 rfl ?_ | refine zas ?_ | refine za8 ?_ | refine zab ?_ | refine za1 rfl ?_)
   refine zbk ?_
   repeat (first | refine za8 ?_ | refine zab ?_)
   exact zal ⟨.inr rfl, _, rfl, rfl⟩
  ·rw [if_neg (show ¬ zt0 n s[i] = true from fun h6 => Bool.noConfusion (h.symm.trans h6))]
   repeat (first | refine za0 rfl ?_ | refine za3 ?_ | refine za4 ?_ | refine zbj ?_ | refine zad ?_ | refine zbt rfl ?_ | refine za1 rfl ?_ | refine zac (op := .add) rfl rfl rfl ?_)
   rw [zb0 i (by omega)]
   exact zb4 (show s.length - (i + 1) < s.length - i by omega) (zaa (.cons rfl (.cons rfl (.cons rfl (.cons rfl .nil))))) ⟨i + 1, rfl, hlt, rfl, rfl⟩
 ·have hi2 : i = s.length := by
   have : ¬ ((i : Nat) : Int) < ((cUs s).length : Nat) := of_decide_eq_false h3
   omega
  subst hi2
  rw [List.drop_length]
  repeat (first | refine za6 ?_ | refine za3 ?_ | refine za4 ?_ | refine zbt rfl ?_ | refine zbc ?_ | refine zaf ?_)
  refine ze6 ?_
  repeat (first | refine za6 ?_ | refine za0 rfl ?_ | refine za3 ?_ | refine za4 ?_ | refine zas ?_ | refine zbb ?_ | refine za1 rfl ?_)
  exact zal ⟨.inr rfl, _, rfl, rfl⟩
set_option maxHeartbeats 1000000 in
theorem check38 (n : Int) (s : List (BitVec 64)) : PF Try.prog 38 [cF n s] (.int .i64 (ze8 n s)) := by
 have hcl := zbh s
 refine zbd env0_ok fn38 [(0, .agg [.int .i64 n, .vs (cUs s)])] (by show 1 ≤ 33; decide) rfl fun w0 N0 => ?_
 unfold ic38
 refine za6 (za0 rfl (zd7 rfl rfl (za1 rfl (za3 (za4 ?_)))))
 refine zd0 [] [(0, 0, [.int .i64 n, .vs (cUs s)])] [(1, .vptr [.int .i64 n, .vs (cUs s)])] rfl (.cons rfl rfl .nil) .nil (.cons rfl (.fptr rfl rfl) .nil) ?_
 repeat (first | refine za6 ?_ | refine za0 rfl ?_ | refine zah rfl rfl ?_ | refine za9 rfl rfl rfl ?_)
 refine zax rfl rfl rfl (fun h => ?_) fun h => ?_
 ·rw [ztc (of_decide_eq_true h)]
  repeat (first | refine za6 ?_ | refine za0 rfl ?_ | refine za3 ?_ | refine za4 ?_ | refine zc1 rfl ?_ | refine zas ?_ | refine za8 ?_ | refine zh8 rfl rfl ?_ | refine za1 rfl ?_ | refine zan rfl rfl ?_)
  exact zal ⟨.inr rfl, _, rfl, rfl⟩
 have h0 : ¬ n < 0 := of_decide_eq_false h
 repeat (first | refine zcp rfl ?_ | refine za1 rfl ?_ | refine zah rfl rfl ?_ | refine za9 rfl rfl rfl ?_)
 refine zax rfl rfl rfl (fun h => ?_) fun h => ?_
 ·rw [ztb (of_decide_eq_true h)]
  repeat (first | refine za6 ?_ | refine za0 rfl ?_ | refine za3 ?_ | refine za4 ?_ | refine zc1 rfl ?_ | refine zas ?_ | refine za8 ?_ | refine za1 rfl ?_ | refine zam rfl rfl ?_)
  exact zal ⟨.inr rfl, _, rfl, rfl⟩
 have h1 : ¬ n > 64 := of_decide_eq_false h
 repeat (first | refine za6 ?_ | refine za0 rfl ?_ | refine za3 ?_ | refine za4 ?_ | refine zad ?_ | refine zbt rfl ?_ | refine zah rfl rfl ?_ | refine za9 rfl rfl rfl ?_ | refine zam rfl rfl ?_ | refine zbf rfl rfl ?_)
 refine zax rfl rfl rfl (fun h => ?_) fun h => ?_
 ·have h : (((cUs s).length : Nat) : Int) > 64 := of_decide_eq_true h
  rw [zps h0 h1 (by omega)]
  repeat (first | refine za6 ?_ | refine za0 rfl ?_ | refine za3 ?_ | refine za4 ?_ | refine zc1 rfl ?_ | refine zas ?_ | refine za8 ?_ | refine za1 rfl ?_)
  exact zal ⟨.inr rfl, _, rfl, rfl⟩
 have h2 : ¬ (((cUs s).length : Nat) : Int) > 64 := of_decide_eq_false h
 rw [ztd h0 h1 (by omega)]
 have pA := all54 (n := n) (by omega)
 repeat (first | refine za6 ?_ | refine za0 rfl ?_ | refine za3 ?_ | refine za4 ?_ | refine zai ?_ | refine zad ?_ | refine zbt rfl ?_ | refine za1 rfl ?_)
 refine zcr (fun mm S => ∃ i, mm = s.length - i ∧ i ≤ s.length ∧ zqv n s = zqv n (s.drop i) ∧ S = st 33 [(1, .vptr [.int .i64 n, .vs (cUs s)]), (3, .int .i64 (i : Nat))] [] 0 1) s.length
  (zaa (.cons rfl (.cons rfl .nil))) ⟨0, rfl, Nat.zero_le _, rfl, rfl⟩ ?_
 rintro mm S ⟨i, rfl, hi, hall, rfl⟩
 rw [hall]
 clear hall
 unfold b38_0
 repeat (first | refine za6 ?_ | refine za0 rfl ?_ | refine za1 rfl ?_ | refine zah rfl rfl ?_ | refine za9 rfl rfl rfl ?_ | refine zbf rfl rfl ?_)
 refine zax rfl rfl rfl (fun h3 => ?_) fun h3 => ?_
 ·have hlt : i < s.length := by
   have : ((i : Nat) : Int) < ((cUs s).length : Nat) := of_decide_eq_true h3
   omega
  have hg := zid hlt
  rw [znp hlt]
  repeat (first | refine za6 ?_ | refine za3 ?_ | refine za4 ?_ | refine zai ?_ | refine zad ?_ | refine zc1 rfl ?_)
  refine zjt env0_ok [(54, [.int .i64 n], cU (zce n))] (fun x hx => by obtain rfl := List.mem_singleton.1 hx; exact pA) (fun f => Nat.beq f 54) rfl rfl rfl ?_
  repeat (first | refine za1 rfl ?_ | refine zah rfl rfl ?_ | refine za9 rfl rfl rfl ?_ | refine zba rfl rfl (by omega) (by assumption) rfl ?_)
  refine zay rfl rfl zfm (fun h => Bool.noConfusion (show false = true from h)) ?_
  repeat (first | refine zac rfl rfl (zh1 _ _) ?_)
  refine zax rfl rfl (zht _ (0#64)) (fun h => ?_) fun h => ?_
  ·rw [if_pos (show zt0 n s[i] = true from h)]
   repeat (first | refine za6 ?_ | refine za0 rfl ?_ | refine za3 ?_ | refine za4 ?_ | refine zc1 rfl ?_ | refine zas ?_ | refine za8 ?_ | refine zab ?_ | refine za1 rfl ?_)
   refine zbk ?_
   repeat (first | refine za8 ?_ | refine zab ?_)
   exact zal ⟨.inr rfl, _, rfl, rfl⟩
  ·rw [if_neg (show ¬ zt0 n s[i] = true from fun h6 => Bool.noConfusion (h.symm.trans h6))]
   repeat (first | refine za0 rfl ?_ | refine za3 ?_ | refine za4 ?_ | refine zbj ?_ | refine zad ?_ | refine zbt rfl ?_ | refine za1 rfl ?_ | refine zac (op := .add) rfl rfl rfl ?_)
   rw [zb0 i (by omega)]
   exact zb4 (show s.length - (i + 1) < s.length - i by omega) (zaa (.cons rfl (.cons rfl .nil))) ⟨i + 1, rfl, hlt, rfl, rfl⟩
 ·have hi2 : i = s.length := by
   have : ¬ ((i : Nat) : Int) < ((cUs s).length : Nat) := of_decide_eq_false h3
   omega
  subst hi2
  rw [List.drop_length]
  repeat (first | refine za3 ?_ | refine za4 ?_ | refine zbt rfl ?_ | refine zbc ?_ | refine zaf ?_)
  refine ze6 ?_
  repeat (first | refine za6 ?_ | refine za0 rfl ?_ | refine za3 ?_ | refine za4 ?_ | refine zas ?_ | refine zbb ?_ | refine za1 rfl ?_)
  exact zal ⟨.inr rfl, _, rfl, rfl⟩
end Go.Proofs.Ytknomkcdpcnmaaa
