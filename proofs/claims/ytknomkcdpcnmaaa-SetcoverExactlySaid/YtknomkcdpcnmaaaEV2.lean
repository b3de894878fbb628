/-
  FAMILIES: given, union, Covers; and the same of the reference.
-/
import Derived.Test.YtknomkcdpcnmaaaEV1
namespace Go.Proofs.Ytknomkcdpcnmaaa
open Go Go.Am
def b48_0 : IC := .seq (.region [⟨(some 18), .bin .lss (.t 17) (.t 16), none⟩] none)
 (.seq (.cond (.t 18) (.skip)
 (.exit 0))
 (.seq (.block 1 (.seq (.region [⟨(some 19), .mov (.t 17), none⟩,
  ⟨(some 20), .idxs 1 (.t 15) (.t 17), none⟩,
  ⟨(some 21), .load none (.t 20), none⟩,
  ⟨(some 8), .mov (.t 19), none⟩,
  ⟨(some 9), .mov (.t 21), none⟩] none)
 (.block 2 (.seq (.region [⟨(some 23), .mov (.t 9), none⟩,
  ⟨(some 24), .bin .lss (.t 23) (.c (.int .i64 0)), none⟩,
  ⟨(some 25), .mov (.t 24), none⟩,
  ⟨(some 26), .mov (.t 9), some (25, false)⟩,
  ⟨(some 27), .mov (.t 2), some (25, false)⟩,
  ⟨(some 28), .bin .geq (.t 26) (.t 27), some (25, false)⟩,
  ⟨(some 29), .pick (.t 25) (.c (.bool true)) (.t 28), none⟩,
  ⟨(some 22), .mov (.t 29), none⟩] none)
 (.cond (.t 22) (.seq (.region [⟨(some 6), .mov (.c (.int .i64 2)), none⟩] none)
 (.ret))
 (.seq (.region [⟨(some 31), .mov (.t 8), none⟩,
  ⟨(some 32), .bin .gtr (.t 31) (.c (.int .i64 0)), none⟩,
  ⟨(some 33), .mov (.t 32), none⟩,
  ⟨(some 34), .mov (.t 9), some (33, true)⟩,
  ⟨(some 35), .mov (.t 1), some (33, true)⟩,
  ⟨(some 36), .mov (.t 8), some (33, true)⟩,
  ⟨(some 37), .bin .sub (.t 36) (.c (.int .i64 1)), some (33, true)⟩,
  ⟨(some 38), .idxs 1 (.t 35) (.t 37), some (33, true)⟩,
  ⟨(some 39), .load none (.t 38), some (33, true)⟩,
  ⟨(some 40), .bin .leq (.t 34) (.t 39), some (33, true)⟩,
  ⟨(some 41), .pick (.t 33) (.t 40) (.c (.bool false)), none⟩,
  ⟨(some 30), .mov (.t 41), none⟩] none)
 (.cond (.t 30) (.seq (.region [⟨(some 6), .mov (.c (.int .i64 9)), none⟩] none)
 (.ret))
 (.skip))))))))
 (.region [⟨(some 42), .bin .add (.t 17) (.c (.int .i64 1)), none⟩,
  ⟨(some 17), .mov (.t 42), none⟩] none)))
-- pneumatic/setcover.given
def ic48 : IC := .seq (.region [⟨(some 3), .box (.t 0), none⟩,
  ⟨(some 6), .mov (.c (.int .i64 0)), none⟩] none)
 (.seq (.seq (.region [⟨(some 10), .load (some 2) (.t 3), none⟩,
  ⟨(some 11), .call (.c (.fn 37 [] [])) [(.t 10)], none⟩,
  ⟨(some 7), .mov (.t 11), none⟩] none)
 (.seq (.region [⟨(some 12), .mov (.t 7), none⟩,
  ⟨(some 13), .bin .neq (.t 12) (.c (.int .i64 0)), none⟩] none)
 (.cond (.t 13) (.seq (.region [⟨(some 14), .mov (.t 7), none⟩,
  ⟨(some 6), .mov (.t 14), none⟩] none)
 (.ret))
 (.skip))))
 (.seq (.seq (.region [⟨(some 15), .mov (.t 1), none⟩,
  ⟨(some 16), .len false (.t 15), none⟩,
  ⟨(some 17), .mov (.c (.int .i64 0)), none⟩] none)
 (.block 0 (.loop b48_0)))
 (.seq (.region [⟨(some 6), .mov (.c (.int .i64 0)), none⟩] none)
 (.ret))))
theorem fn48 : env0.fn 48 = some ⟨43, ic48, [.t 6]⟩ := by kernel_rfl
def b57_0 : IC := .seq (.region [⟨(some 11), .bin .lss (.t 10) (.t 9), none⟩] none)
 (.seq (.cond (.t 11) (.skip)
 (.exit 0))
 (.seq (.block 1 (.seq (.region [⟨(some 12), .idxs 1 (.t 8) (.t 10), none⟩,
  ⟨(some 13), .load none (.t 12), none⟩,
  ⟨(some 7), .mov (.t 13), none⟩] none)
 (.region [⟨(some 14), .mov (.t 5), none⟩,
  ⟨(some 15), .faddr 1 (.t 2), none⟩,
  ⟨(some 16), .load none (.t 15), none⟩,
  ⟨(some 17), .mov (.t 7), none⟩,
  ⟨(some 18), .idxs 1 (.t 16) (.t 17), none⟩,
  ⟨(some 19), .load none (.t 18), none⟩,
  ⟨(some 20), .bin .or (.t 14) (.t 19), none⟩,
  ⟨(some 5), .mov (.t 20), none⟩] none)))
 (.region [⟨(some 21), .bin .add (.t 10) (.c (.int .i64 1)), none⟩,
  ⟨(some 10), .mov (.t 21), none⟩] none)))
-- pneumatic/setcover.union
def ic57 : IC := .seq (.region [⟨(some 2), .box (.t 0), none⟩,
  ⟨(some 4), .mov (.c (.int .u64 0)), none⟩] none)
 (.seq (.region [⟨(some 5), .mov (.c (.int .u64 0)), none⟩] none)
 (.seq (.seq (.region [⟨(some 8), .mov (.t 1), none⟩,
  ⟨(some 9), .len false (.t 8), none⟩,
  ⟨(some 10), .mov (.c (.int .i64 0)), none⟩] none)
 (.block 0 (.loop b57_0)))
 (.seq (.region [⟨(some 22), .mov (.t 5), none⟩,
  ⟨(some 4), .mov (.t 22), none⟩] none)
 (.ret))))
theorem fn57 : env0.fn 57 = some ⟨23, ic57, [.t 4]⟩ := by kernel_rfl
theorem given48 (n : Int) (s : List (BitVec 64)) (l : List Int) (hl : l.length ≤ 1000000) (m : Int) : PF Try.prog 48 [cF n s, vsI l, .int .i64 m] (.int .i64 (givE n s l m)) := by
 have pC := zo5 n s
 have hvl : (l.map fun z => ([.int .i64 z] : List AV)).length = l.length := List.length_map ..
 refine zbd env0_ok fn48 [(0, cF n s), (1, vsI l), (2, .int .i64 m)] (by show 3 ≤ 43; decide) rfl fun w0 N0 => ?_
 unfold ic48 givE
 refine za6 (za0 rfl (zd7 (cs := [.int .i64 n, .vs (cUs s)]) rfl rfl (za1 rfl (za3 (za4 ?_)))))
 refine zd0 [] [(0, 0, [.int .i64 n, .vs (cUs s)])] [(1, vsI l), (2, .int .i64 m), (3, .vptr [.int .i64 n, .vs (cUs s)])] rfl (.cons rfl rfl .nil) .nil (.cons rfl (.same rfl) (.cons rfl (.same rfl) (.cons rfl (.fptr rfl rfl) .nil))) ?_
 repeat (first | refine za6 ?_ | refine za0 rfl ?_ | refine zb2 rfl rfl rfl rfl ?_)
 refine zay rfl rfl pC (fun h => Bool.noConfusion (show false = true from h)) ?_
 by_cases hc : ze8 n s = 0
 ·rw [if_pos hc, hc]
  repeat (first | refine za6 ?_ | refine za0 rfl ?_ | refine za3 ?_ | refine za4 ?_ | refine zai ?_ | refine zad ?_ | refine zbt rfl ?_ | refine za1 rfl ?_ | refine zbf rfl rfl ?_ | refine zb5 rfl rfl rfl ?_)
  unfold vsI
  refine zcr (fun mm S => ∃ i, mm = l.length - i ∧ i ≤ l.length ∧ ordE m (-1) l = ordE m (prv l i) (l.drop i) ∧ S = st 43 [(1, vsI l), (2, .int .i64 m), (15, vsI l), (16, .int .i64 l.length), (17, .int .i64 (i : Nat))] [] 0 1) l.length
   (zaa (.cons rfl (.cons rfl (.cons rfl (.cons (by rw [← hvl]; rfl) (.cons rfl .nil)))))) ⟨0, rfl, Nat.zero_le _, rfl, rfl⟩ ?_
  rintro mm S ⟨i, rfl, hi, hall, rfl⟩
  rw [hall]
  clear hall
  unfold b48_0 vsI
  repeat (first | refine za6 ?_ | refine za0 rfl ?_)
  refine zax rfl rfl rfl (fun h3 => ?_) fun h3 => ?_
  ·have hlt : i < l.length := Int.ofNat_lt.1 (of_decide_eq_true h3)
   have hg := zev hlt
   rw [zv9 hlt]
   repeat (first | refine za6 ?_ | refine za0 rfl ?_ | refine za3 ?_ | refine za4 ?_ | refine zai ?_ | refine zad ?_ | refine zc1 rfl ?_ | refine za1 rfl ?_ | refine zah rfl rfl ?_ | refine zba rfl rfl (by omega) (by assumption) rfl ?_)
   refine zax rfl rfl rfl (fun h => ?_) fun h => ?_
   ·rw [if_pos (of_decide_eq_true h)]
    repeat (first | refine za6 ?_ | refine za0 rfl ?_ | refine za3 ?_ | refine za4 ?_ | refine zc1 rfl ?_ | refine zas ?_ | refine za8 ?_ | refine zab ?_ | refine zh8 rfl rfl ?_ | refine za1 rfl ?_ | refine zan rfl rfl ?_)
    refine zbk ?_
    repeat (first | refine za8 ?_ | refine zab ?_)
    exact zal ⟨.inr rfl, _, rfl, rfl⟩
   have hneg : ¬ l[i] < 0 := of_decide_eq_false h
   rw [if_neg hneg]
   repeat (first | refine zcp rfl ?_ | refine za1 rfl ?_)
   refine zax rfl rfl rfl (fun h => ?_) fun h => ?_
   ·rw [if_pos (of_decide_eq_true h)]
    repeat (first | refine za6 ?_ | refine za0 rfl ?_ | refine za3 ?_ | refine za4 ?_ | refine zc1 rfl ?_ | refine zas ?_ | refine za8 ?_ | refine zab ?_ | refine za1 rfl ?_ | refine zam rfl rfl ?_)
    refine zbk ?_
    repeat (first | refine za8 ?_ | refine zab ?_)
    exact zal ⟨.inr rfl, _, rfl, rfl⟩
   rw [if_neg (of_decide_eq_false h)]
   repeat (first | refine za6 ?_ | refine za0 rfl ?_ | refine za3 ?_ | refine za4 ?_ | refine zbt rfl ?_ | refine za1 rfl ?_ | refine zam rfl rfl ?_)
   by_cases h0 : i = 0
   ·subst h0
    have hpos : ¬ l[0] ≤ prv l 0 := by
     show ¬ l[0] ≤ -1
     omega
    rw [if_neg hpos]
    repeat (first | refine za0 rfl ?_ | refine za3 ?_ | refine za4 ?_ | refine zbj ?_ | refine zad ?_ | refine zbt rfl ?_ | refine zh8 rfl rfl ?_ | refine za1 rfl ?_ | refine zam rfl rfl ?_ | refine zac (op := .add) rfl rfl rfl ?_ | refine zb5 rfl rfl rfl ?_)
    exact zb4 (show l.length - (0 + 1) < l.length - 0 by omega) (zaa (.cons rfl (.cons rfl (.cons rfl (.cons rfl (.cons rfl .nil)))))) ⟨0 + 1, rfl, hlt, rfl, rfl⟩
   ·refine zbr rfl rfl (by show some (AV.bool (decide (((i : Nat) : Int) > 0))) = _; rw [decide_eq_true (by omega)]) ?_
    have hg2 := zev (D := l) (k := i - 1) (by omega)
    have hw : IntKind.wrap .i64 (((i : Nat) : Int) - 1) = ((i - 1 : Nat) : Int) := by rw [zdp _ (by omega) (by omega)]; omega
    have hp : prv l i = l[i - 1] := by
     unfold prv
     rw [if_neg h0, List.getD_eq_getElem?_getD, List.getElem?_eq_getElem (by omega)]
     rfl
    rw [hp]
    repeat (first | refine zcp rfl ?_ | refine za1 rfl ?_ | refine zac (op := .sub) rfl rfl rfl ?_)
    rw [hw]
    repeat (first | refine zcp rfl ?_ | refine zah rfl rfl ?_ | refine zba rfl rfl (by omega) (by assumption) rfl ?_)
    refine zax rfl rfl rfl (fun h => ?_) fun h => ?_
    ·rw [if_pos (of_decide_eq_true h)]
     repeat (first | refine za6 ?_ | refine za0 rfl ?_ | refine za3 ?_ | refine za4 ?_ | refine zc1 rfl ?_ | refine zas ?_ | refine za8 ?_ | refine zab ?_ | refine za1 rfl ?_ | refine zan rfl rfl ?_)
     refine zbk ?_
     repeat (first | refine za8 ?_ | refine zab ?_)
     exact zal ⟨.inr rfl, _, rfl, rfl⟩
    rw [if_neg (of_decide_eq_false h)]
    repeat (first | refine za0 rfl ?_ | refine za3 ?_ | refine za4 ?_ | refine zbj ?_ | refine zad ?_ | refine zbt rfl ?_ | refine za1 rfl ?_ | refine zan rfl rfl ?_ | refine zac (op := .add) rfl rfl rfl ?_)
    rw [zb0 i (by omega)]
    exact zb4 (show l.length - (i + 1) < l.length - i by omega) (zaa (.cons rfl (.cons rfl (.cons rfl (.cons rfl (.cons rfl .nil)))))) ⟨i + 1, rfl, hlt, rfl, rfl⟩
  ·have hi2 : i = l.length := by
    have : ¬ i < l.length := fun h => of_decide_eq_false h3 (Int.ofNat_lt.2 h)
    omega
   subst hi2
   rw [List.drop_length]
   repeat (first | refine za6 ?_ | refine za3 ?_ | refine za4 ?_ | refine zbt rfl ?_ | refine zbc ?_ | refine zaf ?_)
   refine ze6 ?_
   repeat (first | refine za6 ?_ | refine za0 rfl ?_ | refine za3 ?_ | refine za4 ?_ | refine zas ?_ | refine zbb ?_ | refine za1 rfl ?_)
   exact zal ⟨.inr rfl, _, rfl, rfl⟩
 ·rw [if_neg hc]
  repeat (first | refine za6 ?_ | refine za0 rfl ?_ | refine za3 ?_ | refine za4 ?_ | refine za1 rfl ?_)
  refine zax rfl rfl rfl (fun h => ?_) fun h => absurd (by simpa using h) hc
  repeat (first | refine za6 ?_ | refine za0 rfl ?_ | refine za3 ?_ | refine za4 ?_ | refine zc1 rfl ?_ | refine zas ?_ | refine za8 ?_ | refine za1 rfl ?_)
  exact zal ⟨.inr rfl, _, rfl, rfl⟩
theorem union57 (n : Int) (s : List (BitVec 64)) (c : List Int) (hl : c.length ≤ 1000000) (hc : ∀ z ∈ c, 0 ≤ z ∧ z < s.length) : PF Try.prog 57 [cF n s, vsI c] (cU (uni s c)) := by
 have hvl : (c.map fun z => ([.int .i64 z] : List AV)).length = c.length := List.length_map ..
 refine zbd env0_ok fn57 [(0, cF n s), (1, vsI c)] (by show 2 ≤ 23; decide) rfl fun w0 N0 => ?_
 unfold ic57
 refine za6 (za0 rfl (zd7 (cs := [.int .i64 n, .vs (cUs s)]) rfl rfl (za1 rfl (za3 (za4 ?_)))))
 refine zd0 [] [(0, 0, [.int .i64 n, .vs (cUs s)])] [(1, vsI c), (2, .vptr [.int .i64 n, .vs (cUs s)])] rfl (.cons rfl rfl .nil) .nil (.cons rfl (.same rfl) (.cons rfl (.fptr rfl rfl) .nil)) ?_
 repeat (first | refine za6 ?_ | refine za0 rfl ?_ | refine za3 ?_ | refine za4 ?_ | refine zai ?_ | refine za1 rfl ?_ | refine zbf rfl rfl ?_)
 unfold vsI
 refine zcr (fun mm S => ∃ i, mm = c.length - i ∧ i ≤ c.length ∧ S = st 23 [(2, .vptr [.int .i64 n, .vs (cUs s)]), (5, cU (uni s (c.take i))), (8, vsI c), (9, .int .i64 c.length), (10, .int .i64 (i : Nat))] [] 0 1) c.length
  (zaa (.cons rfl (.cons rfl (.cons rfl (.cons (by rw [← hvl]; rfl) (.cons rfl .nil)))))) ⟨0, rfl, Nat.zero_le _, rfl⟩ ?_
 rintro mm S ⟨i, rfl, hi, rfl⟩
 unfold b57_0 vsI
 repeat (first | refine za6 ?_ | refine za0 rfl ?_)
 refine zax rfl rfl rfl (fun h3 => ?_) fun h3 => ?_
 ·have hlt : i < c.length := Int.ofNat_lt.1 (of_decide_eq_true h3)
  have hg := zev hlt
  obtain ⟨z0, z1⟩ := hc _ (List.getElem_mem hlt)
  have hg2 := zl3 z0 (s := s) (by omega)
  repeat (first | refine zac rfl rfl (zhg _ _) ?_ | refine za6 ?_ | refine za0 rfl ?_ | refine za3 ?_ | refine za4 ?_ | refine zbj ?_ | refine zai ?_ | refine zad ?_ | refine zc1 rfl ?_ | refine za1 rfl ?_ | refine zah rfl rfl ?_ | refine za9 rfl rfl rfl ?_ | refine zac (op := .add) rfl rfl rfl ?_ | refine zba rfl rfl (by omega) (by assumption) rfl ?_)
  rw [zb0 i (by omega)]
  exact zb4 (show c.length - (i + 1) < c.length - i by omega) (zaa (.cons rfl (.cons rfl (.cons rfl (.cons rfl (.cons rfl .nil)))))) ⟨i + 1, rfl, hlt, by rw [uni_take hlt]⟩
 ·have hi2 : i = c.length := by
   have : ¬ i < c.length := fun h => of_decide_eq_false h3 (Int.ofNat_lt.2 h)
   omega
  subst hi2
  rw [List.take_length]
  repeat (first | refine za6 ?_ | refine za3 ?_ | refine za4 ?_ | refine zbt rfl ?_ | refine zbc ?_ | refine zaf ?_)
  refine ze6 ?_
  repeat (first | refine za6 ?_ | refine za0 rfl ?_ | refine za3 ?_ | refine za4 ?_ | refine zas ?_ | refine zbb ?_ | refine za1 rfl ?_)
  exact zal ⟨.inr rfl, _, rfl, rfl⟩
theorem zf2 {n : Int} {s : List (BitVec 64)} (h : ze8 n s = 0) : 0 ≤ n ∧ n ≤ 64 ∧ s.length ≤ 64 ∧ ∀ x ∈ s, zt0 n x = false := by
 unfold ze8 zqv at h
 split at h
 ·exact absurd h (by decide)
 split at h
 ·exact absurd h (by decide)
 split at h
 ·exact absurd h (by decide)
 split at h
 ·exact absurd h (by decide)
 rename_i h4
 refine ⟨by omega, by omega, by omega, fun x hx => ?_⟩
 cases hb : zt0 n x with
 | false => rfl
 | true => exact absurd (List.any_eq_true.2 ⟨x, hx, hb⟩) h4
theorem giv_ok {n : Int} {s : List (BitVec 64)} {l : List Int} {m : Int} (h : givE n s l m = 0) : ze8 n s = 0 ∧ ordE m (-1) l = 0 := by
 unfold givE at h
 split at h
 ·exact ⟨by assumption, h⟩
 ·rename_i hc; exact absurd h hc
end Go.Proofs.Ytknomkcdpcnmaaa
