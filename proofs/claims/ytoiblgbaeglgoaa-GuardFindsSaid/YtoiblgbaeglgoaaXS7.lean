/-
  STEPS THAT FIT: sequence.fits.
-/
import Derived.Test.YtoiblgbaeglgoaaXS6
import Derived.Test.YtoiblgbaeglgoaaXS3
namespace Go.Proofs.Ytoiblgbaeglgoaa
open Go Go.Am
theorem zm4 : ∀ (l : List Sk) (z : Int), zh0 z l = 0 → ∀ s ∈ l, 0 ≤ s.a ∧ s.a < 6
 | [], _, _, s, hs => by cases hs
 | t :: r, z, h, s, hs => by
  rw [zh0] at h
  split at h
  ·exact absurd h (by decide)
  rename_i hk
  split at h
  ·exact absurd h (by decide)
  split at h
  ·exact absurd h (by decide)
  rcases List.mem_cons.1 hs with rfl | hs
  ·have hk : zfy s.a = true := by simpa using hk
   unfold zfy at hk
   rw [Bool.and_eq_true, decide_eq_true_eq, decide_eq_true_eq] at hk
   exact hk
  ·exact zm4 r _ h s hs
theorem zm2 {p : Sp} (h : spC p = 0) : p.l.length ≤ 6 ∧ ∀ s ∈ p.l, 0 ≤ s.a ∧ s.a < 6 := by
 unfold spC at h
 split at h
 ·exact absurd h (by decide)
 split at h
 ·exact absurd h (by decide)
 split at h
 ·rename_i h1; exact absurd h h1
 ·rename_i h1
  exact ⟨by omega, zm4 _ _ (by simpa using h1)⟩
def zg1 (n : Int) (l : List Sk) : Bool := l.any fun s => decide (s.a ≥ n)
def fitC (n : Int) (p : Sp) (x : List Bool) : Int := if spC p ≠ 0 then spC p else if zg1 n p.l = true then 6 else if zd2 x p.l = true then 0 else 14
theorem zgx (x : List Bool) : hasM (.vptr (x.map AV.bool)) = false := rfl
def b120_0 : IC := .seq (.region [⟨(some 21), .bin .lss (.t 20) (.t 19), none⟩] none)
 (.seq (.cond (.t 21) (.skip)
 (.exit 0))
 (.seq (.block 1 (.seq (.region [⟨(some 22), .idxs 2 (.t 18) (.t 20), none⟩,
  ⟨(some 23), .load (some 2) (.t 22), none⟩,
  ⟨(some 9), .alloc [.int .i64 0, .bool false], none⟩,
  ⟨none, .store 2 (.t 9) (.t 23), none⟩] none)
 (.seq (.region [⟨(some 24), .faddr 0 (.t 9), none⟩,
  ⟨(some 25), .load none (.t 24), none⟩,
  ⟨(some 26), .faddr 0 (.t 3), none⟩,
  ⟨(some 27), .load none (.t 26), none⟩,
  ⟨(some 28), .bin .geq (.t 25) (.t 27), none⟩] none)
 (.cond (.t 28) (.seq (.region [⟨(some 6), .mov (.c (.int .i64 6)), none⟩] none)
 (.ret))
 (.skip)))))
 (.region [⟨(some 29), .bin .add (.t 20) (.c (.int .i64 1)), none⟩,
  ⟨(some 20), .mov (.t 29), none⟩] none)))
def b120_2 : IC := .seq (.region [⟨(some 34), .bin .lss (.t 33) (.t 32), none⟩] none)
 (.seq (.cond (.t 34) (.skip)
 (.exit 2))
 (.seq (.block 3 (.seq (.region [⟨(some 35), .idxs 2 (.t 31) (.t 33), none⟩,
  ⟨(some 36), .load (some 2) (.t 35), none⟩,
  ⟨(some 11), .alloc [.int .i64 0, .bool false], none⟩,
  ⟨none, .store 2 (.t 11) (.t 36), none⟩] none)
 (.seq (.region [⟨(some 37), .faddr 0 (.t 11), none⟩,
  ⟨(some 38), .load none (.t 37), none⟩,
  ⟨(some 39), .idxarr 6 1 (.t 5) (.t 38), none⟩,
  ⟨(some 40), .load none (.t 39), none⟩,
  ⟨(some 41), .faddr 1 (.t 11), none⟩,
  ⟨(some 42), .load none (.t 41), none⟩,
  ⟨(some 43), .eqb false (.t 40) (.t 42), none⟩] (some [[], [0], [1], [2], [], [4], [3, 5]]))
 (.cond (.t 43) (.seq (.region [⟨(some 6), .mov (.c (.int .i64 14)), none⟩] none)
 (.ret))
 (.skip)))))
 (.region [⟨(some 44), .bin .add (.t 33) (.c (.int .i64 1)), none⟩,
  ⟨(some 33), .mov (.t 44), none⟩] none)))
-- pneumatic/sequence.fits
def ic120 : IC := .seq (.region [⟨(some 3), .box (.t 0), none⟩,
  ⟨(some 4), .box (.t 1), none⟩,
  ⟨(some 5), .box (.t 2), none⟩,
  ⟨(some 6), .mov (.c (.int .i64 0)), none⟩] none)
 (.seq (.seq (.region [⟨(some 12), .load (some 2) (.t 4), none⟩,
  ⟨(some 13), .call (.c (.fn 149 [] [])) [(.t 12)], none⟩,
  ⟨(some 7), .mov (.t 13), none⟩] none)
 (.seq (.region [⟨(some 14), .mov (.t 7), none⟩,
  ⟨(some 15), .bin .neq (.t 14) (.c (.int .i64 0)), none⟩] none)
 (.cond (.t 15) (.seq (.region [⟨(some 16), .mov (.t 7), none⟩,
  ⟨(some 6), .mov (.t 16), none⟩] none)
 (.ret))
 (.skip))))
 (.seq (.seq (.region [⟨(some 17), .faddr 0 (.t 4), none⟩,
  ⟨(some 18), .load none (.t 17), none⟩,
  ⟨(some 19), .len false (.t 18), none⟩,
  ⟨(some 20), .mov (.c (.int .i64 0)), none⟩] none)
 (.block 0 (.loop b120_0)))
 (.seq (.seq (.region [⟨(some 30), .faddr 0 (.t 4), none⟩,
  ⟨(some 31), .load none (.t 30), none⟩,
  ⟨(some 32), .len false (.t 31), none⟩,
  ⟨(some 33), .mov (.c (.int .i64 0)), none⟩] none)
 (.block 2 (.loop b120_2)))
 (.seq (.region [⟨(some 6), .mov (.c (.int .i64 0)), none⟩] none)
 (.ret)))))
theorem fn120 : env0.fn 120 = some ⟨45, ic120, [.t 6]⟩ := by kernel_rfl
set_option maxHeartbeats 4000000 in
theorem fits76 (n : Int) (ls : List Sp) (p : Sp) (x : List Bool) (hx : x.length = 6) : PF Try.prog 120 [.agg (cQ n ls), .agg (cP p), .agg (x.map AV.bool)] (.int .i64 (fitC n p x)) := by
 obtain ⟨l, w⟩ := p
 have h96 := step96 ⟨l, w⟩
 have hcl : (cSs l).length = l.length := zc7 l
 have h96 : PF Try.prog 149 [.agg [.vs (cSs l), .int .i64 w]] (.int .i64 (spC ⟨l, w⟩)) := h96
 refine zbc env0_ok fn120 [(0, .agg [.int .i64 n, .vs (cPs ls)]), (1, .agg [.vs (cSs l), .int .i64 w]), (2, .agg (x.map AV.bool))] (by show 3 ≤ 45; decide) rfl fun w0 N0 => ?_
 unfold ic120
 repeat (first | refine za6 ?_ | refine za0 rfl ?_ | refine za3 ?_ | refine za2 ?_ | refine za4 rfl ?_ | refine zas rfl rfl rfl rfl ?_ | refine zby rfl rfl ?_)
 refine zau rfl rfl h96 (fun h => Bool.noConfusion (show false = true from h)) ?_
 repeat (first | refine za6 ?_ | refine za0 rfl ?_ | refine za3 ?_ | refine za2 ?_ | refine za4 rfl ?_)
 refine zar rfl rfl rfl (fun h => ?_) fun h => ?_
 ·have h : spC ⟨l, w⟩ ≠ 0 := bne_iff_ne.1 h
  rw [show fitC n ⟨l, w⟩ x = spC ⟨l, w⟩ from if_pos h]
  repeat (first | refine za6 ?_ | refine za0 rfl ?_ | refine za3 ?_ | refine za2 ?_ | refine zb0 rfl ?_ | refine zam ?_ | refine za5 ?_ | refine za4 rfl ?_)
  exact zak ⟨.inr rfl, _, rfl, rfl⟩
 have h : spC ⟨l, w⟩ = 0 := by simpa using h
 obtain ⟨hl, ha⟩ := zm2 h
 have hl : l.length ≤ 6 := hl
 have ha : ∀ s ∈ l, 0 ≤ s.a ∧ s.a < 6 := ha
 have hf : fitC n ⟨l, w⟩ x = if zg1 n l = true then 6 else if zd2 x l = true then 0 else 14 := if_neg (by rw [h]; decide)
 rw [hf]
 repeat (first | refine za6 ?_ | refine za0 rfl ?_ | refine za3 ?_ | refine za2 ?_ | refine zad ?_ | refine zab ?_ | refine zb8 rfl ?_ | refine za4 rfl ?_ | refine za8 rfl rfl ?_ | refine zac rfl ?_ | refine zb9 rfl rfl ?_)
 refine zbq (fun mm S => ∃ i, mm = l.length - i ∧ i ≤ l.length ∧ zg1 n l = zg1 n (l.drop i) ∧
   S = st 45 [(3, .vptr [.int .i64 n, .vs (cPs ls)]), (4, .vptr [.vs (cSs l), .int .i64 w]), (5, .vptr (x.map AV.bool)), (18, .vs (cSs l)), (19, .int .i64 (cSs l).length), (20, .int .i64 (i : Nat))] [] 0 1) l.length
  (zbk [] [(0, 0, [.int .i64 n, .vs (cPs ls)]), (1, 1, [.vs (cSs l), .int .i64 w]), (2, 2, x.map AV.bool)] rfl rfl rfl (.cons rfl rfl (.cons rfl rfl (.cons rfl (zbm _) .nil))) .nil (l' := [(3, .vptr [.int .i64 n, .vs (cPs ls)]), (4, .vptr [.vs (cSs l), .int .i64 w]), (5, .vptr (x.map AV.bool)), (18, .vs (cSs l)), (19, .int .i64 (cSs l).length), (20, .int .i64 ((0 : Nat) : Int))]) (.cons rfl (.fptr rfl rfl) (.cons rfl (.fptr rfl rfl) (.cons rfl (.fptr rfl rfl) (.cons rfl (.same rfl) (.cons rfl (.same rfl) (.cons rfl (.same rfl) .nil))))))) ⟨0, rfl, Nat.zero_le _, rfl, rfl⟩ ?_
 rintro mm S ⟨i, rfl, hi, hall, rfl⟩
 unfold b120_0
 repeat (first | refine za6 ?_ | refine za0 rfl ?_)
 refine zar rfl rfl rfl (fun h3 => ?_) fun h3 => ?_
 ·have hlt : i < l.length := by
   have : ((i : Nat) : Int) < ((cSs l).length : Nat) := of_decide_eq_true h3
   rw [hcl] at this
   omega
  have hd : l.drop i = l[i] :: l.drop (i + 1) := List.drop_eq_getElem_cons hlt
  rw [hd] at hall
  have hg := zdm hlt
  generalize l[i] = s at hall hg
  obtain ⟨a, o⟩ := s
  have hg : (cSs l)[((i : Nat) : Int).toNat]? = some [.int .i64 a, .bool o] := hg
  have hall : zg1 n l = (decide (a ≥ n) || zg1 n (l.drop (i + 1))) := hall
  repeat (first | refine za6 ?_ | refine za0 rfl ?_ | refine za3 ?_ | refine za2 ?_ | refine zad ?_ | refine zab ?_ | refine zb0 rfl ?_ | refine za8 rfl rfl ?_ | refine zas rfl rfl rfl rfl ?_ | refine zal rfl rfl rfl rfl rfl rfl rfl ?_ | refine zac rfl ?_ | refine zah rfl rfl rfl ?_ | refine zax ?_ | refine zb1 rfl rfl (by omega) (by assumption) rfl ?_)
  refine zar rfl rfl rfl (fun h4 => ?_) fun h4 => ?_
  ·rw [h4, Bool.true_or] at hall
   rw [hall, if_pos rfl]
   repeat (first | refine za6 ?_ | refine za0 rfl ?_ | refine za3 ?_ | refine za2 ?_ | refine zb0 rfl ?_ | refine zam ?_ | refine za5 ?_ | refine zaa ?_ | refine za4 rfl ?_)
   refine zb2 ?_
   repeat (first | refine za5 ?_ | refine zaa ?_)
   exact zak ⟨.inr rfl, _, rfl, rfl⟩
  ·rw [h4, Bool.false_or] at hall
   repeat (first | refine za0 rfl ?_ | refine za3 ?_ | refine za2 ?_ | refine zb6 ?_ | refine zab ?_ | refine zb8 rfl ?_ | refine za4 rfl ?_ | refine zay (op := .add) rfl rfl rfl ?_)
   rw [zaq i (by omega)]
   exact zat (show l.length - (i + 1) < l.length - i by omega) (zbk [] [] rfl rfl rfl .nil .nil (.cons rfl (.same rfl) (.cons rfl (.same rfl) (.cons rfl (.same (zgx x)) (.cons rfl (.same rfl) (.cons rfl (.same rfl) (.cons rfl (.same rfl) .nil))))))) ⟨i + 1, rfl, hlt, hall, rfl⟩
 have hi2 : i = l.length := by
  have : ¬ ((i : Nat) : Int) < ((cSs l).length : Nat) := of_decide_eq_false h3
  rw [hcl] at this
  omega
 rw [hi2, List.drop_length] at hall
 have hall : zg1 n l = false := hall
 rw [hall, if_neg (by decide)]
 repeat (first | refine za6 ?_ | refine za3 ?_ | refine za2 ?_ | refine zb8 rfl ?_ | refine zbb ?_ | refine zaj ?_)
 refine zcl ?_
 repeat (first | refine za6 ?_ | refine za0 rfl ?_ | refine za3 ?_ | refine za2 ?_ | refine zad ?_ | refine zba ?_ | refine za4 rfl ?_ | refine za8 rfl rfl ?_ | refine zah rfl rfl rfl ?_ | refine zb9 rfl rfl ?_)
 clear h3 hi hi2 hall hf
 refine zbq (fun mm S => ∃ i, mm = l.length - i ∧ i ≤ l.length ∧ zd2 x l = zd2 x (l.drop i) ∧
   S = st 45 [(5, .vptr (x.map AV.bool)), (31, .vs (cSs l)), (32, .int .i64 (cSs l).length), (33, .int .i64 (i : Nat))] [] 0 1) l.length
  (zbk [] [] rfl rfl rfl .nil .nil (l' := [(5, .vptr (x.map AV.bool)), (31, .vs (cSs l)), (32, .int .i64 (cSs l).length), (33, .int .i64 ((0 : Nat) : Int))]) (.cons rfl (.same (zgx x)) (.cons rfl (.same rfl) (.cons rfl (.same rfl) (.cons rfl (.same rfl) .nil))))) ⟨0, rfl, Nat.zero_le _, rfl, rfl⟩ ?_
 rintro mm S ⟨i, rfl, hi, hall, rfl⟩
 unfold b120_2
 repeat (first | refine za6 ?_ | refine za0 rfl ?_)
 refine zar rfl rfl rfl (fun h3 => ?_) fun h3 => ?_
 ·have hlt : i < l.length := by
   have : ((i : Nat) : Int) < ((cSs l).length : Nat) := of_decide_eq_true h3
   rw [hcl] at this
   omega
  have hd : l.drop i = l[i] :: l.drop (i + 1) := List.drop_eq_getElem_cons hlt
  rw [hd] at hall
  have hg := zdm hlt
  obtain ⟨ha0, ha1⟩ := ha _ (List.getElem_mem hlt)
  generalize l[i] = s at hall hg ha0 ha1
  obtain ⟨a, o⟩ := s
  have ha0 : 0 ≤ a := ha0
  have ha1 : a < 6 := ha1
  have hg : (cSs l)[((i : Nat) : Int).toNat]? = some [.int .i64 a, .bool o] := hg
  have hall : zd2 x l = (!(x.getD a.toNat false == o) && zd2 x (l.drop (i + 1))) := hall
  have hxl : (x.map AV.bool).length = 6 := by rw [List.length_map]; exact hx
  have hgx : (x.map AV.bool).drop (a.toNat * 1) = .bool (x.getD a.toNat false) :: (x.map AV.bool).drop (a.toNat * 1 + 1) := by
   rw [Nat.mul_one, List.drop_eq_getElem_cons (by omega), List.getElem_map, List.getD_eq_getElem?_getD, List.getElem?_eq_getElem (by omega)]
   rfl
  generalize x.getD a.toNat false = b at hgx hall
  repeat (first | refine za6 ?_ | refine za0 rfl ?_ | refine za3 ?_ | refine za2 ?_ | refine zad ?_ | refine zab ?_ | refine zb0 rfl ?_ | refine za8 rfl rfl ?_ | refine zas rfl rfl rfl rfl ?_ | refine zal rfl rfl rfl rfl rfl rfl rfl ?_ | refine zac rfl ?_ | refine zax ?_ | refine zbu env0_ok rfl rfl rfl ?_ | refine zb1 rfl rfl (by omega) (by assumption) rfl ?_)
  refine zc2 rfl rfl (decide_eq_true ⟨ha0, by omega, by omega⟩) hgx ?_
  cases b <;> cases o
  all_goals
   repeat (first | refine za6 ?_ | refine za0 rfl ?_ | refine za3 ?_ | refine za2 ?_ | refine zb6 ?_ | refine zab ?_ | refine zb0 rfl ?_ | refine zb8 rfl ?_ | refine zam ?_ | refine za5 ?_ | refine zaa ?_ | refine za4 rfl ?_ | refine za8 rfl rfl ?_ | refine zac rfl ?_ | refine zay (op := .add) rfl rfl rfl ?_ | refine zdv rfl rfl rfl ?_ | refine zdu rfl rfl rfl ?_)
  ·have hall : zd2 x l = false := hall
   rw [hall, if_neg (by decide)]
   refine zb2 ?_
   repeat (first | refine za5 ?_ | refine zaa ?_)
   exact zak ⟨.inr rfl, _, rfl, rfl⟩
  ·have hall : zd2 x l = zd2 x (l.drop (i + 1)) := hall
   rw [zaq i (by omega)]
   exact zat (show l.length - (i + 1) < l.length - i by omega) (zbk [] [] rfl rfl rfl .nil .nil (.cons rfl (.same (zgx x)) (.cons rfl (.same rfl) (.cons rfl (.same rfl) (.cons rfl (.same rfl) .nil))))) ⟨i + 1, rfl, hlt, hall, rfl⟩
  ·have hall : zd2 x l = zd2 x (l.drop (i + 1)) := hall
   rw [zaq i (by omega)]
   exact zat (show l.length - (i + 1) < l.length - i by omega) (zbk [] [] rfl rfl rfl .nil .nil (.cons rfl (.same (zgx x)) (.cons rfl (.same rfl) (.cons rfl (.same rfl) (.cons rfl (.same rfl) .nil))))) ⟨i + 1, rfl, hlt, hall, rfl⟩
  ·have hall : zd2 x l = false := hall
   rw [hall, if_neg (by decide)]
   refine zb2 ?_
   repeat (first | refine za5 ?_ | refine zaa ?_)
   exact zak ⟨.inr rfl, _, rfl, rfl⟩
 ·have hi2 : i = l.length := by
   have : ¬ ((i : Nat) : Int) < ((cSs l).length : Nat) := of_decide_eq_false h3
   rw [hcl] at this
   omega
  rw [hi2, List.drop_length] at hall
  have hall : zd2 x l = true := hall
  rw [hall, if_pos rfl]
  repeat (first | refine za6 ?_ | refine za3 ?_ | refine za2 ?_ | refine zb8 rfl ?_ | refine zbb ?_ | refine zaj ?_)
  refine zcl ?_
  repeat (first | refine za6 ?_ | refine za0 rfl ?_ | refine za3 ?_ | refine za2 ?_ | refine zam ?_ | refine zba ?_ | refine za4 rfl ?_)
  exact zak ⟨.inr rfl, _, rfl, rfl⟩
end Go.Proofs.Ytoiblgbaeglgoaa
