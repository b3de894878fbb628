/-
  SEQUENCES THAT CAN BE CARRIED OUT: sequence.Check.
-/
import Derived.Test.YtoiblgbaeglgoaaXD1
import Derived.Test.YtoiblgbaeglgoaaXS0
namespace Go.Proofs.Ytoiblgbaeglgoaa
open Go Go.Am
theorem six {α : Type} {x : List α} (h : x.length = 6) : ∃ a b c d e f, x = [a, b, c, d, e, f] := by
 match x, h with
 | [a, b, c, d, e, f], _ => exact ⟨a, b, c, d, e, f, rfl⟩
theorem six_ne : ∀ x0 x1 x2 x3 x4 x5 : Bool, (if true = true then !(x0 == false && (x1 == false && (x2 == false && (x3 == false && (x4 == false && (x5 == false && true)))))) else x0 == false && (x1 == false && (x2 == false && (x3 == false && (x4 == false && (x5 == false && true)))))) = true → ¬ [x0, x1, x2, x3, x4, x5] = List.replicate 6 false := by decide
theorem six_eq : ∀ x0 x1 x2 x3 x4 x5 : Bool, (if true = true then !(x0 == false && (x1 == false && (x2 == false && (x3 == false && (x4 == false && (x5 == false && true)))))) else x0 == false && (x1 == false && (x2 == false && (x3 == false && (x4 == false && (x5 == false && true)))))) = false → [x0, x1, x2, x3, x4, x5] = List.replicate 6 false := by decide
def b72_3 : IC := .seq (.region [⟨(some 50), .bin .lss (.t 49) (.t 48), none⟩] none)
 (.seq (.cond (.t 50) (.skip)
 (.exit 3))
 (.seq (.block 4 (.seq (.region [⟨(some 51), .idxs 2 (.t 47) (.t 49), none⟩,
  ⟨(some 52), .load (some 2) (.t 51), none⟩,
  ⟨(some 9), .alloc [.int .i64 0, .bool false], none⟩,
  ⟨none, .store 2 (.t 9) (.t 52), none⟩] none)
 (.region [⟨(some 53), .faddr 0 (.t 9), none⟩,
  ⟨(some 54), .load none (.t 53), none⟩,
  ⟨(some 55), .idxarr 6 1 (.t 4) (.t 54), none⟩,
  ⟨none, .store 1 (.t 55) (.c (.bool true)), none⟩] none)))
 (.region [⟨(some 56), .bin .add (.t 49) (.c (.int .i64 1)), none⟩,
  ⟨(some 49), .mov (.t 56), none⟩] none)))
def b72_1 : IC := .seq (.region [⟨(some 33), .bin .lss (.t 32) (.t 31), none⟩] none)
 (.seq (.cond (.t 33) (.skip)
 (.exit 1))
 (.seq (.block 2 (.seq (.region [⟨(some 34), .idxs 2 (.t 30) (.t 32), none⟩,
  ⟨(some 35), .load (some 2) (.t 34), none⟩,
  ⟨(some 6), .alloc [.nils, .int .i64 0], none⟩,
  ⟨none, .store 2 (.t 6) (.t 35), none⟩] none)
 (.seq (.seq (.region [⟨(some 36), .load (some 2) (.t 1), none⟩,
  ⟨(some 37), .load (some 2) (.t 6), none⟩,
  ⟨(some 38), .load (some 6) (.t 3), none⟩,
  ⟨(some 39), .call (.c (.fn 120 [] [])) [(.t 36), (.t 37), (.t 38)], none⟩,
  ⟨(some 7), .mov (.t 39), none⟩] none)
 (.seq (.region [⟨(some 40), .mov (.t 7), none⟩,
  ⟨(some 41), .bin .neq (.t 40) (.c (.int .i64 0)), none⟩] none)
 (.cond (.t 41) (.seq (.region [⟨(some 42), .mov (.t 7), none⟩,
  ⟨(some 2), .mov (.t 42), none⟩] none)
 (.ret))
 (.skip))))
 (.seq (.region [⟨(some 43), .load (some 6) (.t 3), none⟩,
  ⟨(some 44), .load (some 2) (.t 6), none⟩,
  ⟨(some 45), .call (.c (.fn 121 [] [])) [(.t 43), (.t 44)], none⟩,
  ⟨none, .store 6 (.t 3) (.t 45), none⟩] none)
 (.seq (.region [⟨(some 46), .faddr 0 (.t 6), none⟩,
  ⟨(some 47), .load none (.t 46), none⟩,
  ⟨(some 48), .len false (.t 47), none⟩,
  ⟨(some 49), .mov (.c (.int .i64 0)), none⟩] none)
 (.block 3 (.loop b72_3)))))))
 (.region [⟨(some 57), .bin .add (.t 32) (.c (.int .i64 1)), none⟩,
  ⟨(some 32), .mov (.t 57), none⟩] none)))
-- pneumatic/sequence.Check
def ic72 : IC := .seq (.region [⟨(some 1), .box (.t 0), none⟩,
  ⟨(some 2), .mov (.c (.int .i64 0)), none⟩] none)
 (.seq (.block 0 (.seq (.region [⟨(some 11), .faddr 0 (.t 1), none⟩,
  ⟨(some 12), .load none (.t 11), none⟩,
  ⟨(some 13), .bin .lss (.t 12) (.c (.int .i64 1)), none⟩,
  ⟨(some 14), .mov (.t 13), none⟩,
  ⟨(some 15), .faddr 0 (.t 1), some (14, false)⟩,
  ⟨(some 16), .load none (.t 15), some (14, false)⟩,
  ⟨(some 17), .bin .gtr (.t 16) (.c (.int .i64 6)), some (14, false)⟩,
  ⟨(some 18), .pick (.t 14) (.c (.bool true)) (.t 17), none⟩,
  ⟨(some 10), .mov (.t 18), none⟩] none)
 (.cond (.t 10) (.seq (.region [⟨(some 2), .mov (.c (.int .i64 2)), none⟩] none)
 (.ret))
 (.seq (.region [⟨(some 20), .faddr 1 (.t 1), none⟩,
  ⟨(some 21), .load none (.t 20), none⟩,
  ⟨(some 22), .len false (.t 21), none⟩,
  ⟨(some 23), .bin .eql (.t 22) (.c (.int .i64 0)), none⟩,
  ⟨(some 19), .mov (.t 23), none⟩] none)
 (.cond (.t 19) (.seq (.region [⟨(some 2), .mov (.c (.int .i64 13)), none⟩] none)
 (.ret))
 (.seq (.region [⟨(some 25), .faddr 1 (.t 1), none⟩,
  ⟨(some 26), .load none (.t 25), none⟩,
  ⟨(some 27), .len false (.t 26), none⟩,
  ⟨(some 28), .bin .gtr (.t 27) (.c (.int .i64 64)), none⟩,
  ⟨(some 24), .mov (.t 28), none⟩] none)
 (.cond (.t 24) (.seq (.region [⟨(some 2), .mov (.c (.int .i64 5)), none⟩] none)
 (.ret))
 (.skip))))))))
 (.seq (.region [⟨(some 3), .alloc [.bool false, .bool false, .bool false, .bool false, .bool false, .bool false], none⟩,
  ⟨(some 4), .alloc [.bool false, .bool false, .bool false, .bool false, .bool false, .bool false], none⟩] none)
 (.seq (.seq (.region [⟨(some 29), .faddr 1 (.t 1), none⟩,
  ⟨(some 30), .load none (.t 29), none⟩,
  ⟨(some 31), .len false (.t 30), none⟩,
  ⟨(some 32), .mov (.c (.int .i64 0)), none⟩] none)
 (.block 1 (.loop b72_1)))
 (.seq (.seq (.region [⟨(some 58), .load (some 6) (.t 3), none⟩,
  ⟨(some 59), .build [.bool false, .bool false, .bool false, .bool false, .bool false, .bool false] [], none⟩,
  ⟨(some 60), .eqs true [(0, .bool), (1, .bool), (2, .bool), (3, .bool), (4, .bool), (5, .bool)] (.t 58) (.t 59), none⟩] none)
 (.cond (.t 60) (.seq (.region [⟨(some 2), .mov (.c (.int .i64 9)), none⟩] none)
 (.ret))
 (.skip)))
 (.seq (.seq (.region [⟨(some 61), .faddr 0 (.t 1), none⟩,
  ⟨(some 62), .load none (.t 61), none⟩,
  ⟨(some 63), .slarr 6 1 (.t 4) none (some (.t 62)), none⟩,
  ⟨(some 64), .call (.c (.fn 122 [] [])) [(.t 63), (.c (.bool false))], none⟩] none)
 (.cond (.t 64) (.seq (.region [⟨(some 2), .mov (.c (.int .i64 13)), none⟩] none)
 (.ret))
 (.skip)))
 (.seq (.region [⟨(some 2), .mov (.c (.int .i64 0)), none⟩] none)
 (.ret)))))))
theorem fn72 : env0.fn 72 = some ⟨65, ic72, [.t 2]⟩ := by kernel_rfl
section
variable {w0 : World} {N0 : Nat} {k : List Fr} {Q : Exit → AS → Prop}
set_option maxHeartbeats 2000000 in
theorem mark72 (n : Int) (l : List Sp) (i : Nat) (q : List Sk) (w : Int) (x m : List Bool) (hql : q.length ≤ 100) (ha : ∀ s ∈ q, 0 ≤ s.a ∧ s.a < 6) (hm : m.length = 6) {y : IC}
  (fin : Zm Try.prog w0 N0 none y (st 65 [(1, .vptr [.int .i64 n, .vs (cPs l)]), (3, .mptr 0 0 0), (4, .mptr 1 0 0), (30, .vs (cPs l)), (31, .int .i64 (cPs l).length), (32, .int .i64 (i : Nat))] [(0, 0, .cells (x.map AV.bool)), (1, 0, .cells ((mvd m q).map AV.bool))] 2 1) k Q) :
  Zm Try.prog w0 N0 none (.loop b72_3) (st 65 [(1, .vptr [.int .i64 n, .vs (cPs l)]), (3, .mptr 0 0 0), (4, .mptr 1 0 0), (30, .vs (cPs l)), (31, .int .i64 (cPs l).length), (32, .int .i64 (i : Nat)), (47, .vs (cSs q)), (48, .int .i64 (cSs q).length), (49, .int .i64 0)] [(0, 0, .cells (x.map AV.bool)), (1, 0, .cells (m.map AV.bool))] 2 1) (.blk 3 :: .blk 2 :: .seq y :: k) Q := by
 have hcl : (cSs q).length = q.length := zc7 q
 refine zbq (fun mm S => ∃ j, mm = q.length - j ∧ j ≤ q.length ∧
   S = st 65 [(1, .vptr [.int .i64 n, .vs (cPs l)]), (3, .mptr 0 0 0), (4, .mptr 1 0 0), (30, .vs (cPs l)), (31, .int .i64 (cPs l).length), (32, .int .i64 (i : Nat)), (47, .vs (cSs q)), (48, .int .i64 (cSs q).length), (49, .int .i64 (j : Nat))] [(0, 0, .cells (x.map AV.bool)), (1, 0, .cells ((mvd m (q.take j)).map AV.bool))] 2 1) q.length
  (zao (.cons rfl (.cons rfl (.cons rfl (.cons rfl (.cons rfl (.cons rfl (.cons rfl (.cons rfl (.cons rfl .nil)))))))))) ⟨0, rfl, Nat.zero_le _, rfl⟩ ?_
 rintro mm S ⟨j, rfl, hj, rfl⟩
 unfold b72_3
 repeat (first | refine za6 ?_ | refine za0 rfl ?_)
 refine zar rfl rfl rfl (fun h3 => ?_) fun h3 => ?_
 ·have hlt : j < q.length := by
   have : ((j : Nat) : Int) < ((cSs q).length : Nat) := of_decide_eq_true h3
   rw [hcl] at this
   omega
  have hg := zdm hlt
  have htk := mvd_take (x := m) hlt
  have hml := zim (q.take j) m
  rw [hm] at hml
  obtain ⟨ha0, ha1⟩ := ha _ (List.getElem_mem hlt)
  generalize q[j] = s at hg htk ha0 ha1
  obtain ⟨a, o⟩ := s
  have ha0 : 0 ≤ a := ha0
  have ha1 : a < 6 := ha1
  have hg : (cSs q)[((j : Nat) : Int).toNat]? = some [.int .i64 a, .bool o] := hg
  have htk : mvd m (q.take (j + 1)) = (mvd m (q.take j)).set a.toNat true := htk
  generalize mvd m (q.take j) = M at hml htk
  have hset : (M.map AV.bool).set (0 + a.toNat * 1) (.bool true) = (M.set a.toNat true).map AV.bool := by rw [List.map_set, Nat.mul_one, Nat.zero_add]
  repeat (first | refine za6 ?_ | refine za0 rfl ?_ | refine za3 ?_ | refine za2 ?_ | refine zad ?_ | refine zab ?_ | refine zb0 rfl ?_ | refine za8 rfl rfl ?_ | refine zas rfl rfl rfl rfl ?_ | refine zal rfl rfl rfl rfl rfl rfl rfl ?_ | refine zac rfl ?_ | refine zax ?_ | refine zb1 rfl rfl (by omega) (by assumption) rfl ?_ | refine zav rfl rfl (decide_eq_true ⟨by omega, by omega⟩) ?_)
  refine zhv rfl rfl rfl rfl (by rw [List.length_map]; omega) rfl ?_
  rw [hset]
  repeat (first | refine za0 rfl ?_ | refine za3 ?_ | refine za2 ?_ | refine zb6 ?_ | refine za4 rfl ?_ | refine zay (op := .add) rfl rfl rfl ?_)
  rw [zaq j (by omega)]
  exact zat (show q.length - (j + 1) < q.length - j by omega) (zbk [(some (0, 0), x.map AV.bool), (some (1, 0), (M.set a.toNat true).map AV.bool)] [] rfl rfl rfl .nil (.cons rfl (.keep (zbm _)) (.cons rfl (.keep (zbm _)) .nil)) (.cons rfl (.same rfl) (.cons rfl (.mptr rfl) (.cons rfl (.mptr rfl) (.cons rfl (.same rfl) (.cons rfl (.same rfl) (.cons rfl (.same rfl) (.cons rfl (.same rfl) (.cons rfl (.same rfl) (.cons rfl (.same rfl) .nil)))))))))) ⟨j + 1, rfl, hlt, by rw [htk]; rfl⟩
 ·have hj2 : j = q.length := by
   have : ¬ ((j : Nat) : Int) < ((cSs q).length : Nat) := of_decide_eq_false h3
   rw [hcl] at this
   omega
  subst hj2
  rw [List.take_length]
  repeat (first | refine za6 ?_ | refine za3 ?_ | refine za2 ?_ | refine zb8 rfl ?_ | refine zbb ?_ | refine zaj ?_)
  refine zcl ?_
  repeat (first | refine za2 ?_ | refine zb6 ?_ | refine zba ?_)
  exact zen (zao (.cons rfl (.cons rfl (.cons rfl (.cons rfl (.cons rfl (.cons rfl .nil))))))) fin
set_option maxHeartbeats 4000000 in
theorem seq72 (n : Int) (l : List Sp) (hl : l.length ≤ 1000000) : PF Try.prog 72 [.agg (cQ n l)] (.int .i64 (chkP n l)) := by
 have hcl : (cPs l).length = l.length := zdb l
 refine zbc env0_ok fn72 [(0, .agg [.int .i64 n, .vs (cPs l)])] (by show 1 ≤ 65; decide) rfl fun w0 N0 => ?_
 unfold ic72 chkP
 repeat (first | refine za6 ?_ | refine za0 rfl ?_ | refine za3 ?_ | refine za2 ?_ | refine zad ?_ | refine za4 rfl ?_ | refine za8 rfl rfl ?_ | refine zac rfl ?_ | refine zby rfl rfl ?_)
 refine zar rfl rfl rfl (fun h => ?_) fun h => ?_
 ·have h : n < 1 := of_decide_eq_true h
  rw [if_pos (.inl h)]
  repeat (first | refine za6 ?_ | refine za0 rfl ?_ | refine za3 ?_ | refine za2 ?_ | refine zb0 rfl ?_ | refine zam ?_ | refine za5 ?_ | refine zaa ?_ | refine zda rfl rfl ?_ | refine za4 rfl ?_ | refine zap rfl rfl ?_)
  exact zak ⟨.inr rfl, _, rfl, rfl⟩
 have h : ¬ n < 1 := of_decide_eq_false h
 repeat (first | refine zc5 rfl ?_ | refine za4 rfl ?_ | refine za8 rfl rfl ?_ | refine zac rfl ?_)
 refine zar rfl rfl rfl (fun h6 => ?_) fun h6 => ?_
 ·have h6 : n > 6 := of_decide_eq_true h6
  rw [if_pos (.inr h6)]
  repeat (first | refine za6 ?_ | refine za0 rfl ?_ | refine za3 ?_ | refine za2 ?_ | refine zb0 rfl ?_ | refine zam ?_ | refine za5 ?_ | refine zaa ?_ | refine za4 rfl ?_ | refine zag rfl rfl ?_)
  exact zak ⟨.inr rfl, _, rfl, rfl⟩
 have h6 : ¬ n > 6 := of_decide_eq_false h6
 rw [if_neg (by omega)]
 repeat (first | refine za6 ?_ | refine za0 rfl ?_ | refine za3 ?_ | refine za2 ?_ | refine zb8 rfl ?_ | refine za4 rfl ?_ | refine za8 rfl rfl ?_ | refine zac rfl ?_ | refine zag rfl rfl ?_ | refine zb9 rfl rfl ?_)
 refine zar rfl rfl rfl (fun h2 => ?_) fun h2 => ?_
 ·have h2 : (((cPs l).length : Nat) : Int) = 0 := by simpa using h2
  rw [if_pos (by omega)]
  repeat (first | refine za6 ?_ | refine za0 rfl ?_ | refine za3 ?_ | refine za2 ?_ | refine zb0 rfl ?_ | refine zam ?_ | refine za5 ?_ | refine zaa ?_ | refine za4 rfl ?_)
  exact zak ⟨.inr rfl, _, rfl, rfl⟩
 have h2 : ¬ (((cPs l).length : Nat) : Int) = 0 := by simpa using h2
 rw [if_neg (by omega)]
 repeat (first | refine za6 ?_ | refine za0 rfl ?_ | refine za3 ?_ | refine za2 ?_ | refine zb8 rfl ?_ | refine za4 rfl ?_ | refine za8 rfl rfl ?_ | refine zac rfl ?_ | refine zb9 rfl rfl ?_)
 refine zar rfl rfl rfl (fun h3 => ?_) fun h3 => ?_
 ·have h3 : (((cPs l).length : Nat) : Int) > 64 := of_decide_eq_true h3
  rw [if_pos (by omega)]
  repeat (first | refine za6 ?_ | refine za0 rfl ?_ | refine za3 ?_ | refine za2 ?_ | refine zb0 rfl ?_ | refine zam ?_ | refine za5 ?_ | refine zaa ?_ | refine za4 rfl ?_)
  exact zak ⟨.inr rfl, _, rfl, rfl⟩
 have h3 : ¬ (((cPs l).length : Nat) : Int) > 64 := of_decide_eq_false h3
 rw [if_neg (by omega)]
 repeat (first | refine za6 ?_ | refine za0 rfl ?_ | refine za3 ?_ | refine za2 ?_ | refine zb6 ?_ | refine zad ?_ | refine zab ?_ | refine zb8 rfl ?_ | refine za4 rfl ?_ | refine za8 rfl rfl ?_ | refine zac rfl ?_ | refine zax ?_ | refine zb9 rfl rfl ?_)
 refine zbq (fun mm S => ∃ i x m, mm = l.length - i ∧ i ≤ l.length ∧ x.length = 6 ∧ m.length = 6 ∧ seqC n l (List.replicate 6 false) (List.replicate 6 false) = seqC n (l.drop i) x m ∧
   S = st 65 [(1, .vptr [.int .i64 n, .vs (cPs l)]), (3, .mptr 0 0 0), (4, .mptr 1 0 0), (30, .vs (cPs l)), (31, .int .i64 (cPs l).length), (32, .int .i64 (i : Nat))] [(0, 0, .cells (x.map AV.bool)), (1, 0, .cells (m.map AV.bool))] 2 1) l.length
  (zbk [(some (1, 1), (List.replicate 6 false).map AV.bool), (some (2, 2), (List.replicate 6 false).map AV.bool)] [(0, 0, [.int .i64 n, .vs (cPs l)])] rfl rfl rfl (.cons rfl rfl .nil) (.cons rfl (.keep rfl) (.cons rfl (.keep rfl) .nil)) (l' := [(1, .vptr [.int .i64 n, .vs (cPs l)]), (3, .mptr 0 0 0), (4, .mptr 1 0 0), (30, .vs (cPs l)), (31, .int .i64 (cPs l).length), (32, .int .i64 ((0 : Nat) : Int))]) (.cons rfl (.fptr rfl rfl) (.cons rfl (.mptr rfl) (.cons rfl (.mptr rfl) (.cons rfl (.same rfl) (.cons rfl (.same rfl) (.cons rfl (.same rfl) .nil))))))) ⟨0, _, _, rfl, Nat.zero_le _, rfl, rfl, rfl, rfl⟩ ?_
 rintro mm S ⟨i, x, m, rfl, hi, hx, hm, hall, rfl⟩
 rw [hall]
 clear hall
 unfold b72_1
 repeat (first | refine za6 ?_ | refine za0 rfl ?_)
 refine zar rfl rfl rfl (fun h4 => ?_) fun h4 => ?_
 ·have hlt : i < l.length := by
   have : ((i : Nat) : Int) < ((cPs l).length : Nat) := of_decide_eq_true h4
   rw [hcl] at this
   omega
  rw [List.drop_eq_getElem_cons hlt, seqC]
  have hg := zh4 hlt
  generalize l[i] = p at hg ⊢
  obtain ⟨q, w⟩ := p
  have hg : (cPs l)[((i : Nat) : Int).toNat]? = some [.vs (cSs q), .int .i64 w] := hg
  have p1 : PF Try.prog 120 [.agg [.int .i64 n, .vs (cPs l)], .agg [.vs (cSs q), .int .i64 w], .agg (x.map AV.bool)] (.int .i64 (fitC n ⟨q, w⟩ x)) := fits76 n l ⟨q, w⟩ x hx
  by_cases hf : fitC n ⟨q, w⟩ x = 0
  ·have hsp : spC ⟨q, w⟩ = 0 := by
    unfold fitC at hf
    split at hf
    ·rename_i h1; exact absurd hf h1
    ·rename_i h1; simpa using h1
   obtain ⟨hq, ha⟩ := zm2 hsp
   have hq : q.length ≤ 6 := hq
   have ha : ∀ s ∈ q, 0 ≤ s.a ∧ s.a < 6 := ha
   have p2 : PF Try.prog 121 [.agg (x.map AV.bool), .agg [.vs (cSs q), .int .i64 w]] (.agg ((aft x q).map AV.bool)) := behind77 ⟨q, w⟩ x (by show q.length ≤ _; omega) hx ha
   rw [hf] at p1 ⊢
   rw [if_neg (by decide)]
   have hal := zc6 q x
   rw [hx] at hal
   have hml : (mvd m q).length = 6 := by rw [zim]; exact hm
   generalize aft x q = X at p2 hal ⊢
   obtain ⟨x0, x1, x2, x3, x4, x5, rfl⟩ := six hx
   obtain ⟨y0, y1, y2, y3, y4, y5, rfl⟩ := six hal
   obtain ⟨m0, m1, m2, m3, m4, m5, rfl⟩ := six hm
   repeat (first | refine za6 ?_ | refine za0 rfl ?_ | refine za3 ?_ | refine za2 ?_ | refine zad ?_ | refine zab ?_ | refine zb0 rfl ?_ | refine zas rfl rfl rfl rfl ?_ | refine zal rfl rfl rfl rfl rfl rfl rfl ?_ | refine zax ?_ | refine zb1 rfl rfl (by omega) (by assumption) rfl ?_)
   refine zau rfl rfl p1 (fun h => Bool.noConfusion (show false = true from h)) ?_
   repeat (first | refine za6 ?_ | refine za0 rfl ?_ | refine za3 ?_ | refine za2 ?_ | refine zab ?_ | refine zb8 rfl ?_ | refine za4 rfl ?_ | refine zas rfl rfl rfl rfl ?_ | refine zbn rfl rfl rfl ?_)
   refine zau rfl rfl p2 (fun h => Bool.noConfusion (show false = true from h)) ?_
   repeat (first | refine za6 ?_ | refine za0 rfl ?_ | refine za3 ?_ | refine za2 ?_ | refine zad ?_ | refine za4 rfl ?_ | refine za8 rfl rfl ?_ | refine zal rfl rfl rfl rfl rfl rfl rfl ?_ | refine zac rfl ?_ | refine zb9 rfl rfl ?_)
   refine zs4 [(some (0, 0), [y0, y1, y2, y3, y4, y5].map AV.bool), (some (1, 0), [m0, m1, m2, m3, m4, m5].map AV.bool)] [] [(1, .vptr [.int .i64 n, .vs (cPs l)]), (3, .mptr 0 0 0), (4, .mptr 1 0 0), (30, .vs (cPs l)), (31, .int .i64 (cPs l).length), (32, .int .i64 (i : Nat)), (47, .vs (cSs q)), (48, .int .i64 (cSs q).length), (49, .int .i64 0)] rfl .nil (.cons rfl (.keep rfl) (.cons rfl (.keep rfl) .nil)) (.cons rfl (.same rfl) (.cons rfl (.mptr rfl) (.cons rfl (.mptr rfl) (.cons rfl (.same rfl) (.cons rfl (.same rfl) (.cons rfl (.same rfl) (.cons rfl (.same rfl) (.cons rfl (.same rfl) (.cons rfl (.same rfl) .nil))))))))) ?_
   refine mark72 n l i q w [y0, y1, y2, y3, y4, y5] [m0, m1, m2, m3, m4, m5] (by omega) ha rfl ?_
   repeat (first | refine za0 rfl ?_ | refine za3 ?_ | refine za4 rfl ?_ | refine zay (op := .add) rfl rfl rfl ?_)
   rw [zaq i (by omega)]
   exact zat (show l.length - (i + 1) < l.length - i by omega) (zbk [(some (0, 0), [y0, y1, y2, y3, y4, y5].map AV.bool), (some (1, 0), (mvd [m0, m1, m2, m3, m4, m5] q).map AV.bool)] [] rfl rfl rfl .nil (.cons rfl (.keep rfl) (.cons rfl (.keep (zbm _)) .nil)) (.cons rfl (.same rfl) (.cons rfl (.mptr rfl) (.cons rfl (.mptr rfl) (.cons rfl (.same rfl) (.cons rfl (.same rfl) (.cons rfl (.same rfl) .nil))))))) ⟨i + 1, _, _, rfl, hlt, rfl, hml, rfl, rfl⟩
  ·obtain ⟨x0, x1, x2, x3, x4, x5, rfl⟩ := six hx
   rw [if_pos hf]
   repeat (first | refine za6 ?_ | refine za0 rfl ?_ | refine za3 ?_ | refine za2 ?_ | refine zad ?_ | refine zab ?_ | refine zb0 rfl ?_ | refine zas rfl rfl rfl rfl ?_ | refine zal rfl rfl rfl rfl rfl rfl rfl ?_ | refine zax ?_ | refine zb1 rfl rfl (by omega) (by assumption) rfl ?_)
   refine zau rfl rfl p1 (fun h => Bool.noConfusion (show false = true from h)) ?_
   repeat (first | refine za6 ?_ | refine za0 rfl ?_ | refine za3 ?_ | refine za2 ?_ | refine za4 rfl ?_)
   refine zar rfl rfl rfl (fun h5 => ?_) fun h5 => absurd (by simpa using h5) hf
   repeat (first | refine za6 ?_ | refine za0 rfl ?_ | refine za3 ?_ | refine za2 ?_ | refine zb0 rfl ?_ | refine zam ?_ | refine za5 ?_ | refine zaa ?_ | refine za4 rfl ?_)
   refine zb2 ?_
   repeat (first | refine za5 ?_ | refine zaa ?_)
   exact zak ⟨.inr rfl, _, rfl, rfl⟩
 ·have hi2 : i = l.length := by
   have : ¬ ((i : Nat) : Int) < ((cPs l).length : Nat) := of_decide_eq_false h4
   rw [hcl] at this
   omega
  subst hi2
  rw [List.drop_length, seqC]
  obtain ⟨x0, x1, x2, x3, x4, x5, rfl⟩ := six hx
  obtain ⟨m0, m1, m2, m3, m4, m5, rfl⟩ := six hm
  repeat (first | refine za6 ?_ | refine za3 ?_ | refine za2 ?_ | refine zb8 rfl ?_ | refine zbb ?_ | refine zaj ?_)
  refine zcl ?_
  repeat (first | refine za6 ?_ | refine za0 rfl ?_ | refine za2 ?_ | refine zba ?_ | refine zas rfl rfl rfl rfl ?_ | refine zd1 rfl rfl ?_)
  refine o_eqs rfl rfl rfl (fun h => ?_) fun h => ?_
  ·rw [if_neg (six_ne _ _ _ _ _ _ h)]
   repeat (first | refine za6 ?_ | refine za0 rfl ?_ | refine za3 ?_ | refine za2 ?_ | refine zb0 rfl ?_ | refine zam ?_ | refine za5 ?_ | refine za4 rfl ?_)
   exact zak ⟨.inr rfl, _, rfl, rfl⟩
  rw [if_pos (six_eq _ _ _ _ _ _ h)]
  clear h
  have hn : n = 1 ∨ n = 2 ∨ n = 3 ∨ n = 4 ∨ n = 5 ∨ n = 6 := by omega
  rcases hn with rfl | rfl | rfl | rfl | rfl | rfl
  ·have p3 := zep [m0] (by simp) false
   repeat (first | refine za6 ?_ | refine za0 rfl ?_ | refine za3 ?_ | refine za2 ?_ | refine zab ?_ | refine zb8 rfl ?_ | refine za8 rfl rfl ?_ | refine zah rfl rfl rfl ?_)
   refine zin rfl rfl rfl rfl rfl (by decide) ?_
   refine zau rfl rfl p3 (fun _ => rfl) ?_
   show Om _ _ _ _ _ _ _ _ fun e S' => (e = Exit.normal ∨ e = Exit.ret) ∧ ∃ v0, _ ∧ _ = AV.int IntKind.i64 (if ([m0].any fun x => x == false) = true then 13 else 0)
   cases [m0].any (· == false)
   all_goals
    repeat (first | refine za6 ?_ | refine za0 rfl ?_ | refine za3 ?_ | refine za2 ?_ | refine zab ?_ | refine zb0 rfl ?_ | refine zb8 rfl ?_ | refine zam ?_ | refine za5 ?_ | refine za4 rfl ?_)
    exact zak ⟨.inr rfl, _, rfl, rfl⟩
  ·have p3 := zep [m0, m1] (by simp) false
   repeat (first | refine za6 ?_ | refine za0 rfl ?_ | refine za3 ?_ | refine za2 ?_ | refine zab ?_ | refine zb8 rfl ?_ | refine za8 rfl rfl ?_ | refine zah rfl rfl rfl ?_)
   refine zin rfl rfl rfl rfl rfl (by decide) ?_
   refine zau rfl rfl p3 (fun _ => rfl) ?_
   show Om _ _ _ _ _ _ _ _ fun e S' => (e = Exit.normal ∨ e = Exit.ret) ∧ ∃ v0, _ ∧ _ = AV.int IntKind.i64 (if ([m0, m1].any fun x => x == false) = true then 13 else 0)
   cases [m0, m1].any (· == false)
   all_goals
    repeat (first | refine za6 ?_ | refine za0 rfl ?_ | refine za3 ?_ | refine za2 ?_ | refine zab ?_ | refine zb0 rfl ?_ | refine zb8 rfl ?_ | refine zam ?_ | refine za5 ?_ | refine za4 rfl ?_)
    exact zak ⟨.inr rfl, _, rfl, rfl⟩
  ·have p3 := zep [m0, m1, m2] (by simp) false
   repeat (first | refine za6 ?_ | refine za0 rfl ?_ | refine za3 ?_ | refine za2 ?_ | refine zab ?_ | refine zb8 rfl ?_ | refine za8 rfl rfl ?_ | refine zah rfl rfl rfl ?_)
   refine zin rfl rfl rfl rfl rfl (by decide) ?_
   refine zau rfl rfl p3 (fun _ => rfl) ?_
   show Om _ _ _ _ _ _ _ _ fun e S' => (e = Exit.normal ∨ e = Exit.ret) ∧ ∃ v0, _ ∧ _ = AV.int IntKind.i64 (if ([m0, m1, m2].any fun x => x == false) = true then 13 else 0)
   cases [m0, m1, m2].any (· == false)
   all_goals
    repeat (first | refine za6 ?_ | refine za0 rfl ?_ | refine za3 ?_ | refine za2 ?_ | refine zab ?_ | refine zb0 rfl ?_ | refine zb8 rfl ?_ | refine zam ?_ | refine za5 ?_ | refine za4 rfl ?_)
    exact zak ⟨.inr rfl, _, rfl, rfl⟩
  ·have p3 := zep [m0, m1, m2, m3] (by simp) false
   repeat (first | refine za6 ?_ | refine za0 rfl ?_ | refine za3 ?_ | refine za2 ?_ | refine zab ?_ | refine zb8 rfl ?_ | refine za8 rfl rfl ?_ | refine zah rfl rfl rfl ?_)
   refine zin rfl rfl rfl rfl rfl (by decide) ?_
   refine zau rfl rfl p3 (fun _ => rfl) ?_
   show Om _ _ _ _ _ _ _ _ fun e S' => (e = Exit.normal ∨ e = Exit.ret) ∧ ∃ v0, _ ∧ _ = AV.int IntKind.i64 (if ([m0, m1, m2, m3].any fun x => x == false) = true then 13 else 0)
   cases [m0, m1, m2, m3].any (· == false)
   all_goals
    repeat (first | refine za6 ?_ | refine za0 rfl ?_ | refine za3 ?_ | refine za2 ?_ | refine zab ?_ | refine zb0 rfl ?_ | refine zb8 rfl ?_ | refine zam ?_ | refine za5 ?_ | refine za4 rfl ?_)
    exact zak ⟨.inr rfl, _, rfl, rfl⟩
  ·have p3 := zep [m0, m1, m2, m3, m4] (by simp) false
   repeat (first | refine za6 ?_ | refine za0 rfl ?_ | refine za3 ?_ | refine za2 ?_ | refine zab ?_ | refine zb8 rfl ?_ | refine za8 rfl rfl ?_ | refine zah rfl rfl rfl ?_)
   refine zin rfl rfl rfl rfl rfl (by decide) ?_
   refine zau rfl rfl p3 (fun _ => rfl) ?_
   show Om _ _ _ _ _ _ _ _ fun e S' => (e = Exit.normal ∨ e = Exit.ret) ∧ ∃ v0, _ ∧ _ = AV.int IntKind.i64 (if ([m0, m1, m2, m3, m4].any fun x => x == false) = true then 13 else 0)
   cases [m0, m1, m2, m3, m4].any (· == false)
   all_goals
    repeat (first | refine za6 ?_ | refine za0 rfl ?_ | refine za3 ?_ | refine za2 ?_ | refine zab ?_ | refine zb0 rfl ?_ | refine zb8 rfl ?_ | refine zam ?_ | refine za5 ?_ | refine za4 rfl ?_)
    exact zak ⟨.inr rfl, _, rfl, rfl⟩
  ·have p3 := zep [m0, m1, m2, m3, m4, m5] (by simp) false
   repeat (first | refine za6 ?_ | refine za0 rfl ?_ | refine za3 ?_ | refine za2 ?_ | refine zab ?_ | refine zb8 rfl ?_ | refine za8 rfl rfl ?_ | refine zah rfl rfl rfl ?_)
   refine zin rfl rfl rfl rfl rfl (by decide) ?_
   refine zau rfl rfl p3 (fun _ => rfl) ?_
   show Om _ _ _ _ _ _ _ _ fun e S' => (e = Exit.normal ∨ e = Exit.ret) ∧ ∃ v0, _ ∧ _ = AV.int IntKind.i64 (if ([m0, m1, m2, m3, m4, m5].any fun x => x == false) = true then 13 else 0)
   cases [m0, m1, m2, m3, m4, m5].any (· == false)
   all_goals
    repeat (first | refine za6 ?_ | refine za0 rfl ?_ | refine za3 ?_ | refine za2 ?_ | refine zab ?_ | refine zb0 rfl ?_ | refine zb8 rfl ?_ | refine zam ?_ | refine za5 ?_ | refine za4 rfl ?_)
    exact zak ⟨.inr rfl, _, rfl, rfl⟩
end
end Go.Proofs.Ytoiblgbaeglgoaa
