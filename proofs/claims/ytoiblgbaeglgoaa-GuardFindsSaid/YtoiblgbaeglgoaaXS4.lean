/-
  SMALL SEQUENCES; STROKES THAT SUIT: ref14.Few, ref13.Suits.
-/
import Derived.Test.YtoiblgbaeglgoaaXS2
namespace Go.Proofs.Ytoiblgbaeglgoaa
open Go Go.Am
def b16_0 : IC := .seq (.seq (.region [⟨(some 8), .mov (.t 3), none⟩,
  ⟨(some 9), .faddr 1 (.t 1), none⟩,
  ⟨(some 10), .load none (.t 9), none⟩,
  ⟨(some 11), .len false (.t 10), none⟩,
  ⟨(some 12), .bin .lss (.t 8) (.t 11), none⟩] none)
 (.cond (.t 12) (.skip)
 (.exit 0)))
 (.seq (.block 1 (.seq (.region [⟨(some 15), .faddr 1 (.t 1), none⟩,
  ⟨(some 16), .load none (.t 15), none⟩,
  ⟨(some 17), .mov (.t 3), none⟩,
  ⟨(some 18), .idxs 2 (.t 16) (.t 17), none⟩,
  ⟨(some 19), .faddr 0 (.t 18), none⟩,
  ⟨(some 20), .load none (.t 19), none⟩,
  ⟨(some 21), .len false (.t 20), none⟩,
  ⟨(some 22), .bin .gtr (.t 21) (.c (.int .i64 40)), none⟩] none)
 (.cond (.t 22) (.seq (.region [⟨(some 2), .mov (.c (.bool false)), none⟩] none)
 (.ret))
 (.skip))))
 (.region [⟨(some 13), .mov (.t 3), none⟩,
  ⟨(some 14), .bin .add (.t 13) (.c (.int .i64 1)), none⟩,
  ⟨(some 3), .mov (.t 14), none⟩] none))
-- pneumatic/pneumaticref14.Few
def ic16 : IC := .seq (.region [⟨(some 1), .box (.t 0), none⟩,
  ⟨(some 2), .mov (.c (.bool false)), none⟩] none)
 (.seq (.seq (.region [⟨(some 4), .faddr 1 (.t 1), none⟩,
  ⟨(some 5), .load none (.t 4), none⟩,
  ⟨(some 6), .len false (.t 5), none⟩,
  ⟨(some 7), .bin .gtr (.t 6) (.c (.int .i64 128)), none⟩] none)
 (.cond (.t 7) (.seq (.region [⟨(some 2), .mov (.c (.bool false)), none⟩] none)
 (.ret))
 (.skip)))
 (.seq (.seq (.region [⟨(some 3), .mov (.c (.int .i64 0)), none⟩] none)
 (.block 0 (.loop b16_0)))
 (.seq (.region [⟨(some 2), .mov (.c (.bool true)), none⟩] none)
 (.ret))))
theorem fn16 : env0.fn 16 = some ⟨23, ic16, [.t 2]⟩ := by kernel_rfl
theorem few12 (n : Int) (l : List Sp) (hlen : l.length < 9223372036854775808) : PF Try.prog 16 [.agg (cQ n l)] (.bool (fewS l)) := by
 have hcl : (cPs l).length = l.length := zdb l
 refine zbc env0_ok fn16 [(0, .agg [.int .i64 n, .vs (cPs l)])] (by show 1 ≤ 23; decide) rfl fun w0 N0 => ?_
 unfold ic16
 repeat (first | refine za6 ?_ | refine za0 rfl ?_ | refine za3 ?_ | refine za2 ?_ | refine za4 rfl ?_ | refine za8 rfl rfl ?_ | refine zac rfl ?_ | refine zb9 rfl rfl ?_ | refine zby rfl rfl ?_)
 refine zar rfl rfl rfl (fun h => ?_) fun h => ?_
 ·have h : (((cPs l).length : Nat) : Int) > 128 := of_decide_eq_true h
  rw [show fewS l = false from by unfold fewS; rw [decide_eq_false (by omega), Bool.false_and]]
  repeat (first | refine za6 ?_ | refine za0 rfl ?_ | refine za3 ?_ | refine za2 ?_ | refine zb0 rfl ?_ | refine zam ?_ | refine za5 ?_ | refine za4 rfl ?_)
  exact zak ⟨.inr rfl, _, rfl, rfl⟩
 have h : ¬ (((cPs l).length : Nat) : Int) > 128 := of_decide_eq_false h
 have hf : fewS l = l.all fun p => decide (p.l.length ≤ 40) := by unfold fewS; rw [decide_eq_true (by omega), Bool.true_and]
 rw [hf]
 repeat (first | refine za6 ?_ | refine za0 rfl ?_ | refine za3 ?_ | refine za2 ?_ | refine zad ?_ | refine zab ?_ | refine zb8 rfl ?_ | refine za4 rfl ?_)
 refine zbq (fun mm S => ∃ i, mm = l.length - i ∧ i ≤ l.length ∧ (l.all fun p => decide (p.l.length ≤ 40)) = ((l.drop i).all fun p => decide (p.l.length ≤ 40)) ∧
   S = st 23 [(1, .vptr [.int .i64 n, .vs (cPs l)]), (3, .int .i64 (i : Nat))] [] 0 1) l.length
  (zbk [] [(0, 0, [.int .i64 n, .vs (cPs l)])] rfl rfl rfl (.cons rfl rfl .nil) .nil (l' := [(1, .vptr [.int .i64 n, .vs (cPs l)]), (3, .int .i64 ((0 : Nat) : Int))]) (.cons rfl (.fptr rfl rfl) (.cons rfl (.same rfl) .nil))) ⟨0, rfl, Nat.zero_le _, rfl, rfl⟩ ?_
 rintro mm S ⟨i, rfl, hi, hall, rfl⟩
 unfold b16_0
 repeat (first | refine za6 ?_ | refine za0 rfl ?_ | refine za4 rfl ?_ | refine za8 rfl rfl ?_ | refine zah rfl rfl rfl ?_ | refine zb9 rfl rfl ?_)
 refine zar rfl rfl rfl (fun h3 => ?_) fun h3 => ?_
 ·have hlt : i < l.length := by
   have : ((i : Nat) : Int) < ((cPs l).length : Nat) := of_decide_eq_true h3
   rw [hcl] at this
   omega
  have hd : l.drop i = l[i] :: l.drop (i + 1) := List.drop_eq_getElem_cons hlt
  rw [hd, List.all_cons] at hall
  have hg := zh4 hlt
  generalize l[i] = p at hall hg
  obtain ⟨q, w⟩ := p
  have hg : (cPs l)[((i : Nat) : Int).toNat]? = some [.vs (cSs q), .int .i64 w] := hg
  have hall : (l.all fun p => decide (p.l.length ≤ 40)) = (decide (q.length ≤ 40) && (l.drop (i + 1)).all fun p => decide (p.l.length ≤ 40)) := hall
  have hcq : (cSs q).length = q.length := zc7 q
  repeat (first | refine za6 ?_ | refine za0 rfl ?_ | refine za3 ?_ | refine za2 ?_ | refine zad ?_ | refine zab ?_ | refine zb0 rfl ?_ | refine za4 rfl ?_ | refine za8 rfl rfl ?_ | refine zah rfl rfl rfl ?_ | refine zb9 rfl rfl ?_ | refine zb1 rfl rfl (by omega) (by assumption) rfl ?_)
  refine zar rfl rfl rfl (fun h4 => ?_) fun h4 => ?_
  ·have h4 : (((cSs q).length : Nat) : Int) > 40 := of_decide_eq_true h4
   rw [decide_eq_false (show ¬ q.length ≤ 40 by omega), Bool.false_and] at hall
   rw [hall]
   repeat (first | refine za6 ?_ | refine za0 rfl ?_ | refine za3 ?_ | refine za2 ?_ | refine zb0 rfl ?_ | refine zam ?_ | refine za5 ?_ | refine zaa ?_ | refine za4 rfl ?_)
   refine zb2 ?_
   repeat (first | refine za5 ?_ | refine zaa ?_)
   exact zak ⟨.inr rfl, _, rfl, rfl⟩
  ·have h4 : ¬ (((cSs q).length : Nat) : Int) > 40 := of_decide_eq_false h4
   rw [decide_eq_true (show q.length ≤ 40 by omega), Bool.true_and] at hall
   repeat (first | refine za0 rfl ?_ | refine za3 ?_ | refine za2 ?_ | refine zb6 ?_ | refine zab ?_ | refine zb8 rfl ?_ | refine za4 rfl ?_ | refine zay (op := .add) rfl rfl rfl ?_)
   rw [zaq i (by omega)]
   exact zat (show l.length - (i + 1) < l.length - i by omega) (zao (.cons rfl (.cons rfl .nil))) ⟨i + 1, rfl, hlt, hall, rfl⟩
 ·have hi2 : i = l.length := by
   have : ¬ ((i : Nat) : Int) < ((cPs l).length : Nat) := of_decide_eq_false h3
   rw [hcl] at this
   omega
  rw [hi2, List.drop_length, List.all_nil] at hall
  rw [hall]
  repeat (first | refine za3 ?_ | refine za2 ?_ | refine zb8 rfl ?_ | refine zbb ?_ | refine zaj ?_)
  refine zcl ?_
  repeat (first | refine za6 ?_ | refine za0 rfl ?_ | refine za3 ?_ | refine za2 ?_ | refine zam ?_ | refine zba ?_ | refine za4 rfl ?_)
  exact zak ⟨.inr rfl, _, rfl, rfl⟩
def zd2 (x : List Bool) (l : List Sk) : Bool := l.all fun s => !(x.getD s.a.toNat false == s.o)
theorem vsB_get {x : List Bool} {a : Int} (h0 : 0 ≤ a) (h : a.toNat < x.length) : (x.map fun b => ([.bool b] : List AV))[a.toNat]? = some [.bool (x.getD a.toNat false)] := by
 rw [List.getElem?_map, List.getElem?_eq_getElem h, List.getD_eq_getElem?_getD, List.getElem?_eq_getElem h]
 rfl
def b137_0 : IC := .seq (.seq (.region [⟨(some 7), .mov (.t 5), none⟩,
  ⟨(some 8), .faddr 0 (.t 2), none⟩,
  ⟨(some 9), .load none (.t 8), none⟩,
  ⟨(some 10), .len false (.t 9), none⟩,
  ⟨(some 11), .bin .lss (.t 7) (.t 10), none⟩] none)
 (.cond (.t 11) (.skip)
 (.exit 0)))
 (.seq (.block 1 (.seq (.region [⟨(some 14), .faddr 0 (.t 2), none⟩,
  ⟨(some 15), .load none (.t 14), none⟩,
  ⟨(some 16), .mov (.t 5), none⟩,
  ⟨(some 17), .idxs 2 (.t 15) (.t 16), none⟩,
  ⟨(some 18), .load (some 2) (.t 17), none⟩,
  ⟨(some 6), .alloc [.int .i64 0, .bool false], none⟩,
  ⟨none, .store 2 (.t 6) (.t 18), none⟩] none)
 (.seq (.region [⟨(some 19), .faddr 0 (.t 6), none⟩,
  ⟨(some 20), .load none (.t 19), none⟩,
  ⟨(some 21), .mov (.t 1), none⟩,
  ⟨(some 22), .len false (.t 21), none⟩,
  ⟨(some 23), .bin .geq (.t 20) (.t 22), none⟩,
  ⟨(some 24), .mov (.t 23), none⟩,
  ⟨(some 25), .mov (.t 1), some (24, false)⟩,
  ⟨(some 26), .faddr 0 (.t 6), some (24, false)⟩,
  ⟨(some 27), .load none (.t 26), some (24, false)⟩,
  ⟨(some 28), .idxs 1 (.t 25) (.t 27), some (24, false)⟩,
  ⟨(some 29), .load none (.t 28), some (24, false)⟩,
  ⟨(some 30), .faddr 1 (.t 6), some (24, false)⟩,
  ⟨(some 31), .load none (.t 30), some (24, false)⟩,
  ⟨(some 32), .eqb false (.t 29) (.t 31), some (24, false)⟩,
  ⟨(some 33), .pick (.t 24) (.c (.bool true)) (.t 32), none⟩] (some [[], [0], [], [2], [1, 3], [4], [5], [5], [7, 5], [6, 8, 5], [9, 5], [5], [11, 5], [10, 12, 5], [5, 13]]))
 (.cond (.t 33) (.seq (.region [⟨(some 4), .mov (.c (.bool false)), none⟩] none)
 (.ret))
 (.skip)))))
 (.region [⟨(some 12), .mov (.t 5), none⟩,
  ⟨(some 13), .bin .add (.t 12) (.c (.int .i64 1)), none⟩,
  ⟨(some 5), .mov (.t 13), none⟩] none))
-- pneumatic/pneumaticref13.Suits
def ic137 : IC := .seq (.region [⟨(some 2), .box (.t 0), none⟩,
  ⟨(some 4), .mov (.c (.bool false)), none⟩] none)
 (.seq (.seq (.region [⟨(some 5), .mov (.c (.int .i64 0)), none⟩] none)
 (.block 0 (.loop b137_0)))
 (.seq (.region [⟨(some 4), .mov (.c (.bool true)), none⟩] none)
 (.ret)))
theorem fn137 : env0.fn 137 = some ⟨34, ic137, [.t 4]⟩ := by kernel_rfl
theorem suits91 (p : Sp) (x : List Bool) (hl : p.l.length ≤ 1000000) (hx : x.length ≤ 100) (ha : ∀ s ∈ p.l, 0 ≤ s.a ∧ s.a < x.length) : PF Try.prog 137 [.agg (cP p), vsB x] (.bool (zd2 x p.l)) := by
 obtain ⟨l, w⟩ := p
 have hl : l.length ≤ 1000000 := hl
 have ha : ∀ s ∈ l, 0 ≤ s.a ∧ s.a < x.length := ha
 have hcl : (cSs l).length = l.length := zc7 l
 have hcx : (x.map fun b => ([.bool b] : List AV)).length = x.length := List.length_map ..
 refine zbc env0_ok fn137 [(0, .agg [.vs (cSs l), .int .i64 w]), (1, vsB x)] (by show 2 ≤ 34; decide) rfl fun w0 N0 => ?_
 unfold ic137
 repeat (first | refine za6 ?_ | refine za0 rfl ?_ | refine za3 ?_ | refine za2 ?_ | refine zad ?_ | refine za4 rfl ?_ | refine zby rfl rfl ?_)
 refine zbq (fun mm S => ∃ i, mm = l.length - i ∧ i ≤ l.length ∧ zd2 x l = zd2 x (l.drop i) ∧
   S = st 34 [(1, vsB x), (2, .vptr [.vs (cSs l), .int .i64 w]), (5, .int .i64 (i : Nat))] [] 0 1) l.length
  (zbk [] [(0, 0, [.vs (cSs l), .int .i64 w])] rfl rfl rfl (.cons rfl rfl .nil) .nil (l' := [(1, vsB x), (2, .vptr [.vs (cSs l), .int .i64 w]), (5, .int .i64 ((0 : Nat) : Int))]) (.cons rfl (.same rfl) (.cons rfl (.fptr rfl rfl) (.cons rfl (.same rfl) .nil)))) ⟨0, rfl, Nat.zero_le _, rfl, rfl⟩ ?_
 rintro mm S ⟨i, rfl, hi, hall, rfl⟩
 unfold b137_0
 repeat (first | refine za6 ?_ | refine za0 rfl ?_ | refine za4 rfl ?_ | refine za8 rfl rfl ?_ | refine zah rfl rfl rfl ?_ | refine zb9 rfl rfl ?_)
 refine zar rfl rfl rfl (fun h3 => ?_) fun h3 => ?_
 ·have hlt : i < l.length := by
   have : ((i : Nat) : Int) < ((cSs l).length : Nat) := of_decide_eq_true h3
   rw [hcl] at this
   omega
  have hd : l.drop i = l[i] :: l.drop (i + 1) := List.drop_eq_getElem_cons hlt
  rw [hd] at hall
  have hg := zdm hlt
  obtain ⟨ha0, ha1⟩ := ha _ (List.getElem_mem hlt)
  generalize l[i] = s at hall hg ha0 ha1
  obtain ⟨a, o⟩ := s
  have ha0 : 0 ≤ a := ha0
  have ha1 : a < x.length := ha1
  have hg : (cSs l)[((i : Nat) : Int).toNat]? = some [.int .i64 a, .bool o] := hg
  have hgx := vsB_get (x := x) ha0 (by omega)
  have hall : zd2 x l = (!(x.getD a.toNat false == o) && zd2 x (l.drop (i + 1))) := hall
  generalize x.getD a.toNat false = b at hgx hall
  repeat (first | refine za6 ?_ | refine za0 rfl ?_ | refine za3 ?_ | refine za2 ?_ | refine zad ?_ | refine zab ?_ | refine zb0 rfl ?_ | refine za4 rfl ?_ | refine za8 rfl rfl ?_ | refine zas rfl rfl rfl rfl ?_ | refine zal rfl rfl rfl rfl rfl rfl rfl ?_ | refine zac rfl ?_ | refine zah rfl rfl rfl ?_ | refine zax ?_ | refine zb9 rfl rfl ?_ | refine zbu env0_ok rfl rfl rfl ?_ | refine zb1 rfl rfl (by omega) (by assumption) rfl ?_)
  refine zar rfl rfl rfl (fun h4 => absurd (of_decide_eq_true h4) (by rw [hcx]; omega)) fun _ => ?_
  cases b <;> cases o
  all_goals
   repeat (first | refine za6 ?_ | refine za0 rfl ?_ | refine za3 ?_ | refine za2 ?_ | refine zb6 ?_ | refine zab ?_ | refine zb0 rfl ?_ | refine zb8 rfl ?_ | refine zam ?_ | refine za5 ?_ | refine zaa ?_ | refine zc5 rfl ?_ | refine za4 rfl ?_ | refine za8 rfl rfl ?_ | refine zac rfl ?_ | refine zag rfl rfl ?_ | refine zay (op := .add) rfl rfl rfl ?_ | refine zdv rfl rfl rfl ?_ | refine zdu rfl rfl rfl ?_ | refine zb1 rfl rfl (by omega) (by assumption) rfl ?_)
  ·have hall : zd2 x l = false := hall
   rw [hall]
   refine zb2 ?_
   repeat (first | refine za5 ?_ | refine zaa ?_)
   exact zak ⟨.inr rfl, _, rfl, rfl⟩
  ·have hall : zd2 x l = zd2 x (l.drop (i + 1)) := hall
   rw [zaq i (by omega)]
   exact zat (show l.length - (i + 1) < l.length - i by omega) (zbk [] [] rfl rfl rfl .nil .nil (.cons rfl (.same rfl) (.cons rfl (.same rfl) (.cons rfl (.same rfl) .nil)))) ⟨i + 1, rfl, hlt, hall, rfl⟩
  ·have hall : zd2 x l = zd2 x (l.drop (i + 1)) := hall
   rw [zaq i (by omega)]
   exact zat (show l.length - (i + 1) < l.length - i by omega) (zbk [] [] rfl rfl rfl .nil .nil (.cons rfl (.same rfl) (.cons rfl (.same rfl) (.cons rfl (.same rfl) .nil)))) ⟨i + 1, rfl, hlt, hall, rfl⟩
  ·have hall : zd2 x l = false := hall
   rw [hall]
   refine zb2 ?_
   repeat (first | refine za5 ?_ | refine zaa ?_)
   exact zak ⟨.inr rfl, _, rfl, rfl⟩
 ·have hi2 : i = l.length := by
   have : ¬ ((i : Nat) : Int) < ((cSs l).length : Nat) := of_decide_eq_false h3
   rw [hcl] at this
   omega
  rw [hi2, List.drop_length] at hall
  rw [hall]
  repeat (first | refine za3 ?_ | refine za2 ?_ | refine zb8 rfl ?_ | refine zbb ?_ | refine zaj ?_)
  refine zcl ?_
  repeat (first | refine za6 ?_ | refine za0 rfl ?_ | refine za3 ?_ | refine za2 ?_ | refine zam ?_ | refine zba ?_ | refine za4 rfl ?_)
  exact zak ⟨.inr rfl, _, rfl, rfl⟩
end Go.Proofs.Ytoiblgbaeglgoaa
