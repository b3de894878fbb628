/-
  WAYS OF ACTUATORS, SMALL SEQUENCES: ref13.Way, ref14.moves, ref14.Few.
-/
import Derived.Test.YtoiblgbaeglgoaaXS1
namespace Go.Proofs.Ytoiblgbaeglgoaa
open Go Go.Am
def zg4 (a : Int) : List Sk → Int
 | [] => 0
 | s :: r => if (s.a == a) = true then (if s.o = true then 1 else -1) else zg4 a r
def b24_0 : IC := .seq (.seq (.region [⟨(some 6), .mov (.t 5), none⟩,
  ⟨(some 7), .faddr 0 (.t 2), none⟩,
  ⟨(some 8), .load none (.t 7), none⟩,
  ⟨(some 9), .len false (.t 8), none⟩,
  ⟨(some 10), .bin .lss (.t 6) (.t 9), none⟩] none)
 (.cond (.t 10) (.skip)
 (.exit 0)))
 (.seq (.block 1 (.seq (.region [⟨(some 13), .faddr 0 (.t 2), none⟩,
  ⟨(some 14), .load none (.t 13), none⟩,
  ⟨(some 15), .mov (.t 5), none⟩,
  ⟨(some 16), .idxs 2 (.t 14) (.t 15), none⟩,
  ⟨(some 17), .faddr 0 (.t 16), none⟩,
  ⟨(some 18), .load none (.t 17), none⟩,
  ⟨(some 19), .mov (.t 1), none⟩,
  ⟨(some 20), .bin .eql (.t 18) (.t 19), none⟩] none)
 (.cond (.t 20) (.seq (.seq (.region [⟨(some 21), .faddr 0 (.t 2), none⟩,
  ⟨(some 22), .load none (.t 21), none⟩,
  ⟨(some 23), .mov (.t 5), none⟩,
  ⟨(some 24), .idxs 2 (.t 22) (.t 23), none⟩,
  ⟨(some 25), .faddr 1 (.t 24), none⟩,
  ⟨(some 26), .load none (.t 25), none⟩] none)
 (.cond (.t 26) (.seq (.region [⟨(some 4), .mov (.c (.int .i64 1)), none⟩] none)
 (.ret))
 (.skip)))
 (.seq (.region [⟨(some 4), .mov (.c (.int .i64 (-1))), none⟩] none)
 (.ret)))
 (.skip))))
 (.region [⟨(some 11), .mov (.t 5), none⟩,
  ⟨(some 12), .bin .add (.t 11) (.c (.int .i64 1)), none⟩,
  ⟨(some 5), .mov (.t 12), none⟩] none))
-- pneumatic/pneumaticref13.Way
def ic24 : IC := .seq (.region [⟨(some 2), .box (.t 0), none⟩,
  ⟨(some 4), .mov (.c (.int .i64 0)), none⟩] none)
 (.seq (.seq (.region [⟨(some 5), .mov (.c (.int .i64 0)), none⟩] none)
 (.block 0 (.loop b24_0)))
 (.seq (.region [⟨(some 4), .mov (.c (.int .i64 0)), none⟩] none)
 (.ret)))
theorem fn24 : env0.fn 24 = some ⟨27, ic24, [.t 4]⟩ := by kernel_rfl
set_option maxHeartbeats 1000000 in
theorem way33 (p : Sp) (hl : p.l.length ≤ 1000000) (a : Int) : PF Try.prog 24 [.agg (cP p), .int .i64 a] (.int .i64 (zg4 a p.l)) := by
 obtain ⟨l, w⟩ := p
 have hl : l.length ≤ 1000000 := hl
 have hcl : (cSs l).length = l.length := zc7 l
 refine zbc env0_ok fn24 [(0, .agg [.vs (cSs l), .int .i64 w]), (1, .int .i64 a)] (by show 2 ≤ 27; decide) rfl fun w0 N0 => ?_
 unfold ic24
 repeat (first | refine za6 ?_ | refine za0 rfl ?_ | refine za3 ?_ | refine za2 ?_ | refine zad ?_ | refine za4 rfl ?_ | refine zby rfl rfl ?_)
 refine zbq (fun mm S => ∃ i, mm = l.length - i ∧ i ≤ l.length ∧ zg4 a l = zg4 a (l.drop i) ∧
   S = st 27 [(1, .int .i64 a), (2, .vptr [.vs (cSs l), .int .i64 w]), (5, .int .i64 (i : Nat))] [] 0 1) l.length
  (zbk [] [(0, 0, [.vs (cSs l), .int .i64 w])] rfl rfl rfl (.cons rfl rfl .nil) .nil (l' := [(1, .int .i64 a), (2, .vptr [.vs (cSs l), .int .i64 w]), (5, .int .i64 ((0 : Nat) : Int))]) (.cons rfl (.same rfl) (.cons rfl (.fptr rfl rfl) (.cons rfl (.same rfl) .nil)))) ⟨0, rfl, Nat.zero_le _, rfl, rfl⟩ ?_
 rintro mm S ⟨i, rfl, hi, hall, rfl⟩
 unfold b24_0
 repeat (first | refine za6 ?_ | refine za0 rfl ?_ | refine za4 rfl ?_ | refine za8 rfl rfl ?_ | refine zah rfl rfl rfl ?_ | refine zb9 rfl rfl ?_)
 refine zar rfl rfl rfl (fun h3 => ?_) fun h3 => ?_
 ·have hlt : i < l.length := by
   have : ((i : Nat) : Int) < ((cSs l).length : Nat) := of_decide_eq_true h3
   rw [hcl] at this
   omega
  have hd : l.drop i = l[i] :: l.drop (i + 1) := List.drop_eq_getElem_cons hlt
  rw [hd, zg4] at hall
  have hg := zdm hlt
  generalize l[i] = s at hall hg
  obtain ⟨b, o⟩ := s
  have hg : (cSs l)[((i : Nat) : Int).toNat]? = some [.int .i64 b, .bool o] := hg
  have hall : zg4 a l = if (b == a) = true then (if o = true then 1 else -1) else zg4 a (l.drop (i + 1)) := hall
  repeat (first | refine za6 ?_ | refine za0 rfl ?_ | refine za3 ?_ | refine za2 ?_ | refine zad ?_ | refine zab ?_ | refine zb0 rfl ?_ | refine za4 rfl ?_ | refine za8 rfl rfl ?_ | refine zah rfl rfl rfl ?_ | refine zb1 rfl rfl (by omega) (by assumption) rfl ?_)
  refine zar rfl rfl rfl (fun h4 => ?_) fun h4 => ?_
  ·rw [if_pos h4] at hall
   rw [hall]
   cases o
   all_goals
    repeat (first | refine za6 ?_ | refine za0 rfl ?_ | refine za3 ?_ | refine za2 ?_ | refine zab ?_ | refine zb0 rfl ?_ | refine zb8 rfl ?_ | refine zam ?_ | refine za5 ?_ | refine zaa ?_ | refine za4 rfl ?_ | refine za8 rfl rfl ?_ | refine zah rfl rfl rfl ?_ | refine zb1 rfl rfl (by omega) (by assumption) rfl ?_)
    refine zb2 ?_
    repeat (first | refine za5 ?_ | refine zaa ?_)
    exact zak ⟨.inr rfl, _, rfl, rfl⟩
  ·rw [if_neg (by rw [h4]; decide)] at hall
   repeat (first | refine za0 rfl ?_ | refine za3 ?_ | refine za2 ?_ | refine zb6 ?_ | refine zab ?_ | refine zb8 rfl ?_ | refine za4 rfl ?_ | refine zay (op := .add) rfl rfl rfl ?_)
   rw [zaq i (by omega)]
   exact zat (show l.length - (i + 1) < l.length - i by omega) (zao (.cons rfl (.cons rfl (.cons rfl .nil)))) ⟨i + 1, rfl, hlt, hall, rfl⟩
 ·have hi2 : i = l.length := by
   have : ¬ ((i : Nat) : Int) < ((cSs l).length : Nat) := of_decide_eq_false h3
   rw [hcl] at this
   omega
  rw [hi2, List.drop_length, zg4] at hall
  rw [hall]
  repeat (first | refine za3 ?_ | refine za2 ?_ | refine zb8 rfl ?_ | refine zbb ?_ | refine zaj ?_)
  refine zcl ?_
  repeat (first | refine za6 ?_ | refine za0 rfl ?_ | refine za3 ?_ | refine za2 ?_ | refine zam ?_ | refine zba ?_ | refine za4 rfl ?_)
  exact zak ⟨.inr rfl, _, rfl, rfl⟩
def zna (a : Int) : List Sp → Bool
 | [] => false
 | p :: r => if (zg4 a p.l != 0) = true then true else zna a r
def b87_0 : IC := .seq (.seq (.region [⟨(some 6), .mov (.t 5), none⟩,
  ⟨(some 7), .faddr 1 (.t 2), none⟩,
  ⟨(some 8), .load none (.t 7), none⟩,
  ⟨(some 9), .len false (.t 8), none⟩,
  ⟨(some 10), .bin .lss (.t 6) (.t 9), none⟩] none)
 (.cond (.t 10) (.skip)
 (.exit 0)))
 (.seq (.block 1 (.seq (.region [⟨(some 13), .faddr 1 (.t 2), none⟩,
  ⟨(some 14), .load none (.t 13), none⟩,
  ⟨(some 15), .mov (.t 5), none⟩,
  ⟨(some 16), .idxs 2 (.t 14) (.t 15), none⟩,
  ⟨(some 17), .load (some 2) (.t 16), none⟩,
  ⟨(some 18), .mov (.t 1), none⟩,
  ⟨(some 19), .call (.c (.fn 24 [] [])) [(.t 17), (.t 18)], none⟩,
  ⟨(some 20), .bin .neq (.t 19) (.c (.int .i64 0)), none⟩] none)
 (.cond (.t 20) (.seq (.region [⟨(some 4), .mov (.c (.bool true)), none⟩] none)
 (.ret))
 (.skip))))
 (.region [⟨(some 11), .mov (.t 5), none⟩,
  ⟨(some 12), .bin .add (.t 11) (.c (.int .i64 1)), none⟩,
  ⟨(some 5), .mov (.t 12), none⟩] none))
-- pneumatic/pneumaticref14.moves
def ic87 : IC := .seq (.region [⟨(some 2), .box (.t 0), none⟩,
  ⟨(some 4), .mov (.c (.bool false)), none⟩] none)
 (.seq (.seq (.region [⟨(some 5), .mov (.c (.int .i64 0)), none⟩] none)
 (.block 0 (.loop b87_0)))
 (.seq (.region [⟨(some 4), .mov (.c (.bool false)), none⟩] none)
 (.ret)))
theorem fn87 : env0.fn 87 = some ⟨21, ic87, [.t 4]⟩ := by kernel_rfl
set_option maxHeartbeats 1000000 in
theorem moves62 (n : Int) (l : List Sp) (hl : l.length ≤ 1000000) (hs : ∀ p ∈ l, p.l.length ≤ 1000000) (a : Int) : PF Try.prog 87 [.agg (cQ n l), .int .i64 a] (.bool (zna a l)) := by
 have hcl : (cPs l).length = l.length := zdb l
 refine zbc env0_ok fn87 [(0, .agg [.int .i64 n, .vs (cPs l)]), (1, .int .i64 a)] (by show 2 ≤ 21; decide) rfl fun w0 N0 => ?_
 unfold ic87
 repeat (first | refine za6 ?_ | refine za0 rfl ?_ | refine za3 ?_ | refine za2 ?_ | refine zad ?_ | refine za4 rfl ?_ | refine zby rfl rfl ?_)
 refine zbq (fun mm S => ∃ i, mm = l.length - i ∧ i ≤ l.length ∧ zna a l = zna a (l.drop i) ∧
   S = st 21 [(1, .int .i64 a), (2, .vptr [.int .i64 n, .vs (cPs l)]), (5, .int .i64 (i : Nat))] [] 0 1) l.length
  (zbk [] [(0, 0, [.int .i64 n, .vs (cPs l)])] rfl rfl rfl (.cons rfl rfl .nil) .nil (l' := [(1, .int .i64 a), (2, .vptr [.int .i64 n, .vs (cPs l)]), (5, .int .i64 ((0 : Nat) : Int))]) (.cons rfl (.same rfl) (.cons rfl (.fptr rfl rfl) (.cons rfl (.same rfl) .nil)))) ⟨0, rfl, Nat.zero_le _, rfl, rfl⟩ ?_
 rintro mm S ⟨i, rfl, hi, hall, rfl⟩
 unfold b87_0
 repeat (first | refine za6 ?_ | refine za0 rfl ?_ | refine za4 rfl ?_ | refine za8 rfl rfl ?_ | refine zah rfl rfl rfl ?_ | refine zb9 rfl rfl ?_)
 refine zar rfl rfl rfl (fun h3 => ?_) fun h3 => ?_
 ·have hlt : i < l.length := by
   have : ((i : Nat) : Int) < ((cPs l).length : Nat) := of_decide_eq_true h3
   rw [hcl] at this
   omega
  have hd : l.drop i = l[i] :: l.drop (i + 1) := List.drop_eq_getElem_cons hlt
  rw [hd, zna] at hall
  have hg := zh4 hlt
  have h33 := way33 l[i] (hs _ (List.getElem_mem hlt)) a
  generalize l[i] = p at hall hg h33
  obtain ⟨q, w⟩ := p
  have hg : (cPs l)[((i : Nat) : Int).toNat]? = some [.vs (cSs q), .int .i64 w] := hg
  have h33 : PF Try.prog 24 [.agg [.vs (cSs q), .int .i64 w], .int .i64 a] (.int .i64 (zg4 a q)) := h33
  have hall : zna a l = if (zg4 a q != 0) = true then true else zna a (l.drop (i + 1)) := hall
  generalize zg4 a q = z at h33 hall
  repeat (first | refine za6 ?_ | refine za0 rfl ?_ | refine za3 ?_ | refine za2 ?_ | refine zad ?_ | refine zab ?_ | refine zb0 rfl ?_ | refine za4 rfl ?_ | refine za8 rfl rfl ?_ | refine zas rfl rfl rfl rfl ?_ | refine zah rfl rfl rfl ?_ | refine zb1 rfl rfl (by omega) (by assumption) rfl ?_)
  refine zau rfl rfl h33 (fun h => Bool.noConfusion (show false = true from h)) ?_
  refine zar rfl rfl rfl (fun h4 => ?_) fun h4 => ?_
  ·rw [if_pos h4] at hall
   rw [hall]
   repeat (first | refine za6 ?_ | refine za0 rfl ?_ | refine za3 ?_ | refine za2 ?_ | refine zb0 rfl ?_ | refine zam ?_ | refine za5 ?_ | refine zaa ?_ | refine za4 rfl ?_)
   refine zb2 ?_
   repeat (first | refine za5 ?_ | refine zaa ?_)
   exact zak ⟨.inr rfl, _, rfl, rfl⟩
  ·rw [if_neg (by rw [h4]; decide)] at hall
   repeat (first | refine za0 rfl ?_ | refine za3 ?_ | refine za2 ?_ | refine zb6 ?_ | refine zab ?_ | refine zb8 rfl ?_ | refine za4 rfl ?_ | refine zay (op := .add) rfl rfl rfl ?_)
   rw [zaq i (by omega)]
   exact zat (show l.length - (i + 1) < l.length - i by omega) (zao (.cons rfl (.cons rfl (.cons rfl .nil)))) ⟨i + 1, rfl, hlt, hall, rfl⟩
 ·have hi2 : i = l.length := by
   have : ¬ ((i : Nat) : Int) < ((cPs l).length : Nat) := of_decide_eq_false h3
   rw [hcl] at this
   omega
  rw [hi2, List.drop_length, zna] at hall
  rw [hall]
  repeat (first | refine za3 ?_ | refine za2 ?_ | refine zb8 rfl ?_ | refine zbb ?_ | refine zaj ?_)
  refine zcl ?_
  repeat (first | refine za6 ?_ | refine za0 rfl ?_ | refine za3 ?_ | refine za2 ?_ | refine zam ?_ | refine zba ?_ | refine za4 rfl ?_)
  exact zak ⟨.inr rfl, _, rfl, rfl⟩
def fewS (l : List Sp) : Bool := decide (l.length ≤ 128) && l.all fun p => decide (p.l.length ≤ 40)
end Go.Proofs.Ytoiblgbaeglgoaa
