/-
  STROKES AND STEPS: stroke.CheckStep.
-/
import Derived.Test.YtoiblgbaeglgoaaXPA
namespace Go.Proofs.Ytoiblgbaeglgoaa
open Go Go.Am
structure Sk where
 a : Int
 o : Bool
structure Sp where
 l : List Sk
 w : Int
def cS (s : Sk) : List AV := [.int .i64 s.a, .bool s.o]
def cSs (l : List Sk) : List (List AV) := l.map cS
def cP (p : Sp) : List AV := [.vs (cSs p.l), .int .i64 p.w]
def cPs (l : List Sp) : List (List AV) := l.map cP
def cQ (n : Int) (l : List Sp) : List AV := [.int .i64 n, .vs (cPs l)]
theorem zc7 (l : List Sk) : (cSs l).length = l.length := List.length_map ..
theorem zdb (l : List Sp) : (cPs l).length = l.length := List.length_map ..
theorem zdm {l : List Sk} {i : Nat} (h : i < l.length) : (cSs l)[((i : Nat) : Int).toNat]? = some (cS l[i]) := by
 unfold cSs
 rw [Int.toNat_natCast, List.getElem?_map, List.getElem?_eq_getElem h]
 rfl
theorem zh4 {l : List Sp} {i : Nat} (h : i < l.length) : (cPs l)[((i : Nat) : Int).toNat]? = some (cP l[i]) := by
 unfold cPs
 rw [Int.toNat_natCast, List.getElem?_map, List.getElem?_eq_getElem h]
 rfl
def zfy (a : Int) : Bool := decide (a ≥ 0) && decide (a < 6)
-- pneumatic/stroke.known
def ic148 : IC := .seq (.region [⟨(some 2), .mov (.c (.bool false)), none⟩] none)
 (.seq (.region [⟨(some 3), .mov (.t 0), none⟩,
  ⟨(some 4), .bin .geq (.t 3) (.c (.int .i64 0)), none⟩,
  ⟨(some 5), .mov (.t 4), none⟩,
  ⟨(some 6), .mov (.t 0), some (5, true)⟩,
  ⟨(some 7), .bin .lss (.t 6) (.c (.int .i64 6)), some (5, true)⟩,
  ⟨(some 8), .pick (.t 5) (.t 7) (.c (.bool false)), none⟩,
  ⟨(some 2), .mov (.t 8), none⟩] none)
 (.ret))
theorem fn148 : env0.fn 148 = some ⟨9, ic148, [.t 2]⟩ := by kernel_rfl
theorem known109 (a : Int) : PF Try.prog 148 [.int .i64 a] (.bool (zfy a)) := by
 refine zbc env0_ok fn148 [(0, .int .i64 a)] (by show 1 ≤ 9; decide) rfl fun w0 N0 => ?_
 unfold ic148 zfy
 repeat (first | refine za6 ?_ | refine za0 rfl ?_ | refine za3 ?_ | refine za2 ?_ | refine za4 rfl ?_)
 refine zar rfl rfl rfl (fun h => ?_) fun h => ?_
 ·rw [h]
  repeat (first | refine zc5 rfl ?_ | refine za4 rfl ?_)
  refine zar rfl rfl rfl (fun h2 => ?_) fun h2 => ?_
  all_goals
   rw [h2]
   repeat (first | refine za3 ?_ | refine za2 ?_ | refine zam ?_ | refine za4 rfl ?_ | refine zap rfl rfl ?_)
   exact zak ⟨.inr rfl, _, rfl, rfl⟩
 ·rw [h]
  repeat (first | refine za3 ?_ | refine za2 ?_ | refine zam ?_ | refine zda rfl rfl ?_ | refine za4 rfl ?_ | refine zag rfl rfl ?_)
  exact zak ⟨.inr rfl, _, rfl, rfl⟩
def zh0 : Int → List Sk → Int
 | _, [] => 0
 | z, s :: r => if zfy s.a = false then 2 else if (s.a == z) = true then 7 else if decide (s.a < z) = true then 9 else zh0 s.a r
def spC (p : Sp) : Int := if p.l.length = 0 then 13 else if p.l.length > 6 then 5 else if zh0 (-1) p.l ≠ 0 then zh0 (-1) p.l else if p.w < 0 ∨ p.w > 1000000 then 2 else 0
def b149_1 : IC := .seq (.region [⟨(some 20), .bin .lss (.t 19) (.t 18), none⟩] none)
 (.seq (.cond (.t 20) (.skip)
 (.exit 1))
 (.seq (.block 2 (.seq (.region [⟨(some 21), .idxs 2 (.t 17) (.t 19), none⟩,
  ⟨(some 22), .load (some 2) (.t 21), none⟩,
  ⟨(some 6), .alloc [.int .i64 0, .bool false], none⟩,
  ⟨none, .store 2 (.t 6) (.t 22), none⟩] none)
 (.seq (.block 3 (.seq (.region [⟨(some 24), .faddr 0 (.t 6), none⟩,
  ⟨(some 25), .load none (.t 24), none⟩,
  ⟨(some 26), .call (.c (.fn 148 [] [])) [(.t 25)], none⟩,
  ⟨(some 27), .un .not (.t 26), none⟩,
  ⟨(some 23), .mov (.t 27), none⟩] none)
 (.cond (.t 23) (.seq (.region [⟨(some 2), .mov (.c (.int .i64 2)), none⟩] none)
 (.ret))
 (.seq (.region [⟨(some 29), .faddr 0 (.t 6), none⟩,
  ⟨(some 30), .load none (.t 29), none⟩,
  ⟨(some 31), .mov (.t 4), none⟩,
  ⟨(some 32), .bin .eql (.t 30) (.t 31), none⟩,
  ⟨(some 28), .mov (.t 32), none⟩] none)
 (.cond (.t 28) (.seq (.region [⟨(some 2), .mov (.c (.int .i64 7)), none⟩] none)
 (.ret))
 (.seq (.region [⟨(some 34), .faddr 0 (.t 6), none⟩,
  ⟨(some 35), .load none (.t 34), none⟩,
  ⟨(some 36), .mov (.t 4), none⟩,
  ⟨(some 37), .bin .lss (.t 35) (.t 36), none⟩,
  ⟨(some 33), .mov (.t 37), none⟩] none)
 (.cond (.t 33) (.seq (.region [⟨(some 2), .mov (.c (.int .i64 9)), none⟩] none)
 (.ret))
 (.skip))))))))
 (.region [⟨(some 38), .faddr 0 (.t 6), none⟩,
  ⟨(some 39), .load none (.t 38), none⟩,
  ⟨(some 4), .mov (.t 39), none⟩] none))))
 (.region [⟨(some 40), .bin .add (.t 19) (.c (.int .i64 1)), none⟩,
  ⟨(some 19), .mov (.t 40), none⟩] none)))
-- pneumatic/stroke.CheckStep
def ic149 : IC := .seq (.region [⟨(some 1), .box (.t 0), none⟩,
  ⟨(some 2), .mov (.c (.int .i64 0)), none⟩] none)
 (.seq (.seq (.region [⟨(some 7), .faddr 0 (.t 1), none⟩,
  ⟨(some 8), .load none (.t 7), none⟩,
  ⟨(some 9), .len false (.t 8), none⟩,
  ⟨(some 3), .mov (.t 9), none⟩] none)
 (.block 0 (.seq (.region [⟨(some 11), .mov (.t 3), none⟩,
  ⟨(some 12), .bin .eql (.t 11) (.c (.int .i64 0)), none⟩,
  ⟨(some 10), .mov (.t 12), none⟩] none)
 (.cond (.t 10) (.seq (.region [⟨(some 2), .mov (.c (.int .i64 13)), none⟩] none)
 (.ret))
 (.seq (.region [⟨(some 14), .mov (.t 3), none⟩,
  ⟨(some 15), .bin .gtr (.t 14) (.c (.int .i64 6)), none⟩,
  ⟨(some 13), .mov (.t 15), none⟩] none)
 (.cond (.t 13) (.seq (.region [⟨(some 2), .mov (.c (.int .i64 5)), none⟩] none)
 (.ret))
 (.skip)))))))
 (.seq (.region [⟨(some 4), .mov (.c (.int .i64 (-1))), none⟩] none)
 (.seq (.seq (.region [⟨(some 16), .faddr 0 (.t 1), none⟩,
  ⟨(some 17), .load none (.t 16), none⟩,
  ⟨(some 18), .len false (.t 17), none⟩,
  ⟨(some 19), .mov (.c (.int .i64 0)), none⟩] none)
 (.block 1 (.loop b149_1)))
 (.seq (.seq (.region [⟨(some 41), .faddr 1 (.t 1), none⟩,
  ⟨(some 42), .load none (.t 41), none⟩,
  ⟨(some 43), .bin .lss (.t 42) (.c (.int .i64 0)), none⟩,
  ⟨(some 44), .mov (.t 43), none⟩,
  ⟨(some 45), .faddr 1 (.t 1), some (44, false)⟩,
  ⟨(some 46), .load none (.t 45), some (44, false)⟩,
  ⟨(some 47), .bin .gtr (.t 46) (.c (.int .i64 1000000)), some (44, false)⟩,
  ⟨(some 48), .pick (.t 44) (.c (.bool true)) (.t 47), none⟩] none)
 (.cond (.t 48) (.seq (.region [⟨(some 2), .mov (.c (.int .i64 2)), none⟩] none)
 (.ret))
 (.skip)))
 (.seq (.region [⟨(some 2), .mov (.c (.int .i64 0)), none⟩] none)
 (.ret))))))
theorem fn149 : env0.fn 149 = some ⟨49, ic149, [.t 2]⟩ := by kernel_rfl
set_option maxHeartbeats 2000000 in
theorem step96 (p : Sp) : PF Try.prog 149 [.agg (cP p)] (.int .i64 (spC p)) := by
 obtain ⟨l, w⟩ := p
 have hcl : (cSs l).length = l.length := zc7 l
 refine zbc env0_ok fn149 [(0, .agg [.vs (cSs l), .int .i64 w])] (by show 1 ≤ 49; decide) rfl fun w0 N0 => ?_
 unfold ic149
 repeat (first | refine za6 ?_ | refine za0 rfl ?_ | refine za3 ?_ | refine za2 ?_ | refine zad ?_ | refine za4 rfl ?_ | refine za8 rfl rfl ?_ | refine zac rfl ?_ | refine zb9 rfl rfl ?_ | refine zby rfl rfl ?_)
 refine zar rfl rfl rfl (fun h => ?_) fun h => ?_
 ·have h : (((cSs l).length : Nat) : Int) = 0 := by simpa using h
  rw [show spC ⟨l, w⟩ = 13 from if_pos (by show l.length = 0; omega)]
  repeat (first | refine za6 ?_ | refine za0 rfl ?_ | refine za3 ?_ | refine za2 ?_ | refine zb0 rfl ?_ | refine zam ?_ | refine za5 ?_ | refine zaa ?_ | refine za4 rfl ?_)
  exact zak ⟨.inr rfl, _, rfl, rfl⟩
 have h : ¬ (((cSs l).length : Nat) : Int) = 0 := by simpa using h
 repeat (first | refine za6 ?_ | refine za0 rfl ?_ | refine za3 ?_ | refine za2 ?_ | refine zb8 rfl ?_ | refine za4 rfl ?_)
 refine zar rfl rfl rfl (fun h2 => ?_) fun h2 => ?_
 ·have h2 : (((cSs l).length : Nat) : Int) > 6 := of_decide_eq_true h2
  rw [show spC ⟨l, w⟩ = 5 from (if_neg (by show ¬ l.length = 0; omega)).trans (if_pos (by show l.length > 6; omega))]
  repeat (first | refine za6 ?_ | refine za0 rfl ?_ | refine za3 ?_ | refine za2 ?_ | refine zb0 rfl ?_ | refine zam ?_ | refine za5 ?_ | refine zaa ?_ | refine za4 rfl ?_)
  exact zak ⟨.inr rfl, _, rfl, rfl⟩
 have h2 : ¬ (((cSs l).length : Nat) : Int) > 6 := of_decide_eq_false h2
 have hst : spC ⟨l, w⟩ = if zh0 (-1) l ≠ 0 then zh0 (-1) l else if w < 0 ∨ w > 1000000 then 2 else 0 := (if_neg (by show ¬ l.length = 0; omega)).trans (if_neg (by show ¬ l.length > 6; omega))
 rw [hst]
 repeat (first | refine za6 ?_ | refine za0 rfl ?_ | refine za3 ?_ | refine za2 ?_ | refine zb6 ?_ | refine zad ?_ | refine zab ?_ | refine zb8 rfl ?_ | refine za4 rfl ?_ | refine za8 rfl rfl ?_ | refine zac rfl ?_ | refine zb9 rfl rfl ?_)
 refine zbq (fun mm S => ∃ i z, mm = l.length - i ∧ i ≤ l.length ∧ zh0 (-1) l = zh0 z (l.drop i) ∧
   S = st 49 [(1, .vptr [.vs (cSs l), .int .i64 w]), (4, .int .i64 z), (17, .vs (cSs l)), (18, .int .i64 (cSs l).length), (19, .int .i64 (i : Nat))] [] 0 1) l.length
  (zbk [] [(0, 0, [.vs (cSs l), .int .i64 w])] rfl rfl rfl (.cons rfl rfl .nil) .nil (l' := [(1, .vptr [.vs (cSs l), .int .i64 w]), (4, .int .i64 (-1)), (17, .vs (cSs l)), (18, .int .i64 (cSs l).length), (19, .int .i64 ((0 : Nat) : Int))]) (.cons rfl (.fptr rfl rfl) (.cons rfl (.same rfl) (.cons rfl (.same rfl) (.cons rfl (.same rfl) (.cons rfl (.same rfl) .nil)))))) ⟨0, -1, rfl, Nat.zero_le _, rfl, rfl⟩ ?_
 rintro mm S ⟨i, z, rfl, hi, hall, rfl⟩
 unfold b149_1
 repeat (first | refine za6 ?_ | refine za0 rfl ?_)
 refine zar rfl rfl rfl (fun h3 => ?_) fun h3 => ?_
 ·have hlt : i < l.length := by
   have : ((i : Nat) : Int) < ((cSs l).length : Nat) := of_decide_eq_true h3
   rw [hcl] at this
   omega
  have hd : l.drop i = l[i] :: l.drop (i + 1) := List.drop_eq_getElem_cons hlt
  rw [hd, zh0] at hall
  have hg := zdm hlt
  generalize l[i] = s at hall hg
  obtain ⟨a, o⟩ := s
  have h109 := known109 a
  have hg : (cSs l)[((i : Nat) : Int).toNat]? = some [.int .i64 a, .bool o] := hg
  have hall : zh0 (-1) l = if zfy a = false then 2 else if (a == z) = true then 7 else if decide (a < z) = true then 9 else zh0 a (l.drop (i + 1)) := hall
  repeat (first | refine za6 ?_ | refine za0 rfl ?_ | refine za3 ?_ | refine za2 ?_ | refine zad ?_ | refine zab ?_ | refine zb0 rfl ?_ | refine za8 rfl rfl ?_ | refine zas rfl rfl rfl rfl ?_ | refine zal rfl rfl rfl rfl rfl rfl rfl ?_ | refine zac rfl ?_ | refine zax ?_ | refine zb1 rfl rfl (by omega) (by assumption) rfl ?_)
  refine zau rfl rfl h109 (fun h => Bool.noConfusion (show false = true from h)) ?_
  cases hk : zfy a with
  | false =>
   rw [hk, if_pos rfl] at hall
   rw [hall]
   repeat (first | refine za6 ?_ | refine za0 rfl ?_ | refine za3 ?_ | refine za2 ?_ | refine zb0 rfl ?_ | refine zam ?_ | refine za5 ?_ | refine zaa ?_ | refine za4 rfl ?_ | refine zem rfl rfl ?_)
   refine zb2 ?_
   repeat (first | refine za5 ?_ | refine zaa ?_)
   exact zak ⟨.inr rfl, _, rfl, rfl⟩
  | true =>
   rw [hk, if_neg (by decide)] at hall
   repeat (first | refine za6 ?_ | refine za0 rfl ?_ | refine za3 ?_ | refine za2 ?_ | refine zb8 rfl ?_ | refine za4 rfl ?_ | refine za8 rfl rfl ?_ | refine zac rfl ?_ | refine zem rfl rfl ?_)
   refine zar rfl rfl rfl (fun h4 => ?_) fun h4 => ?_
   ·rw [if_pos h4] at hall
    rw [hall]
    repeat (first | refine za6 ?_ | refine za0 rfl ?_ | refine za3 ?_ | refine za2 ?_ | refine zb0 rfl ?_ | refine zam ?_ | refine za5 ?_ | refine zaa ?_ | refine za4 rfl ?_)
    refine zb2 ?_
    repeat (first | refine za5 ?_ | refine zaa ?_)
    exact zak ⟨.inr rfl, _, rfl, rfl⟩
   rw [if_neg (by rw [h4]; decide)] at hall
   repeat (first | refine za6 ?_ | refine za0 rfl ?_ | refine za3 ?_ | refine za2 ?_ | refine zb8 rfl ?_ | refine za4 rfl ?_ | refine za8 rfl rfl ?_ | refine zac rfl ?_)
   refine zar rfl rfl rfl (fun h5 => ?_) fun h5 => ?_
   ·rw [if_pos h5] at hall
    rw [hall]
    repeat (first | refine za6 ?_ | refine za0 rfl ?_ | refine za3 ?_ | refine za2 ?_ | refine zb0 rfl ?_ | refine zam ?_ | refine za5 ?_ | refine zaa ?_ | refine za4 rfl ?_)
    refine zb2 ?_
    repeat (first | refine za5 ?_ | refine zaa ?_)
    exact zak ⟨.inr rfl, _, rfl, rfl⟩
   rw [if_neg (by rw [h5]; decide)] at hall
   repeat (first | refine za0 rfl ?_ | refine za3 ?_ | refine za2 ?_ | refine zb6 ?_ | refine zab ?_ | refine zb8 rfl ?_ | refine za4 rfl ?_ | refine za8 rfl rfl ?_ | refine zac rfl ?_ | refine zay (op := .add) rfl rfl rfl ?_)
   rw [zaq i (by omega)]
   exact zat (show l.length - (i + 1) < l.length - i by omega) (zbk [] [] rfl rfl rfl .nil .nil (.cons rfl (.same rfl) (.cons rfl (.same rfl) (.cons rfl (.same rfl) (.cons rfl (.same rfl) (.cons rfl (.same rfl) .nil)))))) ⟨i + 1, a, rfl, hlt, hall, rfl⟩
 ·have hi2 : i = l.length := by
   have : ¬ ((i : Nat) : Int) < ((cSs l).length : Nat) := of_decide_eq_false h3
   rw [hcl] at this
   omega
  rw [hi2, List.drop_length, zh0] at hall
  rw [hall, if_neg (by decide)]
  repeat (first | refine za6 ?_ | refine za3 ?_ | refine za2 ?_ | refine zb8 rfl ?_ | refine zbb ?_ | refine zaj ?_)
  refine zcl ?_
  repeat (first | refine za6 ?_ | refine za0 rfl ?_ | refine za2 ?_ | refine zba ?_ | refine za8 rfl rfl ?_ | refine zah rfl rfl rfl ?_)
  refine zar rfl rfl rfl (fun h6 => ?_) fun h6 => ?_
  ·have h6 : w < 0 := of_decide_eq_true h6
   rw [if_pos (.inl h6)]
   repeat (first | refine za6 ?_ | refine za0 rfl ?_ | refine za3 ?_ | refine za2 ?_ | refine zb0 rfl ?_ | refine zam ?_ | refine za5 ?_ | refine zda rfl rfl ?_ | refine za4 rfl ?_ | refine zap rfl rfl ?_)
   exact zak ⟨.inr rfl, _, rfl, rfl⟩
  have h6 : ¬ w < 0 := of_decide_eq_false h6
  repeat (first | refine zc5 rfl ?_ | refine za4 rfl ?_ | refine za8 rfl rfl ?_ | refine zah rfl rfl rfl ?_)
  refine zar rfl rfl rfl (fun h7 => ?_) fun h7 => ?_
  ·have h7 : w > 1000000 := of_decide_eq_true h7
   rw [if_pos (.inr h7)]
   repeat (first | refine za6 ?_ | refine za0 rfl ?_ | refine za3 ?_ | refine za2 ?_ | refine zb0 rfl ?_ | refine zam ?_ | refine za5 ?_ | refine za4 rfl ?_ | refine zag rfl rfl ?_)
   exact zak ⟨.inr rfl, _, rfl, rfl⟩
  have h7 : ¬ w > 1000000 := of_decide_eq_false h7
  rw [if_neg (by omega)]
  repeat (first | refine za6 ?_ | refine za0 rfl ?_ | refine za3 ?_ | refine za2 ?_ | refine zab ?_ | refine zb8 rfl ?_ | refine zam ?_ | refine za4 rfl ?_ | refine zag rfl rfl ?_)
  exact zak ⟨.inr rfl, _, rfl, rfl⟩
end Go.Proofs.Ytoiblgbaeglgoaa
