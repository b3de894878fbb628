/-
  MEMBERS OF LISTS OF TRUTH VALUES: slices.Contains.
-/
import Derived.Test.YtoiblgbaeglgoaaXS7
namespace Go.Proofs.Ytoiblgbaeglgoaa
open Go Go.Am
def ixB (c : Bool) : Nat → List Bool → Int
 | _, [] => -1
 | i, y :: ys => if (c == y) = true then (i : Int) else ixB c (i + 1) ys
theorem zvk (c : Bool) : ∀ (i : Nat) (l : List Bool), decide (ixB c i l ≥ 0) = l.any (· == c)
 | _, [] => rfl
 | i, y :: ys => by
  rw [ixB, List.any_cons]
  by_cases h : c = y
  ·subst h
   rw [if_pos (by simp), decide_eq_true (by omega)]
   simp
  ·rw [if_neg (by simpa using h), zvk c (i + 1) ys, show (y == c) = false from by simpa using fun e => h e.symm, Bool.false_or]
theorem zs3 {l : List Bool} {i : Nat} (h : i < l.length) : (l.map fun b => ([.bool b] : List AV))[((i : Nat) : Int).toNat]? = some [.bool l[i]] := by
 rw [Int.toNat_natCast, List.getElem?_map, List.getElem?_eq_getElem h]
 rfl
def b150_0 : IC := .seq (.region [⟨(some 9), .bin .lss (.t 8) (.t 7), none⟩] none)
 (.seq (.cond (.t 9) (.skip)
 (.exit 0))
 (.seq (.block 1 (.seq (.region [⟨(some 10), .mov (.t 8), none⟩,
  ⟨(some 5), .mov (.t 10), none⟩] none)
 (.seq (.region [⟨(some 11), .mov (.t 1), none⟩,
  ⟨(some 12), .mov (.t 0), none⟩,
  ⟨(some 13), .mov (.t 5), none⟩,
  ⟨(some 14), .idxs 1 (.t 12) (.t 13), none⟩,
  ⟨(some 15), .load none (.t 14), none⟩,
  ⟨(some 16), .eqb false (.t 11) (.t 15), none⟩] none)
 (.cond (.t 16) (.seq (.region [⟨(some 17), .mov (.t 5), none⟩,
  ⟨(some 4), .mov (.t 17), none⟩] none)
 (.ret))
 (.skip)))))
 (.region [⟨(some 18), .bin .add (.t 8) (.c (.int .i64 1)), none⟩,
  ⟨(some 8), .mov (.t 18), none⟩] none)))
-- slices.Index[[]bool,bool]
def ic150 : IC := .seq (.region [⟨(some 4), .mov (.c (.int .i64 0)), none⟩] none)
 (.seq (.seq (.region [⟨(some 6), .mov (.t 0), none⟩,
  ⟨(some 7), .len false (.t 6), none⟩,
  ⟨(some 8), .mov (.c (.int .i64 0)), none⟩] none)
 (.block 0 (.loop b150_0)))
 (.seq (.region [⟨(some 4), .mov (.c (.int .i64 (-1))), none⟩] none)
 (.ret)))
theorem fn150 : env0.fn 150 = some ⟨19, ic150, [.t 4]⟩ := by kernel_rfl
theorem index97 (l : List Bool) (hl : l.length ≤ 100000) (c : Bool) : PF Try.prog 150 [vsB l, .bool c] (.int .i64 (ixB c 0 l)) := by
 have hcl : (l.map fun b => ([.bool b] : List AV)).length = l.length := List.length_map ..
 refine zbc env0_ok fn150 [(0, vsB l), (1, .bool c)] (by show 2 ≤ 19; decide) rfl fun w0 N0 => ?_
 unfold ic150
 repeat (first | refine za6 ?_ | refine za0 rfl ?_ | refine za3 ?_ | refine za2 ?_ | refine zb6 ?_ | refine zad ?_ | refine zab ?_ | refine zb0 rfl ?_ | refine zb8 rfl ?_ | refine zbb ?_ | refine zam ?_ | refine zba ?_ | refine zaj ?_ | refine zbg rfl ?_ | refine za5 ?_ | refine zaa ?_ | refine zc5 rfl ?_ | refine zda rfl rfl ?_ | refine znc rfl ?_ | refine za4 rfl ?_ | refine za8 rfl rfl ?_ | refine zas rfl rfl rfl rfl ?_ | refine zal rfl rfl rfl rfl rfl rfl rfl ?_ | refine zac rfl ?_ | refine zah rfl rfl rfl ?_ | refine zav rfl rfl rfl ?_ | refine zc2 rfl rfl rfl rfl ?_ | refine zax ?_ | refine zap rfl rfl ?_ | refine zag rfl rfl ?_ | refine zem rfl rfl ?_ | refine zb9 rfl rfl ?_ | refine zd1 rfl rfl ?_ | refine zbf rfl rfl ?_ | refine zby rfl rfl ?_ | refine zc3 rfl rfl rfl ?_ | refine zcw rfl rfl ?_ | refine zci rfl rfl rfl rfl ?_ | refine zbj rfl rfl rfl rfl ?_ | refine zct rfl rfl rfl rfl ?_ | refine zeh rfl rfl ?_ | refine zde rfl rfl ?_ | refine zbe rfl rfl ?_ | refine zei ?_ | refine zbu env0_ok rfl rfl rfl ?_ | refine zay (op := .add) rfl rfl rfl ?_ | refine zay (op := .sub) rfl rfl rfl ?_ | refine zdv rfl rfl rfl ?_ | refine zdu rfl rfl rfl ?_ | refine zbp rfl rfl rfl ?_ | refine zbn rfl rfl rfl ?_ | refine zb1 rfl rfl (by omega) (by assumption) rfl ?_ | refine zav rfl rfl (decide_eq_true ⟨by omega, by omega⟩) ?_ | refine zaw rfl rfl (by omega) (by omega) ?_ | refine zcs rfl rfl rfl ?_ | refine zek rfl ?_ | refine zej rfl ?_)
 refine zbq (fun mm S => ∃ i, mm = l.length - i ∧ i ≤ l.length ∧ ixB c 0 l = ixB c i (l.drop i) ∧
   S = st 19 [(0, vsB l), (1, .bool c), (7, .int .i64 (l.map fun b => ([.bool b] : List AV)).length), (8, .int .i64 (i : Nat))] [] 0 1) l.length
  (zgw (.cons rfl (.same rfl) (.cons rfl (.same rfl) (.cons rfl (.same rfl) (.cons rfl (.same rfl) .nil))))) ⟨0, rfl, Nat.zero_le _, rfl, rfl⟩ ?_
 rintro mm S ⟨i, rfl, hi, hall, rfl⟩
 unfold b150_0
 repeat (first | refine za6 ?_ | refine za0 rfl ?_ | refine za3 ?_ | refine za2 ?_ | refine zb6 ?_ | refine zad ?_ | refine zab ?_ | refine zb0 rfl ?_ | refine zb8 rfl ?_ | refine zbb ?_ | refine zam ?_ | refine zba ?_ | refine zaj ?_ | refine zbg rfl ?_ | refine za5 ?_ | refine zaa ?_ | refine zc5 rfl ?_ | refine zda rfl rfl ?_ | refine znc rfl ?_ | refine za4 rfl ?_ | refine za8 rfl rfl ?_ | refine zas rfl rfl rfl rfl ?_ | refine zal rfl rfl rfl rfl rfl rfl rfl ?_ | refine zac rfl ?_ | refine zah rfl rfl rfl ?_ | refine zav rfl rfl rfl ?_ | refine zc2 rfl rfl rfl rfl ?_ | refine zax ?_ | refine zap rfl rfl ?_ | refine zag rfl rfl ?_ | refine zem rfl rfl ?_ | refine zb9 rfl rfl ?_ | refine zd1 rfl rfl ?_ | refine zbf rfl rfl ?_ | refine zby rfl rfl ?_ | refine zc3 rfl rfl rfl ?_ | refine zcw rfl rfl ?_ | refine zci rfl rfl rfl rfl ?_ | refine zbj rfl rfl rfl rfl ?_ | refine zct rfl rfl rfl rfl ?_ | refine zeh rfl rfl ?_ | refine zde rfl rfl ?_ | refine zbe rfl rfl ?_ | refine zei ?_ | refine zbu env0_ok rfl rfl rfl ?_ | refine zay (op := .add) rfl rfl rfl ?_ | refine zay (op := .sub) rfl rfl rfl ?_ | refine zdv rfl rfl rfl ?_ | refine zdu rfl rfl rfl ?_ | refine zbp rfl rfl rfl ?_ | refine zbn rfl rfl rfl ?_ | refine zb1 rfl rfl (by omega) (by assumption) rfl ?_ | refine zav rfl rfl (decide_eq_true ⟨by omega, by omega⟩) ?_ | refine zaw rfl rfl (by omega) (by omega) ?_ | refine zcs rfl rfl rfl ?_ | refine zek rfl ?_ | refine zej rfl ?_)
 refine zar rfl rfl rfl (fun h3 => ?_) fun h3 => ?_
 ·have hlt : i < l.length := by
   have : ((i : Nat) : Int) < ((l.map fun b => ([.bool b] : List AV)).length : Nat) := of_decide_eq_true h3
   rw [hcl] at this
   omega
  have hd : l.drop i = l[i] :: l.drop (i + 1) := List.drop_eq_getElem_cons hlt
  rw [hd, ixB] at hall
  have hg := zs3 hlt
  generalize l[i] = y at hall hg
  cases c <;> cases y
  all_goals
   repeat (first | refine za6 ?_ | refine za0 rfl ?_ | refine za3 ?_ | refine za2 ?_ | refine zb6 ?_ | refine zad ?_ | refine zab ?_ | refine zb0 rfl ?_ | refine zb8 rfl ?_ | refine zbb ?_ | refine zam ?_ | refine zba ?_ | refine zaj ?_ | refine zbg rfl ?_ | refine za5 ?_ | refine zaa ?_ | refine zc5 rfl ?_ | refine zda rfl rfl ?_ | refine znc rfl ?_ | refine za4 rfl ?_ | refine za8 rfl rfl ?_ | refine zas rfl rfl rfl rfl ?_ | refine zal rfl rfl rfl rfl rfl rfl rfl ?_ | refine zac rfl ?_ | refine zah rfl rfl rfl ?_ | refine zav rfl rfl rfl ?_ | refine zc2 rfl rfl rfl rfl ?_ | refine zax ?_ | refine zap rfl rfl ?_ | refine zag rfl rfl ?_ | refine zem rfl rfl ?_ | refine zb9 rfl rfl ?_ | refine zd1 rfl rfl ?_ | refine zbf rfl rfl ?_ | refine zby rfl rfl ?_ | refine zc3 rfl rfl rfl ?_ | refine zcw rfl rfl ?_ | refine zci rfl rfl rfl rfl ?_ | refine zbj rfl rfl rfl rfl ?_ | refine zct rfl rfl rfl rfl ?_ | refine zeh rfl rfl ?_ | refine zde rfl rfl ?_ | refine zbe rfl rfl ?_ | refine zei ?_ | refine zbu env0_ok rfl rfl rfl ?_ | refine zay (op := .add) rfl rfl rfl ?_ | refine zay (op := .sub) rfl rfl rfl ?_ | refine zdv rfl rfl rfl ?_ | refine zdu rfl rfl rfl ?_ | refine zbp rfl rfl rfl ?_ | refine zbn rfl rfl rfl ?_ | refine zb1 rfl rfl (by omega) (by assumption) rfl ?_ | refine zav rfl rfl (decide_eq_true ⟨by omega, by omega⟩) ?_ | refine zaw rfl rfl (by omega) (by omega) ?_ | refine zcs rfl rfl rfl ?_ | refine zek rfl ?_ | refine zej rfl ?_)
  ·have hall : ixB false 0 l = (i : Int) := hall
   rw [hall]
   refine zb2 ?_
   repeat (first | refine za6 ?_ | refine za0 rfl ?_ | refine za3 ?_ | refine za2 ?_ | refine zb6 ?_ | refine zad ?_ | refine zab ?_ | refine zb0 rfl ?_ | refine zb8 rfl ?_ | refine zbb ?_ | refine zam ?_ | refine zba ?_ | refine zaj ?_ | refine zbg rfl ?_ | refine za5 ?_ | refine zaa ?_ | refine zc5 rfl ?_ | refine zda rfl rfl ?_ | refine znc rfl ?_ | refine za4 rfl ?_ | refine za8 rfl rfl ?_ | refine zas rfl rfl rfl rfl ?_ | refine zal rfl rfl rfl rfl rfl rfl rfl ?_ | refine zac rfl ?_ | refine zah rfl rfl rfl ?_ | refine zav rfl rfl rfl ?_ | refine zc2 rfl rfl rfl rfl ?_ | refine zax ?_ | refine zap rfl rfl ?_ | refine zag rfl rfl ?_ | refine zem rfl rfl ?_ | refine zb9 rfl rfl ?_ | refine zd1 rfl rfl ?_ | refine zbf rfl rfl ?_ | refine zby rfl rfl ?_ | refine zc3 rfl rfl rfl ?_ | refine zcw rfl rfl ?_ | refine zci rfl rfl rfl rfl ?_ | refine zbj rfl rfl rfl rfl ?_ | refine zct rfl rfl rfl rfl ?_ | refine zeh rfl rfl ?_ | refine zde rfl rfl ?_ | refine zbe rfl rfl ?_ | refine zei ?_ | refine zbu env0_ok rfl rfl rfl ?_ | refine zay (op := .add) rfl rfl rfl ?_ | refine zay (op := .sub) rfl rfl rfl ?_ | refine zdv rfl rfl rfl ?_ | refine zdu rfl rfl rfl ?_ | refine zbp rfl rfl rfl ?_ | refine zbn rfl rfl rfl ?_ | refine zb1 rfl rfl (by omega) (by assumption) rfl ?_ | refine zav rfl rfl (decide_eq_true ⟨by omega, by omega⟩) ?_ | refine zaw rfl rfl (by omega) (by omega) ?_ | refine zcs rfl rfl rfl ?_ | refine zek rfl ?_ | refine zej rfl ?_)
   exact zak ⟨.inr rfl, _, rfl, rfl⟩
  ·exact zat (show l.length - (i + 1) < l.length - i by omega) (zgw (.cons rfl (.same rfl) (.cons rfl (.same rfl) (.cons rfl (.same rfl) (.cons rfl (zj1 (congrArg (AV.int .i64) (zaq i (by omega))) rfl) .nil))))) ⟨i + 1, rfl, hlt, hall, rfl⟩
  ·exact zat (show l.length - (i + 1) < l.length - i by omega) (zgw (.cons rfl (.same rfl) (.cons rfl (.same rfl) (.cons rfl (.same rfl) (.cons rfl (zj1 (congrArg (AV.int .i64) (zaq i (by omega))) rfl) .nil))))) ⟨i + 1, rfl, hlt, hall, rfl⟩
  ·have hall : ixB true 0 l = (i : Int) := hall
   rw [hall]
   refine zb2 ?_
   repeat (first | refine za6 ?_ | refine za0 rfl ?_ | refine za3 ?_ | refine za2 ?_ | refine zb6 ?_ | refine zad ?_ | refine zab ?_ | refine zb0 rfl ?_ | refine zb8 rfl ?_ | refine zbb ?_ | refine zam ?_ | refine zba ?_ | refine zaj ?_ | refine zbg rfl ?_ | refine za5 ?_ | refine zaa ?_ | refine zc5 rfl ?_ | refine zda rfl rfl ?_ | refine znc rfl ?_ | refine za4 rfl ?_ | refine za8 rfl rfl ?_ | refine zas rfl rfl rfl rfl ?_ | refine zal rfl rfl rfl rfl rfl rfl rfl ?_ | refine zac rfl ?_ | refine zah rfl rfl rfl ?_ | refine zav rfl rfl rfl ?_ | refine zc2 rfl rfl rfl rfl ?_ | refine zax ?_ | refine zap rfl rfl ?_ | refine zag rfl rfl ?_ | refine zem rfl rfl ?_ | refine zb9 rfl rfl ?_ | refine zd1 rfl rfl ?_ | refine zbf rfl rfl ?_ | refine zby rfl rfl ?_ | refine zc3 rfl rfl rfl ?_ | refine zcw rfl rfl ?_ | refine zci rfl rfl rfl rfl ?_ | refine zbj rfl rfl rfl rfl ?_ | refine zct rfl rfl rfl rfl ?_ | refine zeh rfl rfl ?_ | refine zde rfl rfl ?_ | refine zbe rfl rfl ?_ | refine zei ?_ | refine zbu env0_ok rfl rfl rfl ?_ | refine zay (op := .add) rfl rfl rfl ?_ | refine zay (op := .sub) rfl rfl rfl ?_ | refine zdv rfl rfl rfl ?_ | refine zdu rfl rfl rfl ?_ | refine zbp rfl rfl rfl ?_ | refine zbn rfl rfl rfl ?_ | refine zb1 rfl rfl (by omega) (by assumption) rfl ?_ | refine zav rfl rfl (decide_eq_true ⟨by omega, by omega⟩) ?_ | refine zaw rfl rfl (by omega) (by omega) ?_ | refine zcs rfl rfl rfl ?_ | refine zek rfl ?_ | refine zej rfl ?_)
   exact zak ⟨.inr rfl, _, rfl, rfl⟩
 ·have hi2 : i = l.length := by
   have : ¬ ((i : Nat) : Int) < ((l.map fun b => ([.bool b] : List AV)).length : Nat) := of_decide_eq_false h3
   rw [hcl] at this
   omega
  rw [hi2, List.drop_length, ixB] at hall
  rw [hall]
  repeat (first | refine za6 ?_ | refine za0 rfl ?_ | refine za3 ?_ | refine za2 ?_ | refine zb6 ?_ | refine zad ?_ | refine zab ?_ | refine zb0 rfl ?_ | refine zb8 rfl ?_ | refine zbb ?_ | refine zam ?_ | refine zba ?_ | refine zaj ?_ | refine zbg rfl ?_ | refine za5 ?_ | refine zaa ?_ | refine zc5 rfl ?_ | refine zda rfl rfl ?_ | refine znc rfl ?_ | refine za4 rfl ?_ | refine za8 rfl rfl ?_ | refine zas rfl rfl rfl rfl ?_ | refine zal rfl rfl rfl rfl rfl rfl rfl ?_ | refine zac rfl ?_ | refine zah rfl rfl rfl ?_ | refine zav rfl rfl rfl ?_ | refine zc2 rfl rfl rfl rfl ?_ | refine zax ?_ | refine zap rfl rfl ?_ | refine zag rfl rfl ?_ | refine zem rfl rfl ?_ | refine zb9 rfl rfl ?_ | refine zd1 rfl rfl ?_ | refine zbf rfl rfl ?_ | refine zby rfl rfl ?_ | refine zc3 rfl rfl rfl ?_ | refine zcw rfl rfl ?_ | refine zci rfl rfl rfl rfl ?_ | refine zbj rfl rfl rfl rfl ?_ | refine zct rfl rfl rfl rfl ?_ | refine zeh rfl rfl ?_ | refine zde rfl rfl ?_ | refine zbe rfl rfl ?_ | refine zei ?_ | refine zbu env0_ok rfl rfl rfl ?_ | refine zay (op := .add) rfl rfl rfl ?_ | refine zay (op := .sub) rfl rfl rfl ?_ | refine zdv rfl rfl rfl ?_ | refine zdu rfl rfl rfl ?_ | refine zbp rfl rfl rfl ?_ | refine zbn rfl rfl rfl ?_ | refine zb1 rfl rfl (by omega) (by assumption) rfl ?_ | refine zav rfl rfl (decide_eq_true ⟨by omega, by omega⟩) ?_ | refine zaw rfl rfl (by omega) (by omega) ?_ | refine zcs rfl rfl rfl ?_ | refine zek rfl ?_ | refine zej rfl ?_)
  refine zcl ?_
  repeat (first | refine za6 ?_ | refine za0 rfl ?_ | refine za3 ?_ | refine za2 ?_ | refine zb6 ?_ | refine zad ?_ | refine zab ?_ | refine zb0 rfl ?_ | refine zb8 rfl ?_ | refine zbb ?_ | refine zam ?_ | refine zba ?_ | refine zaj ?_ | refine zbg rfl ?_ | refine za5 ?_ | refine zaa ?_ | refine zc5 rfl ?_ | refine zda rfl rfl ?_ | refine znc rfl ?_ | refine za4 rfl ?_ | refine za8 rfl rfl ?_ | refine zas rfl rfl rfl rfl ?_ | refine zal rfl rfl rfl rfl rfl rfl rfl ?_ | refine zac rfl ?_ | refine zah rfl rfl rfl ?_ | refine zav rfl rfl rfl ?_ | refine zc2 rfl rfl rfl rfl ?_ | refine zax ?_ | refine zap rfl rfl ?_ | refine zag rfl rfl ?_ | refine zem rfl rfl ?_ | refine zb9 rfl rfl ?_ | refine zd1 rfl rfl ?_ | refine zbf rfl rfl ?_ | refine zby rfl rfl ?_ | refine zc3 rfl rfl rfl ?_ | refine zcw rfl rfl ?_ | refine zci rfl rfl rfl rfl ?_ | refine zbj rfl rfl rfl rfl ?_ | refine zct rfl rfl rfl rfl ?_ | refine zeh rfl rfl ?_ | refine zde rfl rfl ?_ | refine zbe rfl rfl ?_ | refine zei ?_ | refine zbu env0_ok rfl rfl rfl ?_ | refine zay (op := .add) rfl rfl rfl ?_ | refine zay (op := .sub) rfl rfl rfl ?_ | refine zdv rfl rfl rfl ?_ | refine zdu rfl rfl rfl ?_ | refine zbp rfl rfl rfl ?_ | refine zbn rfl rfl rfl ?_ | refine zb1 rfl rfl (by omega) (by assumption) rfl ?_ | refine zav rfl rfl (decide_eq_true ⟨by omega, by omega⟩) ?_ | refine zaw rfl rfl (by omega) (by omega) ?_ | refine zcs rfl rfl rfl ?_ | refine zek rfl ?_ | refine zej rfl ?_)
  exact zak ⟨.inr rfl, _, rfl, rfl⟩
-- slices.Contains[[]bool,bool]
def ic122 : IC := .seq (.region [⟨(some 4), .mov (.c (.bool false)), none⟩] none)
 (.seq (.region [⟨(some 5), .mov (.t 0), none⟩,
  ⟨(some 6), .mov (.t 1), none⟩,
  ⟨(some 7), .call (.c (.fn 150 [] [])) [(.t 5), (.t 6)], none⟩,
  ⟨(some 8), .bin .geq (.t 7) (.c (.int .i64 0)), none⟩,
  ⟨(some 4), .mov (.t 8), none⟩] none)
 (.ret))
theorem fn122 : env0.fn 122 = some ⟨9, ic122, [.t 4]⟩ := by kernel_rfl
theorem zep (l : List Bool) (hl : l.length ≤ 100000) (c : Bool) : PF Try.prog 122 [vsB l, .bool c] (.bool (l.any (· == c))) := by
 have h97 := index97 l hl c
 have ha := zvk c 0 l
 refine zbc env0_ok fn122 [(0, vsB l), (1, .bool c)] (by show 2 ≤ 9; decide) rfl fun w0 N0 => ?_
 unfold ic122
 rw [← ha]
 repeat (first | refine za6 ?_ | refine za0 rfl ?_ | refine za3 ?_ | refine za2 ?_ | refine zb6 ?_ | refine zad ?_ | refine zab ?_ | refine zb0 rfl ?_ | refine zb8 rfl ?_ | refine zbb ?_ | refine zam ?_ | refine zba ?_ | refine zaj ?_ | refine zbg rfl ?_ | refine za5 ?_ | refine zaa ?_ | refine zc5 rfl ?_ | refine zda rfl rfl ?_ | refine znc rfl ?_ | refine za4 rfl ?_ | refine za8 rfl rfl ?_ | refine zas rfl rfl rfl rfl ?_ | refine zal rfl rfl rfl rfl rfl rfl rfl ?_ | refine zac rfl ?_ | refine zah rfl rfl rfl ?_ | refine zav rfl rfl rfl ?_ | refine zc2 rfl rfl rfl rfl ?_ | refine zax ?_ | refine zap rfl rfl ?_ | refine zag rfl rfl ?_ | refine zem rfl rfl ?_ | refine zb9 rfl rfl ?_ | refine zd1 rfl rfl ?_ | refine zbf rfl rfl ?_ | refine zby rfl rfl ?_ | refine zc3 rfl rfl rfl ?_ | refine zcw rfl rfl ?_ | refine zci rfl rfl rfl rfl ?_ | refine zbj rfl rfl rfl rfl ?_ | refine zct rfl rfl rfl rfl ?_ | refine zeh rfl rfl ?_ | refine zde rfl rfl ?_ | refine zbe rfl rfl ?_ | refine zei ?_ | refine zbu env0_ok rfl rfl rfl ?_ | refine zay (op := .add) rfl rfl rfl ?_ | refine zay (op := .sub) rfl rfl rfl ?_ | refine zdv rfl rfl rfl ?_ | refine zdu rfl rfl rfl ?_ | refine zbp rfl rfl rfl ?_ | refine zbn rfl rfl rfl ?_ | refine zb1 rfl rfl (by omega) (by assumption) rfl ?_ | refine zav rfl rfl (decide_eq_true ⟨by omega, by omega⟩) ?_ | refine zaw rfl rfl (by omega) (by omega) ?_ | refine zcs rfl rfl rfl ?_ | refine zek rfl ?_ | refine zej rfl ?_)
 refine zau rfl rfl h97 (fun h => Bool.noConfusion (show false = true from h)) ?_
 repeat (first | refine za6 ?_ | refine za0 rfl ?_ | refine za3 ?_ | refine za2 ?_ | refine zb6 ?_ | refine zad ?_ | refine zab ?_ | refine zb0 rfl ?_ | refine zb8 rfl ?_ | refine zbb ?_ | refine zam ?_ | refine zba ?_ | refine zaj ?_ | refine zbg rfl ?_ | refine za5 ?_ | refine zaa ?_ | refine zc5 rfl ?_ | refine zda rfl rfl ?_ | refine znc rfl ?_ | refine za4 rfl ?_ | refine za8 rfl rfl ?_ | refine zas rfl rfl rfl rfl ?_ | refine zal rfl rfl rfl rfl rfl rfl rfl ?_ | refine zac rfl ?_ | refine zah rfl rfl rfl ?_ | refine zav rfl rfl rfl ?_ | refine zc2 rfl rfl rfl rfl ?_ | refine zax ?_ | refine zap rfl rfl ?_ | refine zag rfl rfl ?_ | refine zem rfl rfl ?_ | refine zb9 rfl rfl ?_ | refine zd1 rfl rfl ?_ | refine zbf rfl rfl ?_ | refine zby rfl rfl ?_ | refine zc3 rfl rfl rfl ?_ | refine zcw rfl rfl ?_ | refine zci rfl rfl rfl rfl ?_ | refine zbj rfl rfl rfl rfl ?_ | refine zct rfl rfl rfl rfl ?_ | refine zeh rfl rfl ?_ | refine zde rfl rfl ?_ | refine zbe rfl rfl ?_ | refine zei ?_ | refine zbu env0_ok rfl rfl rfl ?_ | refine zay (op := .add) rfl rfl rfl ?_ | refine zay (op := .sub) rfl rfl rfl ?_ | refine zdv rfl rfl rfl ?_ | refine zdu rfl rfl rfl ?_ | refine zbp rfl rfl rfl ?_ | refine zbn rfl rfl rfl ?_ | refine zb1 rfl rfl (by omega) (by assumption) rfl ?_ | refine zav rfl rfl (decide_eq_true ⟨by omega, by omega⟩) ?_ | refine zaw rfl rfl (by omega) (by omega) ?_ | refine zcs rfl rfl rfl ?_ | refine zek rfl ?_ | refine zej rfl ?_)
 refine zar rfl rfl rfl (fun h => ?_) fun h => ?_
 all_goals
  rw [h]
  repeat (first | refine za6 ?_ | refine za0 rfl ?_ | refine za3 ?_ | refine za2 ?_ | refine zb6 ?_ | refine zad ?_ | refine zab ?_ | refine zb0 rfl ?_ | refine zb8 rfl ?_ | refine zbb ?_ | refine zam ?_ | refine zba ?_ | refine zaj ?_ | refine zbg rfl ?_ | refine za5 ?_ | refine zaa ?_ | refine zc5 rfl ?_ | refine zda rfl rfl ?_ | refine znc rfl ?_ | refine za4 rfl ?_ | refine za8 rfl rfl ?_ | refine zas rfl rfl rfl rfl ?_ | refine zal rfl rfl rfl rfl rfl rfl rfl ?_ | refine zac rfl ?_ | refine zah rfl rfl rfl ?_ | refine zav rfl rfl rfl ?_ | refine zc2 rfl rfl rfl rfl ?_ | refine zax ?_ | refine zap rfl rfl ?_ | refine zag rfl rfl ?_ | refine zem rfl rfl ?_ | refine zb9 rfl rfl ?_ | refine zd1 rfl rfl ?_ | refine zbf rfl rfl ?_ | refine zby rfl rfl ?_ | refine zc3 rfl rfl rfl ?_ | refine zcw rfl rfl ?_ | refine zci rfl rfl rfl rfl ?_ | refine zbj rfl rfl rfl rfl ?_ | refine zct rfl rfl rfl rfl ?_ | refine zeh rfl rfl ?_ | refine zde rfl rfl ?_ | refine zbe rfl rfl ?_ | refine zei ?_ | refine zbu env0_ok rfl rfl rfl ?_ | refine zay (op := .add) rfl rfl rfl ?_ | refine zay (op := .sub) rfl rfl rfl ?_ | refine zdv rfl rfl rfl ?_ | refine zdu rfl rfl rfl ?_ | refine zbp rfl rfl rfl ?_ | refine zbn rfl rfl rfl ?_ | refine zb1 rfl rfl (by omega) (by assumption) rfl ?_ | refine zav rfl rfl (decide_eq_true ⟨by omega, by omega⟩) ?_ | refine zaw rfl rfl (by omega) (by omega) ?_ | refine zcs rfl rfl rfl ?_ | refine zek rfl ?_ | refine zej rfl ?_)
  exact zak ⟨.inr rfl, _, rfl, rfl⟩
end Go.Proofs.Ytoiblgbaeglgoaa
