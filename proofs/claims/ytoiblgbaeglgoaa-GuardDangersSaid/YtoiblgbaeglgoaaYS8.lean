/-
  MEMBERS OF LISTS OF TRUTH VALUES: slices.Contains.
-/
import Derived.Test.YtoiblgbaeglgoaaYS7
namespace Go.Proofs.Ytoiblgbaeglgoaa
open Go Go.Am
def ixB (c : Bool) : Nat → List Bool → Int
 | _, [] => -1
 | i, y :: ys => if (c == y) = true then (i : Int) else ixB c (i + 1) ys
theorem zw5 (c : Bool) : ∀ (i : Nat) (l : List Bool), decide (ixB c i l ≥ 0) = l.any (· == c)
 | _, [] => rfl
 | i, y :: ys => by
  rw [ixB, List.any_cons]
  by_cases h : c = y
  ·subst h
   rw [if_pos (by simp), decide_eq_true (by omega)]
   simp
  ·rw [if_neg (by simpa using h), zw5 c (i + 1) ys, show (y == c) = false from by simpa using fun e => h e.symm, Bool.false_or]
theorem zsj {l : List Bool} {i : Nat} (h : i < l.length) : (l.map fun b => ([.bool b] : List AV))[((i : Nat) : Int).toNat]? = some [.bool l[i]] := by
 rw [Int.toNat_natCast, List.getElem?_map, List.getElem?_eq_getElem h]
 rfl
def b150_0 : IC := .seq (.region [⟨(some 9), .bin .lss (.t 8) (.t 7), none⟩] none)
 (.seq (.cond (.t 9) (.skip)
 (.exit 0))
 (.seq (.block 1 (.seq (.region [⟨(some 10), .mov (.t 8), none⟩,
  ⟨(some 5), .mov (.t 10), none⟩] none)
 (.seq (.region [⟨(some 11), .mov (.t 1), none⟩,
  ⟨(some 12), .mov (.t 0), none⟩,
  ⟨(some 13), .mov (.t 5), none⟩,
  ⟨(some 14), .idxs 1 (.t 12) (.t 13), none⟩,
  ⟨(some 15), .load none (.t 14), none⟩,
  ⟨(some 16), .eqb false (.t 11) (.t 15), none⟩] none)
 (.cond (.t 16) (.seq (.region [⟨(some 17), .mov (.t 5), none⟩,
  ⟨(some 4), .mov (.t 17), none⟩] none)
 (.ret))
 (.skip)))))
 (.region [⟨(some 18), .bin .add (.t 8) (.c (.int .i64 1)), none⟩,
  ⟨(some 8), .mov (.t 18), none⟩] none)))
-- slices.Index[[]bool,bool]
def ic150 : IC := .seq (.region [⟨(some 4), .mov (.c (.int .i64 0)), none⟩] none)
 (.seq (.seq (.region [⟨(some 6), .mov (.t 0), none⟩,
  ⟨(some 7), .len false (.t 6), none⟩,
  ⟨(some 8), .mov (.c (.int .i64 0)), none⟩] none)
 (.block 0 (.loop b150_0)))
 (.seq (.region [⟨(some 4), .mov (.c (.int .i64 (-1))), none⟩] none)
 (.ret)))
theorem fn150 : env0.fn 150 = some ⟨19, ic150, [.t 4]⟩ := by kernel_rfl
theorem index97 (l : List Bool) (hl : l.length ≤ 100000) (c : Bool) : PF Try.prog 150 [vsB l, .bool c] (.int .i64 (ixB c 0 l)) := by
 have hcl : (l.map fun b => ([.bool b] : List AV)).length = l.length := List.length_map ..
 refine zbb env0_ok fn150 [(0, vsB l), (1, .bool c)] (by show 2 ≤ 19; decide) rfl fun w0 N0 => ?_
 unfold ic150
 repeat (first | refine za6 ?_ | refine za0 rfl ?_ | refine za3 ?_ | refine za2 ?_ | refine zb2 ?_ | refine zab ?_ | refine zac ?_ | refine zaz rfl ?_ | refine zb8 rfl ?_ | refine zb7 ?_ | refine zak ?_ | refine zb6 ?_ | refine zaf ?_ | refine zbj rfl ?_ | refine za5 ?_ | refine zaa ?_ | refine zc3 rfl ?_ | refine zdl rfl rfl ?_ | refine zkq rfl ?_ | refine za4 rfl ?_ | refine za8 rfl rfl ?_ | refine zas rfl rfl rfl rfl ?_ | refine zam rfl rfl rfl rfl rfl rfl rfl ?_ | refine za9 rfl ?_ | refine zag rfl rfl rfl ?_ | refine zay rfl rfl rfl ?_ | refine zc8 rfl rfl rfl rfl ?_ | refine zb1 ?_ | refine zar rfl rfl ?_ | refine zal rfl rfl ?_ | refine zf0 rfl rfl ?_ | refine zba rfl rfl ?_ | refine zd9 rfl rfl ?_ | refine zbe rfl rfl ?_ | refine zbw rfl rfl ?_ | refine zc9 rfl rfl rfl ?_ | refine zd3 rfl rfl ?_ | refine zc0 rfl rfl rfl rfl ?_ | refine zbn rfl rfl rfl rfl ?_ | refine zcy rfl rfl rfl rfl ?_ | refine zep rfl rfl ?_ | refine zdj rfl rfl ?_ | refine zbi rfl rfl ?_ | refine zeq ?_ | refine zbp env0_ok rfl rfl rfl ?_ | refine zax (op := .add) rfl rfl rfl ?_ | refine zax (op := .sub) rfl rfl rfl ?_ | refine zdn rfl rfl rfl ?_ | refine ze5 rfl rfl rfl ?_ | refine zbs rfl rfl rfl ?_ | refine zbr rfl rfl rfl ?_ | refine zav rfl rfl (by omega) (by assumption) rfl ?_ | refine zay rfl rfl (decide_eq_true ⟨by omega, by omega⟩) ?_ | refine zb0 rfl rfl (by omega) (by omega) ?_ | refine zcx rfl rfl rfl ?_ | refine zes rfl ?_ | refine zer rfl ?_)
 refine zbl (fun mm S => ∃ i, mm = l.length - i ∧ i ≤ l.length ∧ ixB c 0 l = ixB c i (l.drop i) ∧
   S = st 19 [(0, vsB l), (1, .bool c), (7, .int .i64 (l.map fun b => ([.bool b] : List AV)).length), (8, .int .i64 (i : Nat))] [] 0 1) l.length
  (zew (.cons rfl (.same rfl) (.cons rfl (.same rfl) (.cons rfl (.same rfl) (.cons rfl (.same rfl) .nil))))) ⟨0, rfl, Nat.zero_le _, rfl, rfl⟩ ?_
 rintro mm S ⟨i, rfl, hi, hall, rfl⟩
 unfold b150_0
 repeat (first | refine za6 ?_ | refine za0 rfl ?_ | refine za3 ?_ | refine za2 ?_ | refine zb2 ?_ | refine zab ?_ | refine zac ?_ | refine zaz rfl ?_ | refine zb8 rfl ?_ | refine zb7 ?_ | refine zak ?_ | refine zb6 ?_ | refine zaf ?_ | refine zbj rfl ?_ | refine za5 ?_ | refine zaa ?_ | refine zc3 rfl ?_ | refine zdl rfl rfl ?_ | refine zkq rfl ?_ | refine za4 rfl ?_ | refine za8 rfl rfl ?_ | refine zas rfl rfl rfl rfl ?_ | refine zam rfl rfl rfl rfl rfl rfl rfl ?_ | refine za9 rfl ?_ | refine zag rfl rfl rfl ?_ | refine zay rfl rfl rfl ?_ | refine zc8 rfl rfl rfl rfl ?_ | refine zb1 ?_ | refine zar rfl rfl ?_ | refine zal rfl rfl ?_ | refine zf0 rfl rfl ?_ | refine zba rfl rfl ?_ | refine zd9 rfl rfl ?_ | refine zbe rfl rfl ?_ | refine zbw rfl rfl ?_ | refine zc9 rfl rfl rfl ?_ | refine zd3 rfl rfl ?_ | refine zc0 rfl rfl rfl rfl ?_ | refine zbn rfl rfl rfl rfl ?_ | refine zcy rfl rfl rfl rfl ?_ | refine zep rfl rfl ?_ | refine zdj rfl rfl ?_ | refine zbi rfl rfl ?_ | refine zeq ?_ | refine zbp env0_ok rfl rfl rfl ?_ | refine zax (op := .add) rfl rfl rfl ?_ | refine zax (op := .sub) rfl rfl rfl ?_ | refine zdn rfl rfl rfl ?_ | refine ze5 rfl rfl rfl ?_ | refine zbs rfl rfl rfl ?_ | refine zbr rfl rfl rfl ?_ | refine zav rfl rfl (by omega) (by assumption) rfl ?_ | refine zay rfl rfl (decide_eq_true ⟨by omega, by omega⟩) ?_ | refine zb0 rfl rfl (by omega) (by omega) ?_ | refine zcx rfl rfl rfl ?_ | refine zes rfl ?_ | refine zer rfl ?_)
 refine zaq rfl rfl rfl (fun h3 => ?_) fun h3 => ?_
 ·have hlt : i < l.length := by
   have : ((i : Nat) : Int) < ((l.map fun b => ([.bool b] : List AV)).length : Nat) := of_decide_eq_true h3
   rw [hcl] at this
   omega
  have hd : l.drop i = l[i] :: l.drop (i + 1) := List.drop_eq_getElem_cons hlt
  rw [hd, ixB] at hall
  have hg := zsj hlt
  generalize l[i] = y at hall hg
  cases c <;> cases y
  all_goals
   repeat (first | refine za6 ?_ | refine za0 rfl ?_ | refine za3 ?_ | refine za2 ?_ | refine zb2 ?_ | refine zab ?_ | refine zac ?_ | refine zaz rfl ?_ | refine zb8 rfl ?_ | refine zb7 ?_ | refine zak ?_ | refine zb6 ?_ | refine zaf ?_ | refine zbj rfl ?_ | refine za5 ?_ | refine zaa ?_ | refine zc3 rfl ?_ | refine zdl rfl rfl ?_ | refine zkq rfl ?_ | refine za4 rfl ?_ | refine za8 rfl rfl ?_ | refine zas rfl rfl rfl rfl ?_ | refine zam rfl rfl rfl rfl rfl rfl rfl ?_ | refine za9 rfl ?_ | refine zag rfl rfl rfl ?_ | refine zay rfl rfl rfl ?_ | refine zc8 rfl rfl rfl rfl ?_ | refine zb1 ?_ | refine zar rfl rfl ?_ | refine zal rfl rfl ?_ | refine zf0 rfl rfl ?_ | refine zba rfl rfl ?_ | refine zd9 rfl rfl ?_ | refine zbe rfl rfl ?_ | refine zbw rfl rfl ?_ | refine zc9 rfl rfl rfl ?_ | refine zd3 rfl rfl ?_ | refine zc0 rfl rfl rfl rfl ?_ | refine zbn rfl rfl rfl rfl ?_ | refine zcy rfl rfl rfl rfl ?_ | refine zep rfl rfl ?_ | refine zdj rfl rfl ?_ | refine zbi rfl rfl ?_ | refine zeq ?_ | refine zbp env0_ok rfl rfl rfl ?_ | refine zax (op := .add) rfl rfl rfl ?_ | refine zax (op := .sub) rfl rfl rfl ?_ | refine zdn rfl rfl rfl ?_ | refine ze5 rfl rfl rfl ?_ | refine zbs rfl rfl rfl ?_ | refine zbr rfl rfl rfl ?_ | refine zav rfl rfl (by omega) (by assumption) rfl ?_ | refine zay rfl rfl (decide_eq_true ⟨by omega, by omega⟩) ?_ | refine zb0 rfl rfl (by omega) (by omega) ?_ | refine zcx rfl rfl rfl ?_ | refine zes rfl ?_ | refine zer rfl ?_)
  ·have hall : ixB false 0 l = (i : Int) := hall
   rw [hall]
   refine zb3 ?_
   repeat (first | refine za6 ?_ | refine za0 rfl ?_ | refine za3 ?_ | refine za2 ?_ | refine zb2 ?_ | refine zab ?_ | refine zac ?_ | refine zaz rfl ?_ | refine zb8 rfl ?_ | refine zb7 ?_ | refine zak ?_ | refine zb6 ?_ | refine zaf ?_ | refine zbj rfl ?_ | refine za5 ?_ | refine zaa ?_ | refine zc3 rfl ?_ | refine zdl rfl rfl ?_ | refine zkq rfl ?_ | refine za4 rfl ?_ | refine za8 rfl rfl ?_ | refine zas rfl rfl rfl rfl ?_ | refine zam rfl rfl rfl rfl rfl rfl rfl ?_ | refine za9 rfl ?_ | refine zag rfl rfl rfl ?_ | refine zay rfl rfl rfl ?_ | refine zc8 rfl rfl rfl rfl ?_ | refine zb1 ?_ | refine zar rfl rfl ?_ | refine zal rfl rfl ?_ | refine zf0 rfl rfl ?_ | refine zba rfl rfl ?_ | refine zd9 rfl rfl ?_ | refine zbe rfl rfl ?_ | refine zbw rfl rfl ?_ | refine zc9 rfl rfl rfl ?_ | refine zd3 rfl rfl ?_ | refine zc0 rfl rfl rfl rfl ?_ | refine zbn rfl rfl rfl rfl ?_ | refine zcy rfl rfl rfl rfl ?_ | refine zep rfl rfl ?_ | refine zdj rfl rfl ?_ | refine zbi rfl rfl ?_ | refine zeq ?_ | refine zbp env0_ok rfl rfl rfl ?_ | refine zax (op := .add) rfl rfl rfl ?_ | refine zax (op := .sub) rfl rfl rfl ?_ | refine zdn rfl rfl rfl ?_ | refine ze5 rfl rfl rfl ?_ | refine zbs rfl rfl rfl ?_ | refine zbr rfl rfl rfl ?_ | refine zav rfl rfl (by omega) (by assumption) rfl ?_ | refine zay rfl rfl (decide_eq_true ⟨by omega, by omega⟩) ?_ | refine zb0 rfl rfl (by omega) (by omega) ?_ | refine zcx rfl rfl rfl ?_ | refine zes rfl ?_ | refine zer rfl ?_)
   exact zai ⟨.inr rfl, _, rfl, rfl⟩
  ·exact zat (show l.length - (i + 1) < l.length - i by omega) (zew (.cons rfl (.same rfl) (.cons rfl (.same rfl) (.cons rfl (.same rfl) (.cons rfl (zfh (congrArg (AV.int .i64) (zan i (by omega))) rfl) .nil))))) ⟨i + 1, rfl, hlt, hall, rfl⟩
  ·exact zat (show l.length - (i + 1) < l.length - i by omega) (zew (.cons rfl (.same rfl) (.cons rfl (.same rfl) (.cons rfl (.same rfl) (.cons rfl (zfh (congrArg (AV.int .i64) (zan i (by omega))) rfl) .nil))))) ⟨i + 1, rfl, hlt, hall, rfl⟩
  ·have hall : ixB true 0 l = (i : Int) := hall
   rw [hall]
   refine zb3 ?_
   repeat (first | refine za6 ?_ | refine za0 rfl ?_ | refine za3 ?_ | refine za2 ?_ | refine zb2 ?_ | refine zab ?_ | refine zac ?_ | refine zaz rfl ?_ | refine zb8 rfl ?_ | refine zb7 ?_ | refine zak ?_ | refine zb6 ?_ | refine zaf ?_ | refine zbj rfl ?_ | refine za5 ?_ | refine zaa ?_ | refine zc3 rfl ?_ | refine zdl rfl rfl ?_ | refine zkq rfl ?_ | refine za4 rfl ?_ | refine za8 rfl rfl ?_ | refine zas rfl rfl rfl rfl ?_ | refine zam rfl rfl rfl rfl rfl rfl rfl ?_ | refine za9 rfl ?_ | refine zag rfl rfl rfl ?_ | refine zay rfl rfl rfl ?_ | refine zc8 rfl rfl rfl rfl ?_ | refine zb1 ?_ | refine zar rfl rfl ?_ | refine zal rfl rfl ?_ | refine zf0 rfl rfl ?_ | refine zba rfl rfl ?_ | refine zd9 rfl rfl ?_ | refine zbe rfl rfl ?_ | refine zbw rfl rfl ?_ | refine zc9 rfl rfl rfl ?_ | refine zd3 rfl rfl ?_ | refine zc0 rfl rfl rfl rfl ?_ | refine zbn rfl rfl rfl rfl ?_ | refine zcy rfl rfl rfl rfl ?_ | refine zep rfl rfl ?_ | refine zdj rfl rfl ?_ | refine zbi rfl rfl ?_ | refine zeq ?_ | refine zbp env0_ok rfl rfl rfl ?_ | refine zax (op := .add) rfl rfl rfl ?_ | refine zax (op := .sub) rfl rfl rfl ?_ | refine zdn rfl rfl rfl ?_ | refine ze5 rfl rfl rfl ?_ | refine zbs rfl rfl rfl ?_ | refine zbr rfl rfl rfl ?_ | refine zav rfl rfl (by omega) (by assumption) rfl ?_ | refine zay rfl rfl (decide_eq_true ⟨by omega, by omega⟩) ?_ | refine zb0 rfl rfl (by omega) (by omega) ?_ | refine zcx rfl rfl rfl ?_ | refine zes rfl ?_ | refine zer rfl ?_)
   exact zai ⟨.inr rfl, _, rfl, rfl⟩
 ·have hi2 : i = l.length := by
   have : ¬ ((i : Nat) : Int) < ((l.map fun b => ([.bool b] : List AV)).length : Nat) := of_decide_eq_false h3
   rw [hcl] at this
   omega
  rw [hi2, List.drop_length, ixB] at hall
  rw [hall]
  repeat (first | refine za6 ?_ | refine za0 rfl ?_ | refine za3 ?_ | refine za2 ?_ | refine zb2 ?_ | refine zab ?_ | refine zac ?_ | refine zaz rfl ?_ | refine zb8 rfl ?_ | refine zb7 ?_ | refine zak ?_ | refine zb6 ?_ | refine zaf ?_ | refine zbj rfl ?_ | refine za5 ?_ | refine zaa ?_ | refine zc3 rfl ?_ | refine zdl rfl rfl ?_ | refine zkq rfl ?_ | refine za4 rfl ?_ | refine za8 rfl rfl ?_ | refine zas rfl rfl rfl rfl ?_ | refine zam rfl rfl rfl rfl rfl rfl rfl ?_ | refine za9 rfl ?_ | refine zag rfl rfl rfl ?_ | refine zay rfl rfl rfl ?_ | refine zc8 rfl rfl rfl rfl ?_ | refine zb1 ?_ | refine zar rfl rfl ?_ | refine zal rfl rfl ?_ | refine zf0 rfl rfl ?_ | refine zba rfl rfl ?_ | refine zd9 rfl rfl ?_ | refine zbe rfl rfl ?_ | refine zbw rfl rfl ?_ | refine zc9 rfl rfl rfl ?_ | refine zd3 rfl rfl ?_ | refine zc0 rfl rfl rfl rfl ?_ | refine zbn rfl rfl rfl rfl ?_ | refine zcy rfl rfl rfl rfl ?_ | refine zep rfl rfl ?_ | refine zdj rfl rfl ?_ | refine zbi rfl rfl ?_ | refine zeq ?_ | refine zbp env0_ok rfl rfl rfl ?_ | refine zax (op := .add) rfl rfl rfl ?_ | refine zax (op := .sub) rfl rfl rfl ?_ | refine zdn rfl rfl rfl ?_ | refine ze5 rfl rfl rfl ?_ | refine zbs rfl rfl rfl ?_ | refine zbr rfl rfl rfl ?_ | refine zav rfl rfl (by omega) (by assumption) rfl ?_ | refine zay rfl rfl (decide_eq_true ⟨by omega, by omega⟩) ?_ | refine zb0 rfl rfl (by omega) (by omega) ?_ | refine zcx rfl rfl rfl ?_ | refine zes rfl ?_ | refine zer rfl ?_)
  refine zc4 ?_
  repeat (first | refine za6 ?_ | refine za0 rfl ?_ | refine za3 ?_ | refine za2 ?_ | refine zb2 ?_ | refine zab ?_ | refine zac ?_ | refine zaz rfl ?_ | refine zb8 rfl ?_ | refine zb7 ?_ | refine zak ?_ | refine zb6 ?_ | refine zaf ?_ | refine zbj rfl ?_ | refine za5 ?_ | refine zaa ?_ | refine zc3 rfl ?_ | refine zdl rfl rfl ?_ | refine zkq rfl ?_ | refine za4 rfl ?_ | refine za8 rfl rfl ?_ | refine zas rfl rfl rfl rfl ?_ | refine zam rfl rfl rfl rfl rfl rfl rfl ?_ | refine za9 rfl ?_ | refine zag rfl rfl rfl ?_ | refine zay rfl rfl rfl ?_ | refine zc8 rfl rfl rfl rfl ?_ | refine zb1 ?_ | refine zar rfl rfl ?_ | refine zal rfl rfl ?_ | refine zf0 rfl rfl ?_ | refine zba rfl rfl ?_ | refine zd9 rfl rfl ?_ | refine zbe rfl rfl ?_ | refine zbw rfl rfl ?_ | refine zc9 rfl rfl rfl ?_ | refine zd3 rfl rfl ?_ | refine zc0 rfl rfl rfl rfl ?_ | refine zbn rfl rfl rfl rfl ?_ | refine zcy rfl rfl rfl rfl ?_ | refine zep rfl rfl ?_ | refine zdj rfl rfl ?_ | refine zbi rfl rfl ?_ | refine zeq ?_ | refine zbp env0_ok rfl rfl rfl ?_ | refine zax (op := .add) rfl rfl rfl ?_ | refine zax (op := .sub) rfl rfl rfl ?_ | refine zdn rfl rfl rfl ?_ | refine ze5 rfl rfl rfl ?_ | refine zbs rfl rfl rfl ?_ | refine zbr rfl rfl rfl ?_ | refine zav rfl rfl (by omega) (by assumption) rfl ?_ | refine zay rfl rfl (decide_eq_true ⟨by omega, by omega⟩) ?_ | refine zb0 rfl rfl (by omega) (by omega) ?_ | refine zcx rfl rfl rfl ?_ | refine zes rfl ?_ | refine zer rfl ?_)
  exact zai ⟨.inr rfl, _, rfl, rfl⟩
-- slices.Contains[[]bool,bool]
def ic122 : IC := .seq (.region [⟨(some 4), .mov (.c (.bool false)), none⟩] none)
 (.seq (.region [⟨(some 5), .mov (.t 0), none⟩,
  ⟨(some 6), .mov (.t 1), none⟩,
  ⟨(some 7), .call (.c (.fn 150 [] [])) [(.t 5), (.t 6)], none⟩,
  ⟨(some 8), .bin .geq (.t 7) (.c (.int .i64 0)), none⟩,
  ⟨(some 4), .mov (.t 8), none⟩] none)
 (.ret))
theorem fn122 : env0.fn 122 = some ⟨9, ic122, [.t 4]⟩ := by kernel_rfl
theorem zey (l : List Bool) (hl : l.length ≤ 100000) (c : Bool) : PF Try.prog 122 [vsB l, .bool c] (.bool (l.any (· == c))) := by
 have h97 := index97 l hl c
 have ha := zw5 c 0 l
 refine zbb env0_ok fn122 [(0, vsB l), (1, .bool c)] (by show 2 ≤ 9; decide) rfl fun w0 N0 => ?_
 unfold ic122
 rw [← ha]
 repeat (first | refine za6 ?_ | refine za0 rfl ?_ | refine za3 ?_ | refine za2 ?_ | refine zb2 ?_ | refine zab ?_ | refine zac ?_ | refine zaz rfl ?_ | refine zb8 rfl ?_ | refine zb7 ?_ | refine zak ?_ | refine zb6 ?_ | refine zaf ?_ | refine zbj rfl ?_ | refine za5 ?_ | refine zaa ?_ | refine zc3 rfl ?_ | refine zdl rfl rfl ?_ | refine zkq rfl ?_ | refine za4 rfl ?_ | refine za8 rfl rfl ?_ | refine zas rfl rfl rfl rfl ?_ | refine zam rfl rfl rfl rfl rfl rfl rfl ?_ | refine za9 rfl ?_ | refine zag rfl rfl rfl ?_ | refine zay rfl rfl rfl ?_ | refine zc8 rfl rfl rfl rfl ?_ | refine zb1 ?_ | refine zar rfl rfl ?_ | refine zal rfl rfl ?_ | refine zf0 rfl rfl ?_ | refine zba rfl rfl ?_ | refine zd9 rfl rfl ?_ | refine zbe rfl rfl ?_ | refine zbw rfl rfl ?_ | refine zc9 rfl rfl rfl ?_ | refine zd3 rfl rfl ?_ | refine zc0 rfl rfl rfl rfl ?_ | refine zbn rfl rfl rfl rfl ?_ | refine zcy rfl rfl rfl rfl ?_ | refine zep rfl rfl ?_ | refine zdj rfl rfl ?_ | refine zbi rfl rfl ?_ | refine zeq ?_ | refine zbp env0_ok rfl rfl rfl ?_ | refine zax (op := .add) rfl rfl rfl ?_ | refine zax (op := .sub) rfl rfl rfl ?_ | refine zdn rfl rfl rfl ?_ | refine ze5 rfl rfl rfl ?_ | refine zbs rfl rfl rfl ?_ | refine zbr rfl rfl rfl ?_ | refine zav rfl rfl (by omega) (by assumption) rfl ?_ | refine zay rfl rfl (decide_eq_true ⟨by omega, by omega⟩) ?_ | refine zb0 rfl rfl (by omega) (by omega) ?_ | refine zcx rfl rfl rfl ?_ | refine zes rfl ?_ | refine zer rfl ?_)
 refine zaw rfl rfl h97 (fun h => Bool.noConfusion (show false = true from h)) ?_
 repeat (first | refine za6 ?_ | refine za0 rfl ?_ | refine za3 ?_ | refine za2 ?_ | refine zb2 ?_ | refine zab ?_ | refine zac ?_ | refine zaz rfl ?_ | refine zb8 rfl ?_ | refine zb7 ?_ | refine zak ?_ | refine zb6 ?_ | refine zaf ?_ | refine zbj rfl ?_ | refine za5 ?_ | refine zaa ?_ | refine zc3 rfl ?_ | refine zdl rfl rfl ?_ | refine zkq rfl ?_ | refine za4 rfl ?_ | refine za8 rfl rfl ?_ | refine zas rfl rfl rfl rfl ?_ | refine zam rfl rfl rfl rfl rfl rfl rfl ?_ | refine za9 rfl ?_ | refine zag rfl rfl rfl ?_ | refine zay rfl rfl rfl ?_ | refine zc8 rfl rfl rfl rfl ?_ | refine zb1 ?_ | refine zar rfl rfl ?_ | refine zal rfl rfl ?_ | refine zf0 rfl rfl ?_ | refine zba rfl rfl ?_ | refine zd9 rfl rfl ?_ | refine zbe rfl rfl ?_ | refine zbw rfl rfl ?_ | refine zc9 rfl rfl rfl ?_ | refine zd3 rfl rfl ?_ | refine zc0 rfl rfl rfl rfl ?_ | refine zbn rfl rfl rfl rfl ?_ | refine zcy rfl rfl rfl rfl ?_ | refine zep rfl rfl ?_ | refine zdj rfl rfl ?_ | refine zbi rfl rfl ?_ | refine zeq ?_ | refine zbp env0_ok rfl rfl rfl ?_ | refine zax (op := .add) rfl rfl rfl ?_ | refine zax (op := .sub) rfl rfl rfl ?_ | refine zdn rfl rfl rfl ?_ | refine ze5 rfl rfl rfl ?_ | refine zbs rfl rfl rfl ?_ | refine zbr rfl rfl rfl ?_ | refine zav rfl rfl (by omega) (by assumption) rfl ?_ | refine zay rfl rfl (decide_eq_true ⟨by omega, by omega⟩) ?_ | refine zb0 rfl rfl (by omega) (by omega) ?_ | refine zcx rfl rfl rfl ?_ | refine zes rfl ?_ | refine zer rfl ?_)
 refine zaq rfl rfl rfl (fun h => ?_) fun h => ?_
 all_goals
  rw [h]
  repeat (first | refine za6 ?_ | refine za0 rfl ?_ | refine za3 ?_ | refine za2 ?_ | refine zb2 ?_ | refine zab ?_ | refine zac ?_ | refine zaz rfl ?_ | refine zb8 rfl ?_ | refine zb7 ?_ | refine zak ?_ | refine zb6 ?_ | refine zaf ?_ | refine zbj rfl ?_ | refine za5 ?_ | refine zaa ?_ | refine zc3 rfl ?_ | refine zdl rfl rfl ?_ | refine zkq rfl ?_ | refine za4 rfl ?_ | refine za8 rfl rfl ?_ | refine zas rfl rfl rfl rfl ?_ | refine zam rfl rfl rfl rfl rfl rfl rfl ?_ | refine za9 rfl ?_ | refine zag rfl rfl rfl ?_ | refine zay rfl rfl rfl ?_ | refine zc8 rfl rfl rfl rfl ?_ | refine zb1 ?_ | refine zar rfl rfl ?_ | refine zal rfl rfl ?_ | refine zf0 rfl rfl ?_ | refine zba rfl rfl ?_ | refine zd9 rfl rfl ?_ | refine zbe rfl rfl ?_ | refine zbw rfl rfl ?_ | refine zc9 rfl rfl rfl ?_ | refine zd3 rfl rfl ?_ | refine zc0 rfl rfl rfl rfl ?_ | refine zbn rfl rfl rfl rfl ?_ | refine zcy rfl rfl rfl rfl ?_ | refine zep rfl rfl ?_ | refine zdj rfl rfl ?_ | refine zbi rfl rfl ?_ | refine zeq ?_ | refine zbp env0_ok rfl rfl rfl ?_ | refine zax (op := .add) rfl rfl rfl ?_ | refine zax (op := .sub) rfl rfl rfl ?_ | refine zdn rfl rfl rfl ?_ | refine ze5 rfl rfl rfl ?_ | refine zbs rfl rfl rfl ?_ | refine zbr rfl rfl rfl ?_ | refine zav rfl rfl (by omega) (by assumption) rfl ?_ | refine zay rfl rfl (decide_eq_true ⟨by omega, by omega⟩) ?_ | refine zb0 rfl rfl (by omega) (by omega) ?_ | refine zcx rfl rfl rfl ?_ | refine zes rfl ?_ | refine zer rfl ?_)
  exact zai ⟨.inr rfl, _, rfl, rfl⟩
end Go.Proofs.Ytoiblgbaeglgoaa
