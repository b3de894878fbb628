/-
  ENDS BEHIND A STEP: sequence.ends.behind.
-/
import Derived.Test.YtoiblgbaeglgoaaXS5
namespace Go.Proofs.Ytoiblgbaeglgoaa
open Go Go.Am
def b121_0 : IC := .seq (.region [⟨(some 11), .bin .lss (.t 10) (.t 9), none⟩] none)
 (.seq (.cond (.t 11) (.skip)
 (.exit 0))
 (.seq (.block 1 (.seq (.region [⟨(some 12), .idxs 2 (.t 8) (.t 10), none⟩,
  ⟨(some 13), .load (some 2) (.t 12), none⟩,
  ⟨(some 6), .alloc [.int .i64 0, .bool false], none⟩,
  ⟨none, .store 2 (.t 6) (.t 13), none⟩] none)
 (.region [⟨(some 14), .faddr 0 (.t 6), none⟩,
  ⟨(some 15), .load none (.t 14), none⟩,
  ⟨(some 16), .faddr 1 (.t 6), none⟩,
  ⟨(some 17), .load none (.t 16), none⟩,
  ⟨(some 18), .idxarr 6 1 (.t 2) (.t 15), none⟩,
  ⟨none, .store 1 (.t 18) (.t 17), none⟩] none)))
 (.region [⟨(some 19), .bin .add (.t 10) (.c (.int .i64 1)), none⟩,
  ⟨(some 10), .mov (.t 19), none⟩] none)))
-- (pneumatic/sequence.ends).behind
def ic121 : IC := .seq (.region [⟨(some 2), .box (.t 0), none⟩,
  ⟨(some 3), .box (.t 1), none⟩,
  ⟨(some 4), .alloc [.bool false, .bool false, .bool false, .bool false, .bool false, .bool false], none⟩] none)
 (.seq (.seq (.region [⟨(some 7), .faddr 0 (.t 3), none⟩,
  ⟨(some 8), .load none (.t 7), none⟩,
  ⟨(some 9), .len false (.t 8), none⟩,
  ⟨(some 10), .mov (.c (.int .i64 0)), none⟩] none)
 (.block 0 (.loop b121_0)))
 (.seq (.region [⟨(some 20), .load (some 6) (.t 2), none⟩,
  ⟨none, .store 6 (.t 4) (.t 20), none⟩] none)
 (.ret)))
theorem fn121 : env0.fn 121 = some ⟨21, ic121, [.cell 4 (some 6)]⟩ := by kernel_rfl
set_option maxHeartbeats 1000000 in
theorem behind77 (p : Sp) (x : List Bool) (hl : p.l.length ≤ 1000000) (hx : x.length = 6) (ha : ∀ s ∈ p.l, 0 ≤ s.a ∧ s.a < 6) : PF Try.prog 121 [.agg (x.map AV.bool), .agg (cP p)] (.agg ((aft x p.l).map AV.bool)) := by
 obtain ⟨l, w⟩ := p
 have hl : l.length ≤ 1000000 := hl
 have ha : ∀ s ∈ l, 0 ≤ s.a ∧ s.a < 6 := ha
 have hcl : (cSs l).length = l.length := zc7 l
 refine zbc env0_ok fn121 [(0, .agg (x.map AV.bool)), (1, .agg [.vs (cSs l), .int .i64 w])] (by show 2 ≤ 21; decide) rfl fun w0 N0 => ?_
 unfold ic121
 repeat (first | refine za6 ?_ | refine za0 rfl ?_ | refine za3 ?_ | refine za2 ?_ | refine zb6 ?_ | refine zad ?_ | refine zab ?_ | refine zb0 rfl ?_ | refine zb8 rfl ?_ | refine zbb ?_ | refine zam ?_ | refine zba ?_ | refine zaj ?_ | refine zbg rfl ?_ | refine za5 ?_ | refine zaa ?_ | refine zc5 rfl ?_ | refine zda rfl rfl ?_ | refine znc rfl ?_ | refine za4 rfl ?_ | refine za8 rfl rfl ?_ | refine zas rfl rfl rfl rfl ?_ | refine zal rfl rfl rfl rfl rfl rfl rfl ?_ | refine zac rfl ?_ | refine zah rfl rfl rfl ?_ | refine zav rfl rfl rfl ?_ | refine zc2 rfl rfl rfl rfl ?_ | refine zax ?_ | refine zap rfl rfl ?_ | refine zag rfl rfl ?_ | refine zem rfl rfl ?_ | refine zb9 rfl rfl ?_ | refine zd1 rfl rfl ?_ | refine zbf rfl rfl ?_ | refine zby rfl rfl ?_ | refine zc3 rfl rfl rfl ?_ | refine zcw rfl rfl ?_ | refine zci rfl rfl rfl rfl ?_ | refine zbj rfl rfl rfl rfl ?_ | refine zct rfl rfl rfl rfl ?_ | refine zeh rfl rfl ?_ | refine zde rfl rfl ?_ | refine zbe rfl rfl ?_ | refine zei ?_ | refine zbu env0_ok rfl rfl rfl ?_ | refine zay (op := .add) rfl rfl rfl ?_ | refine zay (op := .sub) rfl rfl rfl ?_ | refine zdv rfl rfl rfl ?_ | refine zdu rfl rfl rfl ?_ | refine zbp rfl rfl rfl ?_ | refine zbn rfl rfl rfl ?_ | refine zb1 rfl rfl (by omega) (by assumption) rfl ?_ | refine zav rfl rfl (decide_eq_true ⟨by omega, by omega⟩) ?_ | refine zaw rfl rfl (by omega) (by omega) ?_ | refine zcs rfl rfl rfl ?_ | refine zek rfl ?_ | refine zej rfl ?_)
 refine zbq (fun mm S => ∃ i, mm = l.length - i ∧ i ≤ l.length ∧
   S = st 21 [(2, .mptr 0 0 0), (4, .mptr 1 0 0), (8, .vs (cSs l)), (9, .int .i64 (cSs l).length), (10, .int .i64 (i : Nat))] [(0, 0, .cells ((aft x (l.take i)).map AV.bool)), (1, 0, .cells [.bool false, .bool false, .bool false, .bool false, .bool false, .bool false])] 2 1) l.length
  (zbk [(some (0, 0), x.map AV.bool), (some (2, 2), [.bool false, .bool false, .bool false, .bool false, .bool false, .bool false])] [] rfl rfl rfl .nil (.cons rfl (.keep (zbm _)) (.cons rfl (.keep rfl) .nil)) (l' := [(2, .mptr 0 0 0), (4, .mptr 1 0 0), (8, .vs (cSs l)), (9, .int .i64 (cSs l).length), (10, .int .i64 ((0 : Nat) : Int))]) (.cons rfl (.mptr rfl) (.cons rfl (.mptr rfl) (.cons rfl (.same rfl) (.cons rfl (.same rfl) (.cons rfl (.same rfl) .nil)))))) ⟨0, rfl, Nat.zero_le _, rfl⟩ ?_
 rintro mm S ⟨i, rfl, hi, rfl⟩
 unfold b121_0
 repeat (first | refine za6 ?_ | refine za0 rfl ?_ | refine za3 ?_ | refine za2 ?_ | refine zb6 ?_ | refine zad ?_ | refine zab ?_ | refine zb0 rfl ?_ | refine zb8 rfl ?_ | refine zbb ?_ | refine zam ?_ | refine zba ?_ | refine zaj ?_ | refine zbg rfl ?_ | refine za5 ?_ | refine zaa ?_ | refine zc5 rfl ?_ | refine zda rfl rfl ?_ | refine znc rfl ?_ | refine za4 rfl ?_ | refine za8 rfl rfl ?_ | refine zas rfl rfl rfl rfl ?_ | refine zal rfl rfl rfl rfl rfl rfl rfl ?_ | refine zac rfl ?_ | refine zah rfl rfl rfl ?_ | refine zav rfl rfl rfl ?_ | refine zc2 rfl rfl rfl rfl ?_ | refine zax ?_ | refine zap rfl rfl ?_ | refine zag rfl rfl ?_ | refine zem rfl rfl ?_ | refine zb9 rfl rfl ?_ | refine zd1 rfl rfl ?_ | refine zbf rfl rfl ?_ | refine zby rfl rfl ?_ | refine zc3 rfl rfl rfl ?_ | refine zcw rfl rfl ?_ | refine zci rfl rfl rfl rfl ?_ | refine zbj rfl rfl rfl rfl ?_ | refine zct rfl rfl rfl rfl ?_ | refine zeh rfl rfl ?_ | refine zde rfl rfl ?_ | refine zbe rfl rfl ?_ | refine zei ?_ | refine zbu env0_ok rfl rfl rfl ?_ | refine zay (op := .add) rfl rfl rfl ?_ | refine zay (op := .sub) rfl rfl rfl ?_ | refine zdv rfl rfl rfl ?_ | refine zdu rfl rfl rfl ?_ | refine zbp rfl rfl rfl ?_ | refine zbn rfl rfl rfl ?_ | refine zb1 rfl rfl (by omega) (by assumption) rfl ?_ | refine zav rfl rfl (decide_eq_true ⟨by omega, by omega⟩) ?_ | refine zaw rfl rfl (by omega) (by omega) ?_ | refine zcs rfl rfl rfl ?_ | refine zek rfl ?_ | refine zej rfl ?_)
 refine zar rfl rfl rfl (fun h3 => ?_) fun h3 => ?_
 ·have hlt : i < l.length := by
   have : ((i : Nat) : Int) < ((cSs l).length : Nat) := of_decide_eq_true h3
   rw [hcl] at this
   omega
  have hg := zdm hlt
  have htk := zql (x := x) hlt
  have hal := zc6 (l.take i) x
  obtain ⟨ha0, ha1⟩ := ha _ (List.getElem_mem hlt)
  generalize l[i] = s at hg htk ha0 ha1
  obtain ⟨a, o⟩ := s
  have ha0 : 0 ≤ a := ha0
  have ha1 : a < 6 := ha1
  have hg : (cSs l)[((i : Nat) : Int).toNat]? = some [.int .i64 a, .bool o] := hg
  have htk : aft x (l.take (i + 1)) = (aft x (l.take i)).set a.toNat o := htk
  generalize aft x (l.take i) = X at hal htk
  have hset : (X.map AV.bool).set (0 + a.toNat * 1) (.bool o) = (X.set a.toNat o).map AV.bool := by rw [List.map_set, Nat.mul_one, Nat.zero_add]
  repeat (first | refine za6 ?_ | refine za0 rfl ?_ | refine za3 ?_ | refine za2 ?_ | refine zb6 ?_ | refine zad ?_ | refine zab ?_ | refine zb0 rfl ?_ | refine zb8 rfl ?_ | refine zbb ?_ | refine zam ?_ | refine zba ?_ | refine zaj ?_ | refine zbg rfl ?_ | refine za5 ?_ | refine zaa ?_ | refine zc5 rfl ?_ | refine zda rfl rfl ?_ | refine znc rfl ?_ | refine za4 rfl ?_ | refine za8 rfl rfl ?_ | refine zas rfl rfl rfl rfl ?_ | refine zal rfl rfl rfl rfl rfl rfl rfl ?_ | refine zac rfl ?_ | refine zah rfl rfl rfl ?_ | refine zav rfl rfl rfl ?_ | refine zc2 rfl rfl rfl rfl ?_ | refine zax ?_ | refine zap rfl rfl ?_ | refine zag rfl rfl ?_ | refine zem rfl rfl ?_ | refine zb9 rfl rfl ?_ | refine zd1 rfl rfl ?_ | refine zbf rfl rfl ?_ | refine zby rfl rfl ?_ | refine zc3 rfl rfl rfl ?_ | refine zcw rfl rfl ?_ | refine zci rfl rfl rfl rfl ?_ | refine zbj rfl rfl rfl rfl ?_ | refine zct rfl rfl rfl rfl ?_ | refine zeh rfl rfl ?_ | refine zde rfl rfl ?_ | refine zbe rfl rfl ?_ | refine zei ?_ | refine zbu env0_ok rfl rfl rfl ?_ | refine zay (op := .add) rfl rfl rfl ?_ | refine zay (op := .sub) rfl rfl rfl ?_ | refine zdv rfl rfl rfl ?_ | refine zdu rfl rfl rfl ?_ | refine zbp rfl rfl rfl ?_ | refine zbn rfl rfl rfl ?_ | refine zb1 rfl rfl (by omega) (by assumption) rfl ?_ | refine zav rfl rfl (decide_eq_true ⟨by omega, by omega⟩) ?_ | refine zaw rfl rfl (by omega) (by omega) ?_ | refine zcs rfl rfl rfl ?_ | refine zek rfl ?_ | refine zej rfl ?_)
  refine zhv rfl rfl rfl rfl (by rw [List.length_map]; omega) rfl ?_
  rw [hset]
  repeat (first | refine za6 ?_ | refine za0 rfl ?_ | refine za3 ?_ | refine za2 ?_ | refine zb6 ?_ | refine zad ?_ | refine zab ?_ | refine zb0 rfl ?_ | refine zb8 rfl ?_ | refine zbb ?_ | refine zam ?_ | refine zba ?_ | refine zaj ?_ | refine zbg rfl ?_ | refine za5 ?_ | refine zaa ?_ | refine zc5 rfl ?_ | refine zda rfl rfl ?_ | refine znc rfl ?_ | refine za4 rfl ?_ | refine za8 rfl rfl ?_ | refine zas rfl rfl rfl rfl ?_ | refine zal rfl rfl rfl rfl rfl rfl rfl ?_ | refine zac rfl ?_ | refine zah rfl rfl rfl ?_ | refine zav rfl rfl rfl ?_ | refine zc2 rfl rfl rfl rfl ?_ | refine zax ?_ | refine zap rfl rfl ?_ | refine zag rfl rfl ?_ | refine zem rfl rfl ?_ | refine zb9 rfl rfl ?_ | refine zd1 rfl rfl ?_ | refine zbf rfl rfl ?_ | refine zby rfl rfl ?_ | refine zc3 rfl rfl rfl ?_ | refine zcw rfl rfl ?_ | refine zci rfl rfl rfl rfl ?_ | refine zbj rfl rfl rfl rfl ?_ | refine zct rfl rfl rfl rfl ?_ | refine zeh rfl rfl ?_ | refine zde rfl rfl ?_ | refine zbe rfl rfl ?_ | refine zei ?_ | refine zbu env0_ok rfl rfl rfl ?_ | refine zay (op := .add) rfl rfl rfl ?_ | refine zay (op := .sub) rfl rfl rfl ?_ | refine zdv rfl rfl rfl ?_ | refine zdu rfl rfl rfl ?_ | refine zbp rfl rfl rfl ?_ | refine zbn rfl rfl rfl ?_ | refine zb1 rfl rfl (by omega) (by assumption) rfl ?_ | refine zav rfl rfl (decide_eq_true ⟨by omega, by omega⟩) ?_ | refine zaw rfl rfl (by omega) (by omega) ?_ | refine zcs rfl rfl rfl ?_ | refine zek rfl ?_ | refine zej rfl ?_)
  rw [zaq i (by omega)]
  exact zat (show l.length - (i + 1) < l.length - i by omega) (zbk [(some (0, 0), (X.set a.toNat o).map AV.bool), (some (1, 0), [.bool false, .bool false, .bool false, .bool false, .bool false, .bool false])] [] rfl rfl rfl .nil (.cons rfl (.keep (zbm _)) (.cons rfl (.keep rfl) .nil)) (.cons rfl (.mptr rfl) (.cons rfl (.mptr rfl) (.cons rfl (.same rfl) (.cons rfl (.same rfl) (.cons rfl (.same rfl) .nil)))))) ⟨i + 1, rfl, hlt, by rw [htk]; rfl⟩
 ·have hi2 : i = l.length := by
   have : ¬ ((i : Nat) : Int) < ((cSs l).length : Nat) := of_decide_eq_false h3
   rw [hcl] at this
   omega
  subst hi2
  rw [List.take_length]
  have hal := zc6 l x
  generalize aft x l = X at hal
  rw [hx] at hal
  match X, hal with
  | [b0, b1, b2, b3, b4, b5], _ =>
   repeat (first | refine za6 ?_ | refine za0 rfl ?_ | refine za3 ?_ | refine za2 ?_ | refine zb6 ?_ | refine zad ?_ | refine zab ?_ | refine zb0 rfl ?_ | refine zb8 rfl ?_ | refine zbb ?_ | refine zam ?_ | refine zba ?_ | refine zaj ?_ | refine zbg rfl ?_ | refine za5 ?_ | refine zaa ?_ | refine zc5 rfl ?_ | refine zda rfl rfl ?_ | refine znc rfl ?_ | refine za4 rfl ?_ | refine za8 rfl rfl ?_ | refine zas rfl rfl rfl rfl ?_ | refine zal rfl rfl rfl rfl rfl rfl rfl ?_ | refine zac rfl ?_ | refine zah rfl rfl rfl ?_ | refine zav rfl rfl rfl ?_ | refine zc2 rfl rfl rfl rfl ?_ | refine zax ?_ | refine zap rfl rfl ?_ | refine zag rfl rfl ?_ | refine zem rfl rfl ?_ | refine zb9 rfl rfl ?_ | refine zd1 rfl rfl ?_ | refine zbf rfl rfl ?_ | refine zby rfl rfl ?_ | refine zc3 rfl rfl rfl ?_ | refine zcw rfl rfl ?_ | refine zci rfl rfl rfl rfl ?_ | refine zbj rfl rfl rfl rfl ?_ | refine zct rfl rfl rfl rfl ?_ | refine zeh rfl rfl ?_ | refine zde rfl rfl ?_ | refine zbe rfl rfl ?_ | refine zei ?_ | refine zbu env0_ok rfl rfl rfl ?_ | refine zay (op := .add) rfl rfl rfl ?_ | refine zay (op := .sub) rfl rfl rfl ?_ | refine zdv rfl rfl rfl ?_ | refine zdu rfl rfl rfl ?_ | refine zbp rfl rfl rfl ?_ | refine zbn rfl rfl rfl ?_ | refine zb1 rfl rfl (by omega) (by assumption) rfl ?_ | refine zav rfl rfl (decide_eq_true ⟨by omega, by omega⟩) ?_ | refine zaw rfl rfl (by omega) (by omega) ?_ | refine zcs rfl rfl rfl ?_ | refine zek rfl ?_ | refine zej rfl ?_)
   refine zcl ?_
   repeat (first | refine za6 ?_ | refine za0 rfl ?_ | refine za3 ?_ | refine za2 ?_ | refine zb6 ?_ | refine zad ?_ | refine zab ?_ | refine zb0 rfl ?_ | refine zb8 rfl ?_ | refine zbb ?_ | refine zam ?_ | refine zba ?_ | refine zaj ?_ | refine zbg rfl ?_ | refine za5 ?_ | refine zaa ?_ | refine zc5 rfl ?_ | refine zda rfl rfl ?_ | refine znc rfl ?_ | refine za4 rfl ?_ | refine za8 rfl rfl ?_ | refine zas rfl rfl rfl rfl ?_ | refine zal rfl rfl rfl rfl rfl rfl rfl ?_ | refine zac rfl ?_ | refine zah rfl rfl rfl ?_ | refine zav rfl rfl rfl ?_ | refine zc2 rfl rfl rfl rfl ?_ | refine zax ?_ | refine zap rfl rfl ?_ | refine zag rfl rfl ?_ | refine zem rfl rfl ?_ | refine zb9 rfl rfl ?_ | refine zd1 rfl rfl ?_ | refine zbf rfl rfl ?_ | refine zby rfl rfl ?_ | refine zc3 rfl rfl rfl ?_ | refine zcw rfl rfl ?_ | refine zci rfl rfl rfl rfl ?_ | refine zbj rfl rfl rfl rfl ?_ | refine zct rfl rfl rfl rfl ?_ | refine zeh rfl rfl ?_ | refine zde rfl rfl ?_ | refine zbe rfl rfl ?_ | refine zei ?_ | refine zbu env0_ok rfl rfl rfl ?_ | refine zay (op := .add) rfl rfl rfl ?_ | refine zay (op := .sub) rfl rfl rfl ?_ | refine zdv rfl rfl rfl ?_ | refine zdu rfl rfl rfl ?_ | refine zbp rfl rfl rfl ?_ | refine zbn rfl rfl rfl ?_ | refine zb1 rfl rfl (by omega) (by assumption) rfl ?_ | refine zav rfl rfl (decide_eq_true ⟨by omega, by omega⟩) ?_ | refine zaw rfl rfl (by omega) (by omega) ?_ | refine zcs rfl rfl rfl ?_ | refine zek rfl ?_ | refine zej rfl ?_)
   exact zak ⟨.inr rfl, _, rfl, rfl⟩
end Go.Proofs.Ytoiblgbaeglgoaa
