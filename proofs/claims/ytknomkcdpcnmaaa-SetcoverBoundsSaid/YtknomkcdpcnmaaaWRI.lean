/-
  THE GREEDY CHOICE OF THE REFERENCE: Greedy.
-/
import Derived.Test.YtknomkcdpcnmaaaWRE
import Derived.Test.YtknomkcdpcnmaaaWVN
namespace Go.Proofs.Ytknomkcdpcnmaaa
open Go Go.Am
def mkC (N : Nat) (out : List Int) : List AV := (List.range N).map fun k => .bool (out.contains ((k : Nat) : Int))
theorem mkC_len (N : Nat) (out : List Int) : (mkC N out).length = N := by unfold mkC; rw [List.length_map, List.length_range]
theorem mkC_nil (N : Nat) : zhe N [AV.bool false] = mkC N [] := by
 have h : ∀ (f : Nat → Nat) (N : Nat), zhe N [AV.bool false] = (List.range N).map fun k => AV.bool (([] : List Int).contains ((f k : Nat) : Int)) := fun f N => by
  induction N with
  | zero => rfl
  | succ N ih =>
   have e : ∀ M : Nat, zhe (M + 1) [AV.bool false] = zhe M [AV.bool false] ++ [AV.bool false] := fun M => by
    induction M with
    | zero => rfl
    | succ M ih2 =>
     show [AV.bool false] ++ zhe (M + 1) [AV.bool false] = ([AV.bool false] ++ zhe M [AV.bool false]) ++ [AV.bool false]
     rw [ih2, List.append_assoc]
   rw [e, ih, List.range_succ, List.map_append]
   rfl
 exact h id N
theorem zlu (N : Nat) (out : List Int) : hasM.hasML (mkC N out) = false := by
 unfold mkC
 induction List.range N with
 | nil => rfl
 | cons k l ih => exact ih
theorem mkC_set {N b : Nat} (out : List Int) : (mkC N out).set b (.bool true) = mkC N (out ++ [(b : Int)]) := by
 apply List.ext_getElem?
 intro i
 unfold mkC
 rw [List.getElem?_set, List.length_map, List.length_range, List.getElem?_map, List.getElem?_map]
 by_cases hi : i < N
 ·rw [List.getElem?_range hi]
  by_cases hb : b = i
  ·subst hb
   rw [if_pos rfl, if_pos hi]
   simp
  ·rw [if_neg hb]
   have : ¬ ((i : Nat) : Int) = (b : Int) := by omega
   simp [this]
 ·rw [List.getElem?_eq_none (by rw [List.length_range]; omega)]
  by_cases hb : b = i
  ·subst hb
   rw [if_pos rfl, if_neg hi]
   rfl
  ·rw [if_neg hb]
   rfl
def mkE (N : Nat) (out : List Int) : List (List AV) := (List.range N).map fun k => [.bool (out.contains ((k : Nat) : Int))]
theorem zup (N : Nat) (out : List Int) : (mkE N out).length = N := by unfold mkE; rw [List.length_map, List.length_range]
theorem mkE_flat (N : Nat) (out : List Int) : mkC N out = (mkE N out).flatten := by
 unfold mkC mkE
 induction List.range N with
 | nil => rfl
 | cons k l ih => simpa using ih
theorem mkE_get {N i : Nat} (out : List Int) (h : i < N) : (mkE N out)[((i : Nat) : Int).toNat]? = some [.bool (out.contains ((i : Nat) : Int))] := by
 unfold mkE
 rw [Int.toNat_natCast, List.getElem?_map, List.getElem?_range h]
 rfl
def resL (out : List Int) (i : Nat) : List Int := ((List.range i).filter fun k => out.contains ((k : Nat) : Int)).map fun k : Nat => ((k : Nat) : Int)
theorem zvc (out : List Int) (i : Nat) : resL out (i + 1) = if out.contains ((i : Nat) : Int) = true then resL out i ++ [(i : Int)] else resL out i := by
 unfold resL
 rw [List.range_succ, List.filter_append, List.map_append, List.filter_cons]
 split
 ·rfl
 ·rw [List.filter_nil, List.map_nil, List.append_nil]
theorem zqu (out : List Int) (i : Nat) : (resL out i).length ≤ i := by
 unfold resL
 rw [List.length_map]
 exact Nat.le_trans (List.length_filter_le ..) (by rw [List.length_range]; exact Nat.le_refl _)
def greW (n : Int) (s : List (BitVec 64)) : AV := if ze4 n s = 0 then (match zjx s (szB (zcy n) + 1) (zcy n) [] with | some out => .tup [vsI (resL out s.length), .int .i64 0] | none => .tup [.vs [], .int .i64 6]) else .tup [.vs [], .int .i64 (ze4 n s)]
def bI (b : Nat × Nat) : Int := if b.2 = 0 then -1 else (b.1 : Nat)
theorem bitwise3 {A x l : BitVec 64} (h : x &&& ~~~ A = 0#64) : x &&& ~~~ (A &&& ~~~ l) = x &&& l := by
 apply BitVec.eq_of_getLsbD_eq
 intro i hi
 have a := congrArg (fun z => z.getLsbD i) h
 simp only [BitVec.getLsbD_and, BitVec.getLsbD_not, BitVec.getLsbD_zero, hi, decide_true, Bool.true_and] at a ⊢
 revert a
 cases x.getLsbD i <;> cases A.getLsbD i <;> cases l.getLsbD i <;> simp
theorem bitwise4 {A x l : BitVec 64} (h : x &&& ~~~ A = 0#64) : (A &&& ~~~ l) ||| x = A &&& ~~~ (l &&& ~~~ x) := by
 apply BitVec.eq_of_getLsbD_eq
 intro i hi
 have a := congrArg (fun z => z.getLsbD i) h
 simp only [BitVec.getLsbD_and, BitVec.getLsbD_or, BitVec.getLsbD_not, BitVec.getLsbD_zero, hi, decide_true, Bool.true_and] at a ⊢
 revert a
 cases x.getLsbD i <;> cases A.getLsbD i <;> cases l.getLsbD i <;> simp
theorem bitwise5 {A x l : BitVec 64} (h : l &&& ~~~ A = 0#64) : (l &&& ~~~ x) &&& ~~~ A = 0#64 := by
 apply BitVec.eq_of_getLsbD_eq
 intro i hi
 have a := congrArg (fun z => z.getLsbD i) h
 simp only [BitVec.getLsbD_and, BitVec.getLsbD_not, BitVec.getLsbD_zero, hi, decide_true, Bool.true_and] at a ⊢
 revert a
 cases x.getLsbD i <;> cases A.getLsbD i <;> cases l.getLsbD i <;> simp
theorem bitwise6 {A l : BitVec 64} (h : l &&& ~~~ A = 0#64) : A &&& ~~~ l = A ↔ l = 0#64 := by
 constructor
 ·intro h2
  apply BitVec.eq_of_getLsbD_eq
  intro i hi
  have a := congrArg (fun z => z.getLsbD i) h
  have b := congrArg (fun z => z.getLsbD i) h2
  simp only [BitVec.getLsbD_and, BitVec.getLsbD_not, BitVec.getLsbD_zero, hi, decide_true, Bool.true_and] at a b ⊢
  revert a b
  cases A.getLsbD i <;> cases l.getLsbD i <;> simp
 ·rintro rfl
  rw [show ~~~ 0#64 = BitVec.allOnes 64 from rfl, BitVec.and_allOnes]
def b22_2 : IC := .seq (.seq (.region [⟨(some 27), .mov (.t 9), none⟩,
  ⟨(some 28), .faddr 1 (.t 1), none⟩,
  ⟨(some 29), .load none (.t 28), none⟩,
  ⟨(some 30), .len false (.t 29), none⟩,
  ⟨(some 31), .bin .lss (.t 27) (.t 30), none⟩] none)
 (.cond (.t 31) (.skip)
 (.exit 2)))
 (.seq (.block 3 (.seq (.region [⟨(some 34), .faddr 1 (.t 1), none⟩,
  ⟨(some 35), .load none (.t 34), none⟩,
  ⟨(some 36), .mov (.t 9), none⟩,
  ⟨(some 37), .idxs 1 (.t 35) (.t 36), none⟩,
  ⟨(some 38), .load none (.t 37), none⟩,
  ⟨(some 39), .mov (.t 6), none⟩,
  ⟨(some 40), .bin .andNot (.t 38) (.t 39), none⟩,
  ⟨(some 41), .call (.c (.fn 55 [] [])) [(.t 40)], none⟩,
  ⟨(some 10), .mov (.t 41), none⟩] none)
 (.seq (.region [⟨(some 42), .mov (.t 10), none⟩,
  ⟨(some 43), .mov (.t 8), none⟩,
  ⟨(some 44), .bin .gtr (.t 42) (.t 43), none⟩] none)
 (.cond (.t 44) (.region [⟨(some 45), .mov (.t 9), none⟩,
  ⟨(some 46), .mov (.t 10), none⟩,
  ⟨(some 7), .mov (.t 45), none⟩,
  ⟨(some 8), .mov (.t 46), none⟩] none)
 (.skip)))))
 (.region [⟨(some 32), .mov (.t 9), none⟩,
  ⟨(some 33), .bin .add (.t 32) (.c (.int .i64 1)), none⟩,
  ⟨(some 9), .mov (.t 33), none⟩] none))
def b22_0 : IC := .seq (.seq (.region [⟨(some 22), .mov (.t 6), none⟩,
  ⟨(some 23), .faddr 0 (.t 1), none⟩,
  ⟨(some 24), .load none (.t 23), none⟩,
  ⟨(some 25), .call (.c (.fn 54 [] [])) [(.t 24)], none⟩,
  ⟨(some 26), .bin .neq (.t 22) (.t 25), none⟩] none)
 (.cond (.t 26) (.skip)
 (.exit 0)))
 (.block 1 (.seq (.region [⟨(some 7), .mov (.c (.int .i64 (-1))), none⟩,
  ⟨(some 8), .mov (.c (.int .i64 0)), none⟩] none)
 (.seq (.seq (.region [⟨(some 9), .mov (.c (.int .i64 0)), none⟩] none)
 (.block 2 (.loop b22_2)))
 (.seq (.seq (.region [⟨(some 47), .mov (.t 7), none⟩,
  ⟨(some 48), .bin .lss (.t 47) (.c (.int .i64 0)), none⟩] none)
 (.cond (.t 48) (.seq (.region [⟨(some 2), .mov (.c (.nils)), none⟩,
  ⟨(some 3), .mov (.c (.int .i64 6)), none⟩] none)
 (.ret))
 (.skip)))
 (.seq (.region [⟨(some 49), .mov (.t 5), none⟩,
  ⟨(some 50), .mov (.t 7), none⟩,
  ⟨(some 51), .idxs 1 (.t 49) (.t 50), none⟩,
  ⟨none, .store 1 (.t 51) (.c (.bool true)), none⟩] none)
 (.region [⟨(some 52), .mov (.t 6), none⟩,
  ⟨(some 53), .faddr 1 (.t 1), none⟩,
  ⟨(some 54), .load none (.t 53), none⟩,
  ⟨(some 55), .mov (.t 7), none⟩,
  ⟨(some 56), .idxs 1 (.t 54) (.t 55), none⟩,
  ⟨(some 57), .load none (.t 56), none⟩,
  ⟨(some 58), .bin .or (.t 52) (.t 57), none⟩,
  ⟨(some 6), .mov (.t 58), none⟩] none))))))
def b22_4 : IC := .seq (.seq (.region [⟨(some 59), .mov (.t 12), none⟩,
  ⟨(some 60), .mov (.t 5), none⟩,
  ⟨(some 61), .len false (.t 60), none⟩,
  ⟨(some 62), .bin .lss (.t 59) (.t 61), none⟩] none)
 (.cond (.t 62) (.skip)
 (.exit 4)))
 (.seq (.block 5 (.seq (.region [⟨(some 65), .mov (.t 5), none⟩,
  ⟨(some 66), .mov (.t 12), none⟩,
  ⟨(some 67), .idxs 1 (.t 65) (.t 66), none⟩,
  ⟨(some 68), .load none (.t 67), none⟩] none)
 (.cond (.t 68) (.region [⟨(some 69), .mov (.t 11), none⟩,
  ⟨(some 70), .mov (.t 12), none⟩,
  ⟨(some 71), .bslice 1 1 [.int .i64 0] [(0, 1, (.t 70))], none⟩,
  ⟨(some 72), .append 1 8 [.int .i64 0] (.t 69) (.t 71), none⟩,
  ⟨(some 11), .mov (.t 72), none⟩] none)
 (.skip))))
 (.region [⟨(some 63), .mov (.t 12), none⟩,
  ⟨(some 64), .bin .add (.t 63) (.c (.int .i64 1)), none⟩,
  ⟨(some 12), .mov (.t 64), none⟩] none))
-- pneumatic/pneumaticref09.Greedy
def ic22 : IC := .seq (.region [⟨(some 1), .box (.t 0), none⟩,
  ⟨(some 2), .mov (.c (.nils)), none⟩,
  ⟨(some 3), .mov (.c (.int .i64 0)), none⟩] none)
 (.seq (.seq (.region [⟨(some 13), .load (some 2) (.t 1), none⟩,
  ⟨(some 14), .call (.c (.fn 38 [] [])) [(.t 13)], none⟩,
  ⟨(some 4), .mov (.t 14), none⟩] none)
 (.seq (.region [⟨(some 15), .mov (.t 4), none⟩,
  ⟨(some 16), .bin .neq (.t 15) (.c (.int .i64 0)), none⟩] none)
 (.cond (.t 16) (.seq (.region [⟨(some 17), .mov (.t 4), none⟩,
  ⟨(some 2), .mov (.c (.nils)), none⟩,
  ⟨(some 3), .mov (.t 17), none⟩] none)
 (.ret))
 (.skip))))
 (.seq (.region [⟨(some 18), .faddr 1 (.t 1), none⟩,
  ⟨(some 19), .load none (.t 18), none⟩,
  ⟨(some 20), .len false (.t 19), none⟩,
  ⟨(some 21), .mkslice 1 1 [.bool false] (.t 20) (.t 20), none⟩,
  ⟨(some 5), .mov (.t 21), none⟩] none)
 (.seq (.region [⟨(some 6), .mov (.c (.int .u64 0)), none⟩] none)
 (.seq (.block 0 (.loop b22_0))
 (.seq (.region [⟨(some 11), .mov (.c (.nils)), none⟩] none)
 (.seq (.seq (.region [⟨(some 12), .mov (.c (.int .i64 0)), none⟩] none)
 (.block 4 (.loop b22_4)))
 (.seq (.region [⟨(some 73), .mov (.t 11), none⟩,
  ⟨(some 2), .mov (.t 73), none⟩,
  ⟨(some 3), .mov (.c (.int .i64 0)), none⟩] none)
 (.ret))))))))
theorem fn22 : env0.fn 22 = some ⟨74, ic22, [.t 2, .t 3]⟩ := by kernel_rfl
def t22 (n : Int) (s : List (BitVec 64)) (h : BitVec 64) : List (Nat × AV) := [(1, .vptr [.int .i64 n, .vs (cUs s)]), (5, .ms 0 0 1 0 s.length (some s.length)), (6, cU h)]
set_option maxHeartbeats 4000000 in
theorem inner22 {w0 : World} {N0 : Nat} {k : List Fr} {Q : Exit → AS → Prop} {y : IC} (n : Int) (s : List (BitVec 64)) (hs : s.length ≤ 64) (left h : BitVec 64) (C : List AV) (hh : ∀ i < s.length, s.getD i 0 &&& ~~~ h = s.getD i 0 &&& left)
  (fin : Zm Try.prog w0 N0 none y (st 74 ((7, .int .i64 (bI (zd1 s left s.length))) :: (8, .int .i64 ((zd1 s left s.length).2 : Nat)) :: t22 n s h) [(0, 0, .cells C)] 1 1) k Q) :
  Zm Try.prog w0 N0 none (.loop b22_2) (st 74 ((7, .int .i64 (-1)) :: (8, .int .i64 0) :: (9, .int .i64 0) :: t22 n s h) [(0, 0, .cells C)] 1 1) (.blk 2 :: .seq y :: k) Q := by
 have hcl := zce s
 refine zc9 (fun mm S => ∃ i, mm = s.length - i ∧ i ≤ s.length ∧ S = st 74 ((7, .int .i64 (bI (zd1 s left i))) :: (8, .int .i64 ((zd1 s left i).2 : Nat)) :: (9, .int .i64 (i : Nat)) :: t22 n s h) [(0, 0, .cells C)] 1 1) s.length
  (zb5 (.cons rfl (.cons rfl (.cons rfl (.cons rfl (.cons rfl (.cons rfl .nil))))))) ⟨0, rfl, Nat.zero_le _, rfl⟩ ?_
 rintro mm S ⟨i, rfl, hi, rfl⟩
 unfold b22_2 t22
 repeat (first | refine zaa ?_ | refine za0 rfl ?_ | refine za7 ?_ | refine za8 ?_ | refine zbf ?_ | refine zag ?_ | refine zao ?_ | refine zbo rfl ?_ | refine zbl rfl ?_ | refine zb2 ?_ | refine zb6 ?_ | refine zb1 ?_ | refine za4 ?_ | refine za3 rfl ?_ | refine za2 ?_ | refine za5 ?_ | refine zbx rfl ?_ | refine zbz rfl rfl ?_ | refine zc4 rfl ?_ | refine za6 rfl ?_ | refine zar rfl rfl ?_ | refine zat rfl rfl rfl rfl ?_ | refine zau rfl rfl rfl rfl rfl rfl rfl ?_ | refine zak rfl ?_ | refine za9 rfl rfl rfl ?_ | refine za1 rfl rfl rfl ?_ | refine zad rfl rfl rfl rfl ?_ | refine zaw ?_ | refine zap rfl rfl ?_ | refine zal rfl rfl ?_ | refine zc7 rfl rfl ?_ | refine zbe rfl rfl ?_ | refine zax rfl rfl ?_ | refine zai rfl rfl ?_ | refine zbh rfl rfl ?_ | refine zae rfl rfl rfl ?_ | refine zaz rfl rfl ?_ | refine zaq rfl rfl rfl rfl ?_ | refine zac rfl rfl rfl rfl ?_ | refine zan rfl rfl rfl rfl ?_ | refine zb8 rfl rfl ?_ | refine zb7 rfl rfl ?_ | refine zab rfl rfl ?_ | refine zbb ?_ | refine zaj env0_ok rfl rfl rfl ?_ | refine zah (op := .add) rfl rfl rfl ?_ | refine zah (op := .sub) rfl rfl rfl ?_ | refine zb9 rfl rfl rfl ?_ | refine zba rfl rfl rfl ?_ | refine zb4 rfl rfl rfl ?_ | refine zb3 rfl rfl rfl ?_ | refine zb0 rfl rfl (by omega) (by assumption) rfl ?_ | refine za1 rfl rfl (decide_eq_true ⟨by omega, by omega⟩) ?_ | refine zav rfl rfl (by omega) (by omega) ?_ | refine zam rfl rfl rfl ?_ | refine zbd rfl ?_ | refine zbc rfl ?_)
 refine zbm rfl rfl rfl (fun h3 => ?_) fun h3 => ?_
 ·have hlt : i < s.length := by
   have : ((i : Nat) : Int) < ((cUs s).length : Nat) := of_decide_eq_true h3
   omega
  have hg := zf6 hlt
  have hgd : s[i] = s.getD i 0 := by rw [List.getD_eq_getElem?_getD, List.getElem?_eq_getElem hlt]; rfl
  have hhi := hh i hlt
  rw [← hgd] at hhi
  have w1 : IntKind.wrap .i64 (((i : Nat) : Int) + 1) = ((i + 1 : Nat) : Int) := zbn i (by omega)
  have hbs : zd1 s left (i + 1) = if szB (s.getD i 0 &&& left) > (zd1 s left i).2 then (i, szB (s.getD i 0 &&& left)) else zd1 s left i := rfl
  rw [← hgd] at hbs
  generalize s[i] = x at *
  generalize zd1 s left i = bt at *
  have pS := size55 (x &&& left)
  repeat (first | refine zaa ?_ | refine za0 rfl ?_ | refine za7 ?_ | refine za8 ?_ | refine zbf ?_ | refine zag ?_ | refine zao ?_ | refine zbo rfl ?_ | refine zbl rfl ?_ | refine zb2 ?_ | refine zb6 ?_ | refine zb1 ?_ | refine za4 ?_ | refine za3 rfl ?_ | refine za2 ?_ | refine za5 ?_ | refine zbx rfl ?_ | refine zbz rfl rfl ?_ | refine zc4 rfl ?_ | refine za6 rfl ?_ | refine zar rfl rfl ?_ | refine zat rfl rfl rfl rfl ?_ | refine zau rfl rfl rfl rfl rfl rfl rfl ?_ | refine zak rfl ?_ | refine za9 rfl rfl rfl ?_ | refine za1 rfl rfl rfl ?_ | refine zad rfl rfl rfl rfl ?_ | refine zaw ?_ | refine zap rfl rfl ?_ | refine zal rfl rfl ?_ | refine zc7 rfl rfl ?_ | refine zbe rfl rfl ?_ | refine zax rfl rfl ?_ | refine zai rfl rfl ?_ | refine zbh rfl rfl ?_ | refine zae rfl rfl rfl ?_ | refine zaz rfl rfl ?_ | refine zaq rfl rfl rfl rfl ?_ | refine zac rfl rfl rfl rfl ?_ | refine zan rfl rfl rfl rfl ?_ | refine zb8 rfl rfl ?_ | refine zb7 rfl rfl ?_ | refine zab rfl rfl ?_ | refine zbb ?_ | refine zaj env0_ok rfl rfl rfl ?_ | refine zb9 rfl rfl rfl ?_ | refine zba rfl rfl rfl ?_ | refine zb4 rfl rfl rfl ?_ | refine zb3 rfl rfl rfl ?_ | refine zb0 rfl rfl (by omega) (by assumption) rfl ?_ | refine za1 rfl rfl (decide_eq_true ⟨by omega, by omega⟩) ?_ | refine zav rfl rfl (by omega) (by omega) ?_ | refine zam rfl rfl rfl ?_ | refine zbd rfl ?_ | refine zbc rfl ?_)
  refine zah rfl rfl (zfl x h) ?_
  rw [hhi]
  repeat (first | refine zaa ?_ | refine za0 rfl ?_ | refine za7 ?_ | refine za8 ?_ | refine zbf ?_ | refine zag ?_ | refine zao ?_ | refine zbo rfl ?_ | refine zbl rfl ?_ | refine zb2 ?_ | refine zb6 ?_ | refine zb1 ?_ | refine za4 ?_ | refine za3 rfl ?_ | refine za2 ?_ | refine za5 ?_ | refine zbx rfl ?_ | refine zbz rfl rfl ?_ | refine zc4 rfl ?_ | refine za6 rfl ?_ | refine zar rfl rfl ?_ | refine zat rfl rfl rfl rfl ?_ | refine zau rfl rfl rfl rfl rfl rfl rfl ?_ | refine zak rfl ?_ | refine za9 rfl rfl rfl ?_ | refine za1 rfl rfl rfl ?_ | refine zad rfl rfl rfl rfl ?_ | refine zaw ?_ | refine zap rfl rfl ?_ | refine zal rfl rfl ?_ | refine zc7 rfl rfl ?_ | refine zbe rfl rfl ?_ | refine zax rfl rfl ?_ | refine zai rfl rfl ?_ | refine zbh rfl rfl ?_ | refine zae rfl rfl rfl ?_ | refine zaz rfl rfl ?_ | refine zaq rfl rfl rfl rfl ?_ | refine zac rfl rfl rfl rfl ?_ | refine zan rfl rfl rfl rfl ?_ | refine zb8 rfl rfl ?_ | refine zb7 rfl rfl ?_ | refine zab rfl rfl ?_ | refine zbb ?_ | refine zaj env0_ok rfl rfl rfl ?_ | refine zah (op := .add) rfl rfl rfl ?_ | refine zah (op := .sub) rfl rfl rfl ?_ | refine zb9 rfl rfl rfl ?_ | refine zba rfl rfl rfl ?_ | refine zb4 rfl rfl rfl ?_ | refine zb3 rfl rfl rfl ?_ | refine zb0 rfl rfl (by omega) (by assumption) rfl ?_ | refine za1 rfl rfl (decide_eq_true ⟨by omega, by omega⟩) ?_ | refine zav rfl rfl (by omega) (by omega) ?_ | refine zam rfl rfl rfl ?_ | refine zbd rfl ?_ | refine zbc rfl ?_)
  refine zbu rfl rfl pS (fun h => Bool.noConfusion (show false = true from h)) ?_
  repeat (first | refine zaa ?_ | refine za0 rfl ?_ | refine za7 ?_ | refine za8 ?_ | refine zbf ?_ | refine zag ?_ | refine zao ?_ | refine zbo rfl ?_ | refine zbl rfl ?_ | refine zb2 ?_ | refine zb6 ?_ | refine zb1 ?_ | refine za4 ?_ | refine za3 rfl ?_ | refine za2 ?_ | refine za5 ?_ | refine zbx rfl ?_ | refine zbz rfl rfl ?_ | refine zc4 rfl ?_ | refine za6 rfl ?_ | refine zar rfl rfl ?_ | refine zat rfl rfl rfl rfl ?_ | refine zau rfl rfl rfl rfl rfl rfl rfl ?_ | refine zak rfl ?_ | refine za9 rfl rfl rfl ?_ | refine za1 rfl rfl rfl ?_ | refine zad rfl rfl rfl rfl ?_ | refine zaw ?_ | refine zap rfl rfl ?_ | refine zal rfl rfl ?_ | refine zc7 rfl rfl ?_ | refine zbe rfl rfl ?_ | refine zax rfl rfl ?_ | refine zai rfl rfl ?_ | refine zbh rfl rfl ?_ | refine zae rfl rfl rfl ?_ | refine zaz rfl rfl ?_ | refine zaq rfl rfl rfl rfl ?_ | refine zac rfl rfl rfl rfl ?_ | refine zan rfl rfl rfl rfl ?_ | refine zb8 rfl rfl ?_ | refine zb7 rfl rfl ?_ | refine zab rfl rfl ?_ | refine zbb ?_ | refine zaj env0_ok rfl rfl rfl ?_ | refine zah (op := .add) rfl rfl rfl ?_ | refine zah (op := .sub) rfl rfl rfl ?_ | refine zb9 rfl rfl rfl ?_ | refine zba rfl rfl rfl ?_ | refine zb4 rfl rfl rfl ?_ | refine zb3 rfl rfl rfl ?_ | refine zb0 rfl rfl (by omega) (by assumption) rfl ?_ | refine za1 rfl rfl (decide_eq_true ⟨by omega, by omega⟩) ?_ | refine zav rfl rfl (by omega) (by omega) ?_ | refine zam rfl rfl rfl ?_ | refine zbd rfl ?_ | refine zbc rfl ?_)
  refine zbm rfl rfl rfl (fun h4 => ?_) fun h4 => ?_
  ·have h4 : ((szB (x &&& left) : Nat) : Int) > ((bt.2 : Nat) : Int) := of_decide_eq_true h4
   rw [if_pos (show szB (x &&& left) > bt.2 by omega)] at hbs
   have hbI : bI (i, szB (x &&& left)) = (i : Nat) := by
    unfold bI
    exact if_neg (show ¬ szB (x &&& left) = 0 by omega)
   repeat (first | refine zaa ?_ | refine za0 rfl ?_ | refine za7 ?_ | refine za8 ?_ | refine zbf ?_ | refine zag ?_ | refine zao ?_ | refine zbo rfl ?_ | refine zbl rfl ?_ | refine zb2 ?_ | refine zb6 ?_ | refine zb1 ?_ | refine za4 ?_ | refine za3 rfl ?_ | refine za2 ?_ | refine za5 ?_ | refine zbx rfl ?_ | refine zbz rfl rfl ?_ | refine zc4 rfl ?_ | refine za6 rfl ?_ | refine zar rfl rfl ?_ | refine zat rfl rfl rfl rfl ?_ | refine zau rfl rfl rfl rfl rfl rfl rfl ?_ | refine zak rfl ?_ | refine za9 rfl rfl rfl ?_ | refine za1 rfl rfl rfl ?_ | refine zad rfl rfl rfl rfl ?_ | refine zaw ?_ | refine zap rfl rfl ?_ | refine zal rfl rfl ?_ | refine zc7 rfl rfl ?_ | refine zbe rfl rfl ?_ | refine zax rfl rfl ?_ | refine zai rfl rfl ?_ | refine zbh rfl rfl ?_ | refine zae rfl rfl rfl ?_ | refine zaz rfl rfl ?_ | refine zaq rfl rfl rfl rfl ?_ | refine zac rfl rfl rfl rfl ?_ | refine zan rfl rfl rfl rfl ?_ | refine zb8 rfl rfl ?_ | refine zb7 rfl rfl ?_ | refine zab rfl rfl ?_ | refine zbb ?_ | refine zaj env0_ok rfl rfl rfl ?_ | refine zah (op := .add) rfl rfl rfl ?_ | refine zah (op := .sub) rfl rfl rfl ?_ | refine zb9 rfl rfl rfl ?_ | refine zba rfl rfl rfl ?_ | refine zb4 rfl rfl rfl ?_ | refine zb3 rfl rfl rfl ?_ | refine zb0 rfl rfl (by omega) (by assumption) rfl ?_ | refine za1 rfl rfl (decide_eq_true ⟨by omega, by omega⟩) ?_ | refine zav rfl rfl (by omega) (by omega) ?_ | refine zam rfl rfl rfl ?_ | refine zbd rfl ?_ | refine zbc rfl ?_)
   rw [w1]
   exact zbp (show s.length - (i + 1) < s.length - i by omega) (zb5 (.cons rfl (.cons rfl (.cons rfl (.cons rfl (.cons rfl (.cons rfl .nil))))))) ⟨i + 1, rfl, hlt, by rw [hbs, hbI]⟩
  ·have h4 : ¬ ((szB (x &&& left) : Nat) : Int) > ((bt.2 : Nat) : Int) := of_decide_eq_false h4
   rw [if_neg (show ¬ szB (x &&& left) > bt.2 by omega)] at hbs
   repeat (first | refine zaa ?_ | refine za0 rfl ?_ | refine za7 ?_ | refine za8 ?_ | refine zbf ?_ | refine zag ?_ | refine zao ?_ | refine zbo rfl ?_ | refine zbl rfl ?_ | refine zb2 ?_ | refine zb6 ?_ | refine zb1 ?_ | refine za4 ?_ | refine za3 rfl ?_ | refine za2 ?_ | refine za5 ?_ | refine zbx rfl ?_ | refine zbz rfl rfl ?_ | refine zc4 rfl ?_ | refine za6 rfl ?_ | refine zar rfl rfl ?_ | refine zat rfl rfl rfl rfl ?_ | refine zau rfl rfl rfl rfl rfl rfl rfl ?_ | refine zak rfl ?_ | refine za9 rfl rfl rfl ?_ | refine za1 rfl rfl rfl ?_ | refine zad rfl rfl rfl rfl ?_ | refine zaw ?_ | refine zap rfl rfl ?_ | refine zal rfl rfl ?_ | refine zc7 rfl rfl ?_ | refine zbe rfl rfl ?_ | refine zax rfl rfl ?_ | refine zai rfl rfl ?_ | refine zbh rfl rfl ?_ | refine zae rfl rfl rfl ?_ | refine zaz rfl rfl ?_ | refine zaq rfl rfl rfl rfl ?_ | refine zac rfl rfl rfl rfl ?_ | refine zan rfl rfl rfl rfl ?_ | refine zb8 rfl rfl ?_ | refine zb7 rfl rfl ?_ | refine zab rfl rfl ?_ | refine zbb ?_ | refine zaj env0_ok rfl rfl rfl ?_ | refine zah (op := .add) rfl rfl rfl ?_ | refine zah (op := .sub) rfl rfl rfl ?_ | refine zb9 rfl rfl rfl ?_ | refine zba rfl rfl rfl ?_ | refine zb4 rfl rfl rfl ?_ | refine zb3 rfl rfl rfl ?_ | refine zb0 rfl rfl (by omega) (by assumption) rfl ?_ | refine za1 rfl rfl (decide_eq_true ⟨by omega, by omega⟩) ?_ | refine zav rfl rfl (by omega) (by omega) ?_ | refine zam rfl rfl rfl ?_ | refine zbd rfl ?_ | refine zbc rfl ?_)
   rw [w1]
   exact zbp (show s.length - (i + 1) < s.length - i by omega) (zb5 (.cons rfl (.cons rfl (.cons rfl (.cons rfl (.cons rfl (.cons rfl .nil))))))) ⟨i + 1, rfl, hlt, by rw [hbs]⟩
 ·have hi3 : i = s.length := by
   have : ¬ ((i : Nat) : Int) < ((cUs s).length : Nat) := of_decide_eq_false h3
   omega
  rw [hi3]
  repeat (first | refine zaa ?_ | refine za0 rfl ?_ | refine za7 ?_ | refine za8 ?_ | refine zbf ?_ | refine zag ?_ | refine zao ?_ | refine zbo rfl ?_ | refine zbl rfl ?_ | refine zb2 ?_ | refine zb6 ?_ | refine zb1 ?_ | refine za4 ?_ | refine za3 rfl ?_ | refine za2 ?_ | refine za5 ?_ | refine zbx rfl ?_ | refine zbz rfl rfl ?_ | refine zc4 rfl ?_ | refine za6 rfl ?_ | refine zar rfl rfl ?_ | refine zat rfl rfl rfl rfl ?_ | refine zau rfl rfl rfl rfl rfl rfl rfl ?_ | refine zak rfl ?_ | refine za9 rfl rfl rfl ?_ | refine za1 rfl rfl rfl ?_ | refine zad rfl rfl rfl rfl ?_ | refine zaw ?_ | refine zap rfl rfl ?_ | refine zal rfl rfl ?_ | refine zc7 rfl rfl ?_ | refine zbe rfl rfl ?_ | refine zax rfl rfl ?_ | refine zai rfl rfl ?_ | refine zbh rfl rfl ?_ | refine zae rfl rfl rfl ?_ | refine zaz rfl rfl ?_ | refine zaq rfl rfl rfl rfl ?_ | refine zac rfl rfl rfl rfl ?_ | refine zan rfl rfl rfl rfl ?_ | refine zb8 rfl rfl ?_ | refine zb7 rfl rfl ?_ | refine zab rfl rfl ?_ | refine zbb ?_ | refine zaj env0_ok rfl rfl rfl ?_ | refine zah (op := .add) rfl rfl rfl ?_ | refine zah (op := .sub) rfl rfl rfl ?_ | refine zb9 rfl rfl rfl ?_ | refine zba rfl rfl rfl ?_ | refine zb4 rfl rfl rfl ?_ | refine zb3 rfl rfl rfl ?_ | refine zb0 rfl rfl (by omega) (by assumption) rfl ?_ | refine za1 rfl rfl (decide_eq_true ⟨by omega, by omega⟩) ?_ | refine zav rfl rfl (by omega) (by omega) ?_ | refine zam rfl rfl rfl ?_ | refine zbd rfl ?_ | refine zbc rfl ?_)
  refine zd6 ?_
  repeat (first | refine zaa ?_ | refine za0 rfl ?_ | refine za7 ?_ | refine za8 ?_ | refine zbf ?_ | refine zag ?_ | refine zao ?_ | refine zbo rfl ?_ | refine zbl rfl ?_ | refine zb2 ?_ | refine zb6 ?_ | refine zb1 ?_ | refine za4 ?_ | refine za3 rfl ?_ | refine za2 ?_ | refine za5 ?_ | refine zbx rfl ?_ | refine zbz rfl rfl ?_ | refine zc4 rfl ?_ | refine za6 rfl ?_ | refine zar rfl rfl ?_ | refine zat rfl rfl rfl rfl ?_ | refine zau rfl rfl rfl rfl rfl rfl rfl ?_ | refine zak rfl ?_ | refine za9 rfl rfl rfl ?_ | refine za1 rfl rfl rfl ?_ | refine zad rfl rfl rfl rfl ?_ | refine zaw ?_ | refine zap rfl rfl ?_ | refine zal rfl rfl ?_ | refine zc7 rfl rfl ?_ | refine zbe rfl rfl ?_ | refine zax rfl rfl ?_ | refine zai rfl rfl ?_ | refine zbh rfl rfl ?_ | refine zae rfl rfl rfl ?_ | refine zaz rfl rfl ?_ | refine zaq rfl rfl rfl rfl ?_ | refine zac rfl rfl rfl rfl ?_ | refine zan rfl rfl rfl rfl ?_ | refine zb8 rfl rfl ?_ | refine zb7 rfl rfl ?_ | refine zab rfl rfl ?_ | refine zbb ?_ | refine zaj env0_ok rfl rfl rfl ?_ | refine zah (op := .add) rfl rfl rfl ?_ | refine zah (op := .sub) rfl rfl rfl ?_ | refine zb9 rfl rfl rfl ?_ | refine zba rfl rfl rfl ?_ | refine zb4 rfl rfl rfl ?_ | refine zb3 rfl rfl rfl ?_ | refine zb0 rfl rfl (by omega) (by assumption) rfl ?_ | refine za1 rfl rfl (decide_eq_true ⟨by omega, by omega⟩) ?_ | refine zav rfl rfl (by omega) (by omega) ?_ | refine zam rfl rfl rfl ?_ | refine zbd rfl ?_ | refine zbc rfl ?_)
  exact zfy (zb5 (.cons rfl (.cons rfl (.cons rfl (.cons rfl (.cons rfl .nil)))))) fin
set_option maxHeartbeats 4000000 in
theorem greedy22 (n : Int) (s : List (BitVec 64)) : PF Try.prog 22 [cF n s] (greW n s) := by
 have pC := zl8 n s
 have hcl := zce s
 refine zby env0_ok fn22 [(0, cF n s)] (by show 1 ≤ 74; decide) rfl fun w0 N0 => ?_
 unfold ic22 greW
 refine zaa (za0 rfl (zbh (cs := [.int .i64 n, .vs (cUs s)]) rfl rfl (za6 rfl (za6 rfl (za7 (za8 ?_))))))
 refine zd9 [] [(0, 0, [.int .i64 n, .vs (cUs s)])] [(1, .vptr [.int .i64 n, .vs (cUs s)])] rfl (.cons rfl rfl .nil) .nil (.cons rfl (.fptr rfl rfl) .nil) ?_
 repeat (first | refine zaa ?_ | refine za0 rfl ?_ | refine za7 ?_ | refine za8 ?_ | refine zbf ?_ | refine zag ?_ | refine zao ?_ | refine zbo rfl ?_ | refine zbl rfl ?_ | refine zb2 ?_ | refine zb6 ?_ | refine zb1 ?_ | refine za4 ?_ | refine za3 rfl ?_ | refine za2 ?_ | refine za5 ?_ | refine zbx rfl ?_ | refine zbz rfl rfl ?_ | refine zc4 rfl ?_ | refine za6 rfl ?_ | refine zar rfl rfl ?_ | refine zat rfl rfl rfl rfl ?_ | refine zau rfl rfl rfl rfl rfl rfl rfl ?_ | refine zak rfl ?_ | refine za9 rfl rfl rfl ?_ | refine za1 rfl rfl rfl ?_ | refine zad rfl rfl rfl rfl ?_ | refine zaw ?_ | refine zap rfl rfl ?_ | refine zal rfl rfl ?_ | refine zc7 rfl rfl ?_ | refine zbe rfl rfl ?_ | refine zax rfl rfl ?_ | refine zai rfl rfl ?_ | refine zbh rfl rfl ?_ | refine zae rfl rfl rfl ?_ | refine zaz rfl rfl ?_ | refine zaq rfl rfl rfl rfl ?_ | refine zac rfl rfl rfl rfl ?_ | refine zan rfl rfl rfl rfl ?_ | refine zb8 rfl rfl ?_ | refine zb7 rfl rfl ?_ | refine zab rfl rfl ?_ | refine zbb ?_ | refine zaj env0_ok rfl rfl rfl ?_ | refine zah (op := .add) rfl rfl rfl ?_ | refine zah (op := .sub) rfl rfl rfl ?_ | refine zb9 rfl rfl rfl ?_ | refine zba rfl rfl rfl ?_ | refine zb4 rfl rfl rfl ?_ | refine zb3 rfl rfl rfl ?_ | refine zb0 rfl rfl (by omega) (by assumption) rfl ?_ | refine za1 rfl rfl (decide_eq_true ⟨by omega, by omega⟩) ?_ | refine zav rfl rfl (by omega) (by omega) ?_ | refine zam rfl rfl rfl ?_ | refine zbd rfl ?_ | refine zbc rfl ?_)
 refine zbu rfl rfl pC (fun h => Bool.noConfusion (show false = true from h)) ?_
 by_cases hc : ze4 n s = 0
 ·rw [if_pos hc, hc]
  obtain ⟨n0, n1, s1, hbad⟩ := zf1 hc
  have hbd : ∀ i < s.length, s.getD i 0 &&& ~~~ zcy n = 0#64 := fun i hi => by
   have := hbad (s.getD i 0) (by rw [show s.getD i 0 = s[i] by rw [List.getD_eq_getElem?_getD, List.getElem?_eq_getElem hi]; rfl]; exact List.getElem_mem hi)
   unfold zsw at this
   simpa using this
  have pA := all54 n0
  generalize hR : zjx s (szB (zcy n) + 1) (zcy n) [] = R
  repeat (first | refine zaa ?_ | refine za0 rfl ?_ | refine za7 ?_ | refine za8 ?_ | refine zbf ?_ | refine zag ?_ | refine zao ?_ | refine zbo rfl ?_ | refine zbl rfl ?_ | refine zb2 ?_ | refine zb6 ?_ | refine zb1 ?_ | refine za4 ?_ | refine za3 rfl ?_ | refine za2 ?_ | refine za5 ?_ | refine zbx rfl ?_ | refine zbz rfl rfl ?_ | refine zc4 rfl ?_ | refine za6 rfl ?_ | refine zar rfl rfl ?_ | refine zat rfl rfl rfl rfl ?_ | refine zau rfl rfl rfl rfl rfl rfl rfl ?_ | refine zak rfl ?_ | refine za9 rfl rfl rfl ?_ | refine za1 rfl rfl rfl ?_ | refine zad rfl rfl rfl rfl ?_ | refine zaw ?_ | refine zap rfl rfl ?_ | refine zal rfl rfl ?_ | refine zc7 rfl rfl ?_ | refine zbe rfl rfl ?_ | refine zax rfl rfl ?_ | refine zai rfl rfl ?_ | refine zbh rfl rfl ?_ | refine zae rfl rfl rfl ?_ | refine zaz rfl rfl ?_ | refine zaq rfl rfl rfl rfl ?_ | refine zac rfl rfl rfl rfl ?_ | refine zan rfl rfl rfl rfl ?_ | refine zb8 rfl rfl ?_ | refine zb7 rfl rfl ?_ | refine zab rfl rfl ?_ | refine zbb ?_ | refine zaj env0_ok rfl rfl rfl ?_ | refine zah (op := .add) rfl rfl rfl ?_ | refine zah (op := .sub) rfl rfl rfl ?_ | refine zb9 rfl rfl rfl ?_ | refine zba rfl rfl rfl ?_ | refine zb4 rfl rfl rfl ?_ | refine zb3 rfl rfl rfl ?_ | refine zb0 rfl rfl (by omega) (by assumption) rfl ?_ | refine za1 rfl rfl (decide_eq_true ⟨by omega, by omega⟩) ?_ | refine zav rfl rfl (by omega) (by omega) ?_ | refine zam rfl rfl rfl ?_ | refine zbd rfl ?_ | refine zbc rfl ?_)
  refine o_mks rfl rfl (by omega) ?_
  rw [Int.toNat_natCast, mkC_nil, hcl]
  repeat (first | refine zaa ?_ | refine za0 rfl ?_ | refine za7 ?_ | refine za8 ?_ | refine zbf ?_ | refine zag ?_ | refine zao ?_ | refine zbo rfl ?_ | refine zbl rfl ?_ | refine zb2 ?_ | refine zb6 ?_ | refine zb1 ?_ | refine za4 ?_ | refine za3 rfl ?_ | refine za2 ?_ | refine za5 ?_ | refine zbx rfl ?_ | refine zbz rfl rfl ?_ | refine zc4 rfl ?_ | refine za6 rfl ?_ | refine zar rfl rfl ?_ | refine zat rfl rfl rfl rfl ?_ | refine zau rfl rfl rfl rfl rfl rfl rfl ?_ | refine zak rfl ?_ | refine za9 rfl rfl rfl ?_ | refine za1 rfl rfl rfl ?_ | refine zad rfl rfl rfl rfl ?_ | refine zaw ?_ | refine zap rfl rfl ?_ | refine zal rfl rfl ?_ | refine zc7 rfl rfl ?_ | refine zbe rfl rfl ?_ | refine zax rfl rfl ?_ | refine zai rfl rfl ?_ | refine zbh rfl rfl ?_ | refine zae rfl rfl rfl ?_ | refine zaz rfl rfl ?_ | refine zaq rfl rfl rfl rfl ?_ | refine zac rfl rfl rfl rfl ?_ | refine zan rfl rfl rfl rfl ?_ | refine zb8 rfl rfl ?_ | refine zb7 rfl rfl ?_ | refine zab rfl rfl ?_ | refine zbb ?_ | refine zaj env0_ok rfl rfl rfl ?_ | refine zah (op := .add) rfl rfl rfl ?_ | refine zah (op := .sub) rfl rfl rfl ?_ | refine zb9 rfl rfl rfl ?_ | refine zba rfl rfl rfl ?_ | refine zb4 rfl rfl rfl ?_ | refine zb3 rfl rfl rfl ?_ | refine zb0 rfl rfl (by omega) (by assumption) rfl ?_ | refine za1 rfl rfl (decide_eq_true ⟨by omega, by omega⟩) ?_ | refine zav rfl rfl (by omega) (by omega) ?_ | refine zam rfl rfl rfl ?_ | refine zbd rfl ?_ | refine zbc rfl ?_)
  refine zc9 (fun mm S => ∃ left out, mm = szB left ∧ left &&& ~~~ zcy n = 0#64 ∧ R = zjx s (szB left + 1) left out ∧ S = st 74 (t22 n s (zcy n &&& ~~~ left)) [(0, 0, .cells (mkC s.length out))] 1 1) (szB (zcy n))
   (zck [(some (0, 1), mkC s.length [])] [] rfl rfl rfl .nil (.cons rfl (.keep (zlu _ _)) .nil) (l' := t22 n s 0#64) (.cons rfl (.same rfl) (.cons rfl (.ms rfl) (.cons rfl (.same rfl) .nil)))) ⟨zcy n, [], rfl, BitVec.and_not_self _, hR.symm, by rw [BitVec.and_not_self]; rfl⟩ ?_
  rintro mm S ⟨left, out, rfl, hl, hG, rfl⟩
  have h6 := bitwise6 hl
  unfold b22_0 t22
  repeat (first | refine zaa ?_ | refine za0 rfl ?_ | refine za7 ?_ | refine za8 ?_ | refine zbf ?_ | refine zag ?_ | refine zao ?_ | refine zbo rfl ?_ | refine zbl rfl ?_ | refine zb2 ?_ | refine zb6 ?_ | refine zb1 ?_ | refine za4 ?_ | refine za3 rfl ?_ | refine za2 ?_ | refine za5 ?_ | refine zbx rfl ?_ | refine zbz rfl rfl ?_ | refine zc4 rfl ?_ | refine za6 rfl ?_ | refine zar rfl rfl ?_ | refine zat rfl rfl rfl rfl ?_ | refine zau rfl rfl rfl rfl rfl rfl rfl ?_ | refine zak rfl ?_ | refine za9 rfl rfl rfl ?_ | refine za1 rfl rfl rfl ?_ | refine zad rfl rfl rfl rfl ?_ | refine zaw ?_ | refine zap rfl rfl ?_ | refine zal rfl rfl ?_ | refine zc7 rfl rfl ?_ | refine zbe rfl rfl ?_ | refine zax rfl rfl ?_ | refine zai rfl rfl ?_ | refine zbh rfl rfl ?_ | refine zae rfl rfl rfl ?_ | refine zaz rfl rfl ?_ | refine zaq rfl rfl rfl rfl ?_ | refine zac rfl rfl rfl rfl ?_ | refine zan rfl rfl rfl rfl ?_ | refine zb8 rfl rfl ?_ | refine zb7 rfl rfl ?_ | refine zab rfl rfl ?_ | refine zbb ?_ | refine zaj env0_ok rfl rfl rfl ?_ | refine zah (op := .add) rfl rfl rfl ?_ | refine zah (op := .sub) rfl rfl rfl ?_ | refine zb9 rfl rfl rfl ?_ | refine zba rfl rfl rfl ?_ | refine zb4 rfl rfl rfl ?_ | refine zb3 rfl rfl rfl ?_ | refine zb0 rfl rfl (by omega) (by assumption) rfl ?_ | refine za1 rfl rfl (decide_eq_true ⟨by omega, by omega⟩) ?_ | refine zav rfl rfl (by omega) (by omega) ?_ | refine zam rfl rfl rfl ?_ | refine zbd rfl ?_ | refine zbc rfl ?_)
  refine zbu rfl rfl pA (fun h => Bool.noConfusion (show false = true from h)) ?_
  refine zbm rfl rfl (zfm _ _) (fun h3 => ?_) fun h3 => ?_
  ·have hne : left ≠ 0#64 := fun e => by rw [h6.2 e] at h3; simp at h3
   rw [zjx, if_neg hne] at hG
   repeat (first | refine zaa ?_ | refine za0 rfl ?_ | refine za7 ?_ | refine za8 ?_ | refine zbf ?_ | refine zag ?_ | refine zao ?_ | refine zbo rfl ?_ | refine zbl rfl ?_ | refine zb2 ?_ | refine zb6 ?_ | refine zb1 ?_ | refine za4 ?_ | refine za3 rfl ?_ | refine za2 ?_ | refine za5 ?_ | refine zbx rfl ?_ | refine zbz rfl rfl ?_ | refine zc4 rfl ?_ | refine za6 rfl ?_ | refine zar rfl rfl ?_ | refine zat rfl rfl rfl rfl ?_ | refine zau rfl rfl rfl rfl rfl rfl rfl ?_ | refine zak rfl ?_ | refine za9 rfl rfl rfl ?_ | refine za1 rfl rfl rfl ?_ | refine zad rfl rfl rfl rfl ?_ | refine zaw ?_ | refine zap rfl rfl ?_ | refine zal rfl rfl ?_ | refine zc7 rfl rfl ?_ | refine zbe rfl rfl ?_ | refine zax rfl rfl ?_ | refine zai rfl rfl ?_ | refine zbh rfl rfl ?_ | refine zae rfl rfl rfl ?_ | refine zaz rfl rfl ?_ | refine zaq rfl rfl rfl rfl ?_ | refine zac rfl rfl rfl rfl ?_ | refine zan rfl rfl rfl rfl ?_ | refine zb8 rfl rfl ?_ | refine zb7 rfl rfl ?_ | refine zab rfl rfl ?_ | refine zbb ?_ | refine zaj env0_ok rfl rfl rfl ?_ | refine zah (op := .add) rfl rfl rfl ?_ | refine zah (op := .sub) rfl rfl rfl ?_ | refine zb9 rfl rfl rfl ?_ | refine zba rfl rfl rfl ?_ | refine zb4 rfl rfl rfl ?_ | refine zb3 rfl rfl rfl ?_ | refine zb0 rfl rfl (by omega) (by assumption) rfl ?_ | refine za1 rfl rfl (decide_eq_true ⟨by omega, by omega⟩) ?_ | refine zav rfl rfl (by omega) (by omega) ?_ | refine zam rfl rfl rfl ?_ | refine zbd rfl ?_ | refine zbc rfl ?_)
   refine zfy (zb5 (l' := (7, .int .i64 (-1)) :: (8, .int .i64 0) :: (9, .int .i64 0) :: t22 n s (zcy n &&& ~~~ left)) (.cons rfl (.cons rfl (.cons rfl (.cons rfl (.cons rfl (.cons rfl .nil))))))) (inner22 n s s1 left (zcy n &&& ~~~ left) (mkC s.length out) (fun i hi => bitwise3 (hbd i hi)) ?_)
   have hlt := zgi s left s.length
   have hfu := ziz s
   generalize zd1 s left s.length = bt at *
   unfold t22
   by_cases hb : bt.2 = 0
   ·rw [if_pos hb] at hG
    rw [hG, show bI bt = -1 from if_pos hb]
    repeat (first | refine zaa ?_ | refine za0 rfl ?_ | refine za7 ?_ | refine za8 ?_ | refine zbf ?_ | refine zag ?_ | refine zao ?_ | refine zbo rfl ?_ | refine zbl rfl ?_ | refine zb2 ?_ | refine zb6 ?_ | refine zb1 ?_ | refine za4 ?_ | refine za3 rfl ?_ | refine za2 ?_ | refine za5 ?_ | refine zbx rfl ?_ | refine zbz rfl rfl ?_ | refine zc4 rfl ?_ | refine za6 rfl ?_ | refine zar rfl rfl ?_ | refine zat rfl rfl rfl rfl ?_ | refine zau rfl rfl rfl rfl rfl rfl rfl ?_ | refine zak rfl ?_ | refine za9 rfl rfl rfl ?_ | refine za1 rfl rfl rfl ?_ | refine zad rfl rfl rfl rfl ?_ | refine zaw ?_ | refine zap rfl rfl ?_ | refine zal rfl rfl ?_ | refine zc7 rfl rfl ?_ | refine zbe rfl rfl ?_ | refine zax rfl rfl ?_ | refine zai rfl rfl ?_ | refine zbh rfl rfl ?_ | refine zae rfl rfl rfl ?_ | refine zaz rfl rfl ?_ | refine zaq rfl rfl rfl rfl ?_ | refine zac rfl rfl rfl rfl ?_ | refine zan rfl rfl rfl rfl ?_ | refine zb8 rfl rfl ?_ | refine zb7 rfl rfl ?_ | refine zab rfl rfl ?_ | refine zbb ?_ | refine zaj env0_ok rfl rfl rfl ?_ | refine zah (op := .add) rfl rfl rfl ?_ | refine zah (op := .sub) rfl rfl rfl ?_ | refine zb9 rfl rfl rfl ?_ | refine zba rfl rfl rfl ?_ | refine zb4 rfl rfl rfl ?_ | refine zb3 rfl rfl rfl ?_ | refine zb0 rfl rfl (by omega) (by assumption) rfl ?_ | refine za1 rfl rfl (decide_eq_true ⟨by omega, by omega⟩) ?_ | refine zav rfl rfl (by omega) (by omega) ?_ | refine zam rfl rfl rfl ?_ | refine zbd rfl ?_ | refine zbc rfl ?_)
    exact zbj ⟨.inr rfl, _, rfl, rfl⟩
   ·obtain ⟨hb1, hb2⟩ := hlt hb
    obtain ⟨b, g⟩ := bt
    rw [if_neg hb] at hG
    rw [show bI (b, g) = (b : Nat) from if_neg hb]
    have hx := hbd b hb1
    have hg2 : (cUs s)[((b : Nat) : Int).toNat]? = some [cU (s.getD b 0)] := by
     rw [zf6 hb1, List.getD_eq_getElem?_getD, List.getElem?_eq_getElem hb1]
     rfl
    have h4 := bitwise4 (l := left) hx
    have h5 := bitwise5 (x := s.getD b 0) hl
    have h7 := zm8 left (s.getD b 0)
    rw [BitVec.and_comm left (s.getD b 0), ← hb2] at h7
    have h0 : 0 < g := Nat.pos_of_ne_zero hb
    have hms := mkC_set (N := s.length) (b := b) out
    have hml := mkC_len s.length out
    have h8 := hfu (szB left) (szB (left &&& ~~~ s.getD b 0) + 1) (left &&& ~~~ s.getD b 0) (out ++ [(b : Int)]) (by omega) (by omega)
    have hG : R = zjx s (szB (left &&& ~~~ s.getD b 0) + 1) (left &&& ~~~ s.getD b 0) (out ++ [(b : Int)]) := hG.trans h8
    generalize s.getD b 0 = x at *
    repeat (first | refine zaa ?_ | refine za0 rfl ?_ | refine za7 ?_ | refine za8 ?_ | refine zbf ?_ | refine zag ?_ | refine zao ?_ | refine zbo rfl ?_ | refine zbl rfl ?_ | refine zb2 ?_ | refine zb6 ?_ | refine zb1 ?_ | refine za4 ?_ | refine za3 rfl ?_ | refine za2 ?_ | refine za5 ?_ | refine zbx rfl ?_ | refine zbz rfl rfl ?_ | refine zc4 rfl ?_ | refine za6 rfl ?_ | refine zar rfl rfl ?_ | refine zat rfl rfl rfl rfl ?_ | refine zak rfl ?_ | refine za9 rfl rfl rfl ?_ | refine za1 rfl rfl rfl ?_ | refine zad rfl rfl rfl rfl ?_ | refine zaw ?_ | refine zap rfl rfl ?_ | refine zal rfl rfl ?_ | refine zc7 rfl rfl ?_ | refine zbe rfl rfl ?_ | refine zax rfl rfl ?_ | refine zai rfl rfl ?_ | refine zbh rfl rfl ?_ | refine zae rfl rfl rfl ?_ | refine zaz rfl rfl ?_ | refine zaq rfl rfl rfl rfl ?_ | refine zac rfl rfl rfl rfl ?_ | refine zan rfl rfl rfl rfl ?_ | refine zb8 rfl rfl ?_ | refine zb7 rfl rfl ?_ | refine zab rfl rfl ?_ | refine zbb ?_ | refine zaj env0_ok rfl rfl rfl ?_ | refine zah (op := .add) rfl rfl rfl ?_ | refine zah (op := .sub) rfl rfl rfl ?_ | refine zb9 rfl rfl rfl ?_ | refine zba rfl rfl rfl ?_ | refine zb4 rfl rfl rfl ?_ | refine zb3 rfl rfl rfl ?_ | refine zb0 rfl rfl (by omega) (by assumption) rfl ?_ | refine za1 rfl rfl (decide_eq_true ⟨by omega, by omega⟩) ?_ | refine zav rfl rfl (by omega) (by omega) ?_ | refine zam rfl rfl rfl ?_ | refine zbd rfl ?_ | refine zbc rfl ?_)
    refine zi3 rfl rfl rfl zbq (by rw [hml]; omega) rfl ?_
    rw [show (0 + ((b : Nat) : Int).toNat * 1) = b by omega, hms]
    repeat (first | refine zaa ?_ | refine za0 rfl ?_ | refine za7 ?_ | refine za8 ?_ | refine zbf ?_ | refine zag ?_ | refine zao ?_ | refine zbo rfl ?_ | refine zbl rfl ?_ | refine zb2 ?_ | refine zb6 ?_ | refine zb1 ?_ | refine za4 ?_ | refine za3 rfl ?_ | refine za2 ?_ | refine za5 ?_ | refine zbx rfl ?_ | refine zbz rfl rfl ?_ | refine zc4 rfl ?_ | refine za6 rfl ?_ | refine zar rfl rfl ?_ | refine zat rfl rfl rfl rfl ?_ | refine zau rfl rfl rfl rfl rfl rfl rfl ?_ | refine zak rfl ?_ | refine za9 rfl rfl rfl ?_ | refine za1 rfl rfl rfl ?_ | refine zad rfl rfl rfl rfl ?_ | refine zaw ?_ | refine zap rfl rfl ?_ | refine zal rfl rfl ?_ | refine zc7 rfl rfl ?_ | refine zbe rfl rfl ?_ | refine zax rfl rfl ?_ | refine zai rfl rfl ?_ | refine zbh rfl rfl ?_ | refine zae rfl rfl rfl ?_ | refine zaz rfl rfl ?_ | refine zaq rfl rfl rfl rfl ?_ | refine zac rfl rfl rfl rfl ?_ | refine zan rfl rfl rfl rfl ?_ | refine zb8 rfl rfl ?_ | refine zb7 rfl rfl ?_ | refine zab rfl rfl ?_ | refine zbb ?_ | refine zaj env0_ok rfl rfl rfl ?_ | refine zb9 rfl rfl rfl ?_ | refine zba rfl rfl rfl ?_ | refine zb4 rfl rfl rfl ?_ | refine zb3 rfl rfl rfl ?_ | refine zb0 rfl rfl (by omega) (by assumption) rfl ?_ | refine za1 rfl rfl (decide_eq_true ⟨by omega, by omega⟩) ?_ | refine zav rfl rfl (by omega) (by omega) ?_ | refine zam rfl rfl rfl ?_ | refine zbd rfl ?_ | refine zbc rfl ?_)
    refine zah rfl rfl (zhk (zcy n &&& ~~~ left) x) ?_
    rw [h4]
    repeat (first | refine zaa ?_ | refine za0 rfl ?_ | refine za7 ?_ | refine za8 ?_ | refine zbf ?_ | refine zag ?_ | refine zao ?_ | refine zbo rfl ?_ | refine zbl rfl ?_ | refine zb2 ?_ | refine zb6 ?_ | refine zb1 ?_ | refine za4 ?_ | refine za3 rfl ?_ | refine za2 ?_ | refine za5 ?_ | refine zbx rfl ?_ | refine zbz rfl rfl ?_ | refine zc4 rfl ?_ | refine za6 rfl ?_ | refine zar rfl rfl ?_ | refine zat rfl rfl rfl rfl ?_ | refine zau rfl rfl rfl rfl rfl rfl rfl ?_ | refine zak rfl ?_ | refine za9 rfl rfl rfl ?_ | refine za1 rfl rfl rfl ?_ | refine zad rfl rfl rfl rfl ?_ | refine zaw ?_ | refine zap rfl rfl ?_ | refine zal rfl rfl ?_ | refine zc7 rfl rfl ?_ | refine zbe rfl rfl ?_ | refine zax rfl rfl ?_ | refine zai rfl rfl ?_ | refine zbh rfl rfl ?_ | refine zae rfl rfl rfl ?_ | refine zaz rfl rfl ?_ | refine zaq rfl rfl rfl rfl ?_ | refine zac rfl rfl rfl rfl ?_ | refine zan rfl rfl rfl rfl ?_ | refine zb8 rfl rfl ?_ | refine zb7 rfl rfl ?_ | refine zab rfl rfl ?_ | refine zbb ?_ | refine zaj env0_ok rfl rfl rfl ?_ | refine zah (op := .add) rfl rfl rfl ?_ | refine zah (op := .sub) rfl rfl rfl ?_ | refine zb9 rfl rfl rfl ?_ | refine zba rfl rfl rfl ?_ | refine zb4 rfl rfl rfl ?_ | refine zb3 rfl rfl rfl ?_ | refine zb0 rfl rfl (by omega) (by assumption) rfl ?_ | refine za1 rfl rfl (decide_eq_true ⟨by omega, by omega⟩) ?_ | refine zav rfl rfl (by omega) (by omega) ?_ | refine zam rfl rfl rfl ?_ | refine zbd rfl ?_ | refine zbc rfl ?_)
    exact zbp (show szB (left &&& ~~~ x) < szB left by omega) (zck [(some (0, 0), mkC s.length (out ++ [(b : Int)]))] [] rfl rfl rfl .nil (.cons rfl (.keep (zlu _ _)) .nil) (l' := t22 n s (zcy n &&& ~~~ (left &&& ~~~ x))) (.cons rfl (.same rfl) (.cons rfl (.ms rfl) (.cons rfl (.same rfl) .nil)))) ⟨_, _, rfl, h5, hG, rfl⟩
  ·have he : left = 0#64 := h6.1 (by simpa using h3)
   rw [zjx, if_pos he] at hG
   rw [hG]
   repeat (first | refine zaa ?_ | refine za0 rfl ?_ | refine za7 ?_ | refine za8 ?_ | refine zbf ?_ | refine zag ?_ | refine zao ?_ | refine zbo rfl ?_ | refine zbl rfl ?_ | refine zb2 ?_ | refine zb6 ?_ | refine zb1 ?_ | refine za4 ?_ | refine za3 rfl ?_ | refine za2 ?_ | refine za5 ?_ | refine zbx rfl ?_ | refine zbz rfl rfl ?_ | refine zc4 rfl ?_ | refine za6 rfl ?_ | refine zar rfl rfl ?_ | refine zat rfl rfl rfl rfl ?_ | refine zau rfl rfl rfl rfl rfl rfl rfl ?_ | refine zak rfl ?_ | refine za9 rfl rfl rfl ?_ | refine za1 rfl rfl rfl ?_ | refine zad rfl rfl rfl rfl ?_ | refine zaw ?_ | refine zap rfl rfl ?_ | refine zal rfl rfl ?_ | refine zc7 rfl rfl ?_ | refine zbe rfl rfl ?_ | refine zax rfl rfl ?_ | refine zai rfl rfl ?_ | refine zbh rfl rfl ?_ | refine zae rfl rfl rfl ?_ | refine zaz rfl rfl ?_ | refine zaq rfl rfl rfl rfl ?_ | refine zac rfl rfl rfl rfl ?_ | refine zan rfl rfl rfl rfl ?_ | refine zb8 rfl rfl ?_ | refine zb7 rfl rfl ?_ | refine zab rfl rfl ?_ | refine zbb ?_ | refine zaj env0_ok rfl rfl rfl ?_ | refine zah (op := .add) rfl rfl rfl ?_ | refine zah (op := .sub) rfl rfl rfl ?_ | refine zb9 rfl rfl rfl ?_ | refine zba rfl rfl rfl ?_ | refine zb4 rfl rfl rfl ?_ | refine zb3 rfl rfl rfl ?_ | refine zb0 rfl rfl (by omega) (by assumption) rfl ?_ | refine za1 rfl rfl (decide_eq_true ⟨by omega, by omega⟩) ?_ | refine zav rfl rfl (by omega) (by omega) ?_ | refine zam rfl rfl rfl ?_ | refine zbd rfl ?_ | refine zbc rfl ?_)
   refine zd6 ?_
   repeat (first | refine zaa ?_ | refine za0 rfl ?_ | refine za7 ?_ | refine za8 ?_ | refine zbf ?_ | refine zag ?_ | refine zao ?_ | refine zbo rfl ?_ | refine zbl rfl ?_ | refine zb2 ?_ | refine zb6 ?_ | refine zb1 ?_ | refine za4 ?_ | refine za3 rfl ?_ | refine za2 ?_ | refine za5 ?_ | refine zbx rfl ?_ | refine zbz rfl rfl ?_ | refine zc4 rfl ?_ | refine za6 rfl ?_ | refine zar rfl rfl ?_ | refine zat rfl rfl rfl rfl ?_ | refine zau rfl rfl rfl rfl rfl rfl rfl ?_ | refine zak rfl ?_ | refine za9 rfl rfl rfl ?_ | refine za1 rfl rfl rfl ?_ | refine zad rfl rfl rfl rfl ?_ | refine zaw ?_ | refine zap rfl rfl ?_ | refine zal rfl rfl ?_ | refine zc7 rfl rfl ?_ | refine zbe rfl rfl ?_ | refine zax rfl rfl ?_ | refine zai rfl rfl ?_ | refine zbh rfl rfl ?_ | refine zae rfl rfl rfl ?_ | refine zaz rfl rfl ?_ | refine zaq rfl rfl rfl rfl ?_ | refine zac rfl rfl rfl rfl ?_ | refine zan rfl rfl rfl rfl ?_ | refine zb8 rfl rfl ?_ | refine zb7 rfl rfl ?_ | refine zab rfl rfl ?_ | refine zbb ?_ | refine zaj env0_ok rfl rfl rfl ?_ | refine zah (op := .add) rfl rfl rfl ?_ | refine zah (op := .sub) rfl rfl rfl ?_ | refine zb9 rfl rfl rfl ?_ | refine zba rfl rfl rfl ?_ | refine zb4 rfl rfl rfl ?_ | refine zb3 rfl rfl rfl ?_ | refine zb0 rfl rfl (by omega) (by assumption) rfl ?_ | refine za1 rfl rfl (decide_eq_true ⟨by omega, by omega⟩) ?_ | refine zav rfl rfl (by omega) (by omega) ?_ | refine zam rfl rfl rfl ?_ | refine zbd rfl ?_ | refine zbc rfl ?_)
   refine zd9 [] [(0, 0, mkC s.length out)] [(5, .vs (mkE s.length out)), (11, .nils), (12, .int .i64 ((0 : Nat) : Int))] rfl (.cons rfl (zlu _ _) .nil) .nil (.cons rfl (.fms0 (xs := mkE s.length out) rfl (zup ..) (fun x hx => by obtain ⟨_, _, rfl⟩ := List.mem_map.1 hx; rfl) (mkE_flat ..)) (.cons rfl (.same rfl) (.cons rfl (.same rfl) .nil))) ?_
   have hRs := zvc out
   have hRl := zqu out
   have hel := zup s.length out
   refine zkw 11 1 rfl ?_
   refine zc9 (fun mm S => ∃ i, mm = s.length - i ∧ i ≤ s.length ∧
     S = st 74 [(5, .vs (mkE s.length out)), (11, .ms 0 0 1 0 (resL out i).length none), (12, .int .i64 (i : Nat))] [(0, 0, .cells ((resL out i).map (AV.int .i64)))] 1 1) s.length
    (zck [(some (0, 1), [])] [] rfl rfl rfl .nil (.cons rfl .nil .nil) (l' := [(5, .vs (mkE s.length out)), (11, .ms 0 0 1 0 0 none), (12, .int .i64 ((0 : Nat) : Int))]) (.cons rfl (.same rfl) (.cons rfl (.ms rfl) (.cons rfl (.same rfl) .nil)))) ⟨0, rfl, Nat.zero_le _, rfl⟩ ?_
   rintro mm S ⟨i, rfl, hi, rfl⟩
   have hli := hRl i
   unfold b22_4
   repeat (first | refine zaa ?_ | refine za0 rfl ?_ | refine za7 ?_ | refine za8 ?_ | refine zbf ?_ | refine zag ?_ | refine zao ?_ | refine zbo rfl ?_ | refine zbl rfl ?_ | refine zb2 ?_ | refine zb6 ?_ | refine zb1 ?_ | refine za4 ?_ | refine za3 rfl ?_ | refine za2 ?_ | refine za5 ?_ | refine zbx rfl ?_ | refine zbz rfl rfl ?_ | refine zc4 rfl ?_ | refine za6 rfl ?_ | refine zar rfl rfl ?_ | refine zat rfl rfl rfl rfl ?_ | refine zau rfl rfl rfl rfl rfl rfl rfl ?_ | refine zak rfl ?_ | refine za9 rfl rfl rfl ?_ | refine za1 rfl rfl rfl ?_ | refine zad rfl rfl rfl rfl ?_ | refine zaw ?_ | refine zap rfl rfl ?_ | refine zal rfl rfl ?_ | refine zc7 rfl rfl ?_ | refine zbe rfl rfl ?_ | refine zax rfl rfl ?_ | refine zai rfl rfl ?_ | refine zbh rfl rfl ?_ | refine zae rfl rfl rfl ?_ | refine zaz rfl rfl ?_ | refine zaq rfl rfl rfl rfl ?_ | refine zac rfl rfl rfl rfl ?_ | refine zan rfl rfl rfl rfl ?_ | refine zb8 rfl rfl ?_ | refine zb7 rfl rfl ?_ | refine zab rfl rfl ?_ | refine zbb ?_ | refine zaj env0_ok rfl rfl rfl ?_ | refine zah (op := .add) rfl rfl rfl ?_ | refine zah (op := .sub) rfl rfl rfl ?_ | refine zb9 rfl rfl rfl ?_ | refine zba rfl rfl rfl ?_ | refine zb4 rfl rfl rfl ?_ | refine zb3 rfl rfl rfl ?_ | refine zb0 rfl rfl (by omega) (by assumption) rfl ?_ | refine za1 rfl rfl (decide_eq_true ⟨by omega, by omega⟩) ?_ | refine zav rfl rfl (by omega) (by omega) ?_ | refine zam rfl rfl rfl ?_ | refine zbd rfl ?_ | refine zbc rfl ?_)
   refine zbm rfl rfl (by show some (AV.bool (decide (((i : Nat) : Int) < ((mkE s.length out).length : Nat)))) = _; rw [hel]) (fun h4 => ?_) fun h4 => ?_
   ·have hlt : i < s.length := Int.ofNat_lt.1 (of_decide_eq_true h4)
    have hg := mkE_get out hlt
    have w1 : IntKind.wrap .i64 (((i : Nat) : Int) + 1) = ((i + 1 : Nat) : Int) := zbn i (by omega)
    have hsu := hRs i
    generalize resL out i = res at *
    cases hB : out.contains ((i : Nat) : Int) with
    | true =>
     rw [hB] at hg
     rw [if_pos hB] at hsu
     repeat (first | refine zaa ?_ | refine za0 rfl ?_ | refine za7 ?_ | refine za8 ?_ | refine zbf ?_ | refine zag ?_ | refine zao ?_ | refine zbo rfl ?_ | refine zbl rfl ?_ | refine zb2 ?_ | refine zb6 ?_ | refine zb1 ?_ | refine za4 ?_ | refine za3 rfl ?_ | refine za2 ?_ | refine za5 ?_ | refine zbx rfl ?_ | refine zbz rfl rfl ?_ | refine zc4 rfl ?_ | refine za6 rfl ?_ | refine zar rfl rfl ?_ | refine zat rfl rfl rfl rfl ?_ | refine zau rfl rfl rfl rfl rfl rfl rfl ?_ | refine zak rfl ?_ | refine za9 rfl rfl rfl ?_ | refine za1 rfl rfl rfl ?_ | refine zad rfl rfl rfl rfl ?_ | refine zaw ?_ | refine zap rfl rfl ?_ | refine zal rfl rfl ?_ | refine zc7 rfl rfl ?_ | refine zbe rfl rfl ?_ | refine zax rfl rfl ?_ | refine zai rfl rfl ?_ | refine zbh rfl rfl ?_ | refine zae rfl rfl rfl ?_ | refine zaz rfl rfl ?_ | refine zac rfl rfl rfl rfl ?_ | refine zan rfl rfl rfl rfl ?_ | refine zb8 rfl rfl ?_ | refine zb7 rfl rfl ?_ | refine zab rfl rfl ?_ | refine zbb ?_ | refine zaj env0_ok rfl rfl rfl ?_ | refine zah (op := .add) rfl rfl rfl ?_ | refine zah (op := .sub) rfl rfl rfl ?_ | refine zb9 rfl rfl rfl ?_ | refine zba rfl rfl rfl ?_ | refine zb4 rfl rfl rfl ?_ | refine zb3 rfl rfl rfl ?_ | refine zb0 rfl rfl (by omega) (by assumption) rfl ?_ | refine za1 rfl rfl (decide_eq_true ⟨by omega, by omega⟩) ?_ | refine zav rfl rfl (by omega) (by omega) ?_ | refine zam rfl rfl rfl ?_ | refine zbd rfl ?_ | refine zbc rfl ?_)
     refine ze1 [[.int .i64 (i : Nat)]] rfl rfl (zcq (ys := []) zbq rfl (fun x hx => by obtain rfl := List.mem_singleton.1 hx; rfl)) (fun h => Nat.noConfusion h) rfl (by decide) (by (repeat (first | rw [zbg, if_pos rfl] | rw [zbg, if_neg (by omega)])); try rfl) (by rw [List.length_map, Nat.mul_one]) (by show _ + 1 ≤ _; omega) ?_
     repeat (first | refine zaa ?_ | refine za0 rfl ?_ | refine za7 ?_ | refine za8 ?_ | refine zbf ?_ | refine zag ?_ | refine zao ?_ | refine zbo rfl ?_ | refine zbl rfl ?_ | refine zb2 ?_ | refine zb6 ?_ | refine zb1 ?_ | refine za4 ?_ | refine za3 rfl ?_ | refine za2 ?_ | refine za5 ?_ | refine zbx rfl ?_ | refine zbz rfl rfl ?_ | refine zc4 rfl ?_ | refine za6 rfl ?_ | refine zar rfl rfl ?_ | refine zat rfl rfl rfl rfl ?_ | refine zau rfl rfl rfl rfl rfl rfl rfl ?_ | refine zak rfl ?_ | refine za9 rfl rfl rfl ?_ | refine za1 rfl rfl rfl ?_ | refine zad rfl rfl rfl rfl ?_ | refine zaw ?_ | refine zap rfl rfl ?_ | refine zal rfl rfl ?_ | refine zc7 rfl rfl ?_ | refine zbe rfl rfl ?_ | refine zax rfl rfl ?_ | refine zai rfl rfl ?_ | refine zbh rfl rfl ?_ | refine zae rfl rfl rfl ?_ | refine zaz rfl rfl ?_ | refine zaq rfl rfl rfl rfl ?_ | refine zac rfl rfl rfl rfl ?_ | refine zan rfl rfl rfl rfl ?_ | refine zb8 rfl rfl ?_ | refine zb7 rfl rfl ?_ | refine zab rfl rfl ?_ | refine zbb ?_ | refine zaj env0_ok rfl rfl rfl ?_ | refine zah (op := .add) rfl rfl rfl ?_ | refine zah (op := .sub) rfl rfl rfl ?_ | refine zb9 rfl rfl rfl ?_ | refine zba rfl rfl rfl ?_ | refine zb4 rfl rfl rfl ?_ | refine zb3 rfl rfl rfl ?_ | refine zb0 rfl rfl (by omega) (by assumption) rfl ?_ | refine za1 rfl rfl (decide_eq_true ⟨by omega, by omega⟩) ?_ | refine zav rfl rfl (by omega) (by omega) ?_ | refine zam rfl rfl rfl ?_ | refine zbd rfl ?_ | refine zbc rfl ?_)
     rw [w1]
     exact zbp (show s.length - (i + 1) < s.length - i by omega) (zck [(some (0, 2), (res ++ [(i : Int)]).map (AV.int .i64))] [] rfl rfl rfl .nil (.cons (by rw [zas, if_pos rfl]; rw [List.map_append]; rfl) (.keep (zfo _)) .nil) (l' := [(5, .vs (mkE s.length out)), (11, .ms 0 0 1 0 (res.length + 1) none), (12, .int .i64 ((i + 1 : Nat) : Int))]) (.cons rfl (.same rfl) (.cons rfl (.ms rfl) (.cons rfl (.same rfl) .nil)))) ⟨i + 1, rfl, hlt, by rw [hsu, List.length_append]; rfl⟩
    | false =>
     rw [hB] at hg
     rw [if_neg (fun h => Bool.noConfusion (hB.symm.trans h))] at hsu
     repeat (first | refine zaa ?_ | refine za0 rfl ?_ | refine za7 ?_ | refine za8 ?_ | refine zbf ?_ | refine zag ?_ | refine zao ?_ | refine zbo rfl ?_ | refine zbl rfl ?_ | refine zb2 ?_ | refine zb6 ?_ | refine zb1 ?_ | refine za4 ?_ | refine za3 rfl ?_ | refine za2 ?_ | refine za5 ?_ | refine zbx rfl ?_ | refine zbz rfl rfl ?_ | refine zc4 rfl ?_ | refine za6 rfl ?_ | refine zar rfl rfl ?_ | refine zat rfl rfl rfl rfl ?_ | refine zau rfl rfl rfl rfl rfl rfl rfl ?_ | refine zak rfl ?_ | refine za9 rfl rfl rfl ?_ | refine za1 rfl rfl rfl ?_ | refine zad rfl rfl rfl rfl ?_ | refine zaw ?_ | refine zap rfl rfl ?_ | refine zal rfl rfl ?_ | refine zc7 rfl rfl ?_ | refine zbe rfl rfl ?_ | refine zax rfl rfl ?_ | refine zai rfl rfl ?_ | refine zbh rfl rfl ?_ | refine zae rfl rfl rfl ?_ | refine zaz rfl rfl ?_ | refine zaq rfl rfl rfl rfl ?_ | refine zac rfl rfl rfl rfl ?_ | refine zan rfl rfl rfl rfl ?_ | refine zb8 rfl rfl ?_ | refine zb7 rfl rfl ?_ | refine zab rfl rfl ?_ | refine zbb ?_ | refine zaj env0_ok rfl rfl rfl ?_ | refine zah (op := .add) rfl rfl rfl ?_ | refine zah (op := .sub) rfl rfl rfl ?_ | refine zb9 rfl rfl rfl ?_ | refine zba rfl rfl rfl ?_ | refine zb4 rfl rfl rfl ?_ | refine zb3 rfl rfl rfl ?_ | refine zb0 rfl rfl (by omega) (by assumption) rfl ?_ | refine za1 rfl rfl (decide_eq_true ⟨by omega, by omega⟩) ?_ | refine zav rfl rfl (by omega) (by omega) ?_ | refine zam rfl rfl rfl ?_ | refine zbd rfl ?_ | refine zbc rfl ?_)
     rw [w1]
     exact zbp (show s.length - (i + 1) < s.length - i by omega) (zb5 (.cons rfl (.cons rfl (.cons rfl .nil)))) ⟨i + 1, rfl, hlt, by rw [hsu]⟩
   ·have hi3 : i = s.length := by
     have : ¬ i < s.length := fun h => of_decide_eq_false h4 (Int.ofNat_lt.2 h)
     omega
    rw [hi3]
    repeat (first | refine zaa ?_ | refine za0 rfl ?_ | refine za7 ?_ | refine za8 ?_ | refine zbf ?_ | refine zag ?_ | refine zao ?_ | refine zbo rfl ?_ | refine zbl rfl ?_ | refine zb2 ?_ | refine zb6 ?_ | refine zb1 ?_ | refine za4 ?_ | refine za3 rfl ?_ | refine za2 ?_ | refine za5 ?_ | refine zbx rfl ?_ | refine zbz rfl rfl ?_ | refine zc4 rfl ?_ | refine za6 rfl ?_ | refine zar rfl rfl ?_ | refine zat rfl rfl rfl rfl ?_ | refine zau rfl rfl rfl rfl rfl rfl rfl ?_ | refine zak rfl ?_ | refine za9 rfl rfl rfl ?_ | refine za1 rfl rfl rfl ?_ | refine zad rfl rfl rfl rfl ?_ | refine zaw ?_ | refine zap rfl rfl ?_ | refine zal rfl rfl ?_ | refine zc7 rfl rfl ?_ | refine zbe rfl rfl ?_ | refine zax rfl rfl ?_ | refine zai rfl rfl ?_ | refine zbh rfl rfl ?_ | refine zae rfl rfl rfl ?_ | refine zaz rfl rfl ?_ | refine zaq rfl rfl rfl rfl ?_ | refine zac rfl rfl rfl rfl ?_ | refine zan rfl rfl rfl rfl ?_ | refine zb8 rfl rfl ?_ | refine zb7 rfl rfl ?_ | refine zab rfl rfl ?_ | refine zbb ?_ | refine zaj env0_ok rfl rfl rfl ?_ | refine zah (op := .add) rfl rfl rfl ?_ | refine zah (op := .sub) rfl rfl rfl ?_ | refine zb9 rfl rfl rfl ?_ | refine zba rfl rfl rfl ?_ | refine zb4 rfl rfl rfl ?_ | refine zb3 rfl rfl rfl ?_ | refine zb0 rfl rfl (by omega) (by assumption) rfl ?_ | refine za1 rfl rfl (decide_eq_true ⟨by omega, by omega⟩) ?_ | refine zav rfl rfl (by omega) (by omega) ?_ | refine zam rfl rfl rfl ?_ | refine zbd rfl ?_ | refine zbc rfl ?_)
    refine zd6 ?_
    repeat (first | refine zaa ?_ | refine za0 rfl ?_ | refine za7 ?_ | refine za8 ?_ | refine zbf ?_ | refine zag ?_ | refine zao ?_ | refine zbo rfl ?_ | refine zbl rfl ?_ | refine zb2 ?_ | refine zb6 ?_ | refine zb1 ?_ | refine za4 ?_ | refine za3 rfl ?_ | refine za2 ?_ | refine za5 ?_ | refine zbx rfl ?_ | refine zbz rfl rfl ?_ | refine zc4 rfl ?_ | refine za6 rfl ?_ | refine zar rfl rfl ?_ | refine zat rfl rfl rfl rfl ?_ | refine zau rfl rfl rfl rfl rfl rfl rfl ?_ | refine zak rfl ?_ | refine za9 rfl rfl rfl ?_ | refine za1 rfl rfl rfl ?_ | refine zad rfl rfl rfl rfl ?_ | refine zaw ?_ | refine zap rfl rfl ?_ | refine zal rfl rfl ?_ | refine zc7 rfl rfl ?_ | refine zbe rfl rfl ?_ | refine zax rfl rfl ?_ | refine zai rfl rfl ?_ | refine zbh rfl rfl ?_ | refine zae rfl rfl rfl ?_ | refine zaz rfl rfl ?_ | refine zaq rfl rfl rfl rfl ?_ | refine zac rfl rfl rfl rfl ?_ | refine zan rfl rfl rfl rfl ?_ | refine zb8 rfl rfl ?_ | refine zb7 rfl rfl ?_ | refine zab rfl rfl ?_ | refine zbb ?_ | refine zaj env0_ok rfl rfl rfl ?_ | refine zah (op := .add) rfl rfl rfl ?_ | refine zah (op := .sub) rfl rfl rfl ?_ | refine zb9 rfl rfl rfl ?_ | refine zba rfl rfl rfl ?_ | refine zb4 rfl rfl rfl ?_ | refine zb3 rfl rfl rfl ?_ | refine zb0 rfl rfl (by omega) (by assumption) rfl ?_ | refine za1 rfl rfl (decide_eq_true ⟨by omega, by omega⟩) ?_ | refine zav rfl rfl (by omega) (by omega) ?_ | refine zam rfl rfl rfl ?_ | refine zbd rfl ?_ | refine zbc rfl ?_)
    exact zbj ⟨.inr rfl, _, rfl, congrArg AV.tup (zor (zns (d := 2) (sp := 0) _ rfl rfl) rfl)⟩
 ·rw [if_neg hc]
  repeat (first | refine zaa ?_ | refine za0 rfl ?_ | refine za7 ?_ | refine za8 ?_ | refine zbf ?_ | refine zag ?_ | refine zao ?_ | refine zbo rfl ?_ | refine zbl rfl ?_ | refine zb2 ?_ | refine zb6 ?_ | refine zb1 ?_ | refine za4 ?_ | refine za3 rfl ?_ | refine za2 ?_ | refine za5 ?_ | refine zbx rfl ?_ | refine zbz rfl rfl ?_ | refine zc4 rfl ?_ | refine za6 rfl ?_ | refine zar rfl rfl ?_ | refine zat rfl rfl rfl rfl ?_ | refine zau rfl rfl rfl rfl rfl rfl rfl ?_ | refine zak rfl ?_ | refine za9 rfl rfl rfl ?_ | refine za1 rfl rfl rfl ?_ | refine zad rfl rfl rfl rfl ?_ | refine zaw ?_ | refine zap rfl rfl ?_ | refine zal rfl rfl ?_ | refine zc7 rfl rfl ?_ | refine zbe rfl rfl ?_ | refine zax rfl rfl ?_ | refine zai rfl rfl ?_ | refine zbh rfl rfl ?_ | refine zae rfl rfl rfl ?_ | refine zaz rfl rfl ?_ | refine zaq rfl rfl rfl rfl ?_ | refine zac rfl rfl rfl rfl ?_ | refine zan rfl rfl rfl rfl ?_ | refine zb8 rfl rfl ?_ | refine zb7 rfl rfl ?_ | refine zab rfl rfl ?_ | refine zbb ?_ | refine zaj env0_ok rfl rfl rfl ?_ | refine zah (op := .add) rfl rfl rfl ?_ | refine zah (op := .sub) rfl rfl rfl ?_ | refine zb9 rfl rfl rfl ?_ | refine zba rfl rfl rfl ?_ | refine zb4 rfl rfl rfl ?_ | refine zb3 rfl rfl rfl ?_ | refine zb0 rfl rfl (by omega) (by assumption) rfl ?_ | refine za1 rfl rfl (decide_eq_true ⟨by omega, by omega⟩) ?_ | refine zav rfl rfl (by omega) (by omega) ?_ | refine zam rfl rfl rfl ?_ | refine zbd rfl ?_ | refine zbc rfl ?_)
  refine zbm rfl rfl rfl (fun h => ?_) fun h => absurd (by simpa using h) hc
  repeat (first | refine zaa ?_ | refine za0 rfl ?_ | refine za7 ?_ | refine za8 ?_ | refine zbf ?_ | refine zag ?_ | refine zao ?_ | refine zbo rfl ?_ | refine zbl rfl ?_ | refine zb2 ?_ | refine zb6 ?_ | refine zb1 ?_ | refine za4 ?_ | refine za3 rfl ?_ | refine za2 ?_ | refine za5 ?_ | refine zbx rfl ?_ | refine zbz rfl rfl ?_ | refine zc4 rfl ?_ | refine za6 rfl ?_ | refine zar rfl rfl ?_ | refine zat rfl rfl rfl rfl ?_ | refine zau rfl rfl rfl rfl rfl rfl rfl ?_ | refine zak rfl ?_ | refine za9 rfl rfl rfl ?_ | refine za1 rfl rfl rfl ?_ | refine zad rfl rfl rfl rfl ?_ | refine zaw ?_ | refine zap rfl rfl ?_ | refine zal rfl rfl ?_ | refine zc7 rfl rfl ?_ | refine zbe rfl rfl ?_ | refine zax rfl rfl ?_ | refine zai rfl rfl ?_ | refine zbh rfl rfl ?_ | refine zae rfl rfl rfl ?_ | refine zaz rfl rfl ?_ | refine zaq rfl rfl rfl rfl ?_ | refine zac rfl rfl rfl rfl ?_ | refine zan rfl rfl rfl rfl ?_ | refine zb8 rfl rfl ?_ | refine zb7 rfl rfl ?_ | refine zab rfl rfl ?_ | refine zbb ?_ | refine zaj env0_ok rfl rfl rfl ?_ | refine zah (op := .add) rfl rfl rfl ?_ | refine zah (op := .sub) rfl rfl rfl ?_ | refine zb9 rfl rfl rfl ?_ | refine zba rfl rfl rfl ?_ | refine zb4 rfl rfl rfl ?_ | refine zb3 rfl rfl rfl ?_ | refine zb0 rfl rfl (by omega) (by assumption) rfl ?_ | refine za1 rfl rfl (decide_eq_true ⟨by omega, by omega⟩) ?_ | refine zav rfl rfl (by omega) (by omega) ?_ | refine zam rfl rfl rfl ?_ | refine zbd rfl ?_ | refine zbc rfl ?_)
  exact zbj ⟨.inr rfl, _, rfl, rfl⟩
end Go.Proofs.Ytknomkcdpcnmaaa
