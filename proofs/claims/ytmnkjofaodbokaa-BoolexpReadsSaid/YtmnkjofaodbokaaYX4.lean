/-
  EXPRESSIONS THAT ARE EQUAL, NODE BY NODE.; Same, here and in the reference.; A LIST OF EXPRESSIONS THAT GROWS; EXPRESSIONS MADE ANEW FROM THE ARGUMENTS TO THE OUTSIDE.; SMALL EXPRESSIONS: constants, negations; whether an expression is among others.; THE SIMPLE FORM OF A NODE WHOSE ARGUMENTS ARE SIMPLE.; WHAT THE BUILDER WRITES, and what it hands back.; FORMAT, where the names and the expression ar
-/
import Derived.Test.YtmnkjofaodbokaaYX3
namespace Go.Proofs.Ytmnkjofaodbokaa
open Go Go.Am
def b49_0 : IC := .seq (.seq (.region [⟨(some 27), .mov (.t 5), none⟩,
  ⟨(some 28), .faddr 2 (.t 2), none⟩,
  ⟨(some 29), .load none (.t 28), none⟩,
  ⟨(some 30), .len false (.t 29), none⟩,
  ⟨(some 31), .bin .lss (.t 27) (.t 30), none⟩] none)
 (.cond (.t 31) (.skip)
 (.exit 0)))
 (.seq (.block 1 (.seq (.region [⟨(some 34), .faddr 2 (.t 2), none⟩,
  ⟨(some 35), .load none (.t 34), none⟩,
  ⟨(some 36), .mov (.t 5), none⟩,
  ⟨(some 37), .idxs 3 (.t 35) (.t 36), none⟩,
  ⟨(some 38), .load (some 3) (.t 37), none⟩,
  ⟨(some 39), .faddr 2 (.t 3), none⟩,
  ⟨(some 40), .load none (.t 39), none⟩,
  ⟨(some 41), .mov (.t 5), none⟩,
  ⟨(some 42), .idxs 3 (.t 40) (.t 41), none⟩,
  ⟨(some 43), .load (some 3) (.t 42), none⟩,
  ⟨(some 44), .call (.c (.fn 49 [] [])) [(.t 38), (.t 43)], none⟩,
  ⟨(some 45), .un .not (.t 44), none⟩] (some [[], [0], [], [1, 2], [3], [], [5], [], [6, 7], [8], [4, 9], [10]]))
 (.cond (.t 45) (.seq (.region [⟨(some 4), .mov (.c (.bool false)), none⟩] none)
 (.ret))
 (.skip))))
 (.region [⟨(some 32), .mov (.t 5), none⟩,
  ⟨(some 33), .bin .add (.t 32) (.c (.int .i64 1)), none⟩,
  ⟨(some 5), .mov (.t 33), none⟩] none))
-- pneumatic/pneumaticref05.Equal
def ic49 : IC := .seq (.region [⟨(some 2), .box (.t 0), none⟩,
  ⟨(some 3), .box (.t 1), none⟩,
  ⟨(some 4), .mov (.c (.bool false)), none⟩] none)
 (.seq (.seq (.region [⟨(some 6), .faddr 0 (.t 2), none⟩,
  ⟨(some 7), .load none (.t 6), none⟩,
  ⟨(some 8), .faddr 0 (.t 3), none⟩,
  ⟨(some 9), .load none (.t 8), none⟩,
  ⟨(some 10), .bin .neq (.t 7) (.t 9), none⟩,
  ⟨(some 11), .mov (.t 10), none⟩,
  ⟨(some 12), .faddr 1 (.t 2), some (11, false)⟩,
  ⟨(some 13), .load none (.t 12), some (11, false)⟩,
  ⟨(some 14), .faddr 1 (.t 3), some (11, false)⟩,
  ⟨(some 15), .load none (.t 14), some (11, false)⟩,
  ⟨(some 16), .bin .neq (.t 13) (.t 15), some (11, false)⟩,
  ⟨(some 17), .pick (.t 11) (.c (.bool true)) (.t 16), none⟩,
  ⟨(some 18), .mov (.t 17), none⟩,
  ⟨(some 19), .faddr 2 (.t 2), some (18, false)⟩,
  ⟨(some 20), .load none (.t 19), some (18, false)⟩,
  ⟨(some 21), .len false (.t 20), some (18, false)⟩,
  ⟨(some 22), .faddr 2 (.t 3), some (18, false)⟩,
  ⟨(some 23), .load none (.t 22), some (18, false)⟩,
  ⟨(some 24), .len false (.t 23), some (18, false)⟩,
  ⟨(some 25), .bin .neq (.t 21) (.t 24), some (18, false)⟩,
  ⟨(some 26), .pick (.t 18) (.c (.bool true)) (.t 25), none⟩] none)
 (.cond (.t 26) (.seq (.region [⟨(some 4), .mov (.c (.bool false)), none⟩] none)
 (.ret))
 (.skip)))
 (.seq (.seq (.region [⟨(some 5), .mov (.c (.int .i64 0)), none⟩] none)
 (.block 0 (.loop b49_0)))
 (.seq (.region [⟨(some 4), .mov (.c (.bool true)), none⟩] none)
 (.ret))))
theorem fn49 : env0.fn 49 = some ⟨46, ic49, [.t 4]⟩ := by kernel_rfl
mutual
def eqX : Ex → Ex → Bool
 | .nd o i a, .nd o' i' b => o == o' && (i == i' && zlx a b)
def zlx : List Ex → List Ex → Bool
 | [], [] => true
 | x :: xs, y :: ys => eqX x y && zlx xs ys
 | [], _ :: _ => false
 | _ :: _, [] => false
end
theorem zos : ∀ {a b : List Ex}, a.length ≠ b.length → zlx a b = false
 | [], [], h => absurd rfl h
 | [], _ :: _, _ => by rw [zlx]
 | _ :: _, [], _ => by rw [zlx]
 | x :: xs, y :: ys, h => by
  rw [zlx, zos (fun e => h (by rw [List.length_cons, List.length_cons, e])), Bool.and_false]
theorem zs7 {a b : List Ex} {i : Nat} (h : i < a.length) (k : i < b.length) : zlx (a.drop i) (b.drop i) = (eqX a[i] b[i] && zlx (a.drop (i + 1)) (b.drop (i + 1))) := by
 rw [List.drop_eq_getElem_cons h, List.drop_eq_getElem_cons k, zlx]
set_option maxHeartbeats 4000000 in
theorem equal49 : ∀ (q : Nat) (x y : Ex), SizeOf.sizeOf x ≤ q → Slim x → PF Try.prog 49 [.agg (cX x), .agg (cX y)] (.bool (eqX x y)) := by
 intro q
 induction q with
 | zero => intro x y hq; cases x; simp at hq
 | succ q ih =>
  intro x y hq hs
  obtain ⟨op, ix, args⟩ := x
  obtain ⟨op2, ix2, args2⟩ := y
  obtain ⟨hlen, hsl⟩ := zja hs
  refine zbl env0_ok fn49 [(0, .agg (cX (.nd op ix args))), (1, .agg (cX (.nd op2 ix2 args2)))] (by show 2 ≤ 46; decide) rfl fun w0 N0 => ?_
  unfold ic49
  rw [eqX]
  refine za7 (za0 rfl (zc5 rfl rfl (zc5 rfl rfl (za2 rfl (za4 (za3 ?_))))))
  refine zjh [] [(0, 0, cX (.nd op ix args)), (1, 1, cX (.nd op2 ix2 args2))] [(2, .vptr (cX (.nd op ix args))), (3, .vptr (cX (.nd op2 ix2 args2)))] rfl (.cons rfl rfl (.cons rfl rfl .nil)) .nil (.cons rfl (.fptr rfl rfl) (.cons rfl (.fptr rfl rfl) .nil)) ?_
  repeat (first | refine za7 ?_ | refine za0 rfl ?_ | refine za4 ?_ | refine za3 ?_ | refine zc2 ?_ | refine zai ?_ | refine zab ?_ | refine zbe rfl ?_ | refine zbi rfl ?_ | refine zbp ?_ | refine zae ?_ | refine zbo ?_ | refine zah ?_ | refine zas rfl ?_ | refine za6 ?_ | refine zaf ?_ | refine zbz rfl ?_ | refine zcz rfl rfl ?_ | refine zhe rfl ?_ | refine za2 rfl ?_ | refine zam rfl rfl ?_ | refine zap rfl rfl rfl rfl ?_ | refine zak rfl rfl rfl rfl rfl rfl rfl ?_ | refine za8 rfl ?_ | refine zb5 rfl rfl rfl ?_ | refine zan rfl rfl rfl ?_ | refine zbk rfl rfl rfl rfl ?_ | refine zat ?_ | refine zag rfl rfl ?_ | refine zaa rfl rfl ?_ | refine ze6 rfl rfl ?_ | refine zb7 rfl rfl ?_ | refine zbs rfl rfl ?_ | refine zbd rfl rfl ?_ | refine zc5 rfl rfl ?_ | refine zba rfl rfl rfl ?_ | refine zcc rfl rfl ?_ | refine zbw rfl rfl rfl rfl ?_ | refine zb4 rfl rfl rfl rfl ?_ | refine zby rfl rfl rfl rfl ?_ | refine zd4 rfl rfl ?_ | refine zcq rfl rfl ?_ | refine zb3 rfl rfl ?_ | refine zd7 ?_ | refine zbr env0_ok rfl rfl rfl ?_ | refine zb8 (op := .add) rfl rfl rfl ?_ | refine zb8 (op := .sub) rfl rfl rfl ?_ | refine zd6 rfl rfl rfl ?_ | refine zd5 rfl rfl rfl ?_ | refine zbm rfl rfl rfl ?_ | refine zav rfl rfl rfl ?_ | refine zbu rfl rfl (by omega) (by assumption) rfl ?_ | refine zan rfl rfl (decide_eq_true ⟨by omega, by omega⟩) ?_ | refine zcd rfl rfl (by omega) (by omega) ?_ | refine zbx rfl rfl rfl ?_ | refine zd8 rfl ?_ | refine zaq rfl ?_)
  refine zar rfl rfl rfl (fun h1 => ?_) fun h1 => ?_
  ·have h1 : ¬ op = op2 := by simpa using h1
   rw [show (op == op2) = false from beq_eq_false_iff_ne.2 h1]
   repeat (first | refine za7 ?_ | refine za0 rfl ?_ | refine za4 ?_ | refine za3 ?_ | refine zc2 ?_ | refine zai ?_ | refine zab ?_ | refine zbe rfl ?_ | refine zbi rfl ?_ | refine zbp ?_ | refine zae ?_ | refine zbo ?_ | refine zah ?_ | refine zas rfl ?_ | refine za6 ?_ | refine zaf ?_ | refine zbz rfl ?_ | refine zcz rfl rfl ?_ | refine zhe rfl ?_ | refine za2 rfl ?_ | refine zam rfl rfl ?_ | refine zap rfl rfl rfl rfl ?_ | refine zak rfl rfl rfl rfl rfl rfl rfl ?_ | refine za8 rfl ?_ | refine zb5 rfl rfl rfl ?_ | refine zan rfl rfl rfl ?_ | refine zbk rfl rfl rfl rfl ?_ | refine zat ?_ | refine zag rfl rfl ?_ | refine zaa rfl rfl ?_ | refine ze6 rfl rfl ?_ | refine zb7 rfl rfl ?_ | refine zbs rfl rfl ?_ | refine zbd rfl rfl ?_ | refine zc5 rfl rfl ?_ | refine zba rfl rfl rfl ?_ | refine zcc rfl rfl ?_ | refine zbw rfl rfl rfl rfl ?_ | refine zb4 rfl rfl rfl rfl ?_ | refine zby rfl rfl rfl rfl ?_ | refine zd4 rfl rfl ?_ | refine zcq rfl rfl ?_ | refine zb3 rfl rfl ?_ | refine zd7 ?_ | refine zbr env0_ok rfl rfl rfl ?_ | refine zb8 (op := .add) rfl rfl rfl ?_ | refine zb8 (op := .sub) rfl rfl rfl ?_ | refine zd6 rfl rfl rfl ?_ | refine zd5 rfl rfl rfl ?_ | refine zbm rfl rfl rfl ?_ | refine zav rfl rfl rfl ?_ | refine zbu rfl rfl (by omega) (by assumption) rfl ?_ | refine zan rfl rfl (decide_eq_true ⟨by omega, by omega⟩) ?_ | refine zcd rfl rfl (by omega) (by omega) ?_ | refine zbx rfl rfl rfl ?_ | refine zd8 rfl ?_ | refine zaq rfl ?_)
   exact zad ⟨.inr rfl, _, rfl, rfl⟩
  have h1 : op = op2 := by simpa using h1
  rw [show (op == op2) = true from beq_iff_eq.2 h1, Bool.true_and]
  repeat (first | refine za7 ?_ | refine za0 rfl ?_ | refine za4 ?_ | refine za3 ?_ | refine zc2 ?_ | refine zai ?_ | refine zab ?_ | refine zbe rfl ?_ | refine zbi rfl ?_ | refine zbp ?_ | refine zae ?_ | refine zbo ?_ | refine zah ?_ | refine zas rfl ?_ | refine za6 ?_ | refine zaf ?_ | refine zbz rfl ?_ | refine zcz rfl rfl ?_ | refine zhe rfl ?_ | refine za2 rfl ?_ | refine zam rfl rfl ?_ | refine zap rfl rfl rfl rfl ?_ | refine zak rfl rfl rfl rfl rfl rfl rfl ?_ | refine za8 rfl ?_ | refine zb5 rfl rfl rfl ?_ | refine zan rfl rfl rfl ?_ | refine zbk rfl rfl rfl rfl ?_ | refine zat ?_ | refine zag rfl rfl ?_ | refine zaa rfl rfl ?_ | refine ze6 rfl rfl ?_ | refine zb7 rfl rfl ?_ | refine zbs rfl rfl ?_ | refine zbd rfl rfl ?_ | refine zc5 rfl rfl ?_ | refine zba rfl rfl rfl ?_ | refine zcc rfl rfl ?_ | refine zbw rfl rfl rfl rfl ?_ | refine zb4 rfl rfl rfl rfl ?_ | refine zby rfl rfl rfl rfl ?_ | refine zd4 rfl rfl ?_ | refine zcq rfl rfl ?_ | refine zb3 rfl rfl ?_ | refine zd7 ?_ | refine zbr env0_ok rfl rfl rfl ?_ | refine zb8 (op := .add) rfl rfl rfl ?_ | refine zb8 (op := .sub) rfl rfl rfl ?_ | refine zd6 rfl rfl rfl ?_ | refine zd5 rfl rfl rfl ?_ | refine zbm rfl rfl rfl ?_ | refine zav rfl rfl rfl ?_ | refine zbu rfl rfl (by omega) (by assumption) rfl ?_ | refine zan rfl rfl (decide_eq_true ⟨by omega, by omega⟩) ?_ | refine zcd rfl rfl (by omega) (by omega) ?_ | refine zbx rfl rfl rfl ?_ | refine zd8 rfl ?_ | refine zaq rfl ?_)
  refine zar rfl rfl rfl (fun h2 => ?_) fun h2 => ?_
  ·have h2 : ¬ ix = ix2 := by simpa using h2
   rw [show (ix == ix2) = false from beq_eq_false_iff_ne.2 h2]
   repeat (first | refine za7 ?_ | refine za0 rfl ?_ | refine za4 ?_ | refine za3 ?_ | refine zc2 ?_ | refine zai ?_ | refine zab ?_ | refine zbe rfl ?_ | refine zbi rfl ?_ | refine zbp ?_ | refine zae ?_ | refine zbo ?_ | refine zah ?_ | refine zas rfl ?_ | refine za6 ?_ | refine zaf ?_ | refine zbz rfl ?_ | refine zcz rfl rfl ?_ | refine zhe rfl ?_ | refine za2 rfl ?_ | refine zam rfl rfl ?_ | refine zap rfl rfl rfl rfl ?_ | refine zak rfl rfl rfl rfl rfl rfl rfl ?_ | refine za8 rfl ?_ | refine zb5 rfl rfl rfl ?_ | refine zan rfl rfl rfl ?_ | refine zbk rfl rfl rfl rfl ?_ | refine zat ?_ | refine zag rfl rfl ?_ | refine zaa rfl rfl ?_ | refine ze6 rfl rfl ?_ | refine zb7 rfl rfl ?_ | refine zbs rfl rfl ?_ | refine zbd rfl rfl ?_ | refine zc5 rfl rfl ?_ | refine zba rfl rfl rfl ?_ | refine zcc rfl rfl ?_ | refine zbw rfl rfl rfl rfl ?_ | refine zb4 rfl rfl rfl rfl ?_ | refine zby rfl rfl rfl rfl ?_ | refine zd4 rfl rfl ?_ | refine zcq rfl rfl ?_ | refine zb3 rfl rfl ?_ | refine zd7 ?_ | refine zbr env0_ok rfl rfl rfl ?_ | refine zb8 (op := .add) rfl rfl rfl ?_ | refine zb8 (op := .sub) rfl rfl rfl ?_ | refine zd6 rfl rfl rfl ?_ | refine zd5 rfl rfl rfl ?_ | refine zbm rfl rfl rfl ?_ | refine zav rfl rfl rfl ?_ | refine zbu rfl rfl (by omega) (by assumption) rfl ?_ | refine zan rfl rfl (decide_eq_true ⟨by omega, by omega⟩) ?_ | refine zcd rfl rfl (by omega) (by omega) ?_ | refine zbx rfl rfl rfl ?_ | refine zd8 rfl ?_ | refine zaq rfl ?_)
   exact zad ⟨.inr rfl, _, rfl, rfl⟩
  have h2 : ix = ix2 := by simpa using h2
  rw [show (ix == ix2) = true from beq_iff_eq.2 h2, Bool.true_and]
  repeat (first | refine za7 ?_ | refine za0 rfl ?_ | refine za4 ?_ | refine za3 ?_ | refine zc2 ?_ | refine zai ?_ | refine zab ?_ | refine zbe rfl ?_ | refine zbi rfl ?_ | refine zbp ?_ | refine zae ?_ | refine zbo ?_ | refine zah ?_ | refine zas rfl ?_ | refine za6 ?_ | refine zaf ?_ | refine zbz rfl ?_ | refine zcz rfl rfl ?_ | refine zhe rfl ?_ | refine za2 rfl ?_ | refine zam rfl rfl ?_ | refine zap rfl rfl rfl rfl ?_ | refine zak rfl rfl rfl rfl rfl rfl rfl ?_ | refine za8 rfl ?_ | refine zb5 rfl rfl rfl ?_ | refine zan rfl rfl rfl ?_ | refine zbk rfl rfl rfl rfl ?_ | refine zat ?_ | refine zag rfl rfl ?_ | refine zaa rfl rfl ?_ | refine ze6 rfl rfl ?_ | refine zb7 rfl rfl ?_ | refine zbs rfl rfl ?_ | refine zbd rfl rfl ?_ | refine zc5 rfl rfl ?_ | refine zba rfl rfl rfl ?_ | refine zcc rfl rfl ?_ | refine zbw rfl rfl rfl rfl ?_ | refine zb4 rfl rfl rfl rfl ?_ | refine zby rfl rfl rfl rfl ?_ | refine zd4 rfl rfl ?_ | refine zcq rfl rfl ?_ | refine zb3 rfl rfl ?_ | refine zd7 ?_ | refine zbr env0_ok rfl rfl rfl ?_ | refine zb8 (op := .add) rfl rfl rfl ?_ | refine zb8 (op := .sub) rfl rfl rfl ?_ | refine zd6 rfl rfl rfl ?_ | refine zd5 rfl rfl rfl ?_ | refine zbm rfl rfl rfl ?_ | refine zav rfl rfl rfl ?_ | refine zbu rfl rfl (by omega) (by assumption) rfl ?_ | refine zan rfl rfl (decide_eq_true ⟨by omega, by omega⟩) ?_ | refine zcd rfl rfl (by omega) (by omega) ?_ | refine zbx rfl rfl rfl ?_ | refine zd8 rfl ?_ | refine zaq rfl ?_)
  refine zar rfl rfl rfl (fun h3 => ?_) fun h3 => ?_
  ·have h3 : ¬ (((cXs args).length : Nat) : Int) = (((cXs args2).length : Nat) : Int) := by simpa using h3
   rw [zb0, zb0] at h3
   rw [zos (fun e => h3 (by rw [e]))]
   repeat (first | refine za7 ?_ | refine za0 rfl ?_ | refine za4 ?_ | refine za3 ?_ | refine zc2 ?_ | refine zai ?_ | refine zab ?_ | refine zbe rfl ?_ | refine zbi rfl ?_ | refine zbp ?_ | refine zae ?_ | refine zbo ?_ | refine zah ?_ | refine zas rfl ?_ | refine za6 ?_ | refine zaf ?_ | refine zbz rfl ?_ | refine zcz rfl rfl ?_ | refine zhe rfl ?_ | refine za2 rfl ?_ | refine zam rfl rfl ?_ | refine zap rfl rfl rfl rfl ?_ | refine zak rfl rfl rfl rfl rfl rfl rfl ?_ | refine za8 rfl ?_ | refine zb5 rfl rfl rfl ?_ | refine zan rfl rfl rfl ?_ | refine zbk rfl rfl rfl rfl ?_ | refine zat ?_ | refine zag rfl rfl ?_ | refine zaa rfl rfl ?_ | refine ze6 rfl rfl ?_ | refine zb7 rfl rfl ?_ | refine zbs rfl rfl ?_ | refine zbd rfl rfl ?_ | refine zc5 rfl rfl ?_ | refine zba rfl rfl rfl ?_ | refine zcc rfl rfl ?_ | refine zbw rfl rfl rfl rfl ?_ | refine zb4 rfl rfl rfl rfl ?_ | refine zby rfl rfl rfl rfl ?_ | refine zd4 rfl rfl ?_ | refine zcq rfl rfl ?_ | refine zb3 rfl rfl ?_ | refine zd7 ?_ | refine zbr env0_ok rfl rfl rfl ?_ | refine zb8 (op := .add) rfl rfl rfl ?_ | refine zb8 (op := .sub) rfl rfl rfl ?_ | refine zd6 rfl rfl rfl ?_ | refine zd5 rfl rfl rfl ?_ | refine zbm rfl rfl rfl ?_ | refine zav rfl rfl rfl ?_ | refine zbu rfl rfl (by omega) (by assumption) rfl ?_ | refine zan rfl rfl (decide_eq_true ⟨by omega, by omega⟩) ?_ | refine zcd rfl rfl (by omega) (by omega) ?_ | refine zbx rfl rfl rfl ?_ | refine zd8 rfl ?_ | refine zaq rfl ?_)
   exact zad ⟨.inr rfl, _, rfl, rfl⟩
  have h3 : args.length = args2.length := by
   have h3 : (((cXs args).length : Nat) : Int) = (((cXs args2).length : Nat) : Int) := by simpa using h3
   rw [zb0, zb0] at h3
   omega
  repeat (first | refine za7 ?_ | refine za0 rfl ?_ | refine za4 ?_ | refine za3 ?_ | refine zc2 ?_ | refine zai ?_ | refine zab ?_ | refine zbe rfl ?_ | refine zbi rfl ?_ | refine zbp ?_ | refine zae ?_ | refine zbo ?_ | refine zah ?_ | refine zas rfl ?_ | refine za6 ?_ | refine zaf ?_ | refine zbz rfl ?_ | refine zcz rfl rfl ?_ | refine zhe rfl ?_ | refine za2 rfl ?_ | refine zam rfl rfl ?_ | refine zap rfl rfl rfl rfl ?_ | refine zak rfl rfl rfl rfl rfl rfl rfl ?_ | refine za8 rfl ?_ | refine zb5 rfl rfl rfl ?_ | refine zan rfl rfl rfl ?_ | refine zbk rfl rfl rfl rfl ?_ | refine zat ?_ | refine zag rfl rfl ?_ | refine zaa rfl rfl ?_ | refine ze6 rfl rfl ?_ | refine zb7 rfl rfl ?_ | refine zbs rfl rfl ?_ | refine zbd rfl rfl ?_ | refine zc5 rfl rfl ?_ | refine zba rfl rfl rfl ?_ | refine zcc rfl rfl ?_ | refine zbw rfl rfl rfl rfl ?_ | refine zb4 rfl rfl rfl rfl ?_ | refine zby rfl rfl rfl rfl ?_ | refine zd4 rfl rfl ?_ | refine zcq rfl rfl ?_ | refine zb3 rfl rfl ?_ | refine zd7 ?_ | refine zbr env0_ok rfl rfl rfl ?_ | refine zb8 (op := .add) rfl rfl rfl ?_ | refine zb8 (op := .sub) rfl rfl rfl ?_ | refine zd6 rfl rfl rfl ?_ | refine zd5 rfl rfl rfl ?_ | refine zbm rfl rfl rfl ?_ | refine zav rfl rfl rfl ?_ | refine zbu rfl rfl (by omega) (by assumption) rfl ?_ | refine zan rfl rfl (decide_eq_true ⟨by omega, by omega⟩) ?_ | refine zcd rfl rfl (by omega) (by omega) ?_ | refine zbx rfl rfl rfl ?_ | refine zd8 rfl ?_ | refine zaq rfl ?_)
  refine zdr (fun mm S => ∃ i, mm = args.length - i ∧ i ≤ args.length ∧ zlx args args2 = zlx (args.drop i) (args2.drop i) ∧
    S = st 46 [(2, .vptr (cX (.nd op ix args))), (3, .vptr (cX (.nd op2 ix2 args2))), (5, .int .i64 (i : Nat))] [] 0 1) args.length
   (zal (.cons rfl (.cons rfl (.cons rfl .nil)))) ⟨0, rfl, Nat.zero_le _, rfl, rfl⟩ ?_
  rintro mm S ⟨i, rfl, hi, hall, rfl⟩
  unfold b49_0
  repeat (first | refine za7 ?_ | refine za0 rfl ?_ | refine za4 ?_ | refine za3 ?_ | refine zc2 ?_ | refine zai ?_ | refine zab ?_ | refine zbe rfl ?_ | refine zbi rfl ?_ | refine zbp ?_ | refine zae ?_ | refine zbo ?_ | refine zah ?_ | refine zas rfl ?_ | refine za6 ?_ | refine zaf ?_ | refine zbz rfl ?_ | refine zcz rfl rfl ?_ | refine zhe rfl ?_ | refine za2 rfl ?_ | refine zam rfl rfl ?_ | refine zap rfl rfl rfl rfl ?_ | refine zak rfl rfl rfl rfl rfl rfl rfl ?_ | refine za8 rfl ?_ | refine zb5 rfl rfl rfl ?_ | refine zan rfl rfl rfl ?_ | refine zbk rfl rfl rfl rfl ?_ | refine zat ?_ | refine zag rfl rfl ?_ | refine zaa rfl rfl ?_ | refine ze6 rfl rfl ?_ | refine zb7 rfl rfl ?_ | refine zbs rfl rfl ?_ | refine zbd rfl rfl ?_ | refine zc5 rfl rfl ?_ | refine zba rfl rfl rfl ?_ | refine zcc rfl rfl ?_ | refine zbw rfl rfl rfl rfl ?_ | refine zb4 rfl rfl rfl rfl ?_ | refine zby rfl rfl rfl rfl ?_ | refine zd4 rfl rfl ?_ | refine zcq rfl rfl ?_ | refine zb3 rfl rfl ?_ | refine zd7 ?_ | refine zbr env0_ok rfl rfl rfl ?_ | refine zb8 (op := .add) rfl rfl rfl ?_ | refine zb8 (op := .sub) rfl rfl rfl ?_ | refine zd6 rfl rfl rfl ?_ | refine zd5 rfl rfl rfl ?_ | refine zbm rfl rfl rfl ?_ | refine zav rfl rfl rfl ?_ | refine zbu rfl rfl (by omega) (by assumption) rfl ?_ | refine zan rfl rfl (decide_eq_true ⟨by omega, by omega⟩) ?_ | refine zcd rfl rfl (by omega) (by omega) ?_ | refine zbx rfl rfl rfl ?_ | refine zd8 rfl ?_ | refine zaq rfl ?_)
  refine zar rfl rfl rfl (fun h4 => ?_) fun h4 => ?_
  ·have hlt : i < args.length := by
    have := of_decide_eq_true h4
    rw [zb0] at this
    omega
   have hlt2 : i < args2.length := by omega
   rw [zs7 hlt hlt2] at hall
   have hge := zf7 hlt
   have hge2 := zf7 hlt2
   have hmem : args[i] ∈ args := List.getElem_mem hlt
   have py := ih args[i] args2[i] (by have := zgm (op := op) (ix := ix) hmem; omega) (hsl _ hmem)
   generalize args[i] = y at *
   generalize args2[i] = y2 at *
   generalize eqX y y2 = b at *
   obtain ⟨yo, yi, ya⟩ := y
   obtain ⟨zo, zi, za⟩ := y2
   repeat (first | refine za7 ?_ | refine za0 rfl ?_ | refine za4 ?_ | refine za3 ?_ | refine zc2 ?_ | refine zai ?_ | refine zab ?_ | refine zbe rfl ?_ | refine zbi rfl ?_ | refine zbp ?_ | refine zae ?_ | refine zbo ?_ | refine zah ?_ | refine zas rfl ?_ | refine za6 ?_ | refine zaf ?_ | refine zbz rfl ?_ | refine zcz rfl rfl ?_ | refine zhe rfl ?_ | refine za2 rfl ?_ | refine zam rfl rfl ?_ | refine zap rfl rfl rfl rfl ?_ | refine zak rfl rfl rfl rfl rfl rfl rfl ?_ | refine za8 rfl ?_ | refine zb5 rfl rfl rfl ?_ | refine zan rfl rfl rfl ?_ | refine zbk rfl rfl rfl rfl ?_ | refine zat ?_ | refine zag rfl rfl ?_ | refine zaa rfl rfl ?_ | refine ze6 rfl rfl ?_ | refine zb7 rfl rfl ?_ | refine zbs rfl rfl ?_ | refine zbd rfl rfl ?_ | refine zc5 rfl rfl ?_ | refine zba rfl rfl rfl ?_ | refine zcc rfl rfl ?_ | refine zbw rfl rfl rfl rfl ?_ | refine zb4 rfl rfl rfl rfl ?_ | refine zby rfl rfl rfl rfl ?_ | refine zd4 rfl rfl ?_ | refine zcq rfl rfl ?_ | refine zb3 rfl rfl ?_ | refine zd7 ?_ | refine zb8 (op := .add) rfl rfl rfl ?_ | refine zb8 (op := .sub) rfl rfl rfl ?_ | refine zd6 rfl rfl rfl ?_ | refine zd5 rfl rfl rfl ?_ | refine zbm rfl rfl rfl ?_ | refine zav rfl rfl rfl ?_ | refine zbu rfl rfl (by omega) (by assumption) rfl ?_ | refine zan rfl rfl (decide_eq_true ⟨by omega, by omega⟩) ?_ | refine zcd rfl rfl (by omega) (by omega) ?_ | refine zbx rfl rfl rfl ?_ | refine zd8 rfl ?_ | refine zaq rfl ?_)
   refine zlm env0_ok [(49, [.agg (cX (.nd yo yi ya)), .agg (cX (.nd zo zi za))], .bool b)] (fun x hx => by
    obtain rfl := List.mem_singleton.1 hx
    exact py) (fun f => Nat.beq f 49) rfl rfl rfl ?_
   repeat (first | refine za7 ?_ | refine za0 rfl ?_ | refine za4 ?_ | refine za3 ?_ | refine zc2 ?_ | refine zai ?_ | refine zab ?_ | refine zbe rfl ?_ | refine zbi rfl ?_ | refine zbp ?_ | refine zae ?_ | refine zbo ?_ | refine zah ?_ | refine zas rfl ?_ | refine za6 ?_ | refine zaf ?_ | refine zbz rfl ?_ | refine zcz rfl rfl ?_ | refine zhe rfl ?_ | refine za2 rfl ?_ | refine zam rfl rfl ?_ | refine zap rfl rfl rfl rfl ?_ | refine zak rfl rfl rfl rfl rfl rfl rfl ?_ | refine za8 rfl ?_ | refine zb5 rfl rfl rfl ?_ | refine zan rfl rfl rfl ?_ | refine zbk rfl rfl rfl rfl ?_ | refine zat ?_ | refine zag rfl rfl ?_ | refine zaa rfl rfl ?_ | refine ze6 rfl rfl ?_ | refine zb7 rfl rfl ?_ | refine zbs rfl rfl ?_ | refine zbd rfl rfl ?_ | refine zc5 rfl rfl ?_ | refine zba rfl rfl rfl ?_ | refine zcc rfl rfl ?_ | refine zbw rfl rfl rfl rfl ?_ | refine zb4 rfl rfl rfl rfl ?_ | refine zby rfl rfl rfl rfl ?_ | refine zd4 rfl rfl ?_ | refine zcq rfl rfl ?_ | refine zb3 rfl rfl ?_ | refine zd7 ?_ | refine zbr env0_ok rfl rfl rfl ?_ | refine zb8 (op := .add) rfl rfl rfl ?_ | refine zb8 (op := .sub) rfl rfl rfl ?_ | refine zd6 rfl rfl rfl ?_ | refine zd5 rfl rfl rfl ?_ | refine zbm rfl rfl rfl ?_ | refine zav rfl rfl rfl ?_ | refine zbu rfl rfl (by omega) (by assumption) rfl ?_ | refine zan rfl rfl (decide_eq_true ⟨by omega, by omega⟩) ?_ | refine zcd rfl rfl (by omega) (by omega) ?_ | refine zbx rfl rfl rfl ?_ | refine zd8 rfl ?_ | refine zaq rfl ?_)
   refine zay rfl rfl zgw (fun h => Bool.noConfusion (show false = true from h)) ?_
   cases b with
   | false =>
    rw [Bool.false_and] at hall
    repeat (first | refine za7 ?_ | refine za0 rfl ?_ | refine za4 ?_ | refine za3 ?_ | refine zc2 ?_ | refine zai ?_ | refine zab ?_ | refine zbe rfl ?_ | refine zbi rfl ?_ | refine zbp ?_ | refine zae ?_ | refine zbo ?_ | refine zah ?_ | refine zas rfl ?_ | refine za6 ?_ | refine zaf ?_ | refine zbz rfl ?_ | refine zcz rfl rfl ?_ | refine zhe rfl ?_ | refine za2 rfl ?_ | refine zam rfl rfl ?_ | refine zap rfl rfl rfl rfl ?_ | refine zak rfl rfl rfl rfl rfl rfl rfl ?_ | refine za8 rfl ?_ | refine zb5 rfl rfl rfl ?_ | refine zan rfl rfl rfl ?_ | refine zbk rfl rfl rfl rfl ?_ | refine zat ?_ | refine zag rfl rfl ?_ | refine zaa rfl rfl ?_ | refine ze6 rfl rfl ?_ | refine zb7 rfl rfl ?_ | refine zbs rfl rfl ?_ | refine zbd rfl rfl ?_ | refine zc5 rfl rfl ?_ | refine zba rfl rfl rfl ?_ | refine zcc rfl rfl ?_ | refine zbw rfl rfl rfl rfl ?_ | refine zb4 rfl rfl rfl rfl ?_ | refine zby rfl rfl rfl rfl ?_ | refine zd4 rfl rfl ?_ | refine zcq rfl rfl ?_ | refine zb3 rfl rfl ?_ | refine zd7 ?_ | refine zbr env0_ok rfl rfl rfl ?_ | refine zb8 (op := .add) rfl rfl rfl ?_ | refine zb8 (op := .sub) rfl rfl rfl ?_ | refine zd6 rfl rfl rfl ?_ | refine zd5 rfl rfl rfl ?_ | refine zbm rfl rfl rfl ?_ | refine zav rfl rfl rfl ?_ | refine zbu rfl rfl (by omega) (by assumption) rfl ?_ | refine zan rfl rfl (decide_eq_true ⟨by omega, by omega⟩) ?_ | refine zcd rfl rfl (by omega) (by omega) ?_ | refine zbx rfl rfl rfl ?_ | refine zd8 rfl ?_ | refine zaq rfl ?_)
    exact zad ⟨.inr rfl, _, rfl, by rw [hall]; rfl⟩
   | true =>
    rw [Bool.true_and] at hall
    repeat (first | refine za7 ?_ | refine za0 rfl ?_ | refine za4 ?_ | refine za3 ?_ | refine zc2 ?_ | refine zai ?_ | refine zab ?_ | refine zbe rfl ?_ | refine zbi rfl ?_ | refine zbp ?_ | refine zae ?_ | refine zbo ?_ | refine zah ?_ | refine zas rfl ?_ | refine za6 ?_ | refine zaf ?_ | refine zbz rfl ?_ | refine zcz rfl rfl ?_ | refine zhe rfl ?_ | refine za2 rfl ?_ | refine zam rfl rfl ?_ | refine zap rfl rfl rfl rfl ?_ | refine zak rfl rfl rfl rfl rfl rfl rfl ?_ | refine za8 rfl ?_ | refine zb5 rfl rfl rfl ?_ | refine zan rfl rfl rfl ?_ | refine zbk rfl rfl rfl rfl ?_ | refine zat ?_ | refine zag rfl rfl ?_ | refine zaa rfl rfl ?_ | refine ze6 rfl rfl ?_ | refine zb7 rfl rfl ?_ | refine zbs rfl rfl ?_ | refine zbd rfl rfl ?_ | refine zc5 rfl rfl ?_ | refine zba rfl rfl rfl ?_ | refine zcc rfl rfl ?_ | refine zbw rfl rfl rfl rfl ?_ | refine zb4 rfl rfl rfl rfl ?_ | refine zby rfl rfl rfl rfl ?_ | refine zd4 rfl rfl ?_ | refine zcq rfl rfl ?_ | refine zb3 rfl rfl ?_ | refine zd7 ?_ | refine zbr env0_ok rfl rfl rfl ?_ | refine zb8 (op := .add) rfl rfl rfl ?_ | refine zb8 (op := .sub) rfl rfl rfl ?_ | refine zd6 rfl rfl rfl ?_ | refine zd5 rfl rfl rfl ?_ | refine zbm rfl rfl rfl ?_ | refine zav rfl rfl rfl ?_ | refine zbu rfl rfl (by omega) (by assumption) rfl ?_ | refine zan rfl rfl (decide_eq_true ⟨by omega, by omega⟩) ?_ | refine zcd rfl rfl (by omega) (by omega) ?_ | refine zbx rfl rfl rfl ?_ | refine zd8 rfl ?_ | refine zaq rfl ?_)
    rw [zbb i (by omega)]
    exact zcj (show args.length - (i + 1) < args.length - i by omega) (zal (.cons rfl (.cons rfl (.cons rfl .nil)))) ⟨i + 1, rfl, hlt, hall, rfl⟩
  ·have hi2 : i = args.length := by
    have := of_decide_eq_false h4
    rw [zb0] at this
    omega
   rw [List.drop_of_length_le (by omega), List.drop_of_length_le (by omega), zlx] at hall
   repeat (first | refine za7 ?_ | refine za0 rfl ?_ | refine za4 ?_ | refine za3 ?_ | refine zc2 ?_ | refine zai ?_ | refine zab ?_ | refine zbe rfl ?_ | refine zbi rfl ?_ | refine zbp ?_ | refine zae ?_ | refine zbo ?_ | refine zah ?_ | refine zas rfl ?_ | refine za6 ?_ | refine zaf ?_ | refine zbz rfl ?_ | refine zcz rfl rfl ?_ | refine zhe rfl ?_ | refine za2 rfl ?_ | refine zam rfl rfl ?_ | refine zap rfl rfl rfl rfl ?_ | refine zak rfl rfl rfl rfl rfl rfl rfl ?_ | refine za8 rfl ?_ | refine zb5 rfl rfl rfl ?_ | refine zan rfl rfl rfl ?_ | refine zbk rfl rfl rfl rfl ?_ | refine zat ?_ | refine zag rfl rfl ?_ | refine zaa rfl rfl ?_ | refine ze6 rfl rfl ?_ | refine zb7 rfl rfl ?_ | refine zbs rfl rfl ?_ | refine zbd rfl rfl ?_ | refine zc5 rfl rfl ?_ | refine zba rfl rfl rfl ?_ | refine zcc rfl rfl ?_ | refine zbw rfl rfl rfl rfl ?_ | refine zb4 rfl rfl rfl rfl ?_ | refine zby rfl rfl rfl rfl ?_ | refine zd4 rfl rfl ?_ | refine zcq rfl rfl ?_ | refine zb3 rfl rfl ?_ | refine zd7 ?_ | refine zbr env0_ok rfl rfl rfl ?_ | refine zb8 (op := .add) rfl rfl rfl ?_ | refine zb8 (op := .sub) rfl rfl rfl ?_ | refine zd6 rfl rfl rfl ?_ | refine zd5 rfl rfl rfl ?_ | refine zbm rfl rfl rfl ?_ | refine zav rfl rfl rfl ?_ | refine zbu rfl rfl (by omega) (by assumption) rfl ?_ | refine zan rfl rfl (decide_eq_true ⟨by omega, by omega⟩) ?_ | refine zcd rfl rfl (by omega) (by omega) ?_ | refine zbx rfl rfl rfl ?_ | refine zd8 rfl ?_ | refine zaq rfl ?_)
   refine zeh ?_
   repeat (first | refine za7 ?_ | refine za0 rfl ?_ | refine za4 ?_ | refine za3 ?_ | refine zc2 ?_ | refine zai ?_ | refine zab ?_ | refine zbe rfl ?_ | refine zbi rfl ?_ | refine zbp ?_ | refine zae ?_ | refine zbo ?_ | refine zah ?_ | refine zas rfl ?_ | refine za6 ?_ | refine zaf ?_ | refine zbz rfl ?_ | refine zcz rfl rfl ?_ | refine zhe rfl ?_ | refine za2 rfl ?_ | refine zam rfl rfl ?_ | refine zap rfl rfl rfl rfl ?_ | refine zak rfl rfl rfl rfl rfl rfl rfl ?_ | refine za8 rfl ?_ | refine zb5 rfl rfl rfl ?_ | refine zan rfl rfl rfl ?_ | refine zbk rfl rfl rfl rfl ?_ | refine zat ?_ | refine zag rfl rfl ?_ | refine zaa rfl rfl ?_ | refine ze6 rfl rfl ?_ | refine zb7 rfl rfl ?_ | refine zbs rfl rfl ?_ | refine zbd rfl rfl ?_ | refine zc5 rfl rfl ?_ | refine zba rfl rfl rfl ?_ | refine zcc rfl rfl ?_ | refine zbw rfl rfl rfl rfl ?_ | refine zb4 rfl rfl rfl rfl ?_ | refine zby rfl rfl rfl rfl ?_ | refine zd4 rfl rfl ?_ | refine zcq rfl rfl ?_ | refine zb3 rfl rfl ?_ | refine zd7 ?_ | refine zbr env0_ok rfl rfl rfl ?_ | refine zb8 (op := .add) rfl rfl rfl ?_ | refine zb8 (op := .sub) rfl rfl rfl ?_ | refine zd6 rfl rfl rfl ?_ | refine zd5 rfl rfl rfl ?_ | refine zbm rfl rfl rfl ?_ | refine zav rfl rfl rfl ?_ | refine zbu rfl rfl (by omega) (by assumption) rfl ?_ | refine zan rfl rfl (decide_eq_true ⟨by omega, by omega⟩) ?_ | refine zcd rfl rfl (by omega) (by omega) ?_ | refine zbx rfl rfl rfl ?_ | refine zd8 rfl ?_ | refine zaq rfl ?_)
   exact zad ⟨.inr rfl, _, rfl, by rw [hall]; rfl⟩
end Go.Proofs.Ytmnkjofaodbokaa
namespace Go.Proofs.Ytmnkjofaodbokaa
open Go Go.Am
-- pneumatic/pneumaticref05.Same
def ic16 : IC := .seq (.region [⟨(some 2), .box (.t 0), none⟩,
  ⟨(some 3), .box (.t 1), none⟩,
  ⟨(some 4), .mov (.c (.bool false)), none⟩] none)
 (.seq (.region [⟨(some 5), .load (some 3) (.t 2), none⟩,
  ⟨(some 6), .call (.c (.fn 48 [] [])) [(.t 5)], none⟩,
  ⟨(some 7), .mov (.t 6), none⟩,
  ⟨(some 8), .load (some 3) (.t 3), some (7, true)⟩,
  ⟨(some 9), .call (.c (.fn 48 [] [])) [(.t 8)], some (7, true)⟩,
  ⟨(some 10), .pick (.t 7) (.t 9) (.c (.bool false)), none⟩,
  ⟨(some 11), .mov (.t 10), none⟩,
  ⟨(some 12), .load (some 3) (.t 2), some (11, true)⟩,
  ⟨(some 13), .load (some 3) (.t 3), some (11, true)⟩,
  ⟨(some 14), .call (.c (.fn 49 [] [])) [(.t 12), (.t 13)], some (11, true)⟩,
  ⟨(some 15), .pick (.t 11) (.t 14) (.c (.bool false)), none⟩,
  ⟨(some 4), .mov (.t 15), none⟩] none)
 (.ret))
theorem fn16 : env0.fn 16 = some ⟨16, ic16, [.t 4]⟩ := by kernel_rfl
def ztv (x y : Ex) : Bool := zdo x && (zdo y && eqX x y)
theorem same16 (x y : Ex) (hs : Slim x) (hs2 : Slim y) : PF Try.prog 16 [.agg (cX x), .agg (cX y)] (.bool (ztv x y)) := by
 have p1 := znq x hs
 have p2 := znq y hs2
 have p3 := equal49 _ x y (Nat.le_refl _) hs
 unfold ztv
 generalize zdo x = a at *
 generalize zdo y = b at *
 generalize eqX x y = c at *
 obtain ⟨op, ix, args⟩ := x
 obtain ⟨op2, ix2, args2⟩ := y
 refine zbl env0_ok fn16 [(0, .agg (cX (.nd op ix args))), (1, .agg (cX (.nd op2 ix2 args2)))] (by show 2 ≤ 16; decide) rfl fun w0 N0 => ?_
 unfold ic16
 refine za7 (za0 rfl (zc5 rfl rfl (zc5 rfl rfl (za2 rfl (za4 (za3 ?_))))))
 refine zjh [] [(0, 0, cX (.nd op ix args)), (1, 1, cX (.nd op2 ix2 args2))] [(2, .vptr (cX (.nd op ix args))), (3, .vptr (cX (.nd op2 ix2 args2)))] rfl (.cons rfl rfl (.cons rfl rfl .nil)) .nil (.cons rfl (.fptr rfl rfl) (.cons rfl (.fptr rfl rfl) .nil)) ?_
 repeat (first | refine za7 ?_ | refine za0 rfl ?_ | refine za4 ?_ | refine za3 ?_ | refine zc2 ?_ | refine zai ?_ | refine zab ?_ | refine zbe rfl ?_ | refine zbi rfl ?_ | refine zbp ?_ | refine zae ?_ | refine zbo ?_ | refine zah ?_ | refine zas rfl ?_ | refine za6 ?_ | refine zaf ?_ | refine zbz rfl ?_ | refine zcz rfl rfl ?_ | refine zhe rfl ?_ | refine za2 rfl ?_ | refine zam rfl rfl ?_ | refine zap rfl rfl rfl rfl ?_ | refine zak rfl rfl rfl rfl rfl rfl rfl ?_ | refine za8 rfl ?_ | refine zb5 rfl rfl rfl ?_ | refine zan rfl rfl rfl ?_ | refine zbk rfl rfl rfl rfl ?_ | refine zat ?_ | refine zag rfl rfl ?_ | refine zaa rfl rfl ?_ | refine ze6 rfl rfl ?_ | refine zb7 rfl rfl ?_ | refine zbs rfl rfl ?_ | refine zbd rfl rfl ?_ | refine zc5 rfl rfl ?_ | refine zba rfl rfl rfl ?_ | refine zcc rfl rfl ?_ | refine zbw rfl rfl rfl rfl ?_ | refine zb4 rfl rfl rfl rfl ?_ | refine zby rfl rfl rfl rfl ?_ | refine zd4 rfl rfl ?_ | refine zcq rfl rfl ?_ | refine zb3 rfl rfl ?_ | refine zd7 ?_ | refine zbr env0_ok rfl rfl rfl ?_ | refine zb8 (op := .add) rfl rfl rfl ?_ | refine zb8 (op := .sub) rfl rfl rfl ?_ | refine zd6 rfl rfl rfl ?_ | refine zd5 rfl rfl rfl ?_ | refine zbm rfl rfl rfl ?_ | refine zav rfl rfl rfl ?_ | refine zbu rfl rfl (by omega) (by assumption) rfl ?_ | refine zan rfl rfl (decide_eq_true ⟨by omega, by omega⟩) ?_ | refine zcd rfl rfl (by omega) (by omega) ?_ | refine zbx rfl rfl rfl ?_ | refine zd8 rfl ?_ | refine zaq rfl ?_)
 refine zay rfl rfl p1 (fun h => Bool.noConfusion (show false = true from h)) ?_
 cases a with
 | false =>
  repeat (first | refine za7 ?_ | refine za0 rfl ?_ | refine za4 ?_ | refine za3 ?_ | refine zc2 ?_ | refine zai ?_ | refine zab ?_ | refine zbe rfl ?_ | refine zbi rfl ?_ | refine zbp ?_ | refine zae ?_ | refine zbo ?_ | refine zah ?_ | refine zas rfl ?_ | refine za6 ?_ | refine zaf ?_ | refine zbz rfl ?_ | refine zcz rfl rfl ?_ | refine zhe rfl ?_ | refine za2 rfl ?_ | refine zam rfl rfl ?_ | refine zap rfl rfl rfl rfl ?_ | refine zak rfl rfl rfl rfl rfl rfl rfl ?_ | refine za8 rfl ?_ | refine zb5 rfl rfl rfl ?_ | refine zan rfl rfl rfl ?_ | refine zbk rfl rfl rfl rfl ?_ | refine zat ?_ | refine zag rfl rfl ?_ | refine zaa rfl rfl ?_ | refine ze6 rfl rfl ?_ | refine zb7 rfl rfl ?_ | refine zbs rfl rfl ?_ | refine zbd rfl rfl ?_ | refine zc5 rfl rfl ?_ | refine zba rfl rfl rfl ?_ | refine zcc rfl rfl ?_ | refine zbw rfl rfl rfl rfl ?_ | refine zb4 rfl rfl rfl rfl ?_ | refine zby rfl rfl rfl rfl ?_ | refine zd4 rfl rfl ?_ | refine zcq rfl rfl ?_ | refine zb3 rfl rfl ?_ | refine zd7 ?_ | refine zbr env0_ok rfl rfl rfl ?_ | refine zb8 (op := .add) rfl rfl rfl ?_ | refine zb8 (op := .sub) rfl rfl rfl ?_ | refine zd6 rfl rfl rfl ?_ | refine zd5 rfl rfl rfl ?_ | refine zbm rfl rfl rfl ?_ | refine zav rfl rfl rfl ?_ | refine zbu rfl rfl (by omega) (by assumption) rfl ?_ | refine zan rfl rfl (decide_eq_true ⟨by omega, by omega⟩) ?_ | refine zcd rfl rfl (by omega) (by omega) ?_ | refine zbx rfl rfl rfl ?_ | refine zd8 rfl ?_ | refine zaq rfl ?_)
  exact zad ⟨.inr rfl, _, rfl, rfl⟩
 | true =>
  repeat (first | refine za7 ?_ | refine za0 rfl ?_ | refine za4 ?_ | refine za3 ?_ | refine zc2 ?_ | refine zai ?_ | refine zab ?_ | refine zbe rfl ?_ | refine zbi rfl ?_ | refine zbp ?_ | refine zae ?_ | refine zbo ?_ | refine zah ?_ | refine zas rfl ?_ | refine za6 ?_ | refine zaf ?_ | refine zbz rfl ?_ | refine zcz rfl rfl ?_ | refine zhe rfl ?_ | refine za2 rfl ?_ | refine zam rfl rfl ?_ | refine zap rfl rfl rfl rfl ?_ | refine zak rfl rfl rfl rfl rfl rfl rfl ?_ | refine za8 rfl ?_ | refine zb5 rfl rfl rfl ?_ | refine zan rfl rfl rfl ?_ | refine zbk rfl rfl rfl rfl ?_ | refine zat ?_ | refine zag rfl rfl ?_ | refine zaa rfl rfl ?_ | refine ze6 rfl rfl ?_ | refine zb7 rfl rfl ?_ | refine zbs rfl rfl ?_ | refine zbd rfl rfl ?_ | refine zc5 rfl rfl ?_ | refine zba rfl rfl rfl ?_ | refine zcc rfl rfl ?_ | refine zbw rfl rfl rfl rfl ?_ | refine zb4 rfl rfl rfl rfl ?_ | refine zby rfl rfl rfl rfl ?_ | refine zd4 rfl rfl ?_ | refine zcq rfl rfl ?_ | refine zb3 rfl rfl ?_ | refine zd7 ?_ | refine zbr env0_ok rfl rfl rfl ?_ | refine zb8 (op := .add) rfl rfl rfl ?_ | refine zb8 (op := .sub) rfl rfl rfl ?_ | refine zd6 rfl rfl rfl ?_ | refine zd5 rfl rfl rfl ?_ | refine zbm rfl rfl rfl ?_ | refine zav rfl rfl rfl ?_ | refine zbu rfl rfl (by omega) (by assumption) rfl ?_ | refine zan rfl rfl (decide_eq_true ⟨by omega, by omega⟩) ?_ | refine zcd rfl rfl (by omega) (by omega) ?_ | refine zbx rfl rfl rfl ?_ | refine zd8 rfl ?_ | refine zaq rfl ?_)
  refine zay rfl rfl p2 (fun h => Bool.noConfusion (show false = true from h)) ?_
  cases b with
  | false =>
   repeat (first | refine za7 ?_ | refine za0 rfl ?_ | refine za4 ?_ | refine za3 ?_ | refine zc2 ?_ | refine zai ?_ | refine zab ?_ | refine zbe rfl ?_ | refine zbi rfl ?_ | refine zbp ?_ | refine zae ?_ | refine zbo ?_ | refine zah ?_ | refine zas rfl ?_ | refine za6 ?_ | refine zaf ?_ | refine zbz rfl ?_ | refine zcz rfl rfl ?_ | refine zhe rfl ?_ | refine za2 rfl ?_ | refine zam rfl rfl ?_ | refine zap rfl rfl rfl rfl ?_ | refine zak rfl rfl rfl rfl rfl rfl rfl ?_ | refine za8 rfl ?_ | refine zb5 rfl rfl rfl ?_ | refine zan rfl rfl rfl ?_ | refine zbk rfl rfl rfl rfl ?_ | refine zat ?_ | refine zag rfl rfl ?_ | refine zaa rfl rfl ?_ | refine ze6 rfl rfl ?_ | refine zb7 rfl rfl ?_ | refine zbs rfl rfl ?_ | refine zbd rfl rfl ?_ | refine zc5 rfl rfl ?_ | refine zba rfl rfl rfl ?_ | refine zcc rfl rfl ?_ | refine zbw rfl rfl rfl rfl ?_ | refine zb4 rfl rfl rfl rfl ?_ | refine zby rfl rfl rfl rfl ?_ | refine zd4 rfl rfl ?_ | refine zcq rfl rfl ?_ | refine zb3 rfl rfl ?_ | refine zd7 ?_ | refine zbr env0_ok rfl rfl rfl ?_ | refine zb8 (op := .add) rfl rfl rfl ?_ | refine zb8 (op := .sub) rfl rfl rfl ?_ | refine zd6 rfl rfl rfl ?_ | refine zd5 rfl rfl rfl ?_ | refine zbm rfl rfl rfl ?_ | refine zav rfl rfl rfl ?_ | refine zbu rfl rfl (by omega) (by assumption) rfl ?_ | refine zan rfl rfl (decide_eq_true ⟨by omega, by omega⟩) ?_ | refine zcd rfl rfl (by omega) (by omega) ?_ | refine zbx rfl rfl rfl ?_ | refine zd8 rfl ?_ | refine zaq rfl ?_)
   exact zad ⟨.inr rfl, _, rfl, rfl⟩
  | true =>
   repeat (first | refine za7 ?_ | refine za0 rfl ?_ | refine za4 ?_ | refine za3 ?_ | refine zc2 ?_ | refine zai ?_ | refine zab ?_ | refine zbe rfl ?_ | refine zbi rfl ?_ | refine zbp ?_ | refine zae ?_ | refine zbo ?_ | refine zah ?_ | refine zas rfl ?_ | refine za6 ?_ | refine zaf ?_ | refine zbz rfl ?_ | refine zcz rfl rfl ?_ | refine zhe rfl ?_ | refine za2 rfl ?_ | refine zam rfl rfl ?_ | refine zap rfl rfl rfl rfl ?_ | refine zak rfl rfl rfl rfl rfl rfl rfl ?_ | refine za8 rfl ?_ | refine zb5 rfl rfl rfl ?_ | refine zan rfl rfl rfl ?_ | refine zbk rfl rfl rfl rfl ?_ | refine zat ?_ | refine zag rfl rfl ?_ | refine zaa rfl rfl ?_ | refine ze6 rfl rfl ?_ | refine zb7 rfl rfl ?_ | refine zbs rfl rfl ?_ | refine zbd rfl rfl ?_ | refine zc5 rfl rfl ?_ | refine zba rfl rfl rfl ?_ | refine zcc rfl rfl ?_ | refine zbw rfl rfl rfl rfl ?_ | refine zb4 rfl rfl rfl rfl ?_ | refine zby rfl rfl rfl rfl ?_ | refine zd4 rfl rfl ?_ | refine zcq rfl rfl ?_ | refine zb3 rfl rfl ?_ | refine zd7 ?_ | refine zbr env0_ok rfl rfl rfl ?_ | refine zb8 (op := .add) rfl rfl rfl ?_ | refine zb8 (op := .sub) rfl rfl rfl ?_ | refine zd6 rfl rfl rfl ?_ | refine zd5 rfl rfl rfl ?_ | refine zbm rfl rfl rfl ?_ | refine zav rfl rfl rfl ?_ | refine zbu rfl rfl (by omega) (by assumption) rfl ?_ | refine zan rfl rfl (decide_eq_true ⟨by omega, by omega⟩) ?_ | refine zcd rfl rfl (by omega) (by omega) ?_ | refine zbx rfl rfl rfl ?_ | refine zd8 rfl ?_ | refine zaq rfl ?_)
   refine zay rfl rfl p3 (fun h => Bool.noConfusion (show false = true from h)) ?_
   repeat (first | refine za7 ?_ | refine za0 rfl ?_ | refine za4 ?_ | refine za3 ?_ | refine zc2 ?_ | refine zai ?_ | refine zab ?_ | refine zbe rfl ?_ | refine zbi rfl ?_ | refine zbp ?_ | refine zae ?_ | refine zbo ?_ | refine zah ?_ | refine zas rfl ?_ | refine za6 ?_ | refine zaf ?_ | refine zbz rfl ?_ | refine zcz rfl rfl ?_ | refine zhe rfl ?_ | refine za2 rfl ?_ | refine zam rfl rfl ?_ | refine zap rfl rfl rfl rfl ?_ | refine zak rfl rfl rfl rfl rfl rfl rfl ?_ | refine za8 rfl ?_ | refine zb5 rfl rfl rfl ?_ | refine zan rfl rfl rfl ?_ | refine zbk rfl rfl rfl rfl ?_ | refine zat ?_ | refine zag rfl rfl ?_ | refine zaa rfl rfl ?_ | refine ze6 rfl rfl ?_ | refine zb7 rfl rfl ?_ | refine zbs rfl rfl ?_ | refine zbd rfl rfl ?_ | refine zc5 rfl rfl ?_ | refine zba rfl rfl rfl ?_ | refine zcc rfl rfl ?_ | refine zbw rfl rfl rfl rfl ?_ | refine zb4 rfl rfl rfl rfl ?_ | refine zby rfl rfl rfl rfl ?_ | refine zd4 rfl rfl ?_ | refine zcq rfl rfl ?_ | refine zb3 rfl rfl ?_ | refine zd7 ?_ | refine zbr env0_ok rfl rfl rfl ?_ | refine zb8 (op := .add) rfl rfl rfl ?_ | refine zb8 (op := .sub) rfl rfl rfl ?_ | refine zd6 rfl rfl rfl ?_ | refine zd5 rfl rfl rfl ?_ | refine zbm rfl rfl rfl ?_ | refine zav rfl rfl rfl ?_ | refine zbu rfl rfl (by omega) (by assumption) rfl ?_ | refine zan rfl rfl (decide_eq_true ⟨by omega, by omega⟩) ?_ | refine zcd rfl rfl (by omega) (by omega) ?_ | refine zbx rfl rfl rfl ?_ | refine zd8 rfl ?_ | refine zaq rfl ?_)
   exact zad ⟨.inr rfl, _, rfl, rfl⟩
end Go.Proofs.Ytmnkjofaodbokaa
namespace Go.Proofs.Ytmnkjofaodbokaa
open Go Go.Am
theorem zrn (q : List Ex) (x : Ex) : cXs (q ++ [x]) = cXs q ++ [cX x] := by
 rw [zh9, zh9, List.map_append]; rfl
theorem zoi {q : List Ex} : ∀ x ∈ cXs q, x.length = 3 := fun x hx => by
 rw [zh9] at hx
 obtain ⟨y, _, rfl⟩ := List.mem_map.1 hx
 exact zia y
theorem cXs_flat (q : List Ex) : (cXs q).flatten.length = q.length * 3 := by
 induction q with
 | nil => rfl
 | cons x q ih =>
  rw [cXs, List.flatten_cons, List.length_append, zia, ih, List.length_cons]
  omega
theorem cX_cells (x : Ex) : (cX x).all AV.isCell = true := by cases x; rfl
def Gx (b : Nat) (q : List Ex) (w : AV) (hp : List (Nat × Nat × AObj)) (nx : Nat) : Prop :=
 (q = [] ∧ w = .nils) ∨ ∃ id sp, w = .ms id sp 3 0 q.length none ∧ Am.look id hp = some (sp, .cells (cXs q).flatten) ∧ b < id ∧ id < nx
section
variable {b nx : Nat} {q : List Ex} {w : AV} {hp : List (Nat × Nat × AObj)}
theorem Gx.fresh (h : Gx b q w hp nx) (ck : Nat) (x : AObj) : Gx b q w ((nx, ck, x) :: hp) (nx + 1) := by
 rcases h with h | ⟨id, sp, e, hl, h1, h2⟩
 ·exact .inl h
 ·exact .inr ⟨id, sp, e, by rw [zaj, if_neg (by omega)]; exact hl, h1, by omega⟩
theorem Gx.put (h : Gx b q w hp nx) {i : Nat} (hi : i ≤ b ∨ nx ≤ i) (x : Nat × AObj) : Gx b q w (zb6 i x hp) nx := by
 rcases h with h | ⟨id, sp, e, hl, h1, h2⟩
 ·exact .inl h
 ·exact .inr ⟨id, sp, e, by rw [za1, if_neg (by omega)]; exact hl, h1, h2⟩
theorem Gx.elems {S : AS} {id sp : Nat} (hl : Am.look id S.heap = some (sp, .cells (cXs q).flatten)) : S.elems 3 (.ms id sp 3 0 q.length none) = some (cXs q) := by
 obtain ⟨n, t, hp, nx, ck, mk⟩ := S
 exact zhj (ys := []) (cap := none) (n := n) (nx := nx) (ck := ck) (mk := mk) (l := []) (hp := hp) (by rw [List.append_nil]; exact hl) (zb0 q) zoi
theorem cX_view {S : AS} {d : Nat} (x : Ex) : (cX x).map (S.view d) = cX x := by
 cases x
 cases d <;> rfl
theorem Gx.view {S : AS} {d : Nat} (h : Gx b q w S.heap nx) : S.view (d + 1) w = .vs (cXs q) := by
 rcases h with ⟨rfl, rfl⟩ | ⟨id, sp, rfl, hl, _, _⟩
 ·rfl
 ·have e : S.elems 3 (.ms id sp 3 0 q.length none) = some (cXs q) := Gx.elems hl
  simp only [AS.view, e]
  congr 1
  rw [zh9, List.map_map]
  exact List.map_congr_left fun x _ => cX_view x
theorem Gx.cell (h : Gx b q w hp nx) : w.isCell = true ∧ w.cells? = some [w] := by
 rcases h with ⟨rfl, rfl⟩ | ⟨id, sp, rfl, hl, _, _⟩
 ·exact ⟨rfl, rfl⟩
 ·exact ⟨rfl, rfl⟩
theorem Gx.len {r : AV} (h : Gx b q w hp nx) (e : r = .int .i64 (q.length : Nat)) : zq2 false w = some r := by
 subst e
 rcases h with ⟨rfl, rfl⟩ | ⟨id, sp, rfl, _, _, _⟩
 ·rfl
 ·rfl
end
structure Mq (z : AV) (op ix : Int) (q : List Ex) (v w : AV) (hp : List (Nat × Nat × AObj)) (nx : Nat) : Prop where
 res : Am.look 0 hp = some (0, .cells [.int .i64 0, .int .i64 0, z])
 out : Am.look 1 hp = some (0, .cells [.int .i64 op, .int .i64 ix, v])
 lst : Gx 1 q w hp nx
 nx1 : 1 < nx
section
variable {z : AV} {op ix : Int} {q : List Ex} {v w : AV} {hp : List (Nat × Nat × AObj)} {nx : Nat}
theorem Mq.fresh (h : Mq z op ix q v w hp nx) (ck : Nat) (x : AObj) : Mq z op ix q v w ((nx, ck, x) :: hp) (nx + 1) := by
 have h1 := h.nx1
 exact ⟨by rw [zaj, if_neg (by omega)]; exact h.res, by rw [zaj, if_neg (by omega)]; exact h.out, h.lst.fresh ck x, by omega⟩
theorem Mq.store (h : Mq z op ix q v w hp nx) (x : AV) : Mq z op ix q x w (zb6 1 (0, .cells [.int .i64 op, .int .i64 ix, x]) hp) nx :=
 ⟨by rw [za1, if_neg (by decide)]; exact h.res, by rw [za1, if_pos rfl], h.lst.put (.inl (by decide)) _, h.nx1⟩
end
theorem ztc : ∀ q : List Ex, hasM.hasML (cXs q).flatten = false
 | [] => rfl
 | .nd o i a :: q => by
  show (hasM (AV.int .i64 o) || (hasM (AV.int .i64 i) || (hasM (AV.vs (cXs a)) || hasM.hasML (cXs q).flatten))) = false
  rw [ztc q]
  rfl
end Go.Proofs.Ytmnkjofaodbokaa
namespace Go.Proofs.Ytmnkjofaodbokaa
open Go Go.Am
def zhf (v : Bool) : Ex := .nd 0 (if v then 1 else 0) []
def negX (x : Ex) : Ex := .nd 2 0 [x]
def opX : Ex → Int | .nd o _ _ => o
def ixX : Ex → Int | .nd _ i _ => i
-- pneumatic/boolexp.constant
def ic84 : IC := .seq (.region [⟨(some 2), .alloc [.int .i64 0, .int .i64 0, .nils], none⟩] none)
 (.seq (.seq (.region [⟨(some 3), .mov (.t 0), none⟩] none)
 (.cond (.t 3) (.seq (.region [⟨(some 4), .build [.int .i64 0, .int .i64 0, .nils] [(1, 1, (.c (.int .i64 1)))], none⟩,
  ⟨none, .store 3 (.t 2) (.t 4), none⟩] none)
 (.ret))
 (.skip)))
 (.seq (.region [⟨(some 5), .build [.int .i64 0, .int .i64 0, .nils] [], none⟩,
  ⟨none, .store 3 (.t 2) (.t 5), none⟩] none)
 (.ret)))
theorem fn84 : env0.fn 84 = some ⟨6, ic84, [.cell 2 (some 3)]⟩ := by kernel_rfl
theorem zrw (v : Bool) : PF Try.prog 84 [.bool v] (.agg (cX (zhf v))) := by
 refine zbl env0_ok fn84 [(0, .bool v)] (by show 1 ≤ 6; decide) rfl fun w0 N0 => ?_
 unfold ic84
 cases v with
 | false =>
  repeat (first | refine za7 ?_ | refine za0 rfl ?_ | refine za4 ?_ | refine za3 ?_ | refine zab ?_ | refine zbi rfl ?_ | refine zae ?_ | refine za2 rfl ?_ | refine zak rfl rfl rfl rfl rfl rfl rfl ?_ | refine zat ?_ | refine zbs rfl rfl ?_)
  exact zad ⟨.inr rfl, _, rfl, rfl⟩
 | true =>
  repeat (first | refine za7 ?_ | refine za0 rfl ?_ | refine za4 ?_ | refine za3 ?_ | refine zbe rfl ?_ | refine zae ?_ | refine za6 ?_ | refine za2 rfl ?_ | refine zak rfl rfl rfl rfl rfl rfl rfl ?_ | refine zat ?_ | refine zbs rfl rfl ?_)
  exact zad ⟨.inr rfl, _, rfl, rfl⟩
-- pneumatic/boolexp.negation
def ic87 : IC := .seq (.region [⟨(some 1), .box (.t 0), none⟩,
  ⟨(some 2), .alloc [.int .i64 0, .int .i64 0, .nils], none⟩] none)
 (.seq (.region [⟨(some 3), .load (some 3) (.t 1), none⟩,
  ⟨(some 4), .bslice 3 1 [.int .i64 0, .int .i64 0, .nils] [(0, 3, (.t 3))], none⟩,
  ⟨(some 5), .build [.int .i64 0, .int .i64 0, .nils] [(0, 1, (.c (.int .i64 2))), (2, 1, (.t 4))], none⟩,
  ⟨none, .store 3 (.t 2) (.t 5), none⟩] none)
 (.ret))
theorem fn87 : env0.fn 87 = some ⟨6, ic87, [.cell 2 (some 3)]⟩ := by kernel_rfl
theorem neg87 (x : Ex) : PF Try.prog 87 [.agg (cX x)] (.agg (cX (negX x))) := by
 obtain ⟨op, ix, args⟩ := x
 refine zbl env0_ok fn87 [(0, .agg (cX (.nd op ix args)))] (by show 1 ≤ 6; decide) rfl fun w0 N0 => ?_
 unfold ic87
 repeat (first | refine za7 ?_ | refine za0 rfl ?_ | refine za4 ?_ | refine za3 ?_ | refine zae ?_ | refine zap rfl rfl rfl rfl ?_ | refine zak rfl rfl rfl rfl rfl rfl rfl ?_ | refine zat ?_ | refine zbs rfl rfl ?_ | refine zbd rfl rfl ?_ | refine zc5 rfl rfl ?_)
 exact zad ⟨.inr rfl, _, rfl, rfl⟩
end Go.Proofs.Ytmnkjofaodbokaa
namespace Go.Proofs.Ytmnkjofaodbokaa
open Go Go.Am
theorem szL_drop {l : List Ex} {i : Nat} (h : i < l.length) : szL (l.drop i) = szX l[i] + szL (l.drop (i + 1)) := by
 rw [List.drop_eq_getElem_cons h, szL]
theorem szL_mem {l : List Ex} {y : Ex} (h : y ∈ l) : szX y ≤ szL l := by
 induction l with
 | nil => cases h
 | cons a l ih =>
  have := zef a
  have := zc7 l
  rw [szL]
  rcases List.mem_cons.1 h with rfl | h
  ·omega
  ·have := ih h; omega
structure Cq (q : List Ex) (w : AV) (hp : List (Nat × Nat × AObj)) (nx : Nat) : Prop where
 res : Am.look 0 hp = some (0, .cells [.int .i64 0, .int .i64 0, .nils])
 lst : Gx 0 q w hp nx
 nx0 : 0 < nx
section
variable {q : List Ex} {w : AV} {hp : List (Nat × Nat × AObj)} {nx : Nat}
theorem Cq.fresh (h : Cq q w hp nx) (ck : Nat) (x : AObj) : Cq q w ((nx, ck, x) :: hp) (nx + 1) := by
 have h1 := h.nx0
 exact ⟨by rw [zaj, if_neg (by omega)]; exact h.res, h.lst.fresh ck x, by omega⟩
theorem Cq.drop (h : Cq q w hp nx) {j : Nat} (hj : nx ≤ j) : Cq q w (zbj j hp) nx := by
 have h1 := h.nx0
 refine ⟨by rw [zac, if_neg (by omega)]; exact h.res, ?_, h1⟩
 rcases h.lst with h2 | ⟨id, sp, e, hl, a, b⟩
 ·exact .inl h2
 ·exact .inr ⟨id, sp, e, by rw [zac, if_neg (by omega)]; exact hl, a, b⟩
theorem Cq.box (h : Cq q w hp nx) (ck : Nat) (x : AObj) (y : Nat × AObj) : Cq q w (zbj nx (zb6 nx y ((nx, ck, x) :: hp))) (nx + 1) := by
 have h1 := h.nx0
 refine ⟨by rw [zac, if_neg (by omega), za1, if_neg (by omega), zaj, if_neg (by omega)]; exact h.res, ?_, by omega⟩
 rcases h.lst with h2 | ⟨id, sp, e, hl, a, b⟩
 ·exact .inl h2
 ·exact .inr ⟨id, sp, e, by rw [zac, if_neg (by omega), za1, if_neg (by omega), zaj, if_neg (by omega)]; exact hl, a, by omega⟩
end
end Go.Proofs.Ytmnkjofaodbokaa
namespace Go.Proofs.Ytmnkjofaodbokaa
open Go Go.Am
def WF (T : List UInt8) (nm : AV) (j sj : Nat) (_ : AV) (H : HS) : Prop := ∃ A B, Wq T nm j sj A B H.heap H.next
theorem zfv {F : AV → HS → Prop} : ∀ v H, F v H → zda [] H.heap := fun _ _ _ m hm => absurd hm List.not_mem_nil
-- (*strings.Builder).WriteByte
def ic74 : IC := .seq (.region [⟨(some 4), .mov (.c (.top)), none⟩] none)
 (.seq (.region [⟨(some 5), .mov (.t 0), none⟩,
  ⟨(some 6), .call (.c (.fn 99 [] [])) [(.t 5)], none⟩] none)
 (.seq (.region [⟨(some 7), .mov (.t 0), none⟩,
  ⟨(some 8), .mov (.t 0), none⟩,
  ⟨(some 9), .nilchk (.t 8), none⟩,
  ⟨(some 10), .faddr 1 (.t 9), none⟩,
  ⟨(some 11), .load none (.t 10), none⟩,
  ⟨(some 12), .mov (.t 1), none⟩,
  ⟨(some 13), .bslice 1 1 [.int .u8 0] [(0, 1, (.t 12))], none⟩,
  ⟨(some 14), .appendT 5 1 (.t 11) (.t 13), none⟩,
  ⟨(some 15), .nilchk (.t 7), none⟩,
  ⟨(some 16), .faddr 1 (.t 15), none⟩,
  ⟨none, .store 1 (.t 16) (.t 14), none⟩] none)
 (.seq (.region [⟨(some 4), .mov (.c (.top)), none⟩] none)
 (.ret))))
theorem fn74 : env0.fn 74 = some ⟨17, ic74, [.t 4]⟩ := by kernel_rfl
theorem zlk {w0 : World} {N0 : Nat} {T : List UInt8} {nm A B : AV} {j sj : Nat} {b : UInt8} {H : HS} (hW : Wq T nm j sj A B H.heap H.next) (hlen : T.length + 1 ≤ 1048576) : FT Try.prog w0 N0 74 [.mptr j sj 0, .int .u8 b.toNat] H (WF (T ++ [b]) nm j sj) := by
 refine zco env0_ok fn74 [(0, .mptr j sj 0), (1, .int .u8 b.toNat)] (by show 2 ≤ 17; decide) rfl ?_
 obtain ⟨hp, nx, ck⟩ := H
 replace hW : Wq T nm j sj A B hp nx := hW
 show Zm _ _ _ _ _ (st 17 _ hp nx ck) _ _
 unfold ic74
 repeat (first | refine za7 ?_ | refine za0 rfl ?_ | refine za4 ?_ | refine za3 ?_ | refine za2 rfl ?_)
 refine zfw _ rfl rfl (zaw (zrq hW)) zfv fun r H hF => ?_
 obtain ⟨hp, nx, ck⟩ := H
 replace hF : Wq T nm j sj (.mptr j sj 0) B hp nx := hF
 repeat (first | refine za7 ?_ | refine za0 rfl ?_ | refine za4 ?_ | refine za3 ?_ | refine za2 rfl ?_ | refine za8 rfl ?_ | refine zaq rfl ?_)
 refine zmg rfl hF.obj hF.jn rfl ?_
 repeat (first | refine za2 rfl ?_ | refine zbd rfl rfl ?_)
 refine o_wapp (T := T) (U := [b]) (hF.fresh ck (.cells [.int .u8 b.toNat])).buf (hF.fresh ck (.cells [])).jn (by simp) hlen rfl rfl (zhj (cap := some 1) (xs := [[.int .u8 b.toNat]]) (ys := []) zb9 rfl fun x hx => by obtain rfl := List.mem_singleton.1 hx; rfl) (by decide) fun B' hp' nx' ck' hB hk hj => ?_
 repeat (first | refine za8 rfl ?_ | refine zaq rfl ?_)
 refine o_stT (off := 0 + 1) rfl rfl hB.cell.2 (hk.trans (hF.fresh _ _).obj) (by show 1 < 3; decide) hB.cell.1 ?_
 repeat (first | refine za7 ?_ | refine za0 rfl ?_ | refine za4 ?_ | refine za3 ?_ | refine zae ?_ | refine za2 rfl ?_)
 exact zad ⟨.inr rfl, _, rfl, _, B', ⟨by show Am.look j (zb6 j _ hp') = _; rw [za1, if_pos rfl]; rfl, .inr rfl, hB.put _, hj⟩⟩
-- (*strings.Builder).WriteString
def ic75 : IC := .seq (.region [⟨(some 4), .mov (.c (.int .i64 0)), none⟩,
  ⟨(some 5), .mov (.c (.top)), none⟩] none)
 (.seq (.region [⟨(some 6), .mov (.t 0), none⟩,
  ⟨(some 7), .call (.c (.fn 99 [] [])) [(.t 6)], none⟩] none)
 (.seq (.region [⟨(some 8), .mov (.t 0), none⟩,
  ⟨(some 9), .mov (.t 0), none⟩,
  ⟨(some 10), .nilchk (.t 9), none⟩,
  ⟨(some 11), .faddr 1 (.t 10), none⟩,
  ⟨(some 12), .load none (.t 11), none⟩,
  ⟨(some 13), .mov (.t 1), none⟩,
  ⟨(some 14), .appendT 5 1 (.t 12) (.t 13), none⟩,
  ⟨(some 15), .nilchk (.t 8), none⟩,
  ⟨(some 16), .faddr 1 (.t 15), none⟩,
  ⟨none, .store 1 (.t 16) (.t 14), none⟩] none)
 (.seq (.region [⟨(some 17), .mov (.t 1), none⟩,
  ⟨(some 18), .len true (.t 17), none⟩,
  ⟨(some 4), .mov (.t 18), none⟩,
  ⟨(some 5), .mov (.c (.top)), none⟩] none)
 (.ret))))
theorem fn75 : env0.fn 75 = some ⟨19, ic75, [.t 4, .t 5]⟩ := by kernel_rfl
theorem wstr75 {w0 : World} {N0 : Nat} {T U : List UInt8} {nm A B : AV} {j sj : Nat} {H : HS} (hW : Wq T nm j sj A B H.heap H.next) (hU : U ≠ []) (hlen : T.length + U.length ≤ 1048576) : FT Try.prog w0 N0 75 [.mptr j sj 0, .str U] H (WF (T ++ U) nm j sj) := by
 refine zco env0_ok fn75 [(0, .mptr j sj 0), (1, .str U)] (by show 2 ≤ 19; decide) rfl ?_
 obtain ⟨hp, nx, ck⟩ := H
 replace hW : Wq T nm j sj A B hp nx := hW
 show Zm _ _ _ _ _ (st 19 _ hp nx ck) _ _
 unfold ic75
 repeat (first | refine za7 ?_ | refine za0 rfl ?_ | refine za4 ?_ | refine za3 ?_ | refine za2 rfl ?_)
 refine zfw _ rfl rfl (zaw (zrq hW)) zfv fun r H hF => ?_
 obtain ⟨hp, nx, ck⟩ := H
 replace hF : Wq T nm j sj (.mptr j sj 0) B hp nx := hF
 repeat (first | refine za7 ?_ | refine za0 rfl ?_ | refine za4 ?_ | refine za3 ?_ | refine za2 rfl ?_ | refine za8 rfl ?_ | refine zaq rfl ?_)
 refine zmg rfl hF.obj hF.jn rfl ?_
 repeat (first | refine za2 rfl ?_)
 refine o_wapp (T := T) (U := U) hF.buf hF.jn hU hlen rfl rfl rfl (by decide) fun B' hp' nx' ck' hB hk hj => ?_
 repeat (first | refine za8 rfl ?_ | refine zaq rfl ?_)
 refine o_stT (off := 0 + 1) rfl rfl hB.cell.2 (hk.trans hF.obj) (by show 1 < 3; decide) hB.cell.1 ?_
 repeat (first | refine za7 ?_ | refine za0 rfl ?_ | refine za4 ?_ | refine za3 ?_ | refine zae ?_ | refine za2 rfl ?_ | refine zb7 rfl rfl ?_)
 exact zad ⟨.inr rfl, _, rfl, _, B', ⟨by show Am.look j (zb6 j _ hp') = _; rw [za1, if_pos rfl]; rfl, .inr rfl, hB.put _, hj⟩⟩
-- (*strings.Builder).Len
def ic42 : IC := .seq (.region [⟨(some 2), .mov (.c (.int .i64 0)), none⟩] none)
 (.seq (.region [⟨(some 3), .mov (.t 0), none⟩,
  ⟨(some 4), .nilchk (.t 3), none⟩,
  ⟨(some 5), .faddr 1 (.t 4), none⟩,
  ⟨(some 6), .load none (.t 5), none⟩,
  ⟨(some 7), .len false (.t 6), none⟩,
  ⟨(some 2), .mov (.t 7), none⟩] none)
 (.ret))
theorem fn42 : env0.fn 42 = some ⟨8, ic42, [.t 2]⟩ := by kernel_rfl
theorem len42 {w0 : World} {N0 : Nat} {T : List UInt8} {nm A B : AV} {j sj : Nat} {H : HS} (hW : Wq T nm j sj A B H.heap H.next) : FT Try.prog w0 N0 42 [.mptr j sj 0] H fun v H' => v = .int .i64 (T.length : Nat) ∧ H' = H := by
 refine zco env0_ok fn42 [(0, .mptr j sj 0)] (by show 1 ≤ 8; decide) rfl ?_
 obtain ⟨hp, nx, ck⟩ := H
 replace hW : Wq T nm j sj A B hp nx := hW
 show Zm _ _ _ _ _ (st 8 _ hp nx ck) _ _
 unfold ic42
 repeat (first | refine za7 ?_ | refine za0 rfl ?_ | refine za4 ?_ | refine za3 ?_ | refine za2 rfl ?_ | refine za8 rfl ?_ | refine zaq rfl ?_)
 refine zmg rfl hW.obj hW.jn rfl ?_
 have hlen : zq2 false B = some (.int .i64 (T.length : Nat)) := by
  rcases hW.buf with ⟨rfl, rfl⟩ | ⟨id, sp, rfl, _, _, _⟩ <;> rfl
 refine zb7 rfl hlen ?_
 repeat (first | refine za4 ?_ | refine za3 ?_ | refine zae ?_ | refine za2 rfl ?_)
 exact zad ⟨.inr rfl, _, rfl, rfl, rfl⟩
-- (*strings.Builder).String
def ic43 : IC := .seq (.region [⟨(some 2), .mov (.c (.str [])), none⟩] none)
 (.seq (.region [⟨(some 3), .mov (.t 0), none⟩,
  ⟨(some 4), .nilchk (.t 3), none⟩,
  ⟨(some 5), .faddr 1 (.t 4), none⟩,
  ⟨(some 6), .load none (.t 5), none⟩,
  ⟨(some 7), .sdata (.t 6), none⟩,
  ⟨(some 8), .mov (.t 0), none⟩,
  ⟨(some 9), .nilchk (.t 8), none⟩,
  ⟨(some 10), .faddr 1 (.t 9), none⟩,
  ⟨(some 11), .load none (.t 10), none⟩,
  ⟨(some 12), .len false (.t 11), none⟩,
  ⟨(some 13), .ustr 5 (.t 7) (.t 12), none⟩,
  ⟨(some 2), .mov (.t 13), none⟩] (some [[], [0], [1], [2], [3], [], [5], [6], [7], [8], [4, 9], [10, 0, 1, 2, 3, 4, 5, 6, 7, 8, 9, 10]]))
 (.ret))
theorem fn43 : env0.fn 43 = some ⟨14, ic43, [.t 2]⟩ := by kernel_rfl
theorem string43 {w0 : World} {N0 : Nat} {T : List UInt8} {nm A B : AV} {j sj : Nat} {H : HS} (hW : Wq T nm j sj A B H.heap H.next) (hT : T ≠ []) (hlen : T.length ≤ 1048576) : FT Try.prog w0 N0 43 [.mptr j sj 0] H fun v _ => v = .str T := by
 refine zco env0_ok fn43 [(0, .mptr j sj 0)] (by show 1 ≤ 14; decide) rfl ?_
 obtain ⟨hp, nx, ck⟩ := H
 replace hW : Wq T nm j sj A B hp nx := hW
 show Zm _ _ _ _ _ (st 14 _ hp nx ck) _ _
 unfold ic43
 rcases hW.buf with ⟨rfl, _⟩ | ⟨id, sp, rfl, hl, h1, h2⟩
 ·exact absurd rfl hT
 have hlenA : zq2 false (.ms id sp 1 0 T.length none) = some (.int .i64 (T.length : Nat)) := rfl
 repeat (first | refine za7 ?_ | refine za0 rfl ?_ | refine za4 ?_ | refine za3 ?_ | refine za2 rfl ?_ | refine za8 rfl ?_ | refine zbr env0_ok rfl rfl rfl ?_ | refine zaq rfl ?_)
 refine zmg rfl hW.obj hW.jn rfl ?_
 have hsd : iop (st 14 [(6, AV.ms id sp 1 0 T.length none), (5, AV.mptr j sj (0 + 1)), (4, AV.mptr j sj 0), (3, AV.mptr j sj 0), (2, AV.str []), (0, AV.mptr j sj 0)] hp nx ck) (.sdata (.t 6)) = some (.mptr id sp 0, st 14 [(6, AV.ms id sp 1 0 T.length none), (5, AV.mptr j sj (0 + 1)), (4, AV.mptr j sj 0), (3, AV.mptr j sj 0), (2, AV.str []), (0, AV.mptr j sj 0)] hp nx ck) := by
  match T, hT with
  | b :: r, _ => rfl
 refine zdx hsd ?_
 repeat (first | refine za2 rfl ?_ | refine za8 rfl ?_ | refine zaq rfl ?_)
 refine zmg rfl hW.obj hW.jn rfl ?_
 refine zb7 rfl hlenA ?_
 have hus : ∀ l : List (Nat × AV), zbc (.t 7) l = some (.mptr id sp 0) → zbc (.t 12) l = some (.int .i64 (T.length : Nat)) → iop (st 14 l hp nx ck) (.ustr 5 (.t 7) (.t 12)) = some (.str T, st 14 l (zbj id hp) nx ck) := fun l e1 e2 => by
  have hl' : Am.look id (st 14 l hp nx ck).heap = some (sp, .typed 5 false (u8s T)) := hl
  have hpos : 0 < T.length := List.length_pos_iff.2 hT
  have hul : (u8s T).length = T.length := List.length_map ..
  simp only [iop, zax, e1, e2, hl']
  rw [if_pos ⟨trivial, trivial, by omega, by rw [hul]; omega, by omega⟩, Int.toNat_natCast, List.take_of_length_le (by rw [hul]; exact Nat.le_refl _), zi7]
  rfl
 refine zdx (hus _ rfl rfl) ?_
 repeat (first | refine za4 ?_ | refine za3 ?_ | refine zae ?_ | refine za2 rfl ?_)
 exact zad ⟨.inr rfl, _, rfl, rfl⟩
mutual
def wrX (nm : List (List UInt8)) (o : Int) : Ex → List UInt8
 | .nd op ix args => if op = 0 then [if ix = 0 then 48 else 49] else if op = 1 then nm.getD ix.toNat [] else if op = 2 then 33 :: wrL nm 2 [] true args else
   if 0 ≤ o ∧ (op = 4 ∨ o ≠ 4) then 40 :: wrL nm op (if op = 4 then [32, 124, 32] else [32, 38, 32]) true args ++ [41] else wrL nm op (if op = 4 then [32, 124, 32] else [32, 38, 32]) true args
def wrL (nm : List (List UInt8)) (o : Int) (sep : List UInt8) (fst : Bool) : List Ex → List UInt8
 | [] => []
 | y :: ys => (if fst = true then [] else sep) ++ wrX nm o y ++ wrL nm o sep false ys
end
mutual
theorem zmx {nm : List (List UInt8)} (hn : ∀ s ∈ nm, s.length ≤ 24) : ∀ (x : Ex) (o : Int), ((wrX nm o x).length : Int) ≤ 29 * szX x - 3
 | .nd op ix args, o => by
  have h1 := zuf hn args
  have h2 := zc7 args
  rw [wrX, szX]
  split
  ·show ((1 : Nat) : Int) ≤ _; omega
  ·split
   ·have : (nm.getD ix.toNat []).length ≤ 24 := by
     rw [List.getD_eq_getElem?_getD]
     by_cases h : ix.toNat < nm.length
     ·rw [List.getElem?_eq_getElem h]; exact hn _ (List.getElem_mem h)
     ·rw [List.getElem?_eq_none (by omega)]; exact Nat.zero_le _
    omega
   ·split
    ·have := h1 2 [] true (by show 0 ≤ 3; omega)
     rw [List.length_cons]; omega
    ·have := h1 op (if op = 4 then [32, 124, 32] else [32, 38, 32]) true (by split <;> exact Nat.le_refl 3)
     split
     ·rw [List.length_append, List.length_cons, List.length_singleton]; omega
     ·omega
theorem zuf {nm : List (List UInt8)} (hn : ∀ s ∈ nm, s.length ≤ 24) : ∀ (l : List Ex) (o : Int) (sep : List UInt8) (fst : Bool), sep.length ≤ 3 → ((wrL nm o sep fst l).length : Int) ≤ 29 * szL l
 | [], o, sep, fst, hs => by rw [wrL, szL]; show ((0 : Nat) : Int) ≤ _; omega
 | y :: ys, o, sep, fst, hs => by
  have h1 := zmx hn y o
  have h2 := zuf hn ys o sep false hs
  rw [wrL, szL, List.length_append, List.length_append]
  have : (if fst = true then [] else sep).length ≤ 3 := by split; exact Nat.zero_le _; exact hs
  omega
end
theorem wrL_step {nm : List (List UInt8)} {o : Int} {sep : List UInt8} {l : List Ex} {i : Nat} (h : i < l.length) (b : Bool) : wrL nm o sep b (l.drop i) = (if b = true then [] else sep) ++ wrX nm o l[i] ++ wrL nm o sep false (l.drop (i + 1)) := by
 rw [List.drop_eq_getElem_cons h, wrL]
theorem wrX_ne {nm : List (List UInt8)} (hn : ∀ s ∈ nm, s ≠ []) : ∀ (q : Nat) (x : Ex) (o : Int), SizeOf.sizeOf x ≤ q → nds (nm.length : Nat) x = 0 → wrX nm o x ≠ [] := by
 intro q
 induction q with
 | zero => intro x o hq; cases x; simp at hq
 | succ q ih =>
  intro x o hq hx
  obtain ⟨op, ix, args⟩ := x
  obtain ⟨hv, hk⟩ := zfg hx
  obtain ⟨k0, k1, k2, k3, k4, k5⟩ := zfh hv
  rw [wrX]
  split
  ·exact fun h => by cases h
  ·split
   ·rename_i h1
    subst h1
    have : ix.toNat < nm.length := by
     have : zbg 1 (nm.length : Nat) = (nm.length : Nat) - 1 := by simp [zbg]
     omega
    rw [List.getD_eq_getElem?_getD, List.getElem?_eq_getElem this]
    exact hn _ (List.getElem_mem this)
   ·split
    ·exact fun h => by cases h
    ·rename_i a0 a1 a2
     split
     ·exact fun h => by cases h
     ·have hop : op = 3 ∨ op = 4 := by omega
      have : zb2 op = 2 := by rcases hop with rfl | rfl <;> rfl
      match args, hk, k2, hq with
      | y :: ys, hk, _, hq =>
       rw [wrL, if_pos rfl, List.nil_append]
       intro h
       exact ih y op (by have := zgm (op := op) (ix := ix) (List.mem_cons_self (a := y) (l := ys)); omega) (hk y (List.mem_cons_self ..)) (List.append_eq_nil_iff.1 h).1
      | [], _, k2, _ => have k2 : zb2 op ≤ 0 := k2; omega
theorem zpb {n ix : Int} {args : List Ex} (h : nds n (.nd 2 ix args) = 0) : ix = 0 ∧ ∃ y, args = [y] ∧ nds n y = 0 := by
 obtain ⟨hv, hk⟩ := zfg h
 obtain ⟨_, _, h2, h3, h4, h5⟩ := zfh hv
 have e1 : zb2 2 = 1 := by decide
 have e2 : zc1 2 = 1 := by decide
 have e3 : zbg 2 n = 0 := by simp [zbg]
 have hl : args.length = 1 := by omega
 obtain ⟨y, rfl⟩ := List.length_eq_one_iff.1 hl
 exact ⟨by omega, y, rfl, hk y (List.mem_cons_self ..)⟩
def b41_1 : IC := .seq (.region [⟨(some 72), .bin .lss (.t 71) (.t 70), none⟩] none)
 (.seq (.cond (.t 72) (.skip)
 (.exit 1))
 (.seq (.block 2 (.seq (.region [⟨(some 73), .mov (.t 71), none⟩,
  ⟨(some 74), .idxs 3 (.t 69) (.t 71), none⟩,
  ⟨(some 75), .load (some 3) (.t 74), none⟩,
  ⟨(some 9), .alloc [.int .i64 0, .int .i64 0, .nils], none⟩,
  ⟨(some 8), .mov (.t 73), none⟩,
  ⟨none, .store 3 (.t 9) (.t 75), none⟩] none)
 (.seq (.seq (.region [⟨(some 76), .mov (.t 8), none⟩,
  ⟨(some 77), .bin .gtr (.t 76) (.c (.int .i64 0)), none⟩] none)
 (.cond (.t 77) (.region [⟨(some 78), .mov (.t 0), none⟩,
  ⟨(some 79), .nilchk (.t 78), none⟩,
  ⟨(some 80), .faddr 0 (.t 79), none⟩,
  ⟨(some 81), .mov (.t 7), none⟩,
  ⟨(some 82), .call (.c (.fn 75 [] [])) [(.t 80), (.t 81)], none⟩] none)
 (.skip)))
 (.region [⟨(some 83), .mov (.t 0), none⟩,
  ⟨(some 84), .load (some 3) (.t 9), none⟩,
  ⟨(some 85), .faddr 0 (.t 4), none⟩,
  ⟨(some 86), .load none (.t 85), none⟩,
  ⟨(some 87), .call (.c (.fn 41 [] [])) [(.t 83), (.t 84), (.t 86)], none⟩] none))))
 (.region [⟨(some 88), .bin .add (.t 71) (.c (.int .i64 1)), none⟩,
  ⟨(some 71), .mov (.t 88), none⟩] none)))
-- (*pneumatic/boolexp.writer).write
def ic41 : IC := .seq (.region [⟨(some 4), .box (.t 1), none⟩] none)
 (.seq (.seq (.region [⟨(some 10), .faddr 0 (.t 4), none⟩,
  ⟨(some 11), .load none (.t 10), none⟩] none)
 (.block 0 (.seq (.region [⟨(some 13), .bin .eql (.t 11) (.c (.int .i64 0)), none⟩,
  ⟨(some 12), .mov (.t 13), none⟩] none)
 (.cond (.t 12) (.seq (.region [⟨(some 14), .mov (.t 0), none⟩,
  ⟨(some 15), .nilchk (.t 14), none⟩,
  ⟨(some 16), .faddr 0 (.t 15), none⟩,
  ⟨(some 17), .faddr 1 (.t 4), none⟩,
  ⟨(some 18), .load none (.t 17), none⟩,
  ⟨(some 19), .idxstr (.c (.str [48, 49])) (.t 18), none⟩,
  ⟨(some 20), .call (.c (.fn 74 [] [])) [(.t 16), (.t 19)], none⟩] (some [[], [0], [1], [], [3], [4], [2, 5]]))
 (.ret))
 (.seq (.region [⟨(some 22), .bin .eql (.t 11) (.c (.int .i64 1)), none⟩,
  ⟨(some 21), .mov (.t 22), none⟩] none)
 (.cond (.t 21) (.seq (.region [⟨(some 23), .mov (.t 0), none⟩,
  ⟨(some 24), .nilchk (.t 23), none⟩,
  ⟨(some 25), .faddr 0 (.t 24), none⟩,
  ⟨(some 26), .mov (.t 0), none⟩,
  ⟨(some 27), .nilchk (.t 26), none⟩,
  ⟨(some 28), .faddr 2 (.t 27), none⟩,
  ⟨(some 29), .load none (.t 28), none⟩,
  ⟨(some 30), .faddr 1 (.t 4), none⟩,
  ⟨(some 31), .load none (.t 30), none⟩,
  ⟨(some 32), .idxs 1 (.t 29) (.t 31), none⟩,
  ⟨(some 33), .load none (.t 32), none⟩,
  ⟨(some 34), .call (.c (.fn 75 [] [])) [(.t 25), (.t 33)], none⟩] (some [[], [0], [1], [], [3], [4], [5], [], [7], [6, 8], [9], [2, 10]]))
 (.ret))
 (.seq (.region [⟨(some 36), .bin .eql (.t 11) (.c (.int .i64 2)), none⟩,
  ⟨(some 35), .mov (.t 36), none⟩] none)
 (.cond (.t 35) (.seq (.region [⟨(some 37), .mov (.t 0), none⟩,
  ⟨(some 38), .nilchk (.t 37), none⟩,
  ⟨(some 39), .faddr 0 (.t 38), none⟩,
  ⟨(some 40), .call (.c (.fn 74 [] [])) [(.t 39), (.c (.int .u8 33))], none⟩] none)
 (.seq (.region [⟨(some 41), .mov (.t 0), none⟩,
  ⟨(some 42), .faddr 2 (.t 4), none⟩,
  ⟨(some 43), .load none (.t 42), none⟩,
  ⟨(some 44), .idxs 3 (.t 43) (.c (.int .i64 0)), none⟩,
  ⟨(some 45), .load (some 3) (.t 44), none⟩,
  ⟨(some 46), .faddr 0 (.t 4), none⟩,
  ⟨(some 47), .load none (.t 46), none⟩,
  ⟨(some 48), .call (.c (.fn 41 [] [])) [(.t 41), (.t 45), (.t 47)], none⟩] (some [[], [], [1], [2], [3], [], [5], [0, 4, 6]]))
 (.ret)))
 (.skip)))))))))
 (.seq (.region [⟨(some 49), .mov (.t 2), none⟩,
  ⟨(some 50), .bin .geq (.t 49) (.c (.int .i64 0)), none⟩,
  ⟨(some 51), .mov (.t 50), none⟩,
  ⟨(some 52), .faddr 0 (.t 4), some (51, true)⟩,
  ⟨(some 53), .load none (.t 52), some (51, true)⟩,
  ⟨(some 54), .bin .eql (.t 53) (.c (.int .i64 4)), some (51, true)⟩,
  ⟨(some 55), .mov (.t 54), some (51, true)⟩,
  ⟨(some 56), .mov (.t 2), some (55, false)⟩,
  ⟨(some 57), .bin .neq (.t 56) (.c (.int .i64 4)), some (55, false)⟩,
  ⟨(some 58), .pick (.t 55) (.c (.bool true)) (.t 57), some (51, true)⟩,
  ⟨(some 59), .pick (.t 51) (.t 58) (.c (.bool false)), none⟩,
  ⟨(some 6), .mov (.t 59), none⟩] none)
 (.seq (.seq (.region [⟨(some 60), .mov (.t 6), none⟩] none)
 (.cond (.t 60) (.region [⟨(some 61), .mov (.t 0), none⟩,
  ⟨(some 62), .nilchk (.t 61), none⟩,
  ⟨(some 63), .faddr 0 (.t 62), none⟩,
  ⟨(some 64), .call (.c (.fn 74 [] [])) [(.t 63), (.c (.int .u8 40))], none⟩] none)
 (.skip)))
 (.seq (.region [⟨(some 7), .mov (.c (.str [32, 38, 32])), none⟩] none)
 (.seq (.seq (.region [⟨(some 65), .faddr 0 (.t 4), none⟩,
  ⟨(some 66), .load none (.t 65), none⟩,
  ⟨(some 67), .bin .eql (.t 66) (.c (.int .i64 4)), none⟩] none)
 (.cond (.t 67) (.region [⟨(some 7), .mov (.c (.str [32, 124, 32])), none⟩] none)
 (.skip)))
 (.seq (.seq (.region [⟨(some 68), .faddr 2 (.t 4), none⟩,
  ⟨(some 69), .load none (.t 68), none⟩,
  ⟨(some 70), .len false (.t 69), none⟩,
  ⟨(some 71), .mov (.c (.int .i64 0)), none⟩] none)
 (.block 1 (.loop b41_1)))
 (.seq (.region [⟨(some 89), .mov (.t 6), none⟩] none)
 (.cond (.t 89) (.region [⟨(some 90), .mov (.t 0), none⟩,
  ⟨(some 91), .nilchk (.t 90), none⟩,
  ⟨(some 92), .faddr 0 (.t 91), none⟩,
  ⟨(some 93), .call (.c (.fn 74 [] [])) [(.t 92), (.c (.int .u8 41))], none⟩] none)
 (.skip)))))))))
theorem fn41 : env0.fn 41 = some ⟨94, ic41, []⟩ := by kernel_rfl
set_option maxHeartbeats 8000000 in
theorem write41 {w0 : World} {N0 : Nat} {nm : List (List UInt8)} (hne : ∀ s ∈ nm, s ≠ []) (hn : ∀ s ∈ nm, s.length ≤ 24) {j sj : Nat} : ∀ (q : Nat) (x : Ex) (o : Int) (T : List UInt8) (A B : AV) (H : HS), SizeOf.sizeOf x ≤ q → nds (nm.length : Nat) x = 0 → (T.length : Int) + 29 * szX x ≤ 1000000 → Wq T (vsS nm) j sj A B H.heap H.next →
  FT Try.prog w0 N0 41 [.mptr j sj 0, .agg (cX x), .int .i64 o] H (WF (T ++ wrX nm o x) (vsS nm) j sj) := by
 intro q
 induction q with
 | zero => intro x o T A B H hq; cases x; simp at hq
 | succ q ih =>
  intro x o T A B H hq hx hT hW
  have hxl := zmx hn x o
  obtain ⟨op, ix, args⟩ := x
  have hszp := zef (.nd op ix args)
  refine zco env0_ok fn41 [(0, .mptr j sj 0), (1, .agg (cX (.nd op ix args))), (2, .int .i64 o)] (by show 3 ≤ 94; decide) rfl ?_
  obtain ⟨hp, nx, ck⟩ := H
  replace hW : Wq T (vsS nm) j sj A B hp nx := hW
  show Zm _ _ _ _ _ (st 94 _ hp nx ck) _ _
  unfold ic41
  refine za7 (za0 rfl (zc5 rfl rfl (za4 (za3 ?_))))
  refine zgp nx ck (cs := cX (.nd op ix args)) (l' := [(0, .mptr j sj 0), (2, .int .i64 o), (4, .vptr (cX (.nd op ix args)))]) (by rw [zaj, if_pos rfl]) rfl (.cons rfl .same (.cons rfl .same (.cons rfl (.fptr rfl) .nil))) ?_
  replace hW := hW.drop1 ck (.cells (cX (.nd op ix args)))
  generalize zbj nx ((nx, ck, AObj.cells (cX (.nd op ix args))) :: hp) = hp at *
  generalize nx + 1 = nx at *
  generalize ck + 1 = ck at *
  obtain ⟨hv, hk⟩ := zfg hx
  obtain ⟨k0, k1, k2, k3, k4, k5⟩ := zfh hv
  have hwr : wrX nm o (.nd op ix args) = if op = 0 then [if ix = 0 then 48 else 49] else if op = 1 then nm.getD ix.toNat [] else if op = 2 then 33 :: wrL nm 2 [] true args else
   if 0 ≤ o ∧ (op = 4 ∨ o ≠ 4) then 40 :: wrL nm op (if op = 4 then [32, 124, 32] else [32, 38, 32]) true args ++ [41] else wrL nm op (if op = 4 then [32, 124, 32] else [32, 38, 32]) true args := by rw [wrX]
  generalize wrX nm o (.nd op ix args) = U at *
  repeat (first | refine za7 ?_ | refine za0 rfl ?_ | refine za4 ?_ | refine za3 ?_ | refine zai ?_ | refine zam rfl rfl ?_ | refine zb5 rfl rfl rfl ?_)
  refine zar rfl rfl rfl (fun h => ?_) fun h => ?_
  ·have h : op = 0 := by simpa using h
   rw [if_pos h] at hwr
   subst hwr
   have hix : ix = 0 ∨ ix = 1 := by
    subst h
    have : zbg 0 (nm.length : Nat) = 1 := by simp [zbg]
    omega
   have hg : ([48, 49] : List UInt8)[ix.toNat]? = some (if ix = 0 then 48 else 49) := by rcases hix with rfl | rfl <;> rfl
   generalize (if ix = 0 then (48 : UInt8) else 49) = b at *
   repeat (first | refine za7 ?_ | refine za4 ?_ | refine za3 ?_ | refine zbe rfl ?_ | refine za2 rfl ?_)
   refine z_cut env0_ok 6 [] (fun x hx => by cases hx) (fun _ => false) (fun _ => true) (fun _ => false) (fun i _ h => Bool.noConfusion h) rfl rfl rfl rfl ?_
   show Om _ _ _ _ _ [_, _, _, _, _, _] _ _ _
   repeat (first | refine za2 rfl ?_ | refine zam rfl rfl ?_ | refine za8 rfl ?_ | refine zb5 rfl rfl rfl ?_ | refine zaq rfl ?_)
   refine zjk rfl rfl k4 hg ?_
   refine za4 (zad ⟨rfl, fun rd => ?_⟩)
   refine AnyF.one 6 rfl (af_ct _ rfl rfl rfl rfl (zaw (zlk (b := b) hW (by omega))) zfv fun v H hF => ?_)
   refine AnyF.fin rfl (Um.ok ?_)
   repeat (first | refine za3 ?_ | refine zae ?_ | refine za6 ?_ | refine zaf ?_)
   exact zad ⟨.inr rfl, _, rfl, hF⟩
  have h0 : ¬ op = 0 := by simpa using h
  rw [if_neg h0] at hwr
  repeat (first | refine za7 ?_ | refine za0 rfl ?_ | refine za4 ?_ | refine za3 ?_ | refine zbi rfl ?_ | refine za2 rfl ?_)
  refine zar rfl rfl rfl (fun h => ?_) fun h => ?_
  ·have h : op = 1 := by simpa using h
   rw [if_pos h] at hwr
   have hi : ix.toNat < nm.length := by
    subst h
    have : zbg 1 (nm.length : Nat) = (nm.length : Nat) - 1 := by simp [zbg]
    omega
   have hU : U = nm[ix.toNat] := by rw [hwr, List.getD_eq_getElem?_getD, List.getElem?_eq_getElem hi]; rfl
   have hge : (nm.map fun s => ([.str s] : List AV))[ix.toNat]? = some [.str U] := by rw [List.getElem?_map, List.getElem?_eq_getElem hi, hU]; rfl
   have hUn : U ≠ [] := by rw [hU]; exact hne _ (List.getElem_mem hi)
   repeat (first | refine za7 ?_ | refine za4 ?_ | refine za3 ?_ | refine zbe rfl ?_ | refine za2 rfl ?_)
   refine z_cut env0_ok 11 [] (fun x hx => by cases hx) (fun _ => false) (fun _ => true) (fun _ => false) (fun i _ h => Bool.noConfusion h) rfl rfl rfl rfl ?_
   show Om _ _ _ _ _ [_, _, _, _, _, _, _, _, _, _, _] _ _ _
   repeat (first | refine za2 rfl ?_ | refine za8 rfl ?_ | refine zaq rfl ?_)
   refine zmg rfl hW.obj hW.jn rfl ?_
   repeat (first | refine za4 ?_ | refine zam rfl rfl ?_ | refine zb5 rfl rfl rfl ?_ | refine zbu rfl rfl (by omega) (by assumption) rfl ?_)
   refine zad ⟨rfl, fun rd => ?_⟩
   refine AnyF.one 11 rfl (af_ct _ rfl rfl rfl rfl (zaw (wstr75 (U := U) hW hUn (by omega))) zfv fun v H hF => ?_)
   refine AnyF.fin rfl (Um.ok ?_)
   repeat (first | refine za3 ?_ | refine zae ?_ | refine za6 ?_ | refine zaf ?_)
   exact zad ⟨.inr rfl, _, rfl, hF⟩
  have h1 : ¬ op = 1 := by simpa using h
  rw [if_neg h1] at hwr
  repeat (first | refine za7 ?_ | refine za0 rfl ?_ | refine za4 ?_ | refine za3 ?_ | refine zbi rfl ?_ | refine za2 rfl ?_)
  refine zar rfl rfl rfl (fun h => ?_) fun h => ?_
  ·have h : op = 2 := by simpa using h
   subst h
   rw [if_pos rfl] at hwr
   obtain ⟨_, y, rfl, hy⟩ := zpb hx
   have hg0 : (cXs [y])[((0 : Int)).toNat]? = some (cX y) := rfl
   have hU : U = 33 :: wrX nm 2 y := by rw [hwr, wrL, wrL, if_pos rfl, List.nil_append, List.append_nil]
   rw [szX, szL, szL] at hT
   have hyp := zef y
   repeat (first | refine za7 ?_ | refine za0 rfl ?_ | refine za4 ?_ | refine za3 ?_ | refine zbe rfl ?_ | refine za2 rfl ?_ | refine za8 rfl ?_ | refine zaq rfl ?_)
   refine zfw _ rfl rfl (zaw (zlk (b := 33) hW (by omega))) zfv fun r H hF => ?_
   obtain ⟨hp, nx, ck⟩ := H
   obtain ⟨A2, B2, hF⟩ := hF
   replace hF : Wq (T ++ [33]) (vsS nm) j sj A2 B2 hp nx := hF
   have ihy := ih y 2 (T ++ [33]) A2 B2 ⟨hp, nx, ck⟩ (by have := zgm (op := 2) (ix := ix) (List.mem_cons_self (a := y) (l := [])); omega) hy (by rw [List.length_append, List.length_singleton]; omega) hF
   rw [List.append_assoc, List.singleton_append, ← hU] at ihy
   obtain ⟨yo, yi, ya⟩ := y
   repeat (first | refine za7 ?_ | refine za4 ?_ | refine za3 ?_)
   refine z_cut env0_ok 7 [] (fun x hx => by cases hx) (fun _ => false) (fun _ => true) (fun _ => false) (fun i _ h => Bool.noConfusion h) rfl rfl rfl rfl ?_
   show Om _ _ _ _ _ [_, _, _, _, _, _, _] _ _ _
   repeat (first | refine za4 ?_ | refine za2 rfl ?_ | refine zam rfl rfl ?_ | refine zap rfl rfl rfl rfl ?_ | refine zb5 rfl rfl rfl ?_ | refine zbu rfl rfl (by omega) (by assumption) rfl ?_)
   refine zad ⟨rfl, fun rd => ?_⟩
   refine AnyF.one 7 rfl (af_ct _ rfl rfl rfl rfl (zaw ihy) zfv fun v H hF => ?_)
   refine AnyF.fin rfl (Um.ok ?_)
   repeat (first | refine za3 ?_ | refine zae ?_ | refine za6 ?_ | refine zaf ?_)
   exact zad ⟨.inr rfl, _, rfl, hF⟩
  have h2 : ¬ op = 2 := by simpa using h
  rw [if_neg h2] at hwr
  have hop : op = 3 ∨ op = 4 := by omega
  generalize hsep : (if op = 4 then ([32, 124, 32] : List UInt8) else [32, 38, 32]) = sep at *
  have hsl : sep.length = 3 := by rw [← hsep]; split <;> rfl
  have hsn : sep ≠ [] := fun e => by rw [e] at hsl; cases hsl
  have hcl := zb0 args
  have hszl := zc7 args
  have hlsz := zfe args
  rw [szX] at hT
  -- the loop, and what is behind it
  have rest2 : ∀ (br : Bool) (T1 : List UInt8) (A B : AV) (hp : List (Nat × Nat × AObj)) (nx ck : Nat), Wq T1 (vsS nm) j sj A B hp nx → T ++ U = T1 ++ wrL nm op sep true args ++ (if br = true then [41] else []) → (T1.length : Int) + 29 * szL args ≤ 999980 →
    Zm Try.prog w0 N0 (some none) (tlD (tlD (tlD (tlD ic41)))) (st 94 [(0, .mptr j sj 0), (4, .vptr (cX (.nd op ix args))), (6, .bool br)] hp nx ck) [] (fun e S' => (e = .normal ∨ e = .ret) ∧ ∃ v, S'.leave.res [] = some v ∧ WF (T ++ U) (vsS nm) j sj v S'.leave.hs) := by
   intro br T1 A B hp nx ck hW hTU hT1
   show Zm _ _ _ _ (.seq _ _) _ _ _
   have loop : Zm Try.prog w0 N0 (some none) (tlD (tlD (tlD (tlD (tlD (tlD ic41)))))) (st 94 [(0, .mptr j sj 0), (4, .vptr (cX (.nd op ix args))), (6, .bool br), (7, .str sep)] hp nx ck) [] (fun e S' => (e = .normal ∨ e = .ret) ∧ ∃ v, S'.leave.res [] = some v ∧ WF (T ++ U) (vsS nm) j sj v S'.leave.hs) := by
    show Zm _ _ _ _ (.seq _ _) _ _ _
    repeat (first | refine za7 ?_ | refine za0 rfl ?_ | refine za4 ?_ | refine za3 ?_ | refine zai ?_ | refine za2 rfl ?_ | refine zam rfl rfl ?_ | refine zb5 rfl rfl rfl ?_ | refine zb7 rfl rfl ?_)
    refine zdr (fun mm S => ∃ i T2 A B hp nx ck, mm = args.length - i ∧ i ≤ args.length ∧ Wq T2 (vsS nm) j sj A B hp nx ∧ T1 ++ wrL nm op sep true args = T2 ++ wrL nm op sep (decide (i = 0)) (args.drop i) ∧ (T2.length : Int) + 29 * szL (args.drop i) ≤ 999980 ∧ S = st 94 [(0, .mptr j sj 0), (4, .vptr (cX (.nd op ix args))), (6, .bool br), (7, .str sep), (69, .vs (cXs args)), (70, .int .i64 ((cXs args).length : Nat)), (71, .int .i64 (i : Nat))] hp nx ck) args.length
     (zal (.cons rfl (.cons rfl (.cons rfl (.cons rfl (.cons rfl (.cons rfl (.cons rfl .nil)))))))) ⟨0, T1, A, B, _, _, _, rfl, Nat.zero_le _, hW, rfl, hT1, rfl⟩ ?_
    clear hW
    rintro mm S ⟨i, T2, A, B, hp, nx, ck, rfl, hi, hW, hTe, hT2, rfl⟩
    unfold b41_1
    repeat (first | refine za7 ?_ | refine za0 rfl ?_)
    refine zar rfl rfl rfl (fun h3 => ?_) fun h3 => ?_
    ·have hlt : i < args.length := by
      have h4 : ((i : Nat) : Int) < (((cXs args).length : Nat) : Int) := of_decide_eq_true h3
      omega
     have w1 : IntKind.wrap .i64 (((i : Nat) : Int) + 1) = ((i + 1 : Nat) : Int) := zbb i (by omega)
     have hge := zf7 hlt
     have hmem := List.getElem_mem hlt
     rw [szL_drop hlt] at hT2
     rw [wrL_step hlt] at hTe
     have hyn := hk _ hmem
     have hyq : SizeOf.sizeOf args[i] ≤ q := by have := zgm (op := op) (ix := ix) hmem; omega
     have hyp := zef args[i]
     have hdn := zc7 (args.drop (i + 1))
     have hyl := zmx hn args[i] op
     generalize args[i] = y at *
     have ihy := fun (T3 : List UInt8) (A B : AV) (H : HS) (h : (T3.length : Int) + 29 * szX y ≤ 1000000) (hw : Wq T3 (vsS nm) j sj A B H.heap H.next) => ih y op T3 A B H hyq hyn h hw
     generalize hrs : szL (args.drop (i + 1)) = rs at *
     generalize szX y = sy at *
     generalize wrX nm op y = V at *
     obtain ⟨yo, yi, ya⟩ := y
     repeat (first | refine za7 ?_ | refine za0 rfl ?_ | refine za4 ?_ | refine za3 ?_ | refine zai ?_ | refine zab ?_ | refine zbe rfl ?_ | refine za2 rfl ?_ | refine zap rfl rfl rfl rfl ?_ | refine zat ?_ | refine zbu rfl rfl (by omega) (by assumption) rfl ?_)
     refine zak (id := nx) (sp := ck) (off := 0) rfl rfl rfl rfl zb9 rfl rfl ?_
     refine za4 (za3 ?_)
     refine zgp nx ck (cs := cX (.nd yo yi ya)) (l' := [(9, .vptr (cX (.nd yo yi ya))), (8, .int .i64 (i : Nat)), (0, .mptr j sj 0), (4, .vptr (cX (.nd op ix args))), (6, .bool br), (7, .str sep), (69, .vs (cXs args)), (70, .int .i64 ((cXs args).length : Nat)), (71, .int .i64 (i : Nat))]) (by rw [za1, if_pos rfl]; rfl) rfl (.cons rfl (.fptr rfl) (.cons rfl .same (.cons rfl .same (.cons rfl .same (.cons rfl .same (.cons rfl .same (.cons rfl .same (.cons rfl .same (.cons rfl .same .nil))))))))) ?_
     have hW2 := hW.box ck (.cells [.int .i64 0, .int .i64 0, .nils]) (ck, .cells (setAt 0 [.int .i64 0, .int .i64 0, .nils] (List.take 3 (cX (.nd yo yi ya)))))
     generalize zbj nx (zb6 nx (ck, AObj.cells (setAt 0 [.int .i64 0, .int .i64 0, .nils] (List.take 3 (cX (.nd yo yi ya))))) ((nx, ck, AObj.cells [.int .i64 0, .int .i64 0, .nils]) :: hp)) = hp2 at *
     repeat (first | refine za7 ?_ | refine za0 rfl ?_ | refine za2 rfl ?_)
     refine zar rfl rfl rfl (fun h5 => ?_) fun h5 => ?_
     ·have h5 : ¬ i = 0 := by
       have h5 : ((i : Nat) : Int) > 0 := of_decide_eq_true h5
       omega
      rw [decide_eq_false h5, if_neg Bool.false_ne_true] at hTe
      repeat (first | refine za0 rfl ?_ | refine za4 ?_ | refine za3 ?_ | refine zbe rfl ?_ | refine za2 rfl ?_ | refine za8 rfl ?_ | refine zaq rfl ?_)
      refine zfw _ rfl rfl (zaw (wstr75 (U := sep) hW2 hsn (by omega))) zfv fun r H hF => ?_
      obtain ⟨hp, nx, ck⟩ := H
      obtain ⟨A2, B2, hF⟩ := hF
      replace hF : Wq (T2 ++ sep) (vsS nm) j sj A2 B2 hp nx := hF
      repeat (first | refine za0 rfl ?_ | refine za4 ?_ | refine za3 ?_ | refine za2 rfl ?_ | refine zam rfl rfl ?_ | refine zap rfl rfl rfl rfl ?_ | refine zb5 rfl rfl rfl ?_)
      refine zfw _ rfl rfl (zaw (ihy (T2 ++ sep) _ _ ⟨hp, nx, ck⟩ (by rw [List.length_append]; omega) hF)) zfv fun r H hF => ?_
      obtain ⟨hp, nx, ck⟩ := H
      obtain ⟨A3, B3, hF⟩ := hF
      replace hF : Wq (T2 ++ sep ++ V) (vsS nm) j sj A3 B3 hp nx := hF
      repeat (first | refine za0 rfl ?_ | refine za4 ?_ | refine za3 ?_ | refine zc2 ?_ | refine za2 rfl ?_ | refine zb8 (op := .add) rfl rfl rfl ?_)
      rw [w1]
      exact zcj (show args.length - (i + 1) < args.length - i by omega) (zal (.cons rfl (.cons rfl (.cons rfl (.cons rfl (.cons rfl (.cons rfl (.cons rfl .nil)))))))) ⟨i + 1, _, _, _, _, _, _, rfl, hlt, hF, by rw [hTe, decide_eq_false (Nat.succ_ne_zero i)]; simp only [List.append_assoc], by rw [List.length_append, List.length_append, hrs]; omega, rfl⟩
     ·have h5 : i = 0 := by
       have h5 : ¬ ((i : Nat) : Int) > 0 := of_decide_eq_false h5
       omega
      rw [decide_eq_true h5, if_pos rfl, List.nil_append] at hTe
      repeat (first | refine za0 rfl ?_ | refine za4 ?_ | refine za3 ?_ | refine zab ?_ | refine zbi rfl ?_ | refine za2 rfl ?_ | refine zam rfl rfl ?_ | refine zap rfl rfl rfl rfl ?_ | refine zb5 rfl rfl rfl ?_)
      refine zfw _ rfl rfl (zaw (ihy T2 _ _ ⟨hp2, nx + 1, ck + 1⟩ (by omega) hW2)) zfv fun r H hF => ?_
      obtain ⟨hp, nx, ck⟩ := H
      obtain ⟨A3, B3, hF⟩ := hF
      replace hF : Wq (T2 ++ V) (vsS nm) j sj A3 B3 hp nx := hF
      repeat (first | refine za0 rfl ?_ | refine za4 ?_ | refine za3 ?_ | refine zc2 ?_ | refine za2 rfl ?_ | refine zb8 (op := .add) rfl rfl rfl ?_)
      rw [w1]
      exact zcj (show args.length - (i + 1) < args.length - i by omega) (zal (.cons rfl (.cons rfl (.cons rfl (.cons rfl (.cons rfl (.cons rfl (.cons rfl .nil)))))))) ⟨i + 1, _, _, _, _, _, _, rfl, hlt, hF, by rw [hTe, decide_eq_false (Nat.succ_ne_zero i)]; simp only [List.append_assoc], by rw [List.length_append, hrs]; omega, rfl⟩
    ·have hie : i = args.length := by
      have h4 : ¬ ((i : Nat) : Int) < (((cXs args).length : Nat) : Int) := of_decide_eq_false h3
      omega
     subst hie
     rw [List.drop_length, wrL, List.append_nil] at hTe
     rw [hTe] at hTU
     repeat (first | refine za7 ?_ | refine za4 ?_ | refine za3 ?_ | refine zbi rfl ?_ | refine zbp ?_ | refine zah ?_)
     refine zeh ?_
     repeat (first | refine za7 ?_ | refine za0 rfl ?_ | refine za4 ?_ | refine za3 ?_ | refine zbo ?_ | refine za2 rfl ?_)
     cases br with
     | false =>
      rw [if_neg Bool.false_ne_true, List.append_nil] at hTU
      repeat (first | refine zab ?_ | refine zbi rfl ?_)
      rw [hTU]
      exact zad ⟨.inl rfl, _, rfl, A, B, hW⟩
     | true =>
      rw [if_pos rfl] at hTU
      repeat (first | refine za0 rfl ?_ | refine zbe rfl ?_ | refine za2 rfl ?_ | refine za8 rfl ?_ | refine zaq rfl ?_)
      refine zfw _ rfl rfl (zaw (zlk (b := 41) hW (by rw [List.drop_length, szL] at hT2; omega))) zfv fun r H hF => ?_
      repeat (first | refine za4 ?_)
      rw [hTU]
      exact zad ⟨.inl rfl, _, rfl, hF⟩
   repeat (first | refine za7 ?_ | refine za0 rfl ?_ | refine za4 ?_ | refine za3 ?_ | refine za2 rfl ?_ | refine zam rfl rfl ?_ | refine zb5 rfl rfl rfl ?_)
   refine zar rfl rfl rfl (fun h => ?_) fun h => ?_
   ·have h : op = 4 := by simpa using h
    rw [if_pos h] at hsep
    subst hsep
    repeat (first | refine za0 rfl ?_ | refine za4 ?_ | refine za3 ?_ | refine zbe rfl ?_ | refine za2 rfl ?_)
    exact zfo (zal (.cons rfl (.cons rfl (.cons rfl (.cons rfl .nil))))) loop
   ·have h : ¬ op = 4 := by simpa using h
    rw [if_neg h] at hsep
    subst hsep
    repeat (first | refine za4 ?_ | refine za3 ?_ | refine zab ?_ | refine zbi rfl ?_)
    exact zfo (zal (.cons rfl (.cons rfl (.cons rfl (.cons rfl .nil))))) loop
  have rest : ∀ (br : Bool), U = (if br = true then 40 :: wrL nm op sep true args ++ [41] else wrL nm op sep true args) →
    Zm Try.prog w0 N0 (some none) (tlD (tlD (tlD ic41))) (st 94 [(0, .mptr j sj 0), (4, .vptr (cX (.nd op ix args))), (6, .bool br)] hp nx ck) [] (fun e S' => (e = .normal ∨ e = .ret) ∧ ∃ v, S'.leave.res [] = some v ∧ WF (T ++ U) (vsS nm) j sj v S'.leave.hs) := by
   intro br hU
   show Zm _ _ _ _ (.seq _ _) _ _ _
   refine za7 ?_
   refine za7 ?_
   repeat (first | refine za0 rfl ?_ | refine za4 ?_ | refine za3 ?_ | refine za2 rfl ?_)
   cases br with
   | false =>
    rw [if_neg Bool.false_ne_true] at hU
    repeat (first | refine za3 ?_ | refine zab ?_ | refine zbi rfl ?_)
    exact zfo (zal (.cons rfl (.cons rfl (.cons rfl .nil)))) (rest2 false T A B hp nx ck hW (by rw [hU, if_neg Bool.false_ne_true, List.append_nil]) (by omega))
   | true =>
    rw [if_pos rfl] at hU
    repeat (first | refine za0 rfl ?_ | refine zbe rfl ?_ | refine za2 rfl ?_ | refine za8 rfl ?_ | refine zaq rfl ?_)
    refine zfw _ rfl rfl (zaw (zlk (b := 40) hW (by omega))) zfv fun r H hF => ?_
    obtain ⟨hp2, nx2, ck2⟩ := H
    obtain ⟨A2, B2, hF⟩ := hF
    replace hF : Wq (T ++ [40]) (vsS nm) j sj A2 B2 hp2 nx2 := hF
    repeat (first | refine za4 ?_ | refine za3 ?_)
    exact zfo (zal (.cons rfl (.cons rfl (.cons rfl .nil)))) (rest2 true (T ++ [40]) A2 B2 hp2 nx2 ck2 hF (by rw [hU, if_pos rfl]; simp only [List.append_assoc, List.cons_append, List.nil_append]) (by rw [List.length_append, List.length_singleton]; omega))
  repeat (first | refine za7 ?_ | refine za0 rfl ?_ | refine za4 ?_ | refine za3 ?_ | refine zc2 ?_ | refine zab ?_ | refine zbi rfl ?_ | refine za2 rfl ?_)
  refine zar rfl rfl rfl (fun h => ?_) fun h => ?_
  ·have ho : 0 ≤ o := of_decide_eq_true h
   repeat (first | refine zbz rfl ?_ | refine za2 rfl ?_ | refine zam rfl rfl ?_ | refine zb5 rfl rfl rfl ?_)
   refine zar rfl rfl rfl (fun h => ?_) fun h => ?_
   ·have h4 : op = 4 := by simpa using h
    repeat (first | refine za4 ?_ | refine za3 ?_ | refine zbz rfl ?_ | refine zcz rfl rfl ?_ | refine za2 rfl ?_ | refine zag rfl rfl ?_)
    exact zfo (zal (.cons rfl (.cons rfl (.cons rfl .nil)))) (rest true (by rw [hwr, if_pos ⟨ho, .inl h4⟩, if_pos rfl]))
   ·have h4 : ¬ op = 4 := by simpa using h
    repeat (first | refine zbz rfl ?_ | refine za2 rfl ?_)
    refine zar rfl rfl rfl (fun h => ?_) fun h => ?_
    ·have h5 : o ≠ 4 := by simpa using h
     repeat (first | refine za4 ?_ | refine za3 ?_ | refine zbz rfl ?_ | refine za2 rfl ?_ | refine zag rfl rfl ?_ | refine zaa rfl rfl ?_)
     exact zfo (zal (.cons rfl (.cons rfl (.cons rfl .nil)))) (rest true (by rw [hwr, if_pos ⟨ho, .inr h5⟩, if_pos rfl]))
    ·have h5 : o = 4 := by simpa using h
     repeat (first | refine za4 ?_ | refine za3 ?_ | refine zbz rfl ?_ | refine za2 rfl ?_ | refine zag rfl rfl ?_ | refine zaa rfl rfl ?_)
     exact zfo (zal (.cons rfl (.cons rfl (.cons rfl .nil)))) (rest false (by rw [hwr, if_neg (by omega), if_neg Bool.false_ne_true]))
  ·have ho : ¬ 0 ≤ o := of_decide_eq_false h
   repeat (first | refine za4 ?_ | refine za3 ?_ | refine zcz rfl rfl ?_ | refine zhe rfl ?_ | refine za2 rfl ?_ | refine zaa rfl rfl ?_)
   exact zfo (zal (.cons rfl (.cons rfl (.cons rfl .nil)))) (rest false (by rw [hwr, if_neg (by omega), if_neg Bool.false_ne_true]))
end Go.Proofs.Ytmnkjofaodbokaa
namespace Go.Proofs.Ytmnkjofaodbokaa
open Go Go.Am
theorem nmL_ok {l : List (List UInt8)} : ∀ (k i : Nat), i + k = l.length → nmL l i (l.drop i) = 0 → ∀ m (hm : m < l.length), i ≤ m → zg2 l[m] = true ∧ l[m].length ≤ 24 ∧ l[m] ∉ l.take m
 | 0, i, hk, h, m, hm, hi => absurd hm (by omega)
 | k + 1, i, hk, h, m, hm, hi => by
  have hlt : i < l.length := by omega
  rw [zl2 hlt] at h
  split at h
  ·rename_i he
   by_cases e : i = m
   ·subst e
    unfold nmE at he
    split at he
    ·cases he
    ·rename_i h1
     split at he
     ·cases he
     ·rename_i h2
      split at he
      ·cases he
      ·rename_i h3
       refine ⟨by simpa using h1, by omega, fun hc => h3 (by rw [List.contains_iff_mem]; exact hc)⟩
   ·exact nmL_ok k (i + 1) (by omega) h m hm (by omega)
  ·rename_i he; exact absurd h he
structure NmOk (l : List (List UInt8)) : Prop where
 len : l.length ≤ 256
 at_ : ∀ m (hm : m < l.length), zg2 l[m] = true ∧ l[m].length ≤ 24 ∧ l[m] ∉ l.take m
theorem nm_ok {l : List (List UInt8)} (h : nmR l = 0) : NmOk l := by
 unfold nmR at h
 split at h
 ·cases h
 ·exact ⟨by omega, fun m hm => nmL_ok l.length 0 (by omega) h m hm (Nat.zero_le _)⟩
theorem NmOk.word {l : List (List UInt8)} (h : NmOk l) : ∀ s ∈ l, zg2 s = true ∧ s.length ≤ 24 := fun s hs => by
 obtain ⟨m, hm, rfl⟩ := List.getElem_of_mem hs
 obtain ⟨a, b, _⟩ := h.at_ m hm
 exact ⟨a, b⟩
theorem zud {s : List UInt8} (h : zg2 s = true) : s ≠ [] := fun e => by subst e; exact absurd h (by decide)
theorem o_boxT {P : Program} {w0 : World} {N0 : Nat} {k : List Fr} {Q : Exit → AS → Prop} {pf : Kn} {ios : List Opr} {n nx ck : Nat} {mk : List (Nat × Nat)} {md : Md} {l : List (Nat × AV)} {hp : List (Nat × Nat × AObj)} {d : Nat} {Ty : TypeId} {a : Arg} {v : AV} {cs : List AV} (h : zbc a l = some v) (hc : v.cells? = some cs) (go : Om P w0 N0 md pf ios (st n ((d, .mptr nx ck 0) :: l) ((nx, ck, .typed Ty true cs) :: hp) (nx + 1) (ck + 1) mk) k Q) :
  Om P w0 N0 md pf (⟨some d, .boxT Ty a, none⟩ :: ios) (st n l hp nx ck mk) k Q :=
 zdx (by simp only [iop, zax, h, hc]; rfl) go trivial
-- pneumatic/boolexp.Format
def ic14 : IC := .seq (.region [⟨(some 2), .box (.t 0), none⟩,
  ⟨(some 4), .mov (.c (.str [])), none⟩,
  ⟨(some 5), .mov (.c (.int .i64 0)), none⟩] none)
 (.seq (.seq (.region [⟨(some 9), .mov (.t 1), none⟩,
  ⟨(some 10), .call (.c (.fn 40 [] [])) [(.t 9)], none⟩,
  ⟨(some 6), .mov (.t 10), none⟩] none)
 (.seq (.region [⟨(some 11), .mov (.t 6), none⟩,
  ⟨(some 12), .bin .neq (.t 11) (.c (.int .i64 0)), none⟩] none)
 (.cond (.t 12) (.seq (.region [⟨(some 13), .mov (.t 6), none⟩,
  ⟨(some 4), .mov (.c (.str [])), none⟩,
  ⟨(some 5), .mov (.t 13), none⟩] none)
 (.ret))
 (.skip))))
 (.seq (.seq (.region [⟨(some 14), .load (some 3) (.t 2), none⟩,
  ⟨(some 15), .mov (.t 1), none⟩,
  ⟨(some 16), .len false (.t 15), none⟩,
  ⟨(some 17), .call (.c (.fn 32 [] [])) [(.t 14), (.t 16)], none⟩,
  ⟨(some 7), .mov (.t 17), none⟩] none)
 (.seq (.region [⟨(some 18), .mov (.t 7), none⟩,
  ⟨(some 19), .bin .neq (.t 18) (.c (.int .i64 0)), none⟩] none)
 (.cond (.t 19) (.seq (.region [⟨(some 20), .mov (.t 7), none⟩,
  ⟨(some 4), .mov (.c (.str [])), none⟩,
  ⟨(some 5), .mov (.t 20), none⟩] none)
 (.ret))
 (.skip))))
 (.seq (.region [⟨(some 21), .mov (.t 1), none⟩,
  ⟨(some 22), .build [.nilp, .nils, .nils] [(2, 1, (.t 21))], none⟩,
  ⟨(some 23), .boxT 85 (.t 22), none⟩,
  ⟨(some 8), .mov (.t 23), none⟩] none)
 (.seq (.region [⟨(some 24), .mov (.t 8), none⟩,
  ⟨(some 25), .load (some 3) (.t 2), none⟩,
  ⟨(some 26), .call (.c (.fn 41 [] [])) [(.t 24), (.t 25), (.c (.int .i64 (-1)))], none⟩] none)
 (.seq (.seq (.region [⟨(some 27), .mov (.t 8), none⟩,
  ⟨(some 28), .nilchk (.t 27), none⟩,
  ⟨(some 29), .faddr 0 (.t 28), none⟩,
  ⟨(some 30), .call (.c (.fn 42 [] [])) [(.t 29)], none⟩,
  ⟨(some 31), .bin .gtr (.t 30) (.c (.int .i64 4096)), none⟩] none)
 (.cond (.t 31) (.seq (.region [⟨(some 4), .mov (.c (.str [])), none⟩,
  ⟨(some 5), .mov (.c (.int .i64 17)), none⟩] none)
 (.ret))
 (.skip)))
 (.seq (.region [⟨(some 32), .mov (.t 8), none⟩,
  ⟨(some 33), .nilchk (.t 32), none⟩,
  ⟨(some 34), .faddr 0 (.t 33), none⟩,
  ⟨(some 35), .call (.c (.fn 43 [] [])) [(.t 34)], none⟩,
  ⟨(some 4), .mov (.t 35), none⟩,
  ⟨(some 5), .mov (.c (.int .i64 0)), none⟩] none)
 (.ret)))))))
theorem fn14 : env0.fn 14 = some ⟨36, ic14, [.t 4, .t 5]⟩ := by kernel_rfl
set_option maxHeartbeats 2000000 in
theorem format14 {nm : List (List UInt8)} (h0 : nmR nm = 0) (x : Ex) (hs : Slim x) (hck : zey x (nm.length : Nat) = 0) (h40 : szX x ≤ 40) : PF Try.prog 14 [.agg (cX x), vsS nm] (.tup [.str (wrX nm (-1) x), .int .i64 0]) := by
 have hok := nm_ok h0
 have hn24 : ∀ s ∈ nm, s.length ≤ 24 := fun s hs => (hok.word s hs).2
 have hne : ∀ s ∈ nm, s ≠ [] := fun s hs => zud (hok.word s hs).1
 have p40 := zta nm (fun s hs => by have := hn24 s hs; omega)
 rw [h0] at p40
 have p32 := zrp x hs (nm.length : Nat)
 rw [zga, hck] at p32
 have hnd := nds_of hck
 have hml : (nm.map fun s => ([.str s] : List AV)).length = nm.length := List.length_map ..
 have hwl := zmx hn24 x (-1)
 have hwn := wrX_ne hne _ x (-1) (Nat.le_refl _) hnd
 have p41 := fun w0 N0 A B H => write41 (w0 := w0) (N0 := N0) (nm := nm) hne hn24 (j := 0) (sj := 1) _ x (-1) [] A B H (Nat.le_refl _) hnd (by show ((0 : Nat) : Int) + _ ≤ _; omega)
 simp only [List.nil_append] at p41
 generalize wrX nm (-1) x = U at *
 obtain ⟨op, ix, args⟩ := x
 refine zbl env0_ok fn14 [(0, .agg (cX (.nd op ix args))), (1, vsS nm)] (by show 2 ≤ 36; decide) rfl fun w0 N0 => ?_
 unfold ic14
 refine za7 (za0 rfl (zc5 rfl rfl (za2 rfl (za2 rfl (za4 (za3 ?_))))))
 refine zjh [] [(0, 0, cX (.nd op ix args))] [(1, vsS nm), (2, .vptr (cX (.nd op ix args)))] rfl (.cons rfl rfl .nil) .nil (.cons rfl (.same rfl) (.cons rfl (.fptr rfl rfl) .nil)) ?_
 repeat (first | refine za7 ?_ | refine za0 rfl ?_ | refine za2 rfl ?_)
 refine zay rfl rfl p40 (fun h => Bool.noConfusion (show false = true from h)) ?_
 repeat (first | refine za7 ?_ | refine za0 rfl ?_ | refine za4 ?_ | refine za3 ?_ | refine zab ?_ | refine zbi rfl ?_ | refine za2 rfl ?_ | refine zap rfl rfl rfl rfl ?_ | refine zb7 rfl rfl ?_ | refine zav rfl rfl rfl ?_)
 refine zay rfl (by rw [hml]; rfl) p32 (fun h => Bool.noConfusion (show false = true from h)) ?_
 repeat (first | refine za7 ?_ | refine za0 rfl ?_ | refine za4 ?_ | refine za3 ?_ | refine zab ?_ | refine zbi rfl ?_ | refine za2 rfl ?_ | refine zbs rfl rfl ?_ | refine zav rfl rfl rfl ?_)
 refine o_boxT rfl rfl ?_
 repeat (first | refine za7 ?_ | refine za0 rfl ?_ | refine za4 ?_ | refine za3 ?_ | refine za2 rfl ?_ | refine zap rfl rfl rfl rfl ?_)
 refine zfw _ rfl rfl (zaw (p41 w0 N0 .nilp .nils ⟨[(0, 1, .typed 85 true [.nilp, .nils, vsS nm])], 1, 2⟩ ⟨rfl, .inl rfl, .inl ⟨rfl, rfl⟩, by show 0 < 1; decide⟩)) zfv fun r H hF => ?_
 obtain ⟨hp, nx, ck⟩ := H
 obtain ⟨A2, B2, hF⟩ := hF
 replace hF : Wq U (vsS nm) 0 1 A2 B2 hp nx := hF
 repeat (first | refine za7 ?_ | refine za0 rfl ?_ | refine za4 ?_ | refine za3 ?_ | refine za2 rfl ?_ | refine za8 rfl ?_ | refine zaq rfl ?_)
 refine zfw _ rfl rfl (zaw (len42 (H := ⟨hp, nx, ck⟩) hF)) zfv fun r H hF2 => ?_
 obtain ⟨rfl, rfl⟩ := hF2
 refine zav rfl rfl (show some (AV.bool (decide (((U.length : Nat) : Int) > 4096))) = _ by rw [decide_eq_false (by omega)]) ?_
 repeat (first | refine za7 ?_ | refine za0 rfl ?_ | refine za4 ?_ | refine za3 ?_ | refine zab ?_ | refine zbi rfl ?_ | refine za2 rfl ?_ | refine za8 rfl ?_ | refine zaq rfl ?_)
 refine zfw _ rfl rfl (zaw (string43 (H := ⟨hp, nx, ck⟩) hF hwn (by omega))) zfv fun r H hF2 => ?_
 subst hF2
 repeat (first | refine za4 ?_ | refine za3 ?_ | refine zae ?_ | refine za2 rfl ?_)
 exact zad ⟨.inr rfl, _, rfl, rfl⟩
end Go.Proofs.Ytmnkjofaodbokaa
