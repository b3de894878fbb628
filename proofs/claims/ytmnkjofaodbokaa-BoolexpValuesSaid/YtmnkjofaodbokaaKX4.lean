/-
  EXPRESSIONS THAT ARE EQUAL, NODE BY NODE.; EQUAL EXPRESSIONS, AS THE PROGRAM COMPARES THEM.; Same, here and in the reference.
-/
import Derived.Test.YtmnkjofaodbokaaKX3
namespace Go.Proofs.Ytmnkjofaodbokaa
open Go Go.Am
def b49_0 : IC := .seq (.seq (.region [⟨(some 27), .mov (.t 5), none⟩,
  ⟨(some 28), .faddr 2 (.t 2), none⟩,
  ⟨(some 29), .load none (.t 28), none⟩,
  ⟨(some 30), .len false (.t 29), none⟩,
  ⟨(some 31), .bin .lss (.t 27) (.t 30), none⟩] none)
 (.cond (.t 31) (.skip)
 (.exit 0)))
 (.seq (.block 1 (.seq (.region [⟨(some 34), .faddr 2 (.t 2), none⟩,
  ⟨(some 35), .load none (.t 34), none⟩,
  ⟨(some 36), .mov (.t 5), none⟩,
  ⟨(some 37), .idxs 3 (.t 35) (.t 36), none⟩,
  ⟨(some 38), .load (some 3) (.t 37), none⟩,
  ⟨(some 39), .faddr 2 (.t 3), none⟩,
  ⟨(some 40), .load none (.t 39), none⟩,
  ⟨(some 41), .mov (.t 5), none⟩,
  ⟨(some 42), .idxs 3 (.t 40) (.t 41), none⟩,
  ⟨(some 43), .load (some 3) (.t 42), none⟩,
  ⟨(some 44), .call (.c (.fn 49 [] [])) [(.t 38), (.t 43)], none⟩,
  ⟨(some 45), .un .not (.t 44), none⟩] (some [[], [0], [], [1, 2], [3], [], [5], [], [6, 7], [8], [4, 9], [10]]))
 (.cond (.t 45) (.seq (.region [⟨(some 4), .mov (.c (.bool false)), none⟩] none)
 (.ret))
 (.skip))))
 (.region [⟨(some 32), .mov (.t 5), none⟩,
  ⟨(some 33), .bin .add (.t 32) (.c (.int .i64 1)), none⟩,
  ⟨(some 5), .mov (.t 33), none⟩] none))
-- pneumatic/pneumaticref05.Equal
def ic49 : IC := .seq (.region [⟨(some 2), .box (.t 0), none⟩,
  ⟨(some 3), .box (.t 1), none⟩,
  ⟨(some 4), .mov (.c (.bool false)), none⟩] none)
 (.seq (.seq (.region [⟨(some 6), .faddr 0 (.t 2), none⟩,
  ⟨(some 7), .load none (.t 6), none⟩,
  ⟨(some 8), .faddr 0 (.t 3), none⟩,
  ⟨(some 9), .load none (.t 8), none⟩,
  ⟨(some 10), .bin .neq (.t 7) (.t 9), none⟩,
  ⟨(some 11), .mov (.t 10), none⟩,
  ⟨(some 12), .faddr 1 (.t 2), some (11, false)⟩,
  ⟨(some 13), .load none (.t 12), some (11, false)⟩,
  ⟨(some 14), .faddr 1 (.t 3), some (11, false)⟩,
  ⟨(some 15), .load none (.t 14), some (11, false)⟩,
  ⟨(some 16), .bin .neq (.t 13) (.t 15), some (11, false)⟩,
  ⟨(some 17), .pick (.t 11) (.c (.bool true)) (.t 16), none⟩,
  ⟨(some 18), .mov (.t 17), none⟩,
  ⟨(some 19), .faddr 2 (.t 2), some (18, false)⟩,
  ⟨(some 20), .load none (.t 19), some (18, false)⟩,
  ⟨(some 21), .len false (.t 20), some (18, false)⟩,
  ⟨(some 22), .faddr 2 (.t 3), some (18, false)⟩,
  ⟨(some 23), .load none (.t 22), some (18, false)⟩,
  ⟨(some 24), .len false (.t 23), some (18, false)⟩,
  ⟨(some 25), .bin .neq (.t 21) (.t 24), some (18, false)⟩,
  ⟨(some 26), .pick (.t 18) (.c (.bool true)) (.t 25), none⟩] none)
 (.cond (.t 26) (.seq (.region [⟨(some 4), .mov (.c (.bool false)), none⟩] none)
 (.ret))
 (.skip)))
 (.seq (.seq (.region [⟨(some 5), .mov (.c (.int .i64 0)), none⟩] none)
 (.block 0 (.loop b49_0)))
 (.seq (.region [⟨(some 4), .mov (.c (.bool true)), none⟩] none)
 (.ret))))
theorem fn49 : env0.fn 49 = some ⟨46, ic49, [.t 4]⟩ := by kernel_rfl
mutual
def eqX : Ex → Ex → Bool
 | .nd o i a, .nd o' i' b => o == o' && (i == i' && zla a b)
def zla : List Ex → List Ex → Bool
 | [], [] => true
 | x :: xs, y :: ys => eqX x y && zla xs ys
 | [], _ :: _ => false
 | _ :: _, [] => false
end
theorem zk2 : ∀ {a b : List Ex}, a.length ≠ b.length → zla a b = false
 | [], [], h => absurd rfl h
 | [], _ :: _, _ => by rw [zla]
 | _ :: _, [], _ => by rw [zla]
 | x :: xs, y :: ys, h => by
  rw [zla, zk2 (fun e => h (by rw [List.length_cons, List.length_cons, e])), Bool.and_false]
theorem zlb {a b : List Ex} {i : Nat} (h : i < a.length) (k : i < b.length) : zla (a.drop i) (b.drop i) = (eqX a[i] b[i] && zla (a.drop (i + 1)) (b.drop (i + 1))) := by
 rw [List.drop_eq_getElem_cons h, List.drop_eq_getElem_cons k, zla]
set_option maxHeartbeats 4000000 in
theorem equal49 : ∀ (q : Nat) (x y : Ex), SizeOf.sizeOf x ≤ q → Slim x → PF Try.prog 49 [.agg (cX x), .agg (cX y)] (.bool (eqX x y)) := by
 intro q
 induction q with
 | zero => intro x y hq; cases x; simp at hq
 | succ q ih =>
  intro x y hq hs
  obtain ⟨op, ix, args⟩ := x
  obtain ⟨op2, ix2, args2⟩ := y
  obtain ⟨hlen, hsl⟩ := zit hs
  refine zbx env0_ok fn49 [(0, .agg (cX (.nd op ix args))), (1, .agg (cX (.nd op2 ix2 args2)))] (by show 2 ≤ 46; decide) rfl fun w0 N0 => ?_
  unfold ic49
  rw [eqX]
  refine zai (za0 rfl (zbd rfl rfl (zbd rfl rfl (zad rfl (zab (zac ?_))))))
  refine ze6 [] [(0, 0, cX (.nd op ix args)), (1, 1, cX (.nd op2 ix2 args2))] [(2, .vptr (cX (.nd op ix args))), (3, .vptr (cX (.nd op2 ix2 args2)))] rfl (.cons rfl rfl (.cons rfl rfl .nil)) .nil (.cons rfl (.fptr rfl rfl) (.cons rfl (.fptr rfl rfl) .nil)) ?_
  repeat (first | refine zai ?_ | refine za0 rfl ?_ | refine zab ?_ | refine zac ?_ | refine zbg ?_ | refine zaj ?_ | refine zat ?_ | refine zbl rfl ?_ | refine zbo rfl ?_ | refine zb5 ?_ | refine zaz ?_ | refine zb4 ?_ | refine za6 ?_ | refine za4 rfl ?_ | refine za2 ?_ | refine za7 ?_ | refine zbs rfl ?_ | refine zbu rfl rfl ?_ | refine zc6 rfl ?_ | refine zad rfl ?_ | refine zam rfl rfl ?_ | refine zar rfl rfl rfl rfl ?_ | refine zak rfl rfl rfl rfl rfl rfl rfl ?_ | refine za5 rfl ?_ | refine zal rfl rfl rfl ?_ | refine za1 rfl rfl rfl ?_ | refine zag rfl rfl rfl rfl ?_ | refine zau ?_ | refine zah rfl rfl ?_ | refine zaa rfl rfl ?_ | refine zc2 rfl rfl ?_ | refine zbh rfl rfl ?_ | refine zb0 rfl rfl ?_ | refine zao rfl rfl ?_ | refine zbd rfl rfl ?_ | refine zaf rfl rfl rfl ?_ | refine zax rfl rfl ?_ | refine zan rfl rfl rfl rfl ?_ | refine za9 rfl rfl rfl rfl ?_ | refine zaq rfl rfl rfl rfl ?_ | refine zb9 rfl rfl ?_ | refine zb6 rfl rfl ?_ | refine zae rfl rfl ?_ | refine zba ?_ | refine zas env0_ok rfl rfl rfl ?_ | refine zav (op := .add) rfl rfl rfl ?_ | refine zav (op := .sub) rfl rfl rfl ?_ | refine zb8 rfl rfl rfl ?_ | refine zb7 rfl rfl rfl ?_ | refine zb2 rfl rfl rfl ?_ | refine zb1 rfl rfl rfl ?_ | refine zb3 rfl rfl (by omega) (by assumption) rfl ?_ | refine za1 rfl rfl (decide_eq_true ⟨by omega, by omega⟩) ?_ | refine zay rfl rfl (by omega) (by omega) ?_ | refine zap rfl rfl rfl ?_ | refine zbc rfl ?_ | refine zbb rfl ?_)
  refine zbm rfl rfl rfl (fun h1 => ?_) fun h1 => ?_
  ·have h1 : ¬ op = op2 := by simpa using h1
   rw [show (op == op2) = false from beq_eq_false_iff_ne.2 h1]
   repeat (first | refine zai ?_ | refine za0 rfl ?_ | refine zab ?_ | refine zac ?_ | refine zbg ?_ | refine zaj ?_ | refine zat ?_ | refine zbl rfl ?_ | refine zbo rfl ?_ | refine zb5 ?_ | refine zaz ?_ | refine zb4 ?_ | refine za6 ?_ | refine za4 rfl ?_ | refine za2 ?_ | refine za7 ?_ | refine zbs rfl ?_ | refine zbu rfl rfl ?_ | refine zc6 rfl ?_ | refine zad rfl ?_ | refine zam rfl rfl ?_ | refine zar rfl rfl rfl rfl ?_ | refine zak rfl rfl rfl rfl rfl rfl rfl ?_ | refine za5 rfl ?_ | refine zal rfl rfl rfl ?_ | refine za1 rfl rfl rfl ?_ | refine zag rfl rfl rfl rfl ?_ | refine zau ?_ | refine zah rfl rfl ?_ | refine zaa rfl rfl ?_ | refine zc2 rfl rfl ?_ | refine zbh rfl rfl ?_ | refine zb0 rfl rfl ?_ | refine zao rfl rfl ?_ | refine zbd rfl rfl ?_ | refine zaf rfl rfl rfl ?_ | refine zax rfl rfl ?_ | refine zan rfl rfl rfl rfl ?_ | refine za9 rfl rfl rfl rfl ?_ | refine zaq rfl rfl rfl rfl ?_ | refine zb9 rfl rfl ?_ | refine zb6 rfl rfl ?_ | refine zae rfl rfl ?_ | refine zba ?_ | refine zas env0_ok rfl rfl rfl ?_ | refine zav (op := .add) rfl rfl rfl ?_ | refine zav (op := .sub) rfl rfl rfl ?_ | refine zb8 rfl rfl rfl ?_ | refine zb7 rfl rfl rfl ?_ | refine zb2 rfl rfl rfl ?_ | refine zb1 rfl rfl rfl ?_ | refine zb3 rfl rfl (by omega) (by assumption) rfl ?_ | refine za1 rfl rfl (decide_eq_true ⟨by omega, by omega⟩) ?_ | refine zay rfl rfl (by omega) (by omega) ?_ | refine zap rfl rfl rfl ?_ | refine zbc rfl ?_ | refine zbb rfl ?_)
   exact zbe ⟨.inr rfl, _, rfl, rfl⟩
  have h1 : op = op2 := by simpa using h1
  rw [show (op == op2) = true from beq_iff_eq.2 h1, Bool.true_and]
  repeat (first | refine zai ?_ | refine za0 rfl ?_ | refine zab ?_ | refine zac ?_ | refine zbg ?_ | refine zaj ?_ | refine zat ?_ | refine zbl rfl ?_ | refine zbo rfl ?_ | refine zb5 ?_ | refine zaz ?_ | refine zb4 ?_ | refine za6 ?_ | refine za4 rfl ?_ | refine za2 ?_ | refine za7 ?_ | refine zbs rfl ?_ | refine zbu rfl rfl ?_ | refine zc6 rfl ?_ | refine zad rfl ?_ | refine zam rfl rfl ?_ | refine zar rfl rfl rfl rfl ?_ | refine zak rfl rfl rfl rfl rfl rfl rfl ?_ | refine za5 rfl ?_ | refine zal rfl rfl rfl ?_ | refine za1 rfl rfl rfl ?_ | refine zag rfl rfl rfl rfl ?_ | refine zau ?_ | refine zah rfl rfl ?_ | refine zaa rfl rfl ?_ | refine zc2 rfl rfl ?_ | refine zbh rfl rfl ?_ | refine zb0 rfl rfl ?_ | refine zao rfl rfl ?_ | refine zbd rfl rfl ?_ | refine zaf rfl rfl rfl ?_ | refine zax rfl rfl ?_ | refine zan rfl rfl rfl rfl ?_ | refine za9 rfl rfl rfl rfl ?_ | refine zaq rfl rfl rfl rfl ?_ | refine zb9 rfl rfl ?_ | refine zb6 rfl rfl ?_ | refine zae rfl rfl ?_ | refine zba ?_ | refine zas env0_ok rfl rfl rfl ?_ | refine zav (op := .add) rfl rfl rfl ?_ | refine zav (op := .sub) rfl rfl rfl ?_ | refine zb8 rfl rfl rfl ?_ | refine zb7 rfl rfl rfl ?_ | refine zb2 rfl rfl rfl ?_ | refine zb1 rfl rfl rfl ?_ | refine zb3 rfl rfl (by omega) (by assumption) rfl ?_ | refine za1 rfl rfl (decide_eq_true ⟨by omega, by omega⟩) ?_ | refine zay rfl rfl (by omega) (by omega) ?_ | refine zap rfl rfl rfl ?_ | refine zbc rfl ?_ | refine zbb rfl ?_)
  refine zbm rfl rfl rfl (fun h2 => ?_) fun h2 => ?_
  ·have h2 : ¬ ix = ix2 := by simpa using h2
   rw [show (ix == ix2) = false from beq_eq_false_iff_ne.2 h2]
   repeat (first | refine zai ?_ | refine za0 rfl ?_ | refine zab ?_ | refine zac ?_ | refine zbg ?_ | refine zaj ?_ | refine zat ?_ | refine zbl rfl ?_ | refine zbo rfl ?_ | refine zb5 ?_ | refine zaz ?_ | refine zb4 ?_ | refine za6 ?_ | refine za4 rfl ?_ | refine za2 ?_ | refine za7 ?_ | refine zbs rfl ?_ | refine zbu rfl rfl ?_ | refine zc6 rfl ?_ | refine zad rfl ?_ | refine zam rfl rfl ?_ | refine zar rfl rfl rfl rfl ?_ | refine zak rfl rfl rfl rfl rfl rfl rfl ?_ | refine za5 rfl ?_ | refine zal rfl rfl rfl ?_ | refine za1 rfl rfl rfl ?_ | refine zag rfl rfl rfl rfl ?_ | refine zau ?_ | refine zah rfl rfl ?_ | refine zaa rfl rfl ?_ | refine zc2 rfl rfl ?_ | refine zbh rfl rfl ?_ | refine zb0 rfl rfl ?_ | refine zao rfl rfl ?_ | refine zbd rfl rfl ?_ | refine zaf rfl rfl rfl ?_ | refine zax rfl rfl ?_ | refine zan rfl rfl rfl rfl ?_ | refine za9 rfl rfl rfl rfl ?_ | refine zaq rfl rfl rfl rfl ?_ | refine zb9 rfl rfl ?_ | refine zb6 rfl rfl ?_ | refine zae rfl rfl ?_ | refine zba ?_ | refine zas env0_ok rfl rfl rfl ?_ | refine zav (op := .add) rfl rfl rfl ?_ | refine zav (op := .sub) rfl rfl rfl ?_ | refine zb8 rfl rfl rfl ?_ | refine zb7 rfl rfl rfl ?_ | refine zb2 rfl rfl rfl ?_ | refine zb1 rfl rfl rfl ?_ | refine zb3 rfl rfl (by omega) (by assumption) rfl ?_ | refine za1 rfl rfl (decide_eq_true ⟨by omega, by omega⟩) ?_ | refine zay rfl rfl (by omega) (by omega) ?_ | refine zap rfl rfl rfl ?_ | refine zbc rfl ?_ | refine zbb rfl ?_)
   exact zbe ⟨.inr rfl, _, rfl, rfl⟩
  have h2 : ix = ix2 := by simpa using h2
  rw [show (ix == ix2) = true from beq_iff_eq.2 h2, Bool.true_and]
  repeat (first | refine zai ?_ | refine za0 rfl ?_ | refine zab ?_ | refine zac ?_ | refine zbg ?_ | refine zaj ?_ | refine zat ?_ | refine zbl rfl ?_ | refine zbo rfl ?_ | refine zb5 ?_ | refine zaz ?_ | refine zb4 ?_ | refine za6 ?_ | refine za4 rfl ?_ | refine za2 ?_ | refine za7 ?_ | refine zbs rfl ?_ | refine zbu rfl rfl ?_ | refine zc6 rfl ?_ | refine zad rfl ?_ | refine zam rfl rfl ?_ | refine zar rfl rfl rfl rfl ?_ | refine zak rfl rfl rfl rfl rfl rfl rfl ?_ | refine za5 rfl ?_ | refine zal rfl rfl rfl ?_ | refine za1 rfl rfl rfl ?_ | refine zag rfl rfl rfl rfl ?_ | refine zau ?_ | refine zah rfl rfl ?_ | refine zaa rfl rfl ?_ | refine zc2 rfl rfl ?_ | refine zbh rfl rfl ?_ | refine zb0 rfl rfl ?_ | refine zao rfl rfl ?_ | refine zbd rfl rfl ?_ | refine zaf rfl rfl rfl ?_ | refine zax rfl rfl ?_ | refine zan rfl rfl rfl rfl ?_ | refine za9 rfl rfl rfl rfl ?_ | refine zaq rfl rfl rfl rfl ?_ | refine zb9 rfl rfl ?_ | refine zb6 rfl rfl ?_ | refine zae rfl rfl ?_ | refine zba ?_ | refine zas env0_ok rfl rfl rfl ?_ | refine zav (op := .add) rfl rfl rfl ?_ | refine zav (op := .sub) rfl rfl rfl ?_ | refine zb8 rfl rfl rfl ?_ | refine zb7 rfl rfl rfl ?_ | refine zb2 rfl rfl rfl ?_ | refine zb1 rfl rfl rfl ?_ | refine zb3 rfl rfl (by omega) (by assumption) rfl ?_ | refine za1 rfl rfl (decide_eq_true ⟨by omega, by omega⟩) ?_ | refine zay rfl rfl (by omega) (by omega) ?_ | refine zap rfl rfl rfl ?_ | refine zbc rfl ?_ | refine zbb rfl ?_)
  refine zbm rfl rfl rfl (fun h3 => ?_) fun h3 => ?_
  ·have h3 : ¬ (((cXs args).length : Nat) : Int) = (((cXs args2).length : Nat) : Int) := by simpa using h3
   rw [zbi, zbi] at h3
   rw [zk2 (fun e => h3 (by rw [e]))]
   repeat (first | refine zai ?_ | refine za0 rfl ?_ | refine zab ?_ | refine zac ?_ | refine zbg ?_ | refine zaj ?_ | refine zat ?_ | refine zbl rfl ?_ | refine zbo rfl ?_ | refine zb5 ?_ | refine zaz ?_ | refine zb4 ?_ | refine za6 ?_ | refine za4 rfl ?_ | refine za2 ?_ | refine za7 ?_ | refine zbs rfl ?_ | refine zbu rfl rfl ?_ | refine zc6 rfl ?_ | refine zad rfl ?_ | refine zam rfl rfl ?_ | refine zar rfl rfl rfl rfl ?_ | refine zak rfl rfl rfl rfl rfl rfl rfl ?_ | refine za5 rfl ?_ | refine zal rfl rfl rfl ?_ | refine za1 rfl rfl rfl ?_ | refine zag rfl rfl rfl rfl ?_ | refine zau ?_ | refine zah rfl rfl ?_ | refine zaa rfl rfl ?_ | refine zc2 rfl rfl ?_ | refine zbh rfl rfl ?_ | refine zb0 rfl rfl ?_ | refine zao rfl rfl ?_ | refine zbd rfl rfl ?_ | refine zaf rfl rfl rfl ?_ | refine zax rfl rfl ?_ | refine zan rfl rfl rfl rfl ?_ | refine za9 rfl rfl rfl rfl ?_ | refine zaq rfl rfl rfl rfl ?_ | refine zb9 rfl rfl ?_ | refine zb6 rfl rfl ?_ | refine zae rfl rfl ?_ | refine zba ?_ | refine zas env0_ok rfl rfl rfl ?_ | refine zav (op := .add) rfl rfl rfl ?_ | refine zav (op := .sub) rfl rfl rfl ?_ | refine zb8 rfl rfl rfl ?_ | refine zb7 rfl rfl rfl ?_ | refine zb2 rfl rfl rfl ?_ | refine zb1 rfl rfl rfl ?_ | refine zb3 rfl rfl (by omega) (by assumption) rfl ?_ | refine za1 rfl rfl (decide_eq_true ⟨by omega, by omega⟩) ?_ | refine zay rfl rfl (by omega) (by omega) ?_ | refine zap rfl rfl rfl ?_ | refine zbc rfl ?_ | refine zbb rfl ?_)
   exact zbe ⟨.inr rfl, _, rfl, rfl⟩
  have h3 : args.length = args2.length := by
   have h3 : (((cXs args).length : Nat) : Int) = (((cXs args2).length : Nat) : Int) := by simpa using h3
   rw [zbi, zbi] at h3
   omega
  repeat (first | refine zai ?_ | refine za0 rfl ?_ | refine zab ?_ | refine zac ?_ | refine zbg ?_ | refine zaj ?_ | refine zat ?_ | refine zbl rfl ?_ | refine zbo rfl ?_ | refine zb5 ?_ | refine zaz ?_ | refine zb4 ?_ | refine za6 ?_ | refine za4 rfl ?_ | refine za2 ?_ | refine za7 ?_ | refine zbs rfl ?_ | refine zbu rfl rfl ?_ | refine zc6 rfl ?_ | refine zad rfl ?_ | refine zam rfl rfl ?_ | refine zar rfl rfl rfl rfl ?_ | refine zak rfl rfl rfl rfl rfl rfl rfl ?_ | refine za5 rfl ?_ | refine zal rfl rfl rfl ?_ | refine za1 rfl rfl rfl ?_ | refine zag rfl rfl rfl rfl ?_ | refine zau ?_ | refine zah rfl rfl ?_ | refine zaa rfl rfl ?_ | refine zc2 rfl rfl ?_ | refine zbh rfl rfl ?_ | refine zb0 rfl rfl ?_ | refine zao rfl rfl ?_ | refine zbd rfl rfl ?_ | refine zaf rfl rfl rfl ?_ | refine zax rfl rfl ?_ | refine zan rfl rfl rfl rfl ?_ | refine za9 rfl rfl rfl rfl ?_ | refine zaq rfl rfl rfl rfl ?_ | refine zb9 rfl rfl ?_ | refine zb6 rfl rfl ?_ | refine zae rfl rfl ?_ | refine zba ?_ | refine zas env0_ok rfl rfl rfl ?_ | refine zav (op := .add) rfl rfl rfl ?_ | refine zav (op := .sub) rfl rfl rfl ?_ | refine zb8 rfl rfl rfl ?_ | refine zb7 rfl rfl rfl ?_ | refine zb2 rfl rfl rfl ?_ | refine zb1 rfl rfl rfl ?_ | refine zb3 rfl rfl (by omega) (by assumption) rfl ?_ | refine za1 rfl rfl (decide_eq_true ⟨by omega, by omega⟩) ?_ | refine zay rfl rfl (by omega) (by omega) ?_ | refine zap rfl rfl rfl ?_ | refine zbc rfl ?_ | refine zbb rfl ?_)
  refine ze5 (fun mm S => ∃ i, mm = args.length - i ∧ i ≤ args.length ∧ zla args args2 = zla (args.drop i) (args2.drop i) ∧
    S = st 46 [(2, .vptr (cX (.nd op ix args))), (3, .vptr (cX (.nd op2 ix2 args2))), (5, .int .i64 (i : Nat))] [] 0 1) args.length
   (zbq (.cons rfl (.cons rfl (.cons rfl .nil)))) ⟨0, rfl, Nat.zero_le _, rfl, rfl⟩ ?_
  rintro mm S ⟨i, rfl, hi, hall, rfl⟩
  unfold b49_0
  repeat (first | refine zai ?_ | refine za0 rfl ?_ | refine zab ?_ | refine zac ?_ | refine zbg ?_ | refine zaj ?_ | refine zat ?_ | refine zbl rfl ?_ | refine zbo rfl ?_ | refine zb5 ?_ | refine zaz ?_ | refine zb4 ?_ | refine za6 ?_ | refine za4 rfl ?_ | refine za2 ?_ | refine za7 ?_ | refine zbs rfl ?_ | refine zbu rfl rfl ?_ | refine zc6 rfl ?_ | refine zad rfl ?_ | refine zam rfl rfl ?_ | refine zar rfl rfl rfl rfl ?_ | refine zak rfl rfl rfl rfl rfl rfl rfl ?_ | refine za5 rfl ?_ | refine zal rfl rfl rfl ?_ | refine za1 rfl rfl rfl ?_ | refine zag rfl rfl rfl rfl ?_ | refine zau ?_ | refine zah rfl rfl ?_ | refine zaa rfl rfl ?_ | refine zc2 rfl rfl ?_ | refine zbh rfl rfl ?_ | refine zb0 rfl rfl ?_ | refine zao rfl rfl ?_ | refine zbd rfl rfl ?_ | refine zaf rfl rfl rfl ?_ | refine zax rfl rfl ?_ | refine zan rfl rfl rfl rfl ?_ | refine za9 rfl rfl rfl rfl ?_ | refine zaq rfl rfl rfl rfl ?_ | refine zb9 rfl rfl ?_ | refine zb6 rfl rfl ?_ | refine zae rfl rfl ?_ | refine zba ?_ | refine zas env0_ok rfl rfl rfl ?_ | refine zav (op := .add) rfl rfl rfl ?_ | refine zav (op := .sub) rfl rfl rfl ?_ | refine zb8 rfl rfl rfl ?_ | refine zb7 rfl rfl rfl ?_ | refine zb2 rfl rfl rfl ?_ | refine zb1 rfl rfl rfl ?_ | refine zb3 rfl rfl (by omega) (by assumption) rfl ?_ | refine za1 rfl rfl (decide_eq_true ⟨by omega, by omega⟩) ?_ | refine zay rfl rfl (by omega) (by omega) ?_ | refine zap rfl rfl rfl ?_ | refine zbc rfl ?_ | refine zbb rfl ?_)
  refine zbm rfl rfl rfl (fun h4 => ?_) fun h4 => ?_
  ·have hlt : i < args.length := by
    have := of_decide_eq_true h4
    rw [zbi] at this
    omega
   have hlt2 : i < args2.length := by omega
   rw [zlb hlt hlt2] at hall
   have hge := zd8 hlt
   have hge2 := zd8 hlt2
   have hmem : args[i] ∈ args := List.getElem_mem hlt
   have py := ih args[i] args2[i] (by have := zgd (op := op) (ix := ix) hmem; omega) (hsl _ hmem)
   generalize args[i] = y at *
   generalize args2[i] = y2 at *
   generalize eqX y y2 = b at *
   obtain ⟨yo, yi, ya⟩ := y
   obtain ⟨zo, zi, za⟩ := y2
   repeat (first | refine zai ?_ | refine za0 rfl ?_ | refine zab ?_ | refine zac ?_ | refine zbg ?_ | refine zaj ?_ | refine zat ?_ | refine zbl rfl ?_ | refine zbo rfl ?_ | refine zb5 ?_ | refine zaz ?_ | refine zb4 ?_ | refine za6 ?_ | refine za4 rfl ?_ | refine za2 ?_ | refine za7 ?_ | refine zbs rfl ?_ | refine zbu rfl rfl ?_ | refine zc6 rfl ?_ | refine zad rfl ?_ | refine zam rfl rfl ?_ | refine zar rfl rfl rfl rfl ?_ | refine zak rfl rfl rfl rfl rfl rfl rfl ?_ | refine za5 rfl ?_ | refine zal rfl rfl rfl ?_ | refine za1 rfl rfl rfl ?_ | refine zag rfl rfl rfl rfl ?_ | refine zau ?_ | refine zah rfl rfl ?_ | refine zaa rfl rfl ?_ | refine zc2 rfl rfl ?_ | refine zbh rfl rfl ?_ | refine zb0 rfl rfl ?_ | refine zao rfl rfl ?_ | refine zbd rfl rfl ?_ | refine zaf rfl rfl rfl ?_ | refine zax rfl rfl ?_ | refine zan rfl rfl rfl rfl ?_ | refine za9 rfl rfl rfl rfl ?_ | refine zaq rfl rfl rfl rfl ?_ | refine zb9 rfl rfl ?_ | refine zb6 rfl rfl ?_ | refine zae rfl rfl ?_ | refine zba ?_ | refine zav (op := .add) rfl rfl rfl ?_ | refine zav (op := .sub) rfl rfl rfl ?_ | refine zb8 rfl rfl rfl ?_ | refine zb7 rfl rfl rfl ?_ | refine zb2 rfl rfl rfl ?_ | refine zb1 rfl rfl rfl ?_ | refine zb3 rfl rfl (by omega) (by assumption) rfl ?_ | refine za1 rfl rfl (decide_eq_true ⟨by omega, by omega⟩) ?_ | refine zay rfl rfl (by omega) (by omega) ?_ | refine zap rfl rfl rfl ?_ | refine zbc rfl ?_ | refine zbb rfl ?_)
   refine zf5 env0_ok [(49, [.agg (cX (.nd yo yi ya)), .agg (cX (.nd zo zi za))], .bool b)] (fun x hx => by
    obtain rfl := List.mem_singleton.1 hx
    exact py) (fun f => Nat.beq f 49) rfl rfl rfl ?_
   repeat (first | refine zai ?_ | refine za0 rfl ?_ | refine zab ?_ | refine zac ?_ | refine zbg ?_ | refine zaj ?_ | refine zat ?_ | refine zbl rfl ?_ | refine zbo rfl ?_ | refine zb5 ?_ | refine zaz ?_ | refine zb4 ?_ | refine za6 ?_ | refine za4 rfl ?_ | refine za2 ?_ | refine za7 ?_ | refine zbs rfl ?_ | refine zbu rfl rfl ?_ | refine zc6 rfl ?_ | refine zad rfl ?_ | refine zam rfl rfl ?_ | refine zar rfl rfl rfl rfl ?_ | refine zak rfl rfl rfl rfl rfl rfl rfl ?_ | refine za5 rfl ?_ | refine zal rfl rfl rfl ?_ | refine za1 rfl rfl rfl ?_ | refine zag rfl rfl rfl rfl ?_ | refine zau ?_ | refine zah rfl rfl ?_ | refine zaa rfl rfl ?_ | refine zc2 rfl rfl ?_ | refine zbh rfl rfl ?_ | refine zb0 rfl rfl ?_ | refine zao rfl rfl ?_ | refine zbd rfl rfl ?_ | refine zaf rfl rfl rfl ?_ | refine zax rfl rfl ?_ | refine zan rfl rfl rfl rfl ?_ | refine za9 rfl rfl rfl rfl ?_ | refine zaq rfl rfl rfl rfl ?_ | refine zb9 rfl rfl ?_ | refine zb6 rfl rfl ?_ | refine zae rfl rfl ?_ | refine zba ?_ | refine zas env0_ok rfl rfl rfl ?_ | refine zav (op := .add) rfl rfl rfl ?_ | refine zav (op := .sub) rfl rfl rfl ?_ | refine zb8 rfl rfl rfl ?_ | refine zb7 rfl rfl rfl ?_ | refine zb2 rfl rfl rfl ?_ | refine zb1 rfl rfl rfl ?_ | refine zb3 rfl rfl (by omega) (by assumption) rfl ?_ | refine za1 rfl rfl (decide_eq_true ⟨by omega, by omega⟩) ?_ | refine zay rfl rfl (by omega) (by omega) ?_ | refine zap rfl rfl rfl ?_ | refine zbc rfl ?_ | refine zbb rfl ?_)
   refine zbn rfl rfl zcc (fun h => Bool.noConfusion (show false = true from h)) ?_
   cases b with
   | false =>
    rw [Bool.false_and] at hall
    repeat (first | refine zai ?_ | refine za0 rfl ?_ | refine zab ?_ | refine zac ?_ | refine zbg ?_ | refine zaj ?_ | refine zat ?_ | refine zbl rfl ?_ | refine zbo rfl ?_ | refine zb5 ?_ | refine zaz ?_ | refine zb4 ?_ | refine za6 ?_ | refine za4 rfl ?_ | refine za2 ?_ | refine za7 ?_ | refine zbs rfl ?_ | refine zbu rfl rfl ?_ | refine zc6 rfl ?_ | refine zad rfl ?_ | refine zam rfl rfl ?_ | refine zar rfl rfl rfl rfl ?_ | refine zak rfl rfl rfl rfl rfl rfl rfl ?_ | refine za5 rfl ?_ | refine zal rfl rfl rfl ?_ | refine za1 rfl rfl rfl ?_ | refine zag rfl rfl rfl rfl ?_ | refine zau ?_ | refine zah rfl rfl ?_ | refine zaa rfl rfl ?_ | refine zc2 rfl rfl ?_ | refine zbh rfl rfl ?_ | refine zb0 rfl rfl ?_ | refine zao rfl rfl ?_ | refine zbd rfl rfl ?_ | refine zaf rfl rfl rfl ?_ | refine zax rfl rfl ?_ | refine zan rfl rfl rfl rfl ?_ | refine za9 rfl rfl rfl rfl ?_ | refine zaq rfl rfl rfl rfl ?_ | refine zb9 rfl rfl ?_ | refine zb6 rfl rfl ?_ | refine zae rfl rfl ?_ | refine zba ?_ | refine zas env0_ok rfl rfl rfl ?_ | refine zav (op := .add) rfl rfl rfl ?_ | refine zav (op := .sub) rfl rfl rfl ?_ | refine zb8 rfl rfl rfl ?_ | refine zb7 rfl rfl rfl ?_ | refine zb2 rfl rfl rfl ?_ | refine zb1 rfl rfl rfl ?_ | refine zb3 rfl rfl (by omega) (by assumption) rfl ?_ | refine za1 rfl rfl (decide_eq_true ⟨by omega, by omega⟩) ?_ | refine zay rfl rfl (by omega) (by omega) ?_ | refine zap rfl rfl rfl ?_ | refine zbc rfl ?_ | refine zbb rfl ?_)
    exact zbe ⟨.inr rfl, _, rfl, by rw [hall]; rfl⟩
   | true =>
    rw [Bool.true_and] at hall
    repeat (first | refine zai ?_ | refine za0 rfl ?_ | refine zab ?_ | refine zac ?_ | refine zbg ?_ | refine zaj ?_ | refine zat ?_ | refine zbl rfl ?_ | refine zbo rfl ?_ | refine zb5 ?_ | refine zaz ?_ | refine zb4 ?_ | refine za6 ?_ | refine za4 rfl ?_ | refine za2 ?_ | refine za7 ?_ | refine zbs rfl ?_ | refine zbu rfl rfl ?_ | refine zc6 rfl ?_ | refine zad rfl ?_ | refine zam rfl rfl ?_ | refine zar rfl rfl rfl rfl ?_ | refine zak rfl rfl rfl rfl rfl rfl rfl ?_ | refine za5 rfl ?_ | refine zal rfl rfl rfl ?_ | refine za1 rfl rfl rfl ?_ | refine zag rfl rfl rfl rfl ?_ | refine zau ?_ | refine zah rfl rfl ?_ | refine zaa rfl rfl ?_ | refine zc2 rfl rfl ?_ | refine zbh rfl rfl ?_ | refine zb0 rfl rfl ?_ | refine zao rfl rfl ?_ | refine zbd rfl rfl ?_ | refine zaf rfl rfl rfl ?_ | refine zax rfl rfl ?_ | refine zan rfl rfl rfl rfl ?_ | refine za9 rfl rfl rfl rfl ?_ | refine zaq rfl rfl rfl rfl ?_ | refine zb9 rfl rfl ?_ | refine zb6 rfl rfl ?_ | refine zae rfl rfl ?_ | refine zba ?_ | refine zas env0_ok rfl rfl rfl ?_ | refine zav (op := .add) rfl rfl rfl ?_ | refine zav (op := .sub) rfl rfl rfl ?_ | refine zb8 rfl rfl rfl ?_ | refine zb7 rfl rfl rfl ?_ | refine zb2 rfl rfl rfl ?_ | refine zb1 rfl rfl rfl ?_ | refine zb3 rfl rfl (by omega) (by assumption) rfl ?_ | refine za1 rfl rfl (decide_eq_true ⟨by omega, by omega⟩) ?_ | refine zay rfl rfl (by omega) (by omega) ?_ | refine zap rfl rfl rfl ?_ | refine zbc rfl ?_ | refine zbb rfl ?_)
    rw [zc8 i (by omega)]
    exact zcs (show args.length - (i + 1) < args.length - i by omega) (zbq (.cons rfl (.cons rfl (.cons rfl .nil)))) ⟨i + 1, rfl, hlt, hall, rfl⟩
  ·have hi2 : i = args.length := by
    have := of_decide_eq_false h4
    rw [zbi] at this
    omega
   rw [List.drop_of_length_le (by omega), List.drop_of_length_le (by omega), zla] at hall
   repeat (first | refine zai ?_ | refine za0 rfl ?_ | refine zab ?_ | refine zac ?_ | refine zbg ?_ | refine zaj ?_ | refine zat ?_ | refine zbl rfl ?_ | refine zbo rfl ?_ | refine zb5 ?_ | refine zaz ?_ | refine zb4 ?_ | refine za6 ?_ | refine za4 rfl ?_ | refine za2 ?_ | refine za7 ?_ | refine zbs rfl ?_ | refine zbu rfl rfl ?_ | refine zc6 rfl ?_ | refine zad rfl ?_ | refine zam rfl rfl ?_ | refine zar rfl rfl rfl rfl ?_ | refine zak rfl rfl rfl rfl rfl rfl rfl ?_ | refine za5 rfl ?_ | refine zal rfl rfl rfl ?_ | refine za1 rfl rfl rfl ?_ | refine zag rfl rfl rfl rfl ?_ | refine zau ?_ | refine zah rfl rfl ?_ | refine zaa rfl rfl ?_ | refine zc2 rfl rfl ?_ | refine zbh rfl rfl ?_ | refine zb0 rfl rfl ?_ | refine zao rfl rfl ?_ | refine zbd rfl rfl ?_ | refine zaf rfl rfl rfl ?_ | refine zax rfl rfl ?_ | refine zan rfl rfl rfl rfl ?_ | refine za9 rfl rfl rfl rfl ?_ | refine zaq rfl rfl rfl rfl ?_ | refine zb9 rfl rfl ?_ | refine zb6 rfl rfl ?_ | refine zae rfl rfl ?_ | refine zba ?_ | refine zas env0_ok rfl rfl rfl ?_ | refine zav (op := .add) rfl rfl rfl ?_ | refine zav (op := .sub) rfl rfl rfl ?_ | refine zb8 rfl rfl rfl ?_ | refine zb7 rfl rfl rfl ?_ | refine zb2 rfl rfl rfl ?_ | refine zb1 rfl rfl rfl ?_ | refine zb3 rfl rfl (by omega) (by assumption) rfl ?_ | refine za1 rfl rfl (decide_eq_true ⟨by omega, by omega⟩) ?_ | refine zay rfl rfl (by omega) (by omega) ?_ | refine zap rfl rfl rfl ?_ | refine zbc rfl ?_ | refine zbb rfl ?_)
   refine zfs ?_
   repeat (first | refine zai ?_ | refine za0 rfl ?_ | refine zab ?_ | refine zac ?_ | refine zbg ?_ | refine zaj ?_ | refine zat ?_ | refine zbl rfl ?_ | refine zbo rfl ?_ | refine zb5 ?_ | refine zaz ?_ | refine zb4 ?_ | refine za6 ?_ | refine za4 rfl ?_ | refine za2 ?_ | refine za7 ?_ | refine zbs rfl ?_ | refine zbu rfl rfl ?_ | refine zc6 rfl ?_ | refine zad rfl ?_ | refine zam rfl rfl ?_ | refine zar rfl rfl rfl rfl ?_ | refine zak rfl rfl rfl rfl rfl rfl rfl ?_ | refine za5 rfl ?_ | refine zal rfl rfl rfl ?_ | refine za1 rfl rfl rfl ?_ | refine zag rfl rfl rfl rfl ?_ | refine zau ?_ | refine zah rfl rfl ?_ | refine zaa rfl rfl ?_ | refine zc2 rfl rfl ?_ | refine zbh rfl rfl ?_ | refine zb0 rfl rfl ?_ | refine zao rfl rfl ?_ | refine zbd rfl rfl ?_ | refine zaf rfl rfl rfl ?_ | refine zax rfl rfl ?_ | refine zan rfl rfl rfl rfl ?_ | refine za9 rfl rfl rfl rfl ?_ | refine zaq rfl rfl rfl rfl ?_ | refine zb9 rfl rfl ?_ | refine zb6 rfl rfl ?_ | refine zae rfl rfl ?_ | refine zba ?_ | refine zas env0_ok rfl rfl rfl ?_ | refine zav (op := .add) rfl rfl rfl ?_ | refine zav (op := .sub) rfl rfl rfl ?_ | refine zb8 rfl rfl rfl ?_ | refine zb7 rfl rfl rfl ?_ | refine zb2 rfl rfl rfl ?_ | refine zb1 rfl rfl rfl ?_ | refine zb3 rfl rfl (by omega) (by assumption) rfl ?_ | refine za1 rfl rfl (decide_eq_true ⟨by omega, by omega⟩) ?_ | refine zay rfl rfl (by omega) (by omega) ?_ | refine zap rfl rfl rfl ?_ | refine zbc rfl ?_ | refine zbb rfl ?_)
   exact zbe ⟨.inr rfl, _, rfl, by rw [hall]; rfl⟩
end Go.Proofs.Ytmnkjofaodbokaa
namespace Go.Proofs.Ytmnkjofaodbokaa
open Go Go.Am
def b83_0 : IC := .seq (.region [⟨(some 18), .bin .lss (.t 17) (.t 16), none⟩] none)
 (.seq (.cond (.t 18) (.skip)
 (.exit 0))
 (.seq (.block 1 (.seq (.region [⟨(some 19), .mov (.t 17), none⟩,
  ⟨(some 20), .idxs 3 (.t 15) (.t 17), none⟩,
  ⟨(some 21), .load (some 3) (.t 20), none⟩,
  ⟨(some 8), .alloc [.int .i64 0, .int .i64 0, .nils], none⟩,
  ⟨(some 7), .mov (.t 19), none⟩,
  ⟨none, .store 3 (.t 8) (.t 21), none⟩] none)
 (.seq (.region [⟨(some 22), .mov (.t 1), none⟩,
  ⟨(some 23), .mov (.t 7), none⟩,
  ⟨(some 24), .idxs 3 (.t 22) (.t 23), none⟩,
  ⟨(some 25), .load (some 3) (.t 24), none⟩,
  ⟨(some 9), .alloc [.int .i64 0, .int .i64 0, .nils], none⟩,
  ⟨none, .store 3 (.t 9) (.t 25), none⟩] none)
 (.seq (.region [⟨(some 26), .mov (.t 2), none⟩,
  ⟨(some 27), .load (some 3) (.t 8), none⟩,
  ⟨(some 28), .load (some 3) (.t 9), none⟩,
  ⟨(some 29), .call (.t 26) [(.t 27), (.t 28)], none⟩,
  ⟨(some 30), .un .not (.t 29), none⟩] none)
 (.cond (.t 30) (.seq (.region [⟨(some 6), .mov (.c (.bool false)), none⟩] none)
 (.ret))
 (.skip))))))
 (.region [⟨(some 31), .bin .add (.t 17) (.c (.int .i64 1)), none⟩,
  ⟨(some 17), .mov (.t 31), none⟩] none)))
-- slices.EqualFunc[[]pneumatic/api.Expr,[]pneumatic/api.Expr,pneumatic/api.Expr,pneumatic/api.Expr]
def ic83 : IC := .seq (.region [⟨(some 6), .mov (.c (.bool false)), none⟩] none)
 (.seq (.seq (.region [⟨(some 10), .mov (.t 0), none⟩,
  ⟨(some 11), .len false (.t 10), none⟩,
  ⟨(some 12), .mov (.t 1), none⟩,
  ⟨(some 13), .len false (.t 12), none⟩,
  ⟨(some 14), .bin .neq (.t 11) (.t 13), none⟩] none)
 (.cond (.t 14) (.seq (.region [⟨(some 6), .mov (.c (.bool false)), none⟩] none)
 (.ret))
 (.skip)))
 (.seq (.seq (.region [⟨(some 15), .mov (.t 0), none⟩,
  ⟨(some 16), .len false (.t 15), none⟩,
  ⟨(some 17), .mov (.c (.int .i64 0)), none⟩] none)
 (.block 0 (.loop b83_0)))
 (.seq (.region [⟨(some 6), .mov (.c (.bool true)), none⟩] none)
 (.ret))))
theorem fn83 : env0.fn 83 = some ⟨32, ic83, [.t 6]⟩ := by kernel_rfl
-- pneumatic/boolexp.equal
def ic56 : IC := .seq (.region [⟨(some 2), .box (.t 0), none⟩,
  ⟨(some 3), .box (.t 1), none⟩,
  ⟨(some 4), .mov (.c (.bool false)), none⟩] none)
 (.seq (.region [⟨(some 5), .faddr 0 (.t 2), none⟩,
  ⟨(some 6), .load none (.t 5), none⟩,
  ⟨(some 7), .faddr 0 (.t 3), none⟩,
  ⟨(some 8), .load none (.t 7), none⟩,
  ⟨(some 9), .bin .eql (.t 6) (.t 8), none⟩,
  ⟨(some 10), .mov (.t 9), none⟩,
  ⟨(some 11), .faddr 1 (.t 2), some (10, true)⟩,
  ⟨(some 12), .load none (.t 11), some (10, true)⟩,
  ⟨(some 13), .faddr 1 (.t 3), some (10, true)⟩,
  ⟨(some 14), .load none (.t 13), some (10, true)⟩,
  ⟨(some 15), .bin .eql (.t 12) (.t 14), some (10, true)⟩,
  ⟨(some 16), .pick (.t 10) (.t 15) (.c (.bool false)), none⟩,
  ⟨(some 17), .mov (.t 16), none⟩,
  ⟨(some 18), .faddr 2 (.t 2), some (17, true)⟩,
  ⟨(some 19), .load none (.t 18), some (17, true)⟩,
  ⟨(some 20), .faddr 2 (.t 3), some (17, true)⟩,
  ⟨(some 21), .load none (.t 20), some (17, true)⟩,
  ⟨(some 22), .call (.c (.fn 83 [] [])) [(.t 19), (.t 21), (.c (.fn 56 [] []))], some (17, true)⟩,
  ⟨(some 23), .pick (.t 17) (.t 22) (.c (.bool false)), none⟩,
  ⟨(some 4), .mov (.t 23), none⟩] none)
 (.ret))
theorem fn56 : env0.fn 56 = some ⟨24, ic56, [.t 4]⟩ := by kernel_rfl
set_option maxHeartbeats 4000000 in
theorem equalf83 (a b : List Ex) (hl : a.length < 9223372036854775807) (hy : ∀ (i : Nat) (h : i < a.length) (k : i < b.length), PF Try.prog 56 [.agg (cX a[i]), .agg (cX b[i])] (.bool (eqX a[i] b[i]))) : PF Try.prog 83 [.vs (cXs a), .vs (cXs b), .fn 56 [] []] (.bool (zla a b)) := by
 refine zbx env0_ok fn83 [(0, .vs (cXs a)), (1, .vs (cXs b)), (2, .fn 56 [] [])] (by show 3 ≤ 32; decide) rfl fun w0 N0 => ?_
 unfold ic83
 repeat (first | refine zai ?_ | refine za0 rfl ?_ | refine zab ?_ | refine zac ?_ | refine zbg ?_ | refine zaj ?_ | refine zat ?_ | refine zbl rfl ?_ | refine zbo rfl ?_ | refine zb5 ?_ | refine zaz ?_ | refine zb4 ?_ | refine za6 ?_ | refine za4 rfl ?_ | refine za2 ?_ | refine za7 ?_ | refine zbs rfl ?_ | refine zbu rfl rfl ?_ | refine zc6 rfl ?_ | refine zad rfl ?_ | refine zam rfl rfl ?_ | refine zar rfl rfl rfl rfl ?_ | refine zak rfl rfl rfl rfl rfl rfl rfl ?_ | refine za5 rfl ?_ | refine zal rfl rfl rfl ?_ | refine za1 rfl rfl rfl ?_ | refine zag rfl rfl rfl rfl ?_ | refine zau ?_ | refine zah rfl rfl ?_ | refine zaa rfl rfl ?_ | refine zc2 rfl rfl ?_ | refine zbh rfl rfl ?_ | refine zb0 rfl rfl ?_ | refine zao rfl rfl ?_ | refine zbd rfl rfl ?_ | refine zaf rfl rfl rfl ?_ | refine zax rfl rfl ?_ | refine zan rfl rfl rfl rfl ?_ | refine za9 rfl rfl rfl rfl ?_ | refine zaq rfl rfl rfl rfl ?_ | refine zb9 rfl rfl ?_ | refine zb6 rfl rfl ?_ | refine zae rfl rfl ?_ | refine zba ?_ | refine zas env0_ok rfl rfl rfl ?_ | refine zav (op := .add) rfl rfl rfl ?_ | refine zav (op := .sub) rfl rfl rfl ?_ | refine zb8 rfl rfl rfl ?_ | refine zb7 rfl rfl rfl ?_ | refine zb2 rfl rfl rfl ?_ | refine zb1 rfl rfl rfl ?_ | refine zb3 rfl rfl (by omega) (by assumption) rfl ?_ | refine za1 rfl rfl (decide_eq_true ⟨by omega, by omega⟩) ?_ | refine zay rfl rfl (by omega) (by omega) ?_ | refine zap rfl rfl rfl ?_ | refine zbc rfl ?_ | refine zbb rfl ?_)
 refine zbm rfl rfl rfl (fun h3 => ?_) fun h3 => ?_
 ·have h3 : ¬ (((cXs a).length : Nat) : Int) = (((cXs b).length : Nat) : Int) := by simpa using h3
  rw [zbi, zbi] at h3
  rw [zk2 (fun e => h3 (by rw [e]))]
  repeat (first | refine zai ?_ | refine za0 rfl ?_ | refine zab ?_ | refine zac ?_ | refine zbg ?_ | refine zaj ?_ | refine zat ?_ | refine zbl rfl ?_ | refine zbo rfl ?_ | refine zb5 ?_ | refine zaz ?_ | refine zb4 ?_ | refine za6 ?_ | refine za4 rfl ?_ | refine za2 ?_ | refine za7 ?_ | refine zbs rfl ?_ | refine zbu rfl rfl ?_ | refine zc6 rfl ?_ | refine zad rfl ?_ | refine zam rfl rfl ?_ | refine zar rfl rfl rfl rfl ?_ | refine zak rfl rfl rfl rfl rfl rfl rfl ?_ | refine za5 rfl ?_ | refine zal rfl rfl rfl ?_ | refine za1 rfl rfl rfl ?_ | refine zag rfl rfl rfl rfl ?_ | refine zau ?_ | refine zah rfl rfl ?_ | refine zaa rfl rfl ?_ | refine zc2 rfl rfl ?_ | refine zbh rfl rfl ?_ | refine zb0 rfl rfl ?_ | refine zao rfl rfl ?_ | refine zbd rfl rfl ?_ | refine zaf rfl rfl rfl ?_ | refine zax rfl rfl ?_ | refine zan rfl rfl rfl rfl ?_ | refine za9 rfl rfl rfl rfl ?_ | refine zaq rfl rfl rfl rfl ?_ | refine zb9 rfl rfl ?_ | refine zb6 rfl rfl ?_ | refine zae rfl rfl ?_ | refine zba ?_ | refine zas env0_ok rfl rfl rfl ?_ | refine zav (op := .add) rfl rfl rfl ?_ | refine zav (op := .sub) rfl rfl rfl ?_ | refine zb8 rfl rfl rfl ?_ | refine zb7 rfl rfl rfl ?_ | refine zb2 rfl rfl rfl ?_ | refine zb1 rfl rfl rfl ?_ | refine zb3 rfl rfl (by omega) (by assumption) rfl ?_ | refine za1 rfl rfl (decide_eq_true ⟨by omega, by omega⟩) ?_ | refine zay rfl rfl (by omega) (by omega) ?_ | refine zap rfl rfl rfl ?_ | refine zbc rfl ?_ | refine zbb rfl ?_)
  exact zbe ⟨.inr rfl, _, rfl, rfl⟩
 have h3 : a.length = b.length := by
  have h3 : (((cXs a).length : Nat) : Int) = (((cXs b).length : Nat) : Int) := by simpa using h3
  rw [zbi, zbi] at h3
  omega
 repeat (first | refine zai ?_ | refine za0 rfl ?_ | refine zab ?_ | refine zac ?_ | refine zbg ?_ | refine zaj ?_ | refine zat ?_ | refine zbl rfl ?_ | refine zbo rfl ?_ | refine zb5 ?_ | refine zaz ?_ | refine zb4 ?_ | refine za6 ?_ | refine za4 rfl ?_ | refine za2 ?_ | refine za7 ?_ | refine zbs rfl ?_ | refine zbu rfl rfl ?_ | refine zc6 rfl ?_ | refine zad rfl ?_ | refine zam rfl rfl ?_ | refine zar rfl rfl rfl rfl ?_ | refine zak rfl rfl rfl rfl rfl rfl rfl ?_ | refine za5 rfl ?_ | refine zal rfl rfl rfl ?_ | refine za1 rfl rfl rfl ?_ | refine zag rfl rfl rfl rfl ?_ | refine zau ?_ | refine zah rfl rfl ?_ | refine zaa rfl rfl ?_ | refine zc2 rfl rfl ?_ | refine zbh rfl rfl ?_ | refine zb0 rfl rfl ?_ | refine zao rfl rfl ?_ | refine zbd rfl rfl ?_ | refine zaf rfl rfl rfl ?_ | refine zax rfl rfl ?_ | refine zan rfl rfl rfl rfl ?_ | refine za9 rfl rfl rfl rfl ?_ | refine zaq rfl rfl rfl rfl ?_ | refine zb9 rfl rfl ?_ | refine zb6 rfl rfl ?_ | refine zae rfl rfl ?_ | refine zba ?_ | refine zas env0_ok rfl rfl rfl ?_ | refine zav (op := .add) rfl rfl rfl ?_ | refine zav (op := .sub) rfl rfl rfl ?_ | refine zb8 rfl rfl rfl ?_ | refine zb7 rfl rfl rfl ?_ | refine zb2 rfl rfl rfl ?_ | refine zb1 rfl rfl rfl ?_ | refine zb3 rfl rfl (by omega) (by assumption) rfl ?_ | refine za1 rfl rfl (decide_eq_true ⟨by omega, by omega⟩) ?_ | refine zay rfl rfl (by omega) (by omega) ?_ | refine zap rfl rfl rfl ?_ | refine zbc rfl ?_ | refine zbb rfl ?_)
 refine ze5 (fun mm S => ∃ i hp nx ck, mm = a.length - i ∧ i ≤ a.length ∧ zla a b = zla (a.drop i) (b.drop i) ∧
   S = st 32 [(1, .vs (cXs b)), (2, .fn 56 [] []), (15, .vs (cXs a)), (16, .int .i64 (cXs a).length), (17, .int .i64 (i : Nat))] hp nx ck) a.length
  (zbq (.cons rfl (.cons rfl (.cons rfl (.cons rfl (.cons rfl .nil)))))) ⟨0, _, _, _, rfl, Nat.zero_le _, rfl, rfl⟩ ?_
 rintro mm S ⟨i, hp, nx, ck, rfl, hi, hall, rfl⟩
 refine ze6 [] [] [(1, .vs (cXs b)), (2, .fn 56 [] []), (15, .vs (cXs a)), (16, .int .i64 (cXs a).length), (17, .int .i64 (i : Nat))] rfl .nil .nil (.cons rfl (.same rfl) (.cons rfl (.same rfl) (.cons rfl (.same rfl) (.cons rfl (.same rfl) (.cons rfl (.same rfl) .nil))))) ?_
 unfold b83_0
 repeat (first | refine zai ?_ | refine za0 rfl ?_ | refine zab ?_ | refine zac ?_ | refine zbg ?_ | refine zaj ?_ | refine zat ?_ | refine zbl rfl ?_ | refine zbo rfl ?_ | refine zb5 ?_ | refine zaz ?_ | refine zb4 ?_ | refine za6 ?_ | refine za4 rfl ?_ | refine za2 ?_ | refine za7 ?_ | refine zbs rfl ?_ | refine zbu rfl rfl ?_ | refine zc6 rfl ?_ | refine zad rfl ?_ | refine zam rfl rfl ?_ | refine zar rfl rfl rfl rfl ?_ | refine zak rfl rfl rfl rfl rfl rfl rfl ?_ | refine za5 rfl ?_ | refine zal rfl rfl rfl ?_ | refine za1 rfl rfl rfl ?_ | refine zag rfl rfl rfl rfl ?_ | refine zau ?_ | refine zah rfl rfl ?_ | refine zaa rfl rfl ?_ | refine zc2 rfl rfl ?_ | refine zbh rfl rfl ?_ | refine zb0 rfl rfl ?_ | refine zao rfl rfl ?_ | refine zbd rfl rfl ?_ | refine zaf rfl rfl rfl ?_ | refine zax rfl rfl ?_ | refine zan rfl rfl rfl rfl ?_ | refine za9 rfl rfl rfl rfl ?_ | refine zaq rfl rfl rfl rfl ?_ | refine zb9 rfl rfl ?_ | refine zb6 rfl rfl ?_ | refine zae rfl rfl ?_ | refine zba ?_ | refine zas env0_ok rfl rfl rfl ?_ | refine zav (op := .add) rfl rfl rfl ?_ | refine zav (op := .sub) rfl rfl rfl ?_ | refine zb8 rfl rfl rfl ?_ | refine zb7 rfl rfl rfl ?_ | refine zb2 rfl rfl rfl ?_ | refine zb1 rfl rfl rfl ?_ | refine zb3 rfl rfl (by omega) (by assumption) rfl ?_ | refine za1 rfl rfl (decide_eq_true ⟨by omega, by omega⟩) ?_ | refine zay rfl rfl (by omega) (by omega) ?_ | refine zap rfl rfl rfl ?_ | refine zbc rfl ?_ | refine zbb rfl ?_)
 refine zbm rfl rfl rfl (fun h4 => ?_) fun h4 => ?_
 ·have hlt : i < a.length := by
   have := of_decide_eq_true h4
   rw [zbi] at this
   omega
  have hlt2 : i < b.length := by omega
  rw [zlb hlt hlt2] at hall
  have hge := zd8 hlt
  have hge2 := zd8 hlt2
  have py := hy i hlt hlt2
  generalize a[i] = y at *
  generalize b[i] = y2 at *
  generalize eqX y y2 = r at *
  obtain ⟨yo, yi, ya⟩ := y
  obtain ⟨zo, zi, za⟩ := y2
  repeat (first | refine zai ?_ | refine za0 rfl ?_ | refine zab ?_ | refine zac ?_ | refine zbg ?_ | refine zaj ?_ | refine zat ?_ | refine zbl rfl ?_ | refine zbo rfl ?_ | refine zb5 ?_ | refine zaz ?_ | refine zb4 ?_ | refine za6 ?_ | refine za4 rfl ?_ | refine za2 ?_ | refine za7 ?_ | refine zbs rfl ?_ | refine zbu rfl rfl ?_ | refine zc6 rfl ?_ | refine zad rfl ?_ | refine zam rfl rfl ?_ | refine zar rfl rfl rfl rfl ?_ | refine zak rfl rfl rfl rfl rfl rfl rfl ?_ | refine za5 rfl ?_ | refine zal rfl rfl rfl ?_ | refine za1 rfl rfl rfl ?_ | refine zag rfl rfl rfl rfl ?_ | refine zau ?_ | refine zah rfl rfl ?_ | refine zaa rfl rfl ?_ | refine zc2 rfl rfl ?_ | refine zbh rfl rfl ?_ | refine zb0 rfl rfl ?_ | refine zao rfl rfl ?_ | refine zbd rfl rfl ?_ | refine zaf rfl rfl rfl ?_ | refine zax rfl rfl ?_ | refine zan rfl rfl rfl rfl ?_ | refine za9 rfl rfl rfl rfl ?_ | refine zaq rfl rfl rfl rfl ?_ | refine zb9 rfl rfl ?_ | refine zb6 rfl rfl ?_ | refine zae rfl rfl ?_ | refine zba ?_ | refine zas env0_ok rfl rfl rfl ?_ | refine zav (op := .add) rfl rfl rfl ?_ | refine zav (op := .sub) rfl rfl rfl ?_ | refine zb8 rfl rfl rfl ?_ | refine zb7 rfl rfl rfl ?_ | refine zb2 rfl rfl rfl ?_ | refine zb1 rfl rfl rfl ?_ | refine zb3 rfl rfl (by omega) (by assumption) rfl ?_ | refine za1 rfl rfl (decide_eq_true ⟨by omega, by omega⟩) ?_ | refine zay rfl rfl (by omega) (by omega) ?_ | refine zap rfl rfl rfl ?_ | refine zbc rfl ?_ | refine zbb rfl ?_)
  refine zgu rfl rfl rfl py (fun h => Bool.noConfusion (show false = true from h)) ?_
  cases r with
  | false =>
   rw [Bool.false_and] at hall
   repeat (first | refine zai ?_ | refine za0 rfl ?_ | refine zab ?_ | refine zac ?_ | refine zbg ?_ | refine zaj ?_ | refine zat ?_ | refine zbl rfl ?_ | refine zbo rfl ?_ | refine zb5 ?_ | refine zaz ?_ | refine zb4 ?_ | refine za6 ?_ | refine za4 rfl ?_ | refine za2 ?_ | refine za7 ?_ | refine zbs rfl ?_ | refine zbu rfl rfl ?_ | refine zc6 rfl ?_ | refine zad rfl ?_ | refine zam rfl rfl ?_ | refine zar rfl rfl rfl rfl ?_ | refine zak rfl rfl rfl rfl rfl rfl rfl ?_ | refine za5 rfl ?_ | refine zal rfl rfl rfl ?_ | refine za1 rfl rfl rfl ?_ | refine zag rfl rfl rfl rfl ?_ | refine zau ?_ | refine zah rfl rfl ?_ | refine zaa rfl rfl ?_ | refine zc2 rfl rfl ?_ | refine zbh rfl rfl ?_ | refine zb0 rfl rfl ?_ | refine zao rfl rfl ?_ | refine zbd rfl rfl ?_ | refine zaf rfl rfl rfl ?_ | refine zax rfl rfl ?_ | refine zan rfl rfl rfl rfl ?_ | refine za9 rfl rfl rfl rfl ?_ | refine zaq rfl rfl rfl rfl ?_ | refine zb9 rfl rfl ?_ | refine zb6 rfl rfl ?_ | refine zae rfl rfl ?_ | refine zba ?_ | refine zas env0_ok rfl rfl rfl ?_ | refine zav (op := .add) rfl rfl rfl ?_ | refine zav (op := .sub) rfl rfl rfl ?_ | refine zb8 rfl rfl rfl ?_ | refine zb7 rfl rfl rfl ?_ | refine zb2 rfl rfl rfl ?_ | refine zb1 rfl rfl rfl ?_ | refine zb3 rfl rfl (by omega) (by assumption) rfl ?_ | refine za1 rfl rfl (decide_eq_true ⟨by omega, by omega⟩) ?_ | refine zay rfl rfl (by omega) (by omega) ?_ | refine zap rfl rfl rfl ?_ | refine zbc rfl ?_ | refine zbb rfl ?_)
   exact zbe ⟨.inr rfl, _, rfl, by rw [hall]; rfl⟩
  | true =>
   rw [Bool.true_and] at hall
   repeat (first | refine zai ?_ | refine za0 rfl ?_ | refine zab ?_ | refine zac ?_ | refine zbg ?_ | refine zaj ?_ | refine zat ?_ | refine zbl rfl ?_ | refine zbo rfl ?_ | refine zb5 ?_ | refine zaz ?_ | refine zb4 ?_ | refine za6 ?_ | refine za4 rfl ?_ | refine za2 ?_ | refine za7 ?_ | refine zbs rfl ?_ | refine zbu rfl rfl ?_ | refine zc6 rfl ?_ | refine zad rfl ?_ | refine zam rfl rfl ?_ | refine zar rfl rfl rfl rfl ?_ | refine zak rfl rfl rfl rfl rfl rfl rfl ?_ | refine za5 rfl ?_ | refine zal rfl rfl rfl ?_ | refine za1 rfl rfl rfl ?_ | refine zag rfl rfl rfl rfl ?_ | refine zau ?_ | refine zah rfl rfl ?_ | refine zaa rfl rfl ?_ | refine zc2 rfl rfl ?_ | refine zbh rfl rfl ?_ | refine zb0 rfl rfl ?_ | refine zao rfl rfl ?_ | refine zbd rfl rfl ?_ | refine zaf rfl rfl rfl ?_ | refine zax rfl rfl ?_ | refine zan rfl rfl rfl rfl ?_ | refine za9 rfl rfl rfl rfl ?_ | refine zaq rfl rfl rfl rfl ?_ | refine zb9 rfl rfl ?_ | refine zb6 rfl rfl ?_ | refine zae rfl rfl ?_ | refine zba ?_ | refine zas env0_ok rfl rfl rfl ?_ | refine zav (op := .add) rfl rfl rfl ?_ | refine zav (op := .sub) rfl rfl rfl ?_ | refine zb8 rfl rfl rfl ?_ | refine zb7 rfl rfl rfl ?_ | refine zb2 rfl rfl rfl ?_ | refine zb1 rfl rfl rfl ?_ | refine zb3 rfl rfl (by omega) (by assumption) rfl ?_ | refine za1 rfl rfl (decide_eq_true ⟨by omega, by omega⟩) ?_ | refine zay rfl rfl (by omega) (by omega) ?_ | refine zap rfl rfl rfl ?_ | refine zbc rfl ?_ | refine zbb rfl ?_)
   rw [zc8 i (by omega)]
   exact zcs (show a.length - (i + 1) < a.length - i by omega) (zbq (.cons rfl (.cons rfl (.cons rfl (.cons rfl (.cons rfl .nil)))))) ⟨i + 1, _, _, _, rfl, hlt, hall, rfl⟩
 ·have hi2 : i = a.length := by
   have := of_decide_eq_false h4
   rw [zbi] at this
   omega
  rw [List.drop_of_length_le (by omega), List.drop_of_length_le (by omega), zla] at hall
  repeat (first | refine zai ?_ | refine za0 rfl ?_ | refine zab ?_ | refine zac ?_ | refine zbg ?_ | refine zaj ?_ | refine zat ?_ | refine zbl rfl ?_ | refine zbo rfl ?_ | refine zb5 ?_ | refine zaz ?_ | refine zb4 ?_ | refine za6 ?_ | refine za4 rfl ?_ | refine za2 ?_ | refine za7 ?_ | refine zbs rfl ?_ | refine zbu rfl rfl ?_ | refine zc6 rfl ?_ | refine zad rfl ?_ | refine zam rfl rfl ?_ | refine zar rfl rfl rfl rfl ?_ | refine zak rfl rfl rfl rfl rfl rfl rfl ?_ | refine za5 rfl ?_ | refine zal rfl rfl rfl ?_ | refine za1 rfl rfl rfl ?_ | refine zag rfl rfl rfl rfl ?_ | refine zau ?_ | refine zah rfl rfl ?_ | refine zaa rfl rfl ?_ | refine zc2 rfl rfl ?_ | refine zbh rfl rfl ?_ | refine zb0 rfl rfl ?_ | refine zao rfl rfl ?_ | refine zbd rfl rfl ?_ | refine zaf rfl rfl rfl ?_ | refine zax rfl rfl ?_ | refine zan rfl rfl rfl rfl ?_ | refine za9 rfl rfl rfl rfl ?_ | refine zaq rfl rfl rfl rfl ?_ | refine zb9 rfl rfl ?_ | refine zb6 rfl rfl ?_ | refine zae rfl rfl ?_ | refine zba ?_ | refine zas env0_ok rfl rfl rfl ?_ | refine zav (op := .add) rfl rfl rfl ?_ | refine zav (op := .sub) rfl rfl rfl ?_ | refine zb8 rfl rfl rfl ?_ | refine zb7 rfl rfl rfl ?_ | refine zb2 rfl rfl rfl ?_ | refine zb1 rfl rfl rfl ?_ | refine zb3 rfl rfl (by omega) (by assumption) rfl ?_ | refine za1 rfl rfl (decide_eq_true ⟨by omega, by omega⟩) ?_ | refine zay rfl rfl (by omega) (by omega) ?_ | refine zap rfl rfl rfl ?_ | refine zbc rfl ?_ | refine zbb rfl ?_)
  refine zfs ?_
  repeat (first | refine zai ?_ | refine za0 rfl ?_ | refine zab ?_ | refine zac ?_ | refine zbg ?_ | refine zaj ?_ | refine zat ?_ | refine zbl rfl ?_ | refine zbo rfl ?_ | refine zb5 ?_ | refine zaz ?_ | refine zb4 ?_ | refine za6 ?_ | refine za4 rfl ?_ | refine za2 ?_ | refine za7 ?_ | refine zbs rfl ?_ | refine zbu rfl rfl ?_ | refine zc6 rfl ?_ | refine zad rfl ?_ | refine zam rfl rfl ?_ | refine zar rfl rfl rfl rfl ?_ | refine zak rfl rfl rfl rfl rfl rfl rfl ?_ | refine za5 rfl ?_ | refine zal rfl rfl rfl ?_ | refine za1 rfl rfl rfl ?_ | refine zag rfl rfl rfl rfl ?_ | refine zau ?_ | refine zah rfl rfl ?_ | refine zaa rfl rfl ?_ | refine zc2 rfl rfl ?_ | refine zbh rfl rfl ?_ | refine zb0 rfl rfl ?_ | refine zao rfl rfl ?_ | refine zbd rfl rfl ?_ | refine zaf rfl rfl rfl ?_ | refine zax rfl rfl ?_ | refine zan rfl rfl rfl rfl ?_ | refine za9 rfl rfl rfl rfl ?_ | refine zaq rfl rfl rfl rfl ?_ | refine zb9 rfl rfl ?_ | refine zb6 rfl rfl ?_ | refine zae rfl rfl ?_ | refine zba ?_ | refine zas env0_ok rfl rfl rfl ?_ | refine zav (op := .add) rfl rfl rfl ?_ | refine zav (op := .sub) rfl rfl rfl ?_ | refine zb8 rfl rfl rfl ?_ | refine zb7 rfl rfl rfl ?_ | refine zb2 rfl rfl rfl ?_ | refine zb1 rfl rfl rfl ?_ | refine zb3 rfl rfl (by omega) (by assumption) rfl ?_ | refine za1 rfl rfl (decide_eq_true ⟨by omega, by omega⟩) ?_ | refine zay rfl rfl (by omega) (by omega) ?_ | refine zap rfl rfl rfl ?_ | refine zbc rfl ?_ | refine zbb rfl ?_)
  exact zbe ⟨.inr rfl, _, rfl, by rw [hall]; rfl⟩
set_option maxHeartbeats 4000000 in
theorem equal56 : ∀ (q : Nat) (x y : Ex), SizeOf.sizeOf x ≤ q → szX x ≤ 256 → PF Try.prog 56 [.agg (cX x), .agg (cX y)] (.bool (eqX x y)) := by
 intro q
 induction q with
 | zero => intro x y hq; cases x; simp at hq
 | succ q ih =>
  intro x y hq hz
  obtain ⟨op, ix, args⟩ := x
  obtain ⟨op2, ix2, args2⟩ := y
  have hlen := zgo args
  have hszl : szL args ≤ 255 := by rw [szX] at hz; omega
  have p83 := equalf83 args args2 (by omega) fun i h k => by
   have hmem : args[i] ∈ args := List.getElem_mem h
   exact ih args[i] args2[i] (by have := zgd (op := op) (ix := ix) hmem; omega) (by have := szX_mem (op := op) (ix := ix) hmem; omega)
  refine zbx env0_ok fn56 [(0, .agg (cX (.nd op ix args))), (1, .agg (cX (.nd op2 ix2 args2)))] (by show 2 ≤ 24; decide) rfl fun w0 N0 => ?_
  unfold ic56
  rw [eqX]
  generalize zla args args2 = r at *
  refine zai (za0 rfl (zbd rfl rfl (zbd rfl rfl (zad rfl (zab (zac ?_))))))
  refine ze6 [] [(0, 0, cX (.nd op ix args)), (1, 1, cX (.nd op2 ix2 args2))] [(2, .vptr (cX (.nd op ix args))), (3, .vptr (cX (.nd op2 ix2 args2)))] rfl (.cons rfl rfl (.cons rfl rfl .nil)) .nil (.cons rfl (.fptr rfl rfl) (.cons rfl (.fptr rfl rfl) .nil)) ?_
  repeat (first | refine zai ?_ | refine za0 rfl ?_ | refine zab ?_ | refine zac ?_ | refine zbg ?_ | refine zaj ?_ | refine zat ?_ | refine zbl rfl ?_ | refine zbo rfl ?_ | refine zb5 ?_ | refine zaz ?_ | refine zb4 ?_ | refine za6 ?_ | refine za4 rfl ?_ | refine za2 ?_ | refine za7 ?_ | refine zbs rfl ?_ | refine zbu rfl rfl ?_ | refine zc6 rfl ?_ | refine zad rfl ?_ | refine zam rfl rfl ?_ | refine zar rfl rfl rfl rfl ?_ | refine zak rfl rfl rfl rfl rfl rfl rfl ?_ | refine za5 rfl ?_ | refine zal rfl rfl rfl ?_ | refine za1 rfl rfl rfl ?_ | refine zag rfl rfl rfl rfl ?_ | refine zau ?_ | refine zah rfl rfl ?_ | refine zaa rfl rfl ?_ | refine zc2 rfl rfl ?_ | refine zbh rfl rfl ?_ | refine zb0 rfl rfl ?_ | refine zao rfl rfl ?_ | refine zbd rfl rfl ?_ | refine zaf rfl rfl rfl ?_ | refine zax rfl rfl ?_ | refine zan rfl rfl rfl rfl ?_ | refine za9 rfl rfl rfl rfl ?_ | refine zaq rfl rfl rfl rfl ?_ | refine zb9 rfl rfl ?_ | refine zb6 rfl rfl ?_ | refine zae rfl rfl ?_ | refine zba ?_ | refine zas env0_ok rfl rfl rfl ?_ | refine zav (op := .add) rfl rfl rfl ?_ | refine zav (op := .sub) rfl rfl rfl ?_ | refine zb8 rfl rfl rfl ?_ | refine zb7 rfl rfl rfl ?_ | refine zb2 rfl rfl rfl ?_ | refine zb1 rfl rfl rfl ?_ | refine zb3 rfl rfl (by omega) (by assumption) rfl ?_ | refine za1 rfl rfl (decide_eq_true ⟨by omega, by omega⟩) ?_ | refine zay rfl rfl (by omega) (by omega) ?_ | refine zap rfl rfl rfl ?_ | refine zbc rfl ?_ | refine zbb rfl ?_)
  refine zbm rfl rfl rfl (fun h1 => ?_) fun h1 => ?_
  ·rw [h1]
   repeat (first | refine zai ?_ | refine za0 rfl ?_ | refine zab ?_ | refine zac ?_ | refine zbg ?_ | refine zaj ?_ | refine zat ?_ | refine zbl rfl ?_ | refine zbo rfl ?_ | refine zb5 ?_ | refine zaz ?_ | refine zb4 ?_ | refine za6 ?_ | refine za4 rfl ?_ | refine za2 ?_ | refine za7 ?_ | refine zbs rfl ?_ | refine zbu rfl rfl ?_ | refine zc6 rfl ?_ | refine zad rfl ?_ | refine zam rfl rfl ?_ | refine zar rfl rfl rfl rfl ?_ | refine zak rfl rfl rfl rfl rfl rfl rfl ?_ | refine za5 rfl ?_ | refine zal rfl rfl rfl ?_ | refine za1 rfl rfl rfl ?_ | refine zag rfl rfl rfl rfl ?_ | refine zau ?_ | refine zah rfl rfl ?_ | refine zaa rfl rfl ?_ | refine zc2 rfl rfl ?_ | refine zbh rfl rfl ?_ | refine zb0 rfl rfl ?_ | refine zao rfl rfl ?_ | refine zbd rfl rfl ?_ | refine zaf rfl rfl rfl ?_ | refine zax rfl rfl ?_ | refine zan rfl rfl rfl rfl ?_ | refine za9 rfl rfl rfl rfl ?_ | refine zaq rfl rfl rfl rfl ?_ | refine zb9 rfl rfl ?_ | refine zb6 rfl rfl ?_ | refine zae rfl rfl ?_ | refine zba ?_ | refine zas env0_ok rfl rfl rfl ?_ | refine zav (op := .add) rfl rfl rfl ?_ | refine zav (op := .sub) rfl rfl rfl ?_ | refine zb8 rfl rfl rfl ?_ | refine zb7 rfl rfl rfl ?_ | refine zb2 rfl rfl rfl ?_ | refine zb1 rfl rfl rfl ?_ | refine zb3 rfl rfl (by omega) (by assumption) rfl ?_ | refine za1 rfl rfl (decide_eq_true ⟨by omega, by omega⟩) ?_ | refine zay rfl rfl (by omega) (by omega) ?_ | refine zap rfl rfl rfl ?_ | refine zbc rfl ?_ | refine zbb rfl ?_)
   refine zbm rfl rfl rfl (fun h2 => ?_) fun h2 => ?_
   ·rw [h2]
    repeat (first | refine zai ?_ | refine za0 rfl ?_ | refine zab ?_ | refine zac ?_ | refine zbg ?_ | refine zaj ?_ | refine zat ?_ | refine zbl rfl ?_ | refine zbo rfl ?_ | refine zb5 ?_ | refine zaz ?_ | refine zb4 ?_ | refine za6 ?_ | refine za4 rfl ?_ | refine za2 ?_ | refine za7 ?_ | refine zbs rfl ?_ | refine zbu rfl rfl ?_ | refine zc6 rfl ?_ | refine zad rfl ?_ | refine zam rfl rfl ?_ | refine zar rfl rfl rfl rfl ?_ | refine zak rfl rfl rfl rfl rfl rfl rfl ?_ | refine za5 rfl ?_ | refine zal rfl rfl rfl ?_ | refine za1 rfl rfl rfl ?_ | refine zag rfl rfl rfl rfl ?_ | refine zau ?_ | refine zah rfl rfl ?_ | refine zaa rfl rfl ?_ | refine zc2 rfl rfl ?_ | refine zbh rfl rfl ?_ | refine zb0 rfl rfl ?_ | refine zao rfl rfl ?_ | refine zbd rfl rfl ?_ | refine zaf rfl rfl rfl ?_ | refine zax rfl rfl ?_ | refine zan rfl rfl rfl rfl ?_ | refine za9 rfl rfl rfl rfl ?_ | refine zaq rfl rfl rfl rfl ?_ | refine zb9 rfl rfl ?_ | refine zb6 rfl rfl ?_ | refine zae rfl rfl ?_ | refine zba ?_ | refine zas env0_ok rfl rfl rfl ?_ | refine zav (op := .add) rfl rfl rfl ?_ | refine zav (op := .sub) rfl rfl rfl ?_ | refine zb8 rfl rfl rfl ?_ | refine zb7 rfl rfl rfl ?_ | refine zb2 rfl rfl rfl ?_ | refine zb1 rfl rfl rfl ?_ | refine zb3 rfl rfl (by omega) (by assumption) rfl ?_ | refine za1 rfl rfl (decide_eq_true ⟨by omega, by omega⟩) ?_ | refine zay rfl rfl (by omega) (by omega) ?_ | refine zap rfl rfl rfl ?_ | refine zbc rfl ?_ | refine zbb rfl ?_)
    refine zbn rfl rfl p83 (fun h => Bool.noConfusion (show false = true from h)) ?_
    repeat (first | refine zai ?_ | refine za0 rfl ?_ | refine zab ?_ | refine zac ?_ | refine zbg ?_ | refine zaj ?_ | refine zat ?_ | refine zbl rfl ?_ | refine zbo rfl ?_ | refine zb5 ?_ | refine zaz ?_ | refine zb4 ?_ | refine za6 ?_ | refine za4 rfl ?_ | refine za2 ?_ | refine za7 ?_ | refine zbs rfl ?_ | refine zbu rfl rfl ?_ | refine zc6 rfl ?_ | refine zad rfl ?_ | refine zam rfl rfl ?_ | refine zar rfl rfl rfl rfl ?_ | refine zak rfl rfl rfl rfl rfl rfl rfl ?_ | refine za5 rfl ?_ | refine zal rfl rfl rfl ?_ | refine za1 rfl rfl rfl ?_ | refine zag rfl rfl rfl rfl ?_ | refine zau ?_ | refine zah rfl rfl ?_ | refine zaa rfl rfl ?_ | refine zc2 rfl rfl ?_ | refine zbh rfl rfl ?_ | refine zb0 rfl rfl ?_ | refine zao rfl rfl ?_ | refine zbd rfl rfl ?_ | refine zaf rfl rfl rfl ?_ | refine zax rfl rfl ?_ | refine zan rfl rfl rfl rfl ?_ | refine za9 rfl rfl rfl rfl ?_ | refine zaq rfl rfl rfl rfl ?_ | refine zb9 rfl rfl ?_ | refine zb6 rfl rfl ?_ | refine zae rfl rfl ?_ | refine zba ?_ | refine zas env0_ok rfl rfl rfl ?_ | refine zav (op := .add) rfl rfl rfl ?_ | refine zav (op := .sub) rfl rfl rfl ?_ | refine zb8 rfl rfl rfl ?_ | refine zb7 rfl rfl rfl ?_ | refine zb2 rfl rfl rfl ?_ | refine zb1 rfl rfl rfl ?_ | refine zb3 rfl rfl (by omega) (by assumption) rfl ?_ | refine za1 rfl rfl (decide_eq_true ⟨by omega, by omega⟩) ?_ | refine zay rfl rfl (by omega) (by omega) ?_ | refine zap rfl rfl rfl ?_ | refine zbc rfl ?_ | refine zbb rfl ?_)
    exact zbe ⟨.inr rfl, _, rfl, rfl⟩
   ·rw [h2]
    repeat (first | refine zai ?_ | refine za0 rfl ?_ | refine zab ?_ | refine zac ?_ | refine zbg ?_ | refine zaj ?_ | refine zat ?_ | refine zbl rfl ?_ | refine zbo rfl ?_ | refine zb5 ?_ | refine zaz ?_ | refine zb4 ?_ | refine za6 ?_ | refine za4 rfl ?_ | refine za2 ?_ | refine za7 ?_ | refine zbs rfl ?_ | refine zbu rfl rfl ?_ | refine zc6 rfl ?_ | refine zad rfl ?_ | refine zam rfl rfl ?_ | refine zar rfl rfl rfl rfl ?_ | refine zak rfl rfl rfl rfl rfl rfl rfl ?_ | refine za5 rfl ?_ | refine zal rfl rfl rfl ?_ | refine za1 rfl rfl rfl ?_ | refine zag rfl rfl rfl rfl ?_ | refine zau ?_ | refine zah rfl rfl ?_ | refine zaa rfl rfl ?_ | refine zc2 rfl rfl ?_ | refine zbh rfl rfl ?_ | refine zb0 rfl rfl ?_ | refine zao rfl rfl ?_ | refine zbd rfl rfl ?_ | refine zaf rfl rfl rfl ?_ | refine zax rfl rfl ?_ | refine zan rfl rfl rfl rfl ?_ | refine za9 rfl rfl rfl rfl ?_ | refine zaq rfl rfl rfl rfl ?_ | refine zb9 rfl rfl ?_ | refine zb6 rfl rfl ?_ | refine zae rfl rfl ?_ | refine zba ?_ | refine zas env0_ok rfl rfl rfl ?_ | refine zav (op := .add) rfl rfl rfl ?_ | refine zav (op := .sub) rfl rfl rfl ?_ | refine zb8 rfl rfl rfl ?_ | refine zb7 rfl rfl rfl ?_ | refine zb2 rfl rfl rfl ?_ | refine zb1 rfl rfl rfl ?_ | refine zb3 rfl rfl (by omega) (by assumption) rfl ?_ | refine za1 rfl rfl (decide_eq_true ⟨by omega, by omega⟩) ?_ | refine zay rfl rfl (by omega) (by omega) ?_ | refine zap rfl rfl rfl ?_ | refine zbc rfl ?_ | refine zbb rfl ?_)
    exact zbe ⟨.inr rfl, _, rfl, rfl⟩
  ·rw [h1]
   repeat (first | refine zai ?_ | refine za0 rfl ?_ | refine zab ?_ | refine zac ?_ | refine zbg ?_ | refine zaj ?_ | refine zat ?_ | refine zbl rfl ?_ | refine zbo rfl ?_ | refine zb5 ?_ | refine zaz ?_ | refine zb4 ?_ | refine za6 ?_ | refine za4 rfl ?_ | refine za2 ?_ | refine za7 ?_ | refine zbs rfl ?_ | refine zbu rfl rfl ?_ | refine zc6 rfl ?_ | refine zad rfl ?_ | refine zam rfl rfl ?_ | refine zar rfl rfl rfl rfl ?_ | refine zak rfl rfl rfl rfl rfl rfl rfl ?_ | refine za5 rfl ?_ | refine zal rfl rfl rfl ?_ | refine za1 rfl rfl rfl ?_ | refine zag rfl rfl rfl rfl ?_ | refine zau ?_ | refine zah rfl rfl ?_ | refine zaa rfl rfl ?_ | refine zc2 rfl rfl ?_ | refine zbh rfl rfl ?_ | refine zb0 rfl rfl ?_ | refine zao rfl rfl ?_ | refine zbd rfl rfl ?_ | refine zaf rfl rfl rfl ?_ | refine zax rfl rfl ?_ | refine zan rfl rfl rfl rfl ?_ | refine za9 rfl rfl rfl rfl ?_ | refine zaq rfl rfl rfl rfl ?_ | refine zb9 rfl rfl ?_ | refine zb6 rfl rfl ?_ | refine zae rfl rfl ?_ | refine zba ?_ | refine zas env0_ok rfl rfl rfl ?_ | refine zav (op := .add) rfl rfl rfl ?_ | refine zav (op := .sub) rfl rfl rfl ?_ | refine zb8 rfl rfl rfl ?_ | refine zb7 rfl rfl rfl ?_ | refine zb2 rfl rfl rfl ?_ | refine zb1 rfl rfl rfl ?_ | refine zb3 rfl rfl (by omega) (by assumption) rfl ?_ | refine za1 rfl rfl (decide_eq_true ⟨by omega, by omega⟩) ?_ | refine zay rfl rfl (by omega) (by omega) ?_ | refine zap rfl rfl rfl ?_ | refine zbc rfl ?_ | refine zbb rfl ?_)
   exact zbe ⟨.inr rfl, _, rfl, rfl⟩
end Go.Proofs.Ytmnkjofaodbokaa
namespace Go.Proofs.Ytmnkjofaodbokaa
open Go Go.Am
-- pneumatic/pneumaticref05.Same
def ic16 : IC := .seq (.region [⟨(some 2), .box (.t 0), none⟩,
  ⟨(some 3), .box (.t 1), none⟩,
  ⟨(some 4), .mov (.c (.bool false)), none⟩] none)
 (.seq (.region [⟨(some 5), .load (some 3) (.t 2), none⟩,
  ⟨(some 6), .call (.c (.fn 48 [] [])) [(.t 5)], none⟩,
  ⟨(some 7), .mov (.t 6), none⟩,
  ⟨(some 8), .load (some 3) (.t 3), some (7, true)⟩,
  ⟨(some 9), .call (.c (.fn 48 [] [])) [(.t 8)], some (7, true)⟩,
  ⟨(some 10), .pick (.t 7) (.t 9) (.c (.bool false)), none⟩,
  ⟨(some 11), .mov (.t 10), none⟩,
  ⟨(some 12), .load (some 3) (.t 2), some (11, true)⟩,
  ⟨(some 13), .load (some 3) (.t 3), some (11, true)⟩,
  ⟨(some 14), .call (.c (.fn 49 [] [])) [(.t 12), (.t 13)], some (11, true)⟩,
  ⟨(some 15), .pick (.t 11) (.t 14) (.c (.bool false)), none⟩,
  ⟨(some 4), .mov (.t 15), none⟩] none)
 (.ret))
theorem fn16 : env0.fn 16 = some ⟨16, ic16, [.t 4]⟩ := by kernel_rfl
def b22_0 : IC := .seq (.region [⟨(some 15), .bin .lss (.t 14) (.t 13), none⟩] none)
 (.seq (.cond (.t 15) (.skip)
 (.exit 0))
 (.seq (.block 1 (.seq (.region [⟨(some 16), .idxs 3 (.t 12) (.t 14), none⟩,
  ⟨(some 17), .load (some 3) (.t 16), none⟩,
  ⟨(some 6), .alloc [.int .i64 0, .int .i64 0, .nils], none⟩,
  ⟨none, .store 3 (.t 6) (.t 17), none⟩] none)
 (.seq (.region [⟨(some 19), .load (some 3) (.t 6), none⟩,
  ⟨(some 20), .call (.c (.fn 47 [] [])) [(.t 19)], none⟩,
  ⟨(some 18), .mov (.t 20), none⟩,
  ⟨(some 21), .extract (.t 18) 0, none⟩,
  ⟨(some 22), .extract (.t 18) 1, none⟩,
  ⟨(some 23), .extract (.t 18) 2, none⟩,
  ⟨(some 7), .mov (.t 21), none⟩,
  ⟨(some 8), .mov (.t 22), none⟩,
  ⟨(some 9), .mov (.t 23), none⟩] none)
 (.seq (.region [⟨(some 24), .mov (.t 9), none⟩,
  ⟨(some 25), .un .not (.t 24), none⟩] none)
 (.cond (.t 25) (.seq (.region [⟨(some 4), .mov (.c (.bool false)), none⟩] none)
 (.ret))
 (.skip))))))
 (.region [⟨(some 26), .bin .add (.t 14) (.c (.int .i64 1)), none⟩,
  ⟨(some 14), .mov (.t 26), none⟩] none)))
-- pneumatic/boolexp.Same
def ic22 : IC := .seq (.region [⟨(some 2), .box (.t 0), none⟩,
  ⟨(some 3), .box (.t 1), none⟩,
  ⟨(some 4), .mov (.c (.bool false)), none⟩] none)
 (.seq (.seq (.region [⟨(some 10), .load (some 3) (.t 2), none⟩,
  ⟨(some 11), .load (some 3) (.t 3), none⟩,
  ⟨(some 12), .bslice 3 2 [.int .i64 0, .int .i64 0, .nils, .int .i64 0, .int .i64 0, .nils] [(0, 3, (.t 10)), (3, 3, (.t 11))], none⟩,
  ⟨(some 13), .len false (.t 12), none⟩,
  ⟨(some 14), .mov (.c (.int .i64 0)), none⟩] none)
 (.block 0 (.loop b22_0)))
 (.seq (.region [⟨(some 27), .load (some 3) (.t 2), none⟩,
  ⟨(some 28), .load (some 3) (.t 3), none⟩,
  ⟨(some 29), .call (.c (.fn 56 [] [])) [(.t 27), (.t 28)], none⟩,
  ⟨(some 4), .mov (.t 29), none⟩] none)
 (.ret)))
theorem fn22 : env0.fn 22 = some ⟨30, ic22, [.t 4]⟩ := by kernel_rfl
def zsr (x y : Ex) : Bool := zcp x && (zcp y && eqX x y)
theorem same16 (x y : Ex) (hs : Slim x) (hs2 : Slim y) : PF Try.prog 16 [.agg (cX x), .agg (cX y)] (.bool (zsr x y)) := by
 have p1 := zmz x hs
 have p2 := zmz y hs2
 have p3 := equal49 _ x y (Nat.le_refl _) hs
 unfold zsr
 generalize zcp x = a at *
 generalize zcp y = b at *
 generalize eqX x y = c at *
 obtain ⟨op, ix, args⟩ := x
 obtain ⟨op2, ix2, args2⟩ := y
 refine zbx env0_ok fn16 [(0, .agg (cX (.nd op ix args))), (1, .agg (cX (.nd op2 ix2 args2)))] (by show 2 ≤ 16; decide) rfl fun w0 N0 => ?_
 unfold ic16
 refine zai (za0 rfl (zbd rfl rfl (zbd rfl rfl (zad rfl (zab (zac ?_))))))
 refine ze6 [] [(0, 0, cX (.nd op ix args)), (1, 1, cX (.nd op2 ix2 args2))] [(2, .vptr (cX (.nd op ix args))), (3, .vptr (cX (.nd op2 ix2 args2)))] rfl (.cons rfl rfl (.cons rfl rfl .nil)) .nil (.cons rfl (.fptr rfl rfl) (.cons rfl (.fptr rfl rfl) .nil)) ?_
 repeat (first | refine zai ?_ | refine za0 rfl ?_ | refine zab ?_ | refine zac ?_ | refine zbg ?_ | refine zaj ?_ | refine zat ?_ | refine zbl rfl ?_ | refine zbo rfl ?_ | refine zb5 ?_ | refine zaz ?_ | refine zb4 ?_ | refine za6 ?_ | refine za4 rfl ?_ | refine za2 ?_ | refine za7 ?_ | refine zbs rfl ?_ | refine zbu rfl rfl ?_ | refine zc6 rfl ?_ | refine zad rfl ?_ | refine zam rfl rfl ?_ | refine zar rfl rfl rfl rfl ?_ | refine zak rfl rfl rfl rfl rfl rfl rfl ?_ | refine za5 rfl ?_ | refine zal rfl rfl rfl ?_ | refine za1 rfl rfl rfl ?_ | refine zag rfl rfl rfl rfl ?_ | refine zau ?_ | refine zah rfl rfl ?_ | refine zaa rfl rfl ?_ | refine zc2 rfl rfl ?_ | refine zbh rfl rfl ?_ | refine zb0 rfl rfl ?_ | refine zao rfl rfl ?_ | refine zbd rfl rfl ?_ | refine zaf rfl rfl rfl ?_ | refine zax rfl rfl ?_ | refine zan rfl rfl rfl rfl ?_ | refine za9 rfl rfl rfl rfl ?_ | refine zaq rfl rfl rfl rfl ?_ | refine zb9 rfl rfl ?_ | refine zb6 rfl rfl ?_ | refine zae rfl rfl ?_ | refine zba ?_ | refine zas env0_ok rfl rfl rfl ?_ | refine zav (op := .add) rfl rfl rfl ?_ | refine zav (op := .sub) rfl rfl rfl ?_ | refine zb8 rfl rfl rfl ?_ | refine zb7 rfl rfl rfl ?_ | refine zb2 rfl rfl rfl ?_ | refine zb1 rfl rfl rfl ?_ | refine zb3 rfl rfl (by omega) (by assumption) rfl ?_ | refine za1 rfl rfl (decide_eq_true ⟨by omega, by omega⟩) ?_ | refine zay rfl rfl (by omega) (by omega) ?_ | refine zap rfl rfl rfl ?_ | refine zbc rfl ?_ | refine zbb rfl ?_)
 refine zbn rfl rfl p1 (fun h => Bool.noConfusion (show false = true from h)) ?_
 cases a with
 | false =>
  repeat (first | refine zai ?_ | refine za0 rfl ?_ | refine zab ?_ | refine zac ?_ | refine zbg ?_ | refine zaj ?_ | refine zat ?_ | refine zbl rfl ?_ | refine zbo rfl ?_ | refine zb5 ?_ | refine zaz ?_ | refine zb4 ?_ | refine za6 ?_ | refine za4 rfl ?_ | refine za2 ?_ | refine za7 ?_ | refine zbs rfl ?_ | refine zbu rfl rfl ?_ | refine zc6 rfl ?_ | refine zad rfl ?_ | refine zam rfl rfl ?_ | refine zar rfl rfl rfl rfl ?_ | refine zak rfl rfl rfl rfl rfl rfl rfl ?_ | refine za5 rfl ?_ | refine zal rfl rfl rfl ?_ | refine za1 rfl rfl rfl ?_ | refine zag rfl rfl rfl rfl ?_ | refine zau ?_ | refine zah rfl rfl ?_ | refine zaa rfl rfl ?_ | refine zc2 rfl rfl ?_ | refine zbh rfl rfl ?_ | refine zb0 rfl rfl ?_ | refine zao rfl rfl ?_ | refine zbd rfl rfl ?_ | refine zaf rfl rfl rfl ?_ | refine zax rfl rfl ?_ | refine zan rfl rfl rfl rfl ?_ | refine za9 rfl rfl rfl rfl ?_ | refine zaq rfl rfl rfl rfl ?_ | refine zb9 rfl rfl ?_ | refine zb6 rfl rfl ?_ | refine zae rfl rfl ?_ | refine zba ?_ | refine zas env0_ok rfl rfl rfl ?_ | refine zav (op := .add) rfl rfl rfl ?_ | refine zav (op := .sub) rfl rfl rfl ?_ | refine zb8 rfl rfl rfl ?_ | refine zb7 rfl rfl rfl ?_ | refine zb2 rfl rfl rfl ?_ | refine zb1 rfl rfl rfl ?_ | refine zb3 rfl rfl (by omega) (by assumption) rfl ?_ | refine za1 rfl rfl (decide_eq_true ⟨by omega, by omega⟩) ?_ | refine zay rfl rfl (by omega) (by omega) ?_ | refine zap rfl rfl rfl ?_ | refine zbc rfl ?_ | refine zbb rfl ?_)
  exact zbe ⟨.inr rfl, _, rfl, rfl⟩
 | true =>
  repeat (first | refine zai ?_ | refine za0 rfl ?_ | refine zab ?_ | refine zac ?_ | refine zbg ?_ | refine zaj ?_ | refine zat ?_ | refine zbl rfl ?_ | refine zbo rfl ?_ | refine zb5 ?_ | refine zaz ?_ | refine zb4 ?_ | refine za6 ?_ | refine za4 rfl ?_ | refine za2 ?_ | refine za7 ?_ | refine zbs rfl ?_ | refine zbu rfl rfl ?_ | refine zc6 rfl ?_ | refine zad rfl ?_ | refine zam rfl rfl ?_ | refine zar rfl rfl rfl rfl ?_ | refine zak rfl rfl rfl rfl rfl rfl rfl ?_ | refine za5 rfl ?_ | refine zal rfl rfl rfl ?_ | refine za1 rfl rfl rfl ?_ | refine zag rfl rfl rfl rfl ?_ | refine zau ?_ | refine zah rfl rfl ?_ | refine zaa rfl rfl ?_ | refine zc2 rfl rfl ?_ | refine zbh rfl rfl ?_ | refine zb0 rfl rfl ?_ | refine zao rfl rfl ?_ | refine zbd rfl rfl ?_ | refine zaf rfl rfl rfl ?_ | refine zax rfl rfl ?_ | refine zan rfl rfl rfl rfl ?_ | refine za9 rfl rfl rfl rfl ?_ | refine zaq rfl rfl rfl rfl ?_ | refine zb9 rfl rfl ?_ | refine zb6 rfl rfl ?_ | refine zae rfl rfl ?_ | refine zba ?_ | refine zas env0_ok rfl rfl rfl ?_ | refine zav (op := .add) rfl rfl rfl ?_ | refine zav (op := .sub) rfl rfl rfl ?_ | refine zb8 rfl rfl rfl ?_ | refine zb7 rfl rfl rfl ?_ | refine zb2 rfl rfl rfl ?_ | refine zb1 rfl rfl rfl ?_ | refine zb3 rfl rfl (by omega) (by assumption) rfl ?_ | refine za1 rfl rfl (decide_eq_true ⟨by omega, by omega⟩) ?_ | refine zay rfl rfl (by omega) (by omega) ?_ | refine zap rfl rfl rfl ?_ | refine zbc rfl ?_ | refine zbb rfl ?_)
  refine zbn rfl rfl p2 (fun h => Bool.noConfusion (show false = true from h)) ?_
  cases b with
  | false =>
   repeat (first | refine zai ?_ | refine za0 rfl ?_ | refine zab ?_ | refine zac ?_ | refine zbg ?_ | refine zaj ?_ | refine zat ?_ | refine zbl rfl ?_ | refine zbo rfl ?_ | refine zb5 ?_ | refine zaz ?_ | refine zb4 ?_ | refine za6 ?_ | refine za4 rfl ?_ | refine za2 ?_ | refine za7 ?_ | refine zbs rfl ?_ | refine zbu rfl rfl ?_ | refine zc6 rfl ?_ | refine zad rfl ?_ | refine zam rfl rfl ?_ | refine zar rfl rfl rfl rfl ?_ | refine zak rfl rfl rfl rfl rfl rfl rfl ?_ | refine za5 rfl ?_ | refine zal rfl rfl rfl ?_ | refine za1 rfl rfl rfl ?_ | refine zag rfl rfl rfl rfl ?_ | refine zau ?_ | refine zah rfl rfl ?_ | refine zaa rfl rfl ?_ | refine zc2 rfl rfl ?_ | refine zbh rfl rfl ?_ | refine zb0 rfl rfl ?_ | refine zao rfl rfl ?_ | refine zbd rfl rfl ?_ | refine zaf rfl rfl rfl ?_ | refine zax rfl rfl ?_ | refine zan rfl rfl rfl rfl ?_ | refine za9 rfl rfl rfl rfl ?_ | refine zaq rfl rfl rfl rfl ?_ | refine zb9 rfl rfl ?_ | refine zb6 rfl rfl ?_ | refine zae rfl rfl ?_ | refine zba ?_ | refine zas env0_ok rfl rfl rfl ?_ | refine zav (op := .add) rfl rfl rfl ?_ | refine zav (op := .sub) rfl rfl rfl ?_ | refine zb8 rfl rfl rfl ?_ | refine zb7 rfl rfl rfl ?_ | refine zb2 rfl rfl rfl ?_ | refine zb1 rfl rfl rfl ?_ | refine zb3 rfl rfl (by omega) (by assumption) rfl ?_ | refine za1 rfl rfl (decide_eq_true ⟨by omega, by omega⟩) ?_ | refine zay rfl rfl (by omega) (by omega) ?_ | refine zap rfl rfl rfl ?_ | refine zbc rfl ?_ | refine zbb rfl ?_)
   exact zbe ⟨.inr rfl, _, rfl, rfl⟩
  | true =>
   repeat (first | refine zai ?_ | refine za0 rfl ?_ | refine zab ?_ | refine zac ?_ | refine zbg ?_ | refine zaj ?_ | refine zat ?_ | refine zbl rfl ?_ | refine zbo rfl ?_ | refine zb5 ?_ | refine zaz ?_ | refine zb4 ?_ | refine za6 ?_ | refine za4 rfl ?_ | refine za2 ?_ | refine za7 ?_ | refine zbs rfl ?_ | refine zbu rfl rfl ?_ | refine zc6 rfl ?_ | refine zad rfl ?_ | refine zam rfl rfl ?_ | refine zar rfl rfl rfl rfl ?_ | refine zak rfl rfl rfl rfl rfl rfl rfl ?_ | refine za5 rfl ?_ | refine zal rfl rfl rfl ?_ | refine za1 rfl rfl rfl ?_ | refine zag rfl rfl rfl rfl ?_ | refine zau ?_ | refine zah rfl rfl ?_ | refine zaa rfl rfl ?_ | refine zc2 rfl rfl ?_ | refine zbh rfl rfl ?_ | refine zb0 rfl rfl ?_ | refine zao rfl rfl ?_ | refine zbd rfl rfl ?_ | refine zaf rfl rfl rfl ?_ | refine zax rfl rfl ?_ | refine zan rfl rfl rfl rfl ?_ | refine za9 rfl rfl rfl rfl ?_ | refine zaq rfl rfl rfl rfl ?_ | refine zb9 rfl rfl ?_ | refine zb6 rfl rfl ?_ | refine zae rfl rfl ?_ | refine zba ?_ | refine zas env0_ok rfl rfl rfl ?_ | refine zav (op := .add) rfl rfl rfl ?_ | refine zav (op := .sub) rfl rfl rfl ?_ | refine zb8 rfl rfl rfl ?_ | refine zb7 rfl rfl rfl ?_ | refine zb2 rfl rfl rfl ?_ | refine zb1 rfl rfl rfl ?_ | refine zb3 rfl rfl (by omega) (by assumption) rfl ?_ | refine za1 rfl rfl (decide_eq_true ⟨by omega, by omega⟩) ?_ | refine zay rfl rfl (by omega) (by omega) ?_ | refine zap rfl rfl rfl ?_ | refine zbc rfl ?_ | refine zbb rfl ?_)
   refine zbn rfl rfl p3 (fun h => Bool.noConfusion (show false = true from h)) ?_
   repeat (first | refine zai ?_ | refine za0 rfl ?_ | refine zab ?_ | refine zac ?_ | refine zbg ?_ | refine zaj ?_ | refine zat ?_ | refine zbl rfl ?_ | refine zbo rfl ?_ | refine zb5 ?_ | refine zaz ?_ | refine zb4 ?_ | refine za6 ?_ | refine za4 rfl ?_ | refine za2 ?_ | refine za7 ?_ | refine zbs rfl ?_ | refine zbu rfl rfl ?_ | refine zc6 rfl ?_ | refine zad rfl ?_ | refine zam rfl rfl ?_ | refine zar rfl rfl rfl rfl ?_ | refine zak rfl rfl rfl rfl rfl rfl rfl ?_ | refine za5 rfl ?_ | refine zal rfl rfl rfl ?_ | refine za1 rfl rfl rfl ?_ | refine zag rfl rfl rfl rfl ?_ | refine zau ?_ | refine zah rfl rfl ?_ | refine zaa rfl rfl ?_ | refine zc2 rfl rfl ?_ | refine zbh rfl rfl ?_ | refine zb0 rfl rfl ?_ | refine zao rfl rfl ?_ | refine zbd rfl rfl ?_ | refine zaf rfl rfl rfl ?_ | refine zax rfl rfl ?_ | refine zan rfl rfl rfl rfl ?_ | refine za9 rfl rfl rfl rfl ?_ | refine zaq rfl rfl rfl rfl ?_ | refine zb9 rfl rfl ?_ | refine zb6 rfl rfl ?_ | refine zae rfl rfl ?_ | refine zba ?_ | refine zas env0_ok rfl rfl rfl ?_ | refine zav (op := .add) rfl rfl rfl ?_ | refine zav (op := .sub) rfl rfl rfl ?_ | refine zb8 rfl rfl rfl ?_ | refine zb7 rfl rfl rfl ?_ | refine zb2 rfl rfl rfl ?_ | refine zb1 rfl rfl rfl ?_ | refine zb3 rfl rfl (by omega) (by assumption) rfl ?_ | refine za1 rfl rfl (decide_eq_true ⟨by omega, by omega⟩) ?_ | refine zay rfl rfl (by omega) (by omega) ?_ | refine zap rfl rfl rfl ?_ | refine zbc rfl ?_ | refine zbb rfl ?_)
   exact zbe ⟨.inr rfl, _, rfl, rfl⟩
set_option maxHeartbeats 4000000 in
theorem same22 (x y : Ex) (hs : Slim x) (hs2 : Slim y) : PF Try.prog 22 [.agg (cX x), .agg (cX y)] (.bool (zsr x y)) := by
 have p1 := zif x hs
 have p2 := zif y hs2
 rw [zpd] at p1 p2
 have p56 : zcp x = true → PF Try.prog 56 [.agg (cX x), .agg (cX y)] (.bool (eqX x y)) := fun h => equal56 _ x y (Nat.le_refl _) ((zdx x).1 h).1
 have hm : ∀ i (h : i < [x, y].length), PF Try.prog 47 [.agg (cX [x, y][i])] (if zcp [x, y][i] = true then .tup [.int .i64 (szX [x, y][i]), .int .i64 (dpX [x, y][i]), .bool true] else .tup [.int .i64 0, .int .i64 0, .bool false]) := by
  intro i h
  match i, h with
  | 0, _ => exact p1
  | 1, _ => exact p2
 unfold zsr
 have hcc : cXs [x, y] = [cX x, cX y] := rfl
 obtain ⟨op, ix, args⟩ := x
 obtain ⟨op2, ix2, args2⟩ := y
 refine zbx env0_ok fn22 [(0, .agg (cX (.nd op ix args))), (1, .agg (cX (.nd op2 ix2 args2)))] (by show 2 ≤ 30; decide) rfl fun w0 N0 => ?_
 unfold ic22
 refine zai (za0 rfl (zbd rfl rfl (zbd rfl rfl (zad rfl (zab (zac ?_))))))
 refine ze6 [] [(0, 0, cX (.nd op ix args)), (1, 1, cX (.nd op2 ix2 args2))] [(2, .vptr (cX (.nd op ix args))), (3, .vptr (cX (.nd op2 ix2 args2)))] rfl (.cons rfl rfl (.cons rfl rfl .nil)) .nil (.cons rfl (.fptr rfl rfl) (.cons rfl (.fptr rfl rfl) .nil)) ?_
 repeat (first | refine zai ?_ | refine za0 rfl ?_ | refine zab ?_ | refine zac ?_ | refine zbg ?_ | refine zaj ?_ | refine zat ?_ | refine zbl rfl ?_ | refine zbo rfl ?_ | refine zb5 ?_ | refine zaz ?_ | refine zb4 ?_ | refine za6 ?_ | refine za4 rfl ?_ | refine za2 ?_ | refine za7 ?_ | refine zbs rfl ?_ | refine zbu rfl rfl ?_ | refine zc6 rfl ?_ | refine zad rfl ?_ | refine zam rfl rfl ?_ | refine zar rfl rfl rfl rfl ?_ | refine zak rfl rfl rfl rfl rfl rfl rfl ?_ | refine za5 rfl ?_ | refine zal rfl rfl rfl ?_ | refine za1 rfl rfl rfl ?_ | refine zag rfl rfl rfl rfl ?_ | refine zau ?_ | refine zah rfl rfl ?_ | refine zaa rfl rfl ?_ | refine zc2 rfl rfl ?_ | refine zbh rfl rfl ?_ | refine zb0 rfl rfl ?_ | refine zao rfl rfl ?_ | refine zbd rfl rfl ?_ | refine zaf rfl rfl rfl ?_ | refine zax rfl rfl ?_ | refine zan rfl rfl rfl rfl ?_ | refine za9 rfl rfl rfl rfl ?_ | refine zaq rfl rfl rfl rfl ?_ | refine zb9 rfl rfl ?_ | refine zb6 rfl rfl ?_ | refine zae rfl rfl ?_ | refine zba ?_ | refine zas env0_ok rfl rfl rfl ?_ | refine zav (op := .add) rfl rfl rfl ?_ | refine zav (op := .sub) rfl rfl rfl ?_ | refine zb8 rfl rfl rfl ?_ | refine zb7 rfl rfl rfl ?_ | refine zb2 rfl rfl rfl ?_ | refine zb1 rfl rfl rfl ?_ | refine zb3 rfl rfl (by omega) (by assumption) rfl ?_ | refine za1 rfl rfl (decide_eq_true ⟨by omega, by omega⟩) ?_ | refine zay rfl rfl (by omega) (by omega) ?_ | refine zap rfl rfl rfl ?_ | refine zbc rfl ?_ | refine zbb rfl ?_)
 refine ze6 [] [(0, 1, cX (.nd op ix args) ++ cX (.nd op2 ix2 args2))] [(2, .vptr (cX (.nd op ix args))), (3, .vptr (cX (.nd op2 ix2 args2))), (12, .vs (cXs [.nd op ix args, .nd op2 ix2 args2])), (13, .int .i64 2), (14, .int .i64 0)] rfl (.cons rfl rfl .nil) .nil (.cons rfl (.same rfl) (.cons rfl (.same rfl) (.cons rfl (.fms (cs := cX (.nd op ix args) ++ cX (.nd op2 ix2 args2)) (xs := cXs [.nd op ix args, .nd op2 ix2 args2]) rfl rfl (fun z hz => by
  rw [zl8] at hz
  obtain ⟨u, _, rfl⟩ := List.mem_map.1 hz
  exact zqs u) ⟨[], rfl⟩) (.cons rfl (.same rfl) (.cons rfl (.same rfl) .nil))))) ?_
 generalize hll : ([.nd op ix args, .nd op2 ix2 args2] : List Ex) = ll at *
 have hl2 : ll.length = 2 := by rw [← hll]; rfl
 have hlx : ∀ i (h : i < ll.length), i = 0 → ll[i] = .nd op ix args := by subst hll; rintro i h rfl; rfl
 have hly : ∀ i (h : i < ll.length), i = 1 → ll[i] = .nd op2 ix2 args2 := by subst hll; rintro i h rfl; rfl
 refine ze5 (fun mm S => ∃ i hp nx ck, mm = 2 - i ∧ i ≤ 2 ∧ (1 ≤ i → zcp (.nd op ix args) = true) ∧ (2 ≤ i → zcp (.nd op2 ix2 args2) = true) ∧
   S = st 30 [(2, .vptr (cX (.nd op ix args))), (3, .vptr (cX (.nd op2 ix2 args2))), (12, .vs (cXs ll)), (13, .int .i64 2), (14, .int .i64 (i : Nat))] hp nx ck) 2
  (zbq (.cons rfl (.cons rfl (.cons rfl (.cons rfl (.cons rfl .nil)))))) ⟨0, _, _, _, rfl, by omega, fun h => by omega, fun h => by omega, rfl⟩ ?_
 rintro mm S ⟨i, hp, nx, ck, rfl, hi, g1, g2, rfl⟩
 refine ze6 [] [] [(2, .vptr (cX (.nd op ix args))), (3, .vptr (cX (.nd op2 ix2 args2))), (12, .vs (cXs ll)), (13, .int .i64 2), (14, .int .i64 (i : Nat))] rfl .nil .nil (.cons rfl (.same rfl) (.cons rfl (.same rfl) (.cons rfl (.same rfl) (.cons rfl (.same rfl) (.cons rfl (.same rfl) .nil))))) ?_
 unfold b22_0
 repeat (first | refine zai ?_ | refine za0 rfl ?_ | refine zab ?_ | refine zac ?_ | refine zbg ?_ | refine zaj ?_ | refine zat ?_ | refine zbl rfl ?_ | refine zbo rfl ?_ | refine zb5 ?_ | refine zaz ?_ | refine zb4 ?_ | refine za6 ?_ | refine za4 rfl ?_ | refine za2 ?_ | refine za7 ?_ | refine zbs rfl ?_ | refine zbu rfl rfl ?_ | refine zc6 rfl ?_ | refine zad rfl ?_ | refine zam rfl rfl ?_ | refine zar rfl rfl rfl rfl ?_ | refine zak rfl rfl rfl rfl rfl rfl rfl ?_ | refine za5 rfl ?_ | refine zal rfl rfl rfl ?_ | refine za1 rfl rfl rfl ?_ | refine zag rfl rfl rfl rfl ?_ | refine zau ?_ | refine zah rfl rfl ?_ | refine zaa rfl rfl ?_ | refine zc2 rfl rfl ?_ | refine zbh rfl rfl ?_ | refine zb0 rfl rfl ?_ | refine zao rfl rfl ?_ | refine zbd rfl rfl ?_ | refine zaf rfl rfl rfl ?_ | refine zax rfl rfl ?_ | refine zan rfl rfl rfl rfl ?_ | refine za9 rfl rfl rfl rfl ?_ | refine zaq rfl rfl rfl rfl ?_ | refine zb9 rfl rfl ?_ | refine zb6 rfl rfl ?_ | refine zae rfl rfl ?_ | refine zba ?_ | refine zas env0_ok rfl rfl rfl ?_ | refine zav (op := .add) rfl rfl rfl ?_ | refine zav (op := .sub) rfl rfl rfl ?_ | refine zb8 rfl rfl rfl ?_ | refine zb7 rfl rfl rfl ?_ | refine zb2 rfl rfl rfl ?_ | refine zb1 rfl rfl rfl ?_ | refine zb3 rfl rfl (by omega) (by assumption) rfl ?_ | refine za1 rfl rfl (decide_eq_true ⟨by omega, by omega⟩) ?_ | refine zay rfl rfl (by omega) (by omega) ?_ | refine zap rfl rfl rfl ?_ | refine zbc rfl ?_ | refine zbb rfl ?_)
 refine zbm rfl rfl rfl (fun h4 => ?_) fun h4 => ?_
 ·have hlt : i < ll.length := by
   have h4 : ((i : Nat) : Int) < 2 := of_decide_eq_true h4
   omega
  have hge := zd8 hlt
  have pm := hm i hlt
  have ha := hlx i hlt
  have hb := hly i hlt
  generalize ll[i] = u at *
  have hlu : (zcp u = true → (1 ≤ i + 1 → zcp (.nd op ix args) = true) ∧ (2 ≤ i + 1 → zcp (.nd op2 ix2 args2) = true)) := fun h => by
   by_cases e : i = 0
   ·rw [ha e] at h
    exact ⟨fun _ => h, fun h2 => by omega⟩
   ·have e1 : i = 1 := by omega
    rw [hb e1] at h
    exact ⟨fun _ => g1 (by omega), fun _ => h⟩
  have hlf : zcp u = false → (zcp (.nd op ix args) && (zcp (.nd op2 ix2 args2) && eqX (.nd op ix args) (.nd op2 ix2 args2))) = false := fun h => by
   by_cases e : i = 0
   ·rw [ha e] at h
    rw [h]; rfl
   ·have e1 : i = 1 := by omega
    rw [hb e1] at h
    rw [h, Bool.false_and, Bool.and_false]
  generalize zcp u = lu at *
  generalize szX u = su at *
  generalize dpX u = du at *
  obtain ⟨uo, ui, ua⟩ := u
  repeat (first | refine zai ?_ | refine za0 rfl ?_ | refine zab ?_ | refine zac ?_ | refine zbg ?_ | refine zaj ?_ | refine zat ?_ | refine zbl rfl ?_ | refine zbo rfl ?_ | refine zb5 ?_ | refine zaz ?_ | refine zb4 ?_ | refine za6 ?_ | refine za4 rfl ?_ | refine za2 ?_ | refine za7 ?_ | refine zbs rfl ?_ | refine zbu rfl rfl ?_ | refine zc6 rfl ?_ | refine zad rfl ?_ | refine zam rfl rfl ?_ | refine zar rfl rfl rfl rfl ?_ | refine zak rfl rfl rfl rfl rfl rfl rfl ?_ | refine za5 rfl ?_ | refine zal rfl rfl rfl ?_ | refine za1 rfl rfl rfl ?_ | refine zag rfl rfl rfl rfl ?_ | refine zau ?_ | refine zah rfl rfl ?_ | refine zaa rfl rfl ?_ | refine zc2 rfl rfl ?_ | refine zbh rfl rfl ?_ | refine zb0 rfl rfl ?_ | refine zao rfl rfl ?_ | refine zbd rfl rfl ?_ | refine zaf rfl rfl rfl ?_ | refine zax rfl rfl ?_ | refine zan rfl rfl rfl rfl ?_ | refine za9 rfl rfl rfl rfl ?_ | refine zaq rfl rfl rfl rfl ?_ | refine zb9 rfl rfl ?_ | refine zb6 rfl rfl ?_ | refine zae rfl rfl ?_ | refine zba ?_ | refine zas env0_ok rfl rfl rfl ?_ | refine zav (op := .add) rfl rfl rfl ?_ | refine zav (op := .sub) rfl rfl rfl ?_ | refine zb8 rfl rfl rfl ?_ | refine zb7 rfl rfl rfl ?_ | refine zb2 rfl rfl rfl ?_ | refine zb1 rfl rfl rfl ?_ | refine zb3 rfl rfl (by omega) (by assumption) rfl ?_ | refine za1 rfl rfl (decide_eq_true ⟨by omega, by omega⟩) ?_ | refine zay rfl rfl (by omega) (by omega) ?_ | refine zap rfl rfl rfl ?_ | refine zbc rfl ?_ | refine zbb rfl ?_)
  refine zbn rfl rfl pm (fun h => Bool.noConfusion (show false = true from h)) ?_
  cases lu with
  | false =>
   rw [if_neg Bool.false_ne_true, hlf rfl]
   repeat (first | refine zai ?_ | refine za0 rfl ?_ | refine zab ?_ | refine zac ?_ | refine zbg ?_ | refine zaj ?_ | refine zat ?_ | refine zbl rfl ?_ | refine zbo rfl ?_ | refine zb5 ?_ | refine zaz ?_ | refine zb4 ?_ | refine za6 ?_ | refine za4 rfl ?_ | refine za2 ?_ | refine za7 ?_ | refine zbs rfl ?_ | refine zbu rfl rfl ?_ | refine zc6 rfl ?_ | refine zad rfl ?_ | refine zam rfl rfl ?_ | refine zar rfl rfl rfl rfl ?_ | refine zak rfl rfl rfl rfl rfl rfl rfl ?_ | refine za5 rfl ?_ | refine zal rfl rfl rfl ?_ | refine za1 rfl rfl rfl ?_ | refine zag rfl rfl rfl rfl ?_ | refine zau ?_ | refine zah rfl rfl ?_ | refine zaa rfl rfl ?_ | refine zc2 rfl rfl ?_ | refine zbh rfl rfl ?_ | refine zb0 rfl rfl ?_ | refine zao rfl rfl ?_ | refine zbd rfl rfl ?_ | refine zaf rfl rfl rfl ?_ | refine zax rfl rfl ?_ | refine zan rfl rfl rfl rfl ?_ | refine za9 rfl rfl rfl rfl ?_ | refine zaq rfl rfl rfl rfl ?_ | refine zb9 rfl rfl ?_ | refine zb6 rfl rfl ?_ | refine zae rfl rfl ?_ | refine zba ?_ | refine zas env0_ok rfl rfl rfl ?_ | refine zav (op := .add) rfl rfl rfl ?_ | refine zav (op := .sub) rfl rfl rfl ?_ | refine zb8 rfl rfl rfl ?_ | refine zb7 rfl rfl rfl ?_ | refine zb2 rfl rfl rfl ?_ | refine zb1 rfl rfl rfl ?_ | refine zb3 rfl rfl (by omega) (by assumption) rfl ?_ | refine za1 rfl rfl (decide_eq_true ⟨by omega, by omega⟩) ?_ | refine zay rfl rfl (by omega) (by omega) ?_ | refine zap rfl rfl rfl ?_ | refine zbc rfl ?_ | refine zbb rfl ?_)
   exact zbe ⟨.inr rfl, _, rfl, rfl⟩
  | true =>
   rw [if_pos rfl]
   obtain ⟨k1, k2⟩ := hlu rfl
   repeat (first | refine zai ?_ | refine za0 rfl ?_ | refine zab ?_ | refine zac ?_ | refine zbg ?_ | refine zaj ?_ | refine zat ?_ | refine zbl rfl ?_ | refine zbo rfl ?_ | refine zb5 ?_ | refine zaz ?_ | refine zb4 ?_ | refine za6 ?_ | refine za4 rfl ?_ | refine za2 ?_ | refine za7 ?_ | refine zbs rfl ?_ | refine zbu rfl rfl ?_ | refine zc6 rfl ?_ | refine zad rfl ?_ | refine zam rfl rfl ?_ | refine zar rfl rfl rfl rfl ?_ | refine zak rfl rfl rfl rfl rfl rfl rfl ?_ | refine za5 rfl ?_ | refine zal rfl rfl rfl ?_ | refine za1 rfl rfl rfl ?_ | refine zag rfl rfl rfl rfl ?_ | refine zau ?_ | refine zah rfl rfl ?_ | refine zaa rfl rfl ?_ | refine zc2 rfl rfl ?_ | refine zbh rfl rfl ?_ | refine zb0 rfl rfl ?_ | refine zao rfl rfl ?_ | refine zbd rfl rfl ?_ | refine zaf rfl rfl rfl ?_ | refine zax rfl rfl ?_ | refine zan rfl rfl rfl rfl ?_ | refine za9 rfl rfl rfl rfl ?_ | refine zaq rfl rfl rfl rfl ?_ | refine zb9 rfl rfl ?_ | refine zb6 rfl rfl ?_ | refine zae rfl rfl ?_ | refine zba ?_ | refine zas env0_ok rfl rfl rfl ?_ | refine zav (op := .add) rfl rfl rfl ?_ | refine zav (op := .sub) rfl rfl rfl ?_ | refine zb8 rfl rfl rfl ?_ | refine zb7 rfl rfl rfl ?_ | refine zb2 rfl rfl rfl ?_ | refine zb1 rfl rfl rfl ?_ | refine zb3 rfl rfl (by omega) (by assumption) rfl ?_ | refine za1 rfl rfl (decide_eq_true ⟨by omega, by omega⟩) ?_ | refine zay rfl rfl (by omega) (by omega) ?_ | refine zap rfl rfl rfl ?_ | refine zbc rfl ?_ | refine zbb rfl ?_)
   rw [zc8 i (by omega)]
   exact zcs (show 2 - (i + 1) < 2 - i by omega) (zbq (.cons rfl (.cons rfl (.cons rfl (.cons rfl (.cons rfl .nil)))))) ⟨i + 1, _, _, _, rfl, by omega, k1, k2, rfl⟩
 ·have hi2 : i = 2 := by
   have h4 : ¬ ((i : Nat) : Int) < 2 := of_decide_eq_false h4
   omega
  have l1 := g1 (by omega)
  have l2 := g2 (by omega)
  have p56 := p56 l1
  rw [l1, l2, Bool.true_and, Bool.true_and]
  repeat (first | refine zai ?_ | refine za0 rfl ?_ | refine zab ?_ | refine zac ?_ | refine zbg ?_ | refine zaj ?_ | refine zat ?_ | refine zbl rfl ?_ | refine zbo rfl ?_ | refine zb5 ?_ | refine zaz ?_ | refine zb4 ?_ | refine za6 ?_ | refine za4 rfl ?_ | refine za2 ?_ | refine za7 ?_ | refine zbs rfl ?_ | refine zbu rfl rfl ?_ | refine zc6 rfl ?_ | refine zad rfl ?_ | refine zam rfl rfl ?_ | refine zar rfl rfl rfl rfl ?_ | refine zak rfl rfl rfl rfl rfl rfl rfl ?_ | refine za5 rfl ?_ | refine zal rfl rfl rfl ?_ | refine za1 rfl rfl rfl ?_ | refine zag rfl rfl rfl rfl ?_ | refine zau ?_ | refine zah rfl rfl ?_ | refine zaa rfl rfl ?_ | refine zc2 rfl rfl ?_ | refine zbh rfl rfl ?_ | refine zb0 rfl rfl ?_ | refine zao rfl rfl ?_ | refine zbd rfl rfl ?_ | refine zaf rfl rfl rfl ?_ | refine zax rfl rfl ?_ | refine zan rfl rfl rfl rfl ?_ | refine za9 rfl rfl rfl rfl ?_ | refine zaq rfl rfl rfl rfl ?_ | refine zb9 rfl rfl ?_ | refine zb6 rfl rfl ?_ | refine zae rfl rfl ?_ | refine zba ?_ | refine zas env0_ok rfl rfl rfl ?_ | refine zav (op := .add) rfl rfl rfl ?_ | refine zav (op := .sub) rfl rfl rfl ?_ | refine zb8 rfl rfl rfl ?_ | refine zb7 rfl rfl rfl ?_ | refine zb2 rfl rfl rfl ?_ | refine zb1 rfl rfl rfl ?_ | refine zb3 rfl rfl (by omega) (by assumption) rfl ?_ | refine za1 rfl rfl (decide_eq_true ⟨by omega, by omega⟩) ?_ | refine zay rfl rfl (by omega) (by omega) ?_ | refine zap rfl rfl rfl ?_ | refine zbc rfl ?_ | refine zbb rfl ?_)
  refine zfs ?_
  repeat (first | refine zai ?_ | refine za0 rfl ?_ | refine zab ?_ | refine zac ?_ | refine zbg ?_ | refine zaj ?_ | refine zat ?_ | refine zbl rfl ?_ | refine zbo rfl ?_ | refine zb5 ?_ | refine zaz ?_ | refine zb4 ?_ | refine za6 ?_ | refine za4 rfl ?_ | refine za2 ?_ | refine za7 ?_ | refine zbs rfl ?_ | refine zbu rfl rfl ?_ | refine zc6 rfl ?_ | refine zad rfl ?_ | refine zam rfl rfl ?_ | refine zar rfl rfl rfl rfl ?_ | refine zak rfl rfl rfl rfl rfl rfl rfl ?_ | refine za5 rfl ?_ | refine zal rfl rfl rfl ?_ | refine za1 rfl rfl rfl ?_ | refine zag rfl rfl rfl rfl ?_ | refine zau ?_ | refine zah rfl rfl ?_ | refine zaa rfl rfl ?_ | refine zc2 rfl rfl ?_ | refine zbh rfl rfl ?_ | refine zb0 rfl rfl ?_ | refine zao rfl rfl ?_ | refine zbd rfl rfl ?_ | refine zaf rfl rfl rfl ?_ | refine zax rfl rfl ?_ | refine zan rfl rfl rfl rfl ?_ | refine za9 rfl rfl rfl rfl ?_ | refine zaq rfl rfl rfl rfl ?_ | refine zb9 rfl rfl ?_ | refine zb6 rfl rfl ?_ | refine zae rfl rfl ?_ | refine zba ?_ | refine zas env0_ok rfl rfl rfl ?_ | refine zav (op := .add) rfl rfl rfl ?_ | refine zav (op := .sub) rfl rfl rfl ?_ | refine zb8 rfl rfl rfl ?_ | refine zb7 rfl rfl rfl ?_ | refine zb2 rfl rfl rfl ?_ | refine zb1 rfl rfl rfl ?_ | refine zb3 rfl rfl (by omega) (by assumption) rfl ?_ | refine za1 rfl rfl (decide_eq_true ⟨by omega, by omega⟩) ?_ | refine zay rfl rfl (by omega) (by omega) ?_ | refine zap rfl rfl rfl ?_ | refine zbc rfl ?_ | refine zbb rfl ?_)
  refine zbn rfl rfl p56 (fun h => Bool.noConfusion (show false = true from h)) ?_
  repeat (first | refine zai ?_ | refine za0 rfl ?_ | refine zab ?_ | refine zac ?_ | refine zbg ?_ | refine zaj ?_ | refine zat ?_ | refine zbl rfl ?_ | refine zbo rfl ?_ | refine zb5 ?_ | refine zaz ?_ | refine zb4 ?_ | refine za6 ?_ | refine za4 rfl ?_ | refine za2 ?_ | refine za7 ?_ | refine zbs rfl ?_ | refine zbu rfl rfl ?_ | refine zc6 rfl ?_ | refine zad rfl ?_ | refine zam rfl rfl ?_ | refine zar rfl rfl rfl rfl ?_ | refine zak rfl rfl rfl rfl rfl rfl rfl ?_ | refine za5 rfl ?_ | refine zal rfl rfl rfl ?_ | refine za1 rfl rfl rfl ?_ | refine zag rfl rfl rfl rfl ?_ | refine zau ?_ | refine zah rfl rfl ?_ | refine zaa rfl rfl ?_ | refine zc2 rfl rfl ?_ | refine zbh rfl rfl ?_ | refine zb0 rfl rfl ?_ | refine zao rfl rfl ?_ | refine zbd rfl rfl ?_ | refine zaf rfl rfl rfl ?_ | refine zax rfl rfl ?_ | refine zan rfl rfl rfl rfl ?_ | refine za9 rfl rfl rfl rfl ?_ | refine zaq rfl rfl rfl rfl ?_ | refine zb9 rfl rfl ?_ | refine zb6 rfl rfl ?_ | refine zae rfl rfl ?_ | refine zba ?_ | refine zas env0_ok rfl rfl rfl ?_ | refine zav (op := .add) rfl rfl rfl ?_ | refine zav (op := .sub) rfl rfl rfl ?_ | refine zb8 rfl rfl rfl ?_ | refine zb7 rfl rfl rfl ?_ | refine zb2 rfl rfl rfl ?_ | refine zb1 rfl rfl rfl ?_ | refine zb3 rfl rfl (by omega) (by assumption) rfl ?_ | refine za1 rfl rfl (decide_eq_true ⟨by omega, by omega⟩) ?_ | refine zay rfl rfl (by omega) (by omega) ?_ | refine zap rfl rfl rfl ?_ | refine zbc rfl ?_ | refine zbb rfl ?_)
  exact zbe ⟨.inr rfl, _, rfl, rfl⟩
end Go.Proofs.Ytmnkjofaodbokaa
