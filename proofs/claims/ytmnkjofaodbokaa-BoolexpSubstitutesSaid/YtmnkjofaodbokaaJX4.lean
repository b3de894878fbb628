/-
  EQUAL EXPRESSIONS, AS THE PROGRAM COMPARES THEM.; Same, here and in the reference.; A LIST OF EXPRESSIONS THAT GROWS; EXPRESSIONS MADE ANEW FROM THE ARGUMENTS TO THE OUTSIDE.; SMALL EXPRESSIONS: constants, negations; whether an expression is among others.
-/
import Derived.Test.YtmnkjofaodbokaaJX3
namespace Go.Proofs.Ytmnkjofaodbokaa
open Go Go.Am
def b83_0 : IC := .seq (.region [⟨(some 18), .bin .lss (.t 17) (.t 16), none⟩] none)
 (.seq (.cond (.t 18) (.skip)
 (.exit 0))
 (.seq (.block 1 (.seq (.region [⟨(some 19), .mov (.t 17), none⟩,
  ⟨(some 20), .idxs 3 (.t 15) (.t 17), none⟩,
  ⟨(some 21), .load (some 3) (.t 20), none⟩,
  ⟨(some 8), .alloc [.int .i64 0, .int .i64 0, .nils], none⟩,
  ⟨(some 7), .mov (.t 19), none⟩,
  ⟨none, .store 3 (.t 8) (.t 21), none⟩] none)
 (.seq (.region [⟨(some 22), .mov (.t 1), none⟩,
  ⟨(some 23), .mov (.t 7), none⟩,
  ⟨(some 24), .idxs 3 (.t 22) (.t 23), none⟩,
  ⟨(some 25), .load (some 3) (.t 24), none⟩,
  ⟨(some 9), .alloc [.int .i64 0, .int .i64 0, .nils], none⟩,
  ⟨none, .store 3 (.t 9) (.t 25), none⟩] none)
 (.seq (.region [⟨(some 26), .mov (.t 2), none⟩,
  ⟨(some 27), .load (some 3) (.t 8), none⟩,
  ⟨(some 28), .load (some 3) (.t 9), none⟩,
  ⟨(some 29), .call (.t 26) [(.t 27), (.t 28)], none⟩,
  ⟨(some 30), .un .not (.t 29), none⟩] none)
 (.cond (.t 30) (.seq (.region [⟨(some 6), .mov (.c (.bool false)), none⟩] none)
 (.ret))
 (.skip))))))
 (.region [⟨(some 31), .bin .add (.t 17) (.c (.int .i64 1)), none⟩,
  ⟨(some 17), .mov (.t 31), none⟩] none)))
-- slices.EqualFunc[[]pneumatic/api.Expr,[]pneumatic/api.Expr,pneumatic/api.Expr,pneumatic/api.Expr]
def ic83 : IC := .seq (.region [⟨(some 6), .mov (.c (.bool false)), none⟩] none)
 (.seq (.seq (.region [⟨(some 10), .mov (.t 0), none⟩,
  ⟨(some 11), .len false (.t 10), none⟩,
  ⟨(some 12), .mov (.t 1), none⟩,
  ⟨(some 13), .len false (.t 12), none⟩,
  ⟨(some 14), .bin .neq (.t 11) (.t 13), none⟩] none)
 (.cond (.t 14) (.seq (.region [⟨(some 6), .mov (.c (.bool false)), none⟩] none)
 (.ret))
 (.skip)))
 (.seq (.seq (.region [⟨(some 15), .mov (.t 0), none⟩,
  ⟨(some 16), .len false (.t 15), none⟩,
  ⟨(some 17), .mov (.c (.int .i64 0)), none⟩] none)
 (.block 0 (.loop b83_0)))
 (.seq (.region [⟨(some 6), .mov (.c (.bool true)), none⟩] none)
 (.ret))))
theorem fn83 : env0.fn 83 = some ⟨32, ic83, [.t 6]⟩ := by kernel_rfl
-- pneumatic/boolexp.equal
def ic56 : IC := .seq (.region [⟨(some 2), .box (.t 0), none⟩,
  ⟨(some 3), .box (.t 1), none⟩,
  ⟨(some 4), .mov (.c (.bool false)), none⟩] none)
 (.seq (.region [⟨(some 5), .faddr 0 (.t 2), none⟩,
  ⟨(some 6), .load none (.t 5), none⟩,
  ⟨(some 7), .faddr 0 (.t 3), none⟩,
  ⟨(some 8), .load none (.t 7), none⟩,
  ⟨(some 9), .bin .eql (.t 6) (.t 8), none⟩,
  ⟨(some 10), .mov (.t 9), none⟩,
  ⟨(some 11), .faddr 1 (.t 2), some (10, true)⟩,
  ⟨(some 12), .load none (.t 11), some (10, true)⟩,
  ⟨(some 13), .faddr 1 (.t 3), some (10, true)⟩,
  ⟨(some 14), .load none (.t 13), some (10, true)⟩,
  ⟨(some 15), .bin .eql (.t 12) (.t 14), some (10, true)⟩,
  ⟨(some 16), .pick (.t 10) (.t 15) (.c (.bool false)), none⟩,
  ⟨(some 17), .mov (.t 16), none⟩,
  ⟨(some 18), .faddr 2 (.t 2), some (17, true)⟩,
  ⟨(some 19), .load none (.t 18), some (17, true)⟩,
  ⟨(some 20), .faddr 2 (.t 3), some (17, true)⟩,
  ⟨(some 21), .load none (.t 20), some (17, true)⟩,
  ⟨(some 22), .call (.c (.fn 83 [] [])) [(.t 19), (.t 21), (.c (.fn 56 [] []))], some (17, true)⟩,
  ⟨(some 23), .pick (.t 17) (.t 22) (.c (.bool false)), none⟩,
  ⟨(some 4), .mov (.t 23), none⟩] none)
 (.ret))
theorem fn56 : env0.fn 56 = some ⟨24, ic56, [.t 4]⟩ := by kernel_rfl
set_option maxHeartbeats 4000000 in
theorem equalf83 (a b : List Ex) (hl : a.length < 9223372036854775807) (hy : ∀ (i : Nat) (h : i < a.length) (k : i < b.length), PF Try.prog 56 [.agg (cX a[i]), .agg (cX b[i])] (.bool (eqX a[i] b[i]))) : PF Try.prog 83 [.vs (cXs a), .vs (cXs b), .fn 56 [] []] (.bool (zk3 a b)) := by
 refine zb3 env0_ok fn83 [(0, .vs (cXs a)), (1, .vs (cXs b)), (2, .fn 56 [] [])] (by show 3 ≤ 32; decide) rfl fun w0 N0 => ?_
 unfold ic83
 repeat (first | refine za6 ?_ | refine za0 rfl ?_ | refine za3 ?_ | refine za2 ?_ | refine zbk ?_ | refine zal ?_ | refine zae ?_ | refine zbg rfl ?_ | refine zbl rfl ?_ | refine zb8 ?_ | refine zah ?_ | refine zb7 ?_ | refine zaf ?_ | refine zaq rfl ?_ | refine za5 ?_ | refine zad ?_ | refine zc2 rfl ?_ | refine zcv rfl rfl ?_ | refine zf8 rfl ?_ | refine za4 rfl ?_ | refine zai rfl rfl ?_ | refine zaa rfl rfl rfl rfl ?_ | refine za8 rfl rfl rfl rfl rfl rfl rfl ?_ | refine za9 rfl ?_ | refine zap rfl rfl rfl ?_ | refine zag rfl rfl rfl ?_ | refine zb1 rfl rfl rfl rfl ?_ | refine zam ?_ | refine zaj rfl rfl ?_ | refine zac rfl rfl ?_ | refine zd2 rfl rfl ?_ | refine zbf rfl rfl ?_ | refine zb0 rfl rfl ?_ | refine zav rfl rfl ?_ | refine zbd rfl rfl ?_ | refine zay rfl rfl rfl ?_ | refine zbj rfl rfl ?_ | refine zb9 rfl rfl rfl rfl ?_ | refine zau rfl rfl rfl rfl ?_ | refine zbb rfl rfl rfl rfl ?_ | refine zc8 rfl rfl ?_ | refine zbt rfl rfl ?_ | refine zas rfl rfl ?_ | refine zc9 ?_ | refine zbc env0_ok rfl rfl rfl ?_ | refine zaz (op := .add) rfl rfl rfl ?_ | refine zaz (op := .sub) rfl rfl rfl ?_ | refine zc7 rfl rfl rfl ?_ | refine zc6 rfl rfl rfl ?_ | refine zbe rfl rfl rfl ?_ | refine zb5 rfl rfl rfl ?_ | refine zb4 rfl rfl (by omega) (by assumption) rfl ?_ | refine zag rfl rfl (decide_eq_true ⟨by omega, by omega⟩) ?_ | refine zbn rfl rfl (by omega) (by omega) ?_ | refine zba rfl rfl rfl ?_ | refine zcb rfl ?_ | refine zca rfl ?_)
 refine zaw rfl rfl rfl (fun h3 => ?_) fun h3 => ?_
 ·have h3 : ¬ (((cXs a).length : Nat) : Int) = (((cXs b).length : Nat) : Int) := by simpa using h3
  rw [zan, zan] at h3
  rw [zle (fun e => h3 (by rw [e]))]
  repeat (first | refine za6 ?_ | refine za0 rfl ?_ | refine za3 ?_ | refine za2 ?_ | refine zbk ?_ | refine zal ?_ | refine zae ?_ | refine zbg rfl ?_ | refine zbl rfl ?_ | refine zb8 ?_ | refine zah ?_ | refine zb7 ?_ | refine zaf ?_ | refine zaq rfl ?_ | refine za5 ?_ | refine zad ?_ | refine zc2 rfl ?_ | refine zcv rfl rfl ?_ | refine zf8 rfl ?_ | refine za4 rfl ?_ | refine zai rfl rfl ?_ | refine zaa rfl rfl rfl rfl ?_ | refine za8 rfl rfl rfl rfl rfl rfl rfl ?_ | refine za9 rfl ?_ | refine zap rfl rfl rfl ?_ | refine zag rfl rfl rfl ?_ | refine zb1 rfl rfl rfl rfl ?_ | refine zam ?_ | refine zaj rfl rfl ?_ | refine zac rfl rfl ?_ | refine zd2 rfl rfl ?_ | refine zbf rfl rfl ?_ | refine zb0 rfl rfl ?_ | refine zav rfl rfl ?_ | refine zbd rfl rfl ?_ | refine zay rfl rfl rfl ?_ | refine zbj rfl rfl ?_ | refine zb9 rfl rfl rfl rfl ?_ | refine zau rfl rfl rfl rfl ?_ | refine zbb rfl rfl rfl rfl ?_ | refine zc8 rfl rfl ?_ | refine zbt rfl rfl ?_ | refine zas rfl rfl ?_ | refine zc9 ?_ | refine zbc env0_ok rfl rfl rfl ?_ | refine zaz (op := .add) rfl rfl rfl ?_ | refine zaz (op := .sub) rfl rfl rfl ?_ | refine zc7 rfl rfl rfl ?_ | refine zc6 rfl rfl rfl ?_ | refine zbe rfl rfl rfl ?_ | refine zb5 rfl rfl rfl ?_ | refine zb4 rfl rfl (by omega) (by assumption) rfl ?_ | refine zag rfl rfl (decide_eq_true ⟨by omega, by omega⟩) ?_ | refine zbn rfl rfl (by omega) (by omega) ?_ | refine zba rfl rfl rfl ?_ | refine zcb rfl ?_ | refine zca rfl ?_)
  exact zak ⟨.inr rfl, _, rfl, rfl⟩
 have h3 : a.length = b.length := by
  have h3 : (((cXs a).length : Nat) : Int) = (((cXs b).length : Nat) : Int) := by simpa using h3
  rw [zan, zan] at h3
  omega
 repeat (first | refine za6 ?_ | refine za0 rfl ?_ | refine za3 ?_ | refine za2 ?_ | refine zbk ?_ | refine zal ?_ | refine zae ?_ | refine zbg rfl ?_ | refine zbl rfl ?_ | refine zb8 ?_ | refine zah ?_ | refine zb7 ?_ | refine zaf ?_ | refine zaq rfl ?_ | refine za5 ?_ | refine zad ?_ | refine zc2 rfl ?_ | refine zcv rfl rfl ?_ | refine zf8 rfl ?_ | refine za4 rfl ?_ | refine zai rfl rfl ?_ | refine zaa rfl rfl rfl rfl ?_ | refine za8 rfl rfl rfl rfl rfl rfl rfl ?_ | refine za9 rfl ?_ | refine zap rfl rfl rfl ?_ | refine zag rfl rfl rfl ?_ | refine zb1 rfl rfl rfl rfl ?_ | refine zam ?_ | refine zaj rfl rfl ?_ | refine zac rfl rfl ?_ | refine zd2 rfl rfl ?_ | refine zbf rfl rfl ?_ | refine zb0 rfl rfl ?_ | refine zav rfl rfl ?_ | refine zbd rfl rfl ?_ | refine zay rfl rfl rfl ?_ | refine zbj rfl rfl ?_ | refine zb9 rfl rfl rfl rfl ?_ | refine zau rfl rfl rfl rfl ?_ | refine zbb rfl rfl rfl rfl ?_ | refine zc8 rfl rfl ?_ | refine zbt rfl rfl ?_ | refine zas rfl rfl ?_ | refine zc9 ?_ | refine zbc env0_ok rfl rfl rfl ?_ | refine zaz (op := .add) rfl rfl rfl ?_ | refine zaz (op := .sub) rfl rfl rfl ?_ | refine zc7 rfl rfl rfl ?_ | refine zc6 rfl rfl rfl ?_ | refine zbe rfl rfl rfl ?_ | refine zb5 rfl rfl rfl ?_ | refine zb4 rfl rfl (by omega) (by assumption) rfl ?_ | refine zag rfl rfl (decide_eq_true ⟨by omega, by omega⟩) ?_ | refine zbn rfl rfl (by omega) (by omega) ?_ | refine zba rfl rfl rfl ?_ | refine zcb rfl ?_ | refine zca rfl ?_)
 refine zd9 (fun mm S => ∃ i hp nx ck, mm = a.length - i ∧ i ≤ a.length ∧ zk3 a b = zk3 (a.drop i) (b.drop i) ∧
   S = st 32 [(1, .vs (cXs b)), (2, .fn 56 [] []), (15, .vs (cXs a)), (16, .int .i64 (cXs a).length), (17, .int .i64 (i : Nat))] hp nx ck) a.length
  (zat (.cons rfl (.cons rfl (.cons rfl (.cons rfl (.cons rfl .nil)))))) ⟨0, _, _, _, rfl, Nat.zero_le _, rfl, rfl⟩ ?_
 rintro mm S ⟨i, hp, nx, ck, rfl, hi, hall, rfl⟩
 refine zce [] [] [(1, .vs (cXs b)), (2, .fn 56 [] []), (15, .vs (cXs a)), (16, .int .i64 (cXs a).length), (17, .int .i64 (i : Nat))] rfl .nil .nil (.cons rfl (.same rfl) (.cons rfl (.same rfl) (.cons rfl (.same rfl) (.cons rfl (.same rfl) (.cons rfl (.same rfl) .nil))))) ?_
 unfold b83_0
 repeat (first | refine za6 ?_ | refine za0 rfl ?_ | refine za3 ?_ | refine za2 ?_ | refine zbk ?_ | refine zal ?_ | refine zae ?_ | refine zbg rfl ?_ | refine zbl rfl ?_ | refine zb8 ?_ | refine zah ?_ | refine zb7 ?_ | refine zaf ?_ | refine zaq rfl ?_ | refine za5 ?_ | refine zad ?_ | refine zc2 rfl ?_ | refine zcv rfl rfl ?_ | refine zf8 rfl ?_ | refine za4 rfl ?_ | refine zai rfl rfl ?_ | refine zaa rfl rfl rfl rfl ?_ | refine za8 rfl rfl rfl rfl rfl rfl rfl ?_ | refine za9 rfl ?_ | refine zap rfl rfl rfl ?_ | refine zag rfl rfl rfl ?_ | refine zb1 rfl rfl rfl rfl ?_ | refine zam ?_ | refine zaj rfl rfl ?_ | refine zac rfl rfl ?_ | refine zd2 rfl rfl ?_ | refine zbf rfl rfl ?_ | refine zb0 rfl rfl ?_ | refine zav rfl rfl ?_ | refine zbd rfl rfl ?_ | refine zay rfl rfl rfl ?_ | refine zbj rfl rfl ?_ | refine zb9 rfl rfl rfl rfl ?_ | refine zau rfl rfl rfl rfl ?_ | refine zbb rfl rfl rfl rfl ?_ | refine zc8 rfl rfl ?_ | refine zbt rfl rfl ?_ | refine zas rfl rfl ?_ | refine zc9 ?_ | refine zbc env0_ok rfl rfl rfl ?_ | refine zaz (op := .add) rfl rfl rfl ?_ | refine zaz (op := .sub) rfl rfl rfl ?_ | refine zc7 rfl rfl rfl ?_ | refine zc6 rfl rfl rfl ?_ | refine zbe rfl rfl rfl ?_ | refine zb5 rfl rfl rfl ?_ | refine zb4 rfl rfl (by omega) (by assumption) rfl ?_ | refine zag rfl rfl (decide_eq_true ⟨by omega, by omega⟩) ?_ | refine zbn rfl rfl (by omega) (by omega) ?_ | refine zba rfl rfl rfl ?_ | refine zcb rfl ?_ | refine zca rfl ?_)
 refine zaw rfl rfl rfl (fun h4 => ?_) fun h4 => ?_
 ·have hlt : i < a.length := by
   have := of_decide_eq_true h4
   rw [zan] at this
   omega
  have hlt2 : i < b.length := by omega
  rw [zmv hlt hlt2] at hall
  have hge := zcg hlt
  have hge2 := zcg hlt2
  have py := hy i hlt hlt2
  generalize a[i] = y at *
  generalize b[i] = y2 at *
  generalize eqX y y2 = r at *
  obtain ⟨yo, yi, ya⟩ := y
  obtain ⟨zo, zi, za⟩ := y2
  repeat (first | refine za6 ?_ | refine za0 rfl ?_ | refine za3 ?_ | refine za2 ?_ | refine zbk ?_ | refine zal ?_ | refine zae ?_ | refine zbg rfl ?_ | refine zbl rfl ?_ | refine zb8 ?_ | refine zah ?_ | refine zb7 ?_ | refine zaf ?_ | refine zaq rfl ?_ | refine za5 ?_ | refine zad ?_ | refine zc2 rfl ?_ | refine zcv rfl rfl ?_ | refine zf8 rfl ?_ | refine za4 rfl ?_ | refine zai rfl rfl ?_ | refine zaa rfl rfl rfl rfl ?_ | refine za8 rfl rfl rfl rfl rfl rfl rfl ?_ | refine za9 rfl ?_ | refine zap rfl rfl rfl ?_ | refine zag rfl rfl rfl ?_ | refine zb1 rfl rfl rfl rfl ?_ | refine zam ?_ | refine zaj rfl rfl ?_ | refine zac rfl rfl ?_ | refine zd2 rfl rfl ?_ | refine zbf rfl rfl ?_ | refine zb0 rfl rfl ?_ | refine zav rfl rfl ?_ | refine zbd rfl rfl ?_ | refine zay rfl rfl rfl ?_ | refine zbj rfl rfl ?_ | refine zb9 rfl rfl rfl rfl ?_ | refine zau rfl rfl rfl rfl ?_ | refine zbb rfl rfl rfl rfl ?_ | refine zc8 rfl rfl ?_ | refine zbt rfl rfl ?_ | refine zas rfl rfl ?_ | refine zc9 ?_ | refine zbc env0_ok rfl rfl rfl ?_ | refine zaz (op := .add) rfl rfl rfl ?_ | refine zaz (op := .sub) rfl rfl rfl ?_ | refine zc7 rfl rfl rfl ?_ | refine zc6 rfl rfl rfl ?_ | refine zbe rfl rfl rfl ?_ | refine zb5 rfl rfl rfl ?_ | refine zb4 rfl rfl (by omega) (by assumption) rfl ?_ | refine zag rfl rfl (decide_eq_true ⟨by omega, by omega⟩) ?_ | refine zbn rfl rfl (by omega) (by omega) ?_ | refine zba rfl rfl rfl ?_ | refine zcb rfl ?_ | refine zca rfl ?_)
  refine zfm rfl rfl rfl py (fun h => Bool.noConfusion (show false = true from h)) ?_
  cases r with
  | false =>
   rw [Bool.false_and] at hall
   repeat (first | refine za6 ?_ | refine za0 rfl ?_ | refine za3 ?_ | refine za2 ?_ | refine zbk ?_ | refine zal ?_ | refine zae ?_ | refine zbg rfl ?_ | refine zbl rfl ?_ | refine zb8 ?_ | refine zah ?_ | refine zb7 ?_ | refine zaf ?_ | refine zaq rfl ?_ | refine za5 ?_ | refine zad ?_ | refine zc2 rfl ?_ | refine zcv rfl rfl ?_ | refine zf8 rfl ?_ | refine za4 rfl ?_ | refine zai rfl rfl ?_ | refine zaa rfl rfl rfl rfl ?_ | refine za8 rfl rfl rfl rfl rfl rfl rfl ?_ | refine za9 rfl ?_ | refine zap rfl rfl rfl ?_ | refine zag rfl rfl rfl ?_ | refine zb1 rfl rfl rfl rfl ?_ | refine zam ?_ | refine zaj rfl rfl ?_ | refine zac rfl rfl ?_ | refine zd2 rfl rfl ?_ | refine zbf rfl rfl ?_ | refine zb0 rfl rfl ?_ | refine zav rfl rfl ?_ | refine zbd rfl rfl ?_ | refine zay rfl rfl rfl ?_ | refine zbj rfl rfl ?_ | refine zb9 rfl rfl rfl rfl ?_ | refine zau rfl rfl rfl rfl ?_ | refine zbb rfl rfl rfl rfl ?_ | refine zc8 rfl rfl ?_ | refine zbt rfl rfl ?_ | refine zas rfl rfl ?_ | refine zc9 ?_ | refine zbc env0_ok rfl rfl rfl ?_ | refine zaz (op := .add) rfl rfl rfl ?_ | refine zaz (op := .sub) rfl rfl rfl ?_ | refine zc7 rfl rfl rfl ?_ | refine zc6 rfl rfl rfl ?_ | refine zbe rfl rfl rfl ?_ | refine zb5 rfl rfl rfl ?_ | refine zb4 rfl rfl (by omega) (by assumption) rfl ?_ | refine zag rfl rfl (decide_eq_true ⟨by omega, by omega⟩) ?_ | refine zbn rfl rfl (by omega) (by omega) ?_ | refine zba rfl rfl rfl ?_ | refine zcb rfl ?_ | refine zca rfl ?_)
   exact zak ⟨.inr rfl, _, rfl, by rw [hall]; rfl⟩
  | true =>
   rw [Bool.true_and] at hall
   repeat (first | refine za6 ?_ | refine za0 rfl ?_ | refine za3 ?_ | refine za2 ?_ | refine zbk ?_ | refine zal ?_ | refine zae ?_ | refine zbg rfl ?_ | refine zbl rfl ?_ | refine zb8 ?_ | refine zah ?_ | refine zb7 ?_ | refine zaf ?_ | refine zaq rfl ?_ | refine za5 ?_ | refine zad ?_ | refine zc2 rfl ?_ | refine zcv rfl rfl ?_ | refine zf8 rfl ?_ | refine za4 rfl ?_ | refine zai rfl rfl ?_ | refine zaa rfl rfl rfl rfl ?_ | refine za8 rfl rfl rfl rfl rfl rfl rfl ?_ | refine za9 rfl ?_ | refine zap rfl rfl rfl ?_ | refine zag rfl rfl rfl ?_ | refine zb1 rfl rfl rfl rfl ?_ | refine zam ?_ | refine zaj rfl rfl ?_ | refine zac rfl rfl ?_ | refine zd2 rfl rfl ?_ | refine zbf rfl rfl ?_ | refine zb0 rfl rfl ?_ | refine zav rfl rfl ?_ | refine zbd rfl rfl ?_ | refine zay rfl rfl rfl ?_ | refine zbj rfl rfl ?_ | refine zb9 rfl rfl rfl rfl ?_ | refine zau rfl rfl rfl rfl ?_ | refine zbb rfl rfl rfl rfl ?_ | refine zc8 rfl rfl ?_ | refine zbt rfl rfl ?_ | refine zas rfl rfl ?_ | refine zc9 ?_ | refine zbc env0_ok rfl rfl rfl ?_ | refine zaz (op := .add) rfl rfl rfl ?_ | refine zaz (op := .sub) rfl rfl rfl ?_ | refine zc7 rfl rfl rfl ?_ | refine zc6 rfl rfl rfl ?_ | refine zbe rfl rfl rfl ?_ | refine zb5 rfl rfl rfl ?_ | refine zb4 rfl rfl (by omega) (by assumption) rfl ?_ | refine zag rfl rfl (decide_eq_true ⟨by omega, by omega⟩) ?_ | refine zbn rfl rfl (by omega) (by omega) ?_ | refine zba rfl rfl rfl ?_ | refine zcb rfl ?_ | refine zca rfl ?_)
   rw [zbo i (by omega)]
   exact zbz (show a.length - (i + 1) < a.length - i by omega) (zat (.cons rfl (.cons rfl (.cons rfl (.cons rfl (.cons rfl .nil)))))) ⟨i + 1, _, _, _, rfl, hlt, hall, rfl⟩
 ·have hi2 : i = a.length := by
   have := of_decide_eq_false h4
   rw [zan] at this
   omega
  rw [List.drop_of_length_le (by omega), List.drop_of_length_le (by omega), zk3] at hall
  repeat (first | refine za6 ?_ | refine za0 rfl ?_ | refine za3 ?_ | refine za2 ?_ | refine zbk ?_ | refine zal ?_ | refine zae ?_ | refine zbg rfl ?_ | refine zbl rfl ?_ | refine zb8 ?_ | refine zah ?_ | refine zb7 ?_ | refine zaf ?_ | refine zaq rfl ?_ | refine za5 ?_ | refine zad ?_ | refine zc2 rfl ?_ | refine zcv rfl rfl ?_ | refine zf8 rfl ?_ | refine za4 rfl ?_ | refine zai rfl rfl ?_ | refine zaa rfl rfl rfl rfl ?_ | refine za8 rfl rfl rfl rfl rfl rfl rfl ?_ | refine za9 rfl ?_ | refine zap rfl rfl rfl ?_ | refine zag rfl rfl rfl ?_ | refine zb1 rfl rfl rfl rfl ?_ | refine zam ?_ | refine zaj rfl rfl ?_ | refine zac rfl rfl ?_ | refine zd2 rfl rfl ?_ | refine zbf rfl rfl ?_ | refine zb0 rfl rfl ?_ | refine zav rfl rfl ?_ | refine zbd rfl rfl ?_ | refine zay rfl rfl rfl ?_ | refine zbj rfl rfl ?_ | refine zb9 rfl rfl rfl rfl ?_ | refine zau rfl rfl rfl rfl ?_ | refine zbb rfl rfl rfl rfl ?_ | refine zc8 rfl rfl ?_ | refine zbt rfl rfl ?_ | refine zas rfl rfl ?_ | refine zc9 ?_ | refine zbc env0_ok rfl rfl rfl ?_ | refine zaz (op := .add) rfl rfl rfl ?_ | refine zaz (op := .sub) rfl rfl rfl ?_ | refine zc7 rfl rfl rfl ?_ | refine zc6 rfl rfl rfl ?_ | refine zbe rfl rfl rfl ?_ | refine zb5 rfl rfl rfl ?_ | refine zb4 rfl rfl (by omega) (by assumption) rfl ?_ | refine zag rfl rfl (decide_eq_true ⟨by omega, by omega⟩) ?_ | refine zbn rfl rfl (by omega) (by omega) ?_ | refine zba rfl rfl rfl ?_ | refine zcb rfl ?_ | refine zca rfl ?_)
  refine zdq ?_
  repeat (first | refine za6 ?_ | refine za0 rfl ?_ | refine za3 ?_ | refine za2 ?_ | refine zbk ?_ | refine zal ?_ | refine zae ?_ | refine zbg rfl ?_ | refine zbl rfl ?_ | refine zb8 ?_ | refine zah ?_ | refine zb7 ?_ | refine zaf ?_ | refine zaq rfl ?_ | refine za5 ?_ | refine zad ?_ | refine zc2 rfl ?_ | refine zcv rfl rfl ?_ | refine zf8 rfl ?_ | refine za4 rfl ?_ | refine zai rfl rfl ?_ | refine zaa rfl rfl rfl rfl ?_ | refine za8 rfl rfl rfl rfl rfl rfl rfl ?_ | refine za9 rfl ?_ | refine zap rfl rfl rfl ?_ | refine zag rfl rfl rfl ?_ | refine zb1 rfl rfl rfl rfl ?_ | refine zam ?_ | refine zaj rfl rfl ?_ | refine zac rfl rfl ?_ | refine zd2 rfl rfl ?_ | refine zbf rfl rfl ?_ | refine zb0 rfl rfl ?_ | refine zav rfl rfl ?_ | refine zbd rfl rfl ?_ | refine zay rfl rfl rfl ?_ | refine zbj rfl rfl ?_ | refine zb9 rfl rfl rfl rfl ?_ | refine zau rfl rfl rfl rfl ?_ | refine zbb rfl rfl rfl rfl ?_ | refine zc8 rfl rfl ?_ | refine zbt rfl rfl ?_ | refine zas rfl rfl ?_ | refine zc9 ?_ | refine zbc env0_ok rfl rfl rfl ?_ | refine zaz (op := .add) rfl rfl rfl ?_ | refine zaz (op := .sub) rfl rfl rfl ?_ | refine zc7 rfl rfl rfl ?_ | refine zc6 rfl rfl rfl ?_ | refine zbe rfl rfl rfl ?_ | refine zb5 rfl rfl rfl ?_ | refine zb4 rfl rfl (by omega) (by assumption) rfl ?_ | refine zag rfl rfl (decide_eq_true ⟨by omega, by omega⟩) ?_ | refine zbn rfl rfl (by omega) (by omega) ?_ | refine zba rfl rfl rfl ?_ | refine zcb rfl ?_ | refine zca rfl ?_)
  exact zak ⟨.inr rfl, _, rfl, by rw [hall]; rfl⟩
set_option maxHeartbeats 4000000 in
theorem equal56 : ∀ (q : Nat) (x y : Ex), SizeOf.sizeOf x ≤ q → szX x ≤ 256 → PF Try.prog 56 [.agg (cX x), .agg (cX y)] (.bool (eqX x y)) := by
 intro q
 induction q with
 | zero => intro x y hq; cases x; simp at hq
 | succ q ih =>
  intro x y hq hz
  obtain ⟨op, ix, args⟩ := x
  obtain ⟨op2, ix2, args2⟩ := y
  have hlen := zbx args
  have hszl : szL args ≤ 255 := by rw [szX] at hz; omega
  have p83 := equalf83 args args2 (by omega) fun i h k => by
   have hmem : args[i] ∈ args := List.getElem_mem h
   exact ih args[i] args2[i] (by have := zed (op := op) (ix := ix) hmem; omega) (by have := zeu (op := op) (ix := ix) hmem; omega)
  refine zb3 env0_ok fn56 [(0, .agg (cX (.nd op ix args))), (1, .agg (cX (.nd op2 ix2 args2)))] (by show 2 ≤ 24; decide) rfl fun w0 N0 => ?_
  unfold ic56
  rw [eqX]
  generalize zk3 args args2 = r at *
  refine za6 (za0 rfl (zbd rfl rfl (zbd rfl rfl (za4 rfl (za3 (za2 ?_))))))
  refine zce [] [(0, 0, cX (.nd op ix args)), (1, 1, cX (.nd op2 ix2 args2))] [(2, .vptr (cX (.nd op ix args))), (3, .vptr (cX (.nd op2 ix2 args2)))] rfl (.cons rfl rfl (.cons rfl rfl .nil)) .nil (.cons rfl (.fptr rfl rfl) (.cons rfl (.fptr rfl rfl) .nil)) ?_
  repeat (first | refine za6 ?_ | refine za0 rfl ?_ | refine za3 ?_ | refine za2 ?_ | refine zbk ?_ | refine zal ?_ | refine zae ?_ | refine zbg rfl ?_ | refine zbl rfl ?_ | refine zb8 ?_ | refine zah ?_ | refine zb7 ?_ | refine zaf ?_ | refine zaq rfl ?_ | refine za5 ?_ | refine zad ?_ | refine zc2 rfl ?_ | refine zcv rfl rfl ?_ | refine zf8 rfl ?_ | refine za4 rfl ?_ | refine zai rfl rfl ?_ | refine zaa rfl rfl rfl rfl ?_ | refine za8 rfl rfl rfl rfl rfl rfl rfl ?_ | refine za9 rfl ?_ | refine zap rfl rfl rfl ?_ | refine zag rfl rfl rfl ?_ | refine zb1 rfl rfl rfl rfl ?_ | refine zam ?_ | refine zaj rfl rfl ?_ | refine zac rfl rfl ?_ | refine zd2 rfl rfl ?_ | refine zbf rfl rfl ?_ | refine zb0 rfl rfl ?_ | refine zav rfl rfl ?_ | refine zbd rfl rfl ?_ | refine zay rfl rfl rfl ?_ | refine zbj rfl rfl ?_ | refine zb9 rfl rfl rfl rfl ?_ | refine zau rfl rfl rfl rfl ?_ | refine zbb rfl rfl rfl rfl ?_ | refine zc8 rfl rfl ?_ | refine zbt rfl rfl ?_ | refine zas rfl rfl ?_ | refine zc9 ?_ | refine zbc env0_ok rfl rfl rfl ?_ | refine zaz (op := .add) rfl rfl rfl ?_ | refine zaz (op := .sub) rfl rfl rfl ?_ | refine zc7 rfl rfl rfl ?_ | refine zc6 rfl rfl rfl ?_ | refine zbe rfl rfl rfl ?_ | refine zb5 rfl rfl rfl ?_ | refine zb4 rfl rfl (by omega) (by assumption) rfl ?_ | refine zag rfl rfl (decide_eq_true ⟨by omega, by omega⟩) ?_ | refine zbn rfl rfl (by omega) (by omega) ?_ | refine zba rfl rfl rfl ?_ | refine zcb rfl ?_ | refine zca rfl ?_)
  refine zaw rfl rfl rfl (fun h1 => ?_) fun h1 => ?_
  ·rw [h1]
   repeat (first | refine za6 ?_ | refine za0 rfl ?_ | refine za3 ?_ | refine za2 ?_ | refine zbk ?_ | refine zal ?_ | refine zae ?_ | refine zbg rfl ?_ | refine zbl rfl ?_ | refine zb8 ?_ | refine zah ?_ | refine zb7 ?_ | refine zaf ?_ | refine zaq rfl ?_ | refine za5 ?_ | refine zad ?_ | refine zc2 rfl ?_ | refine zcv rfl rfl ?_ | refine zf8 rfl ?_ | refine za4 rfl ?_ | refine zai rfl rfl ?_ | refine zaa rfl rfl rfl rfl ?_ | refine za8 rfl rfl rfl rfl rfl rfl rfl ?_ | refine za9 rfl ?_ | refine zap rfl rfl rfl ?_ | refine zag rfl rfl rfl ?_ | refine zb1 rfl rfl rfl rfl ?_ | refine zam ?_ | refine zaj rfl rfl ?_ | refine zac rfl rfl ?_ | refine zd2 rfl rfl ?_ | refine zbf rfl rfl ?_ | refine zb0 rfl rfl ?_ | refine zav rfl rfl ?_ | refine zbd rfl rfl ?_ | refine zay rfl rfl rfl ?_ | refine zbj rfl rfl ?_ | refine zb9 rfl rfl rfl rfl ?_ | refine zau rfl rfl rfl rfl ?_ | refine zbb rfl rfl rfl rfl ?_ | refine zc8 rfl rfl ?_ | refine zbt rfl rfl ?_ | refine zas rfl rfl ?_ | refine zc9 ?_ | refine zbc env0_ok rfl rfl rfl ?_ | refine zaz (op := .add) rfl rfl rfl ?_ | refine zaz (op := .sub) rfl rfl rfl ?_ | refine zc7 rfl rfl rfl ?_ | refine zc6 rfl rfl rfl ?_ | refine zbe rfl rfl rfl ?_ | refine zb5 rfl rfl rfl ?_ | refine zb4 rfl rfl (by omega) (by assumption) rfl ?_ | refine zag rfl rfl (decide_eq_true ⟨by omega, by omega⟩) ?_ | refine zbn rfl rfl (by omega) (by omega) ?_ | refine zba rfl rfl rfl ?_ | refine zcb rfl ?_ | refine zca rfl ?_)
   refine zaw rfl rfl rfl (fun h2 => ?_) fun h2 => ?_
   ·rw [h2]
    repeat (first | refine za6 ?_ | refine za0 rfl ?_ | refine za3 ?_ | refine za2 ?_ | refine zbk ?_ | refine zal ?_ | refine zae ?_ | refine zbg rfl ?_ | refine zbl rfl ?_ | refine zb8 ?_ | refine zah ?_ | refine zb7 ?_ | refine zaf ?_ | refine zaq rfl ?_ | refine za5 ?_ | refine zad ?_ | refine zc2 rfl ?_ | refine zcv rfl rfl ?_ | refine zf8 rfl ?_ | refine za4 rfl ?_ | refine zai rfl rfl ?_ | refine zaa rfl rfl rfl rfl ?_ | refine za8 rfl rfl rfl rfl rfl rfl rfl ?_ | refine za9 rfl ?_ | refine zap rfl rfl rfl ?_ | refine zag rfl rfl rfl ?_ | refine zb1 rfl rfl rfl rfl ?_ | refine zam ?_ | refine zaj rfl rfl ?_ | refine zac rfl rfl ?_ | refine zd2 rfl rfl ?_ | refine zbf rfl rfl ?_ | refine zb0 rfl rfl ?_ | refine zav rfl rfl ?_ | refine zbd rfl rfl ?_ | refine zay rfl rfl rfl ?_ | refine zbj rfl rfl ?_ | refine zb9 rfl rfl rfl rfl ?_ | refine zau rfl rfl rfl rfl ?_ | refine zbb rfl rfl rfl rfl ?_ | refine zc8 rfl rfl ?_ | refine zbt rfl rfl ?_ | refine zas rfl rfl ?_ | refine zc9 ?_ | refine zbc env0_ok rfl rfl rfl ?_ | refine zaz (op := .add) rfl rfl rfl ?_ | refine zaz (op := .sub) rfl rfl rfl ?_ | refine zc7 rfl rfl rfl ?_ | refine zc6 rfl rfl rfl ?_ | refine zbe rfl rfl rfl ?_ | refine zb5 rfl rfl rfl ?_ | refine zb4 rfl rfl (by omega) (by assumption) rfl ?_ | refine zag rfl rfl (decide_eq_true ⟨by omega, by omega⟩) ?_ | refine zbn rfl rfl (by omega) (by omega) ?_ | refine zba rfl rfl rfl ?_ | refine zcb rfl ?_ | refine zca rfl ?_)
    refine zar rfl rfl p83 (fun h => Bool.noConfusion (show false = true from h)) ?_
    repeat (first | refine za6 ?_ | refine za0 rfl ?_ | refine za3 ?_ | refine za2 ?_ | refine zbk ?_ | refine zal ?_ | refine zae ?_ | refine zbg rfl ?_ | refine zbl rfl ?_ | refine zb8 ?_ | refine zah ?_ | refine zb7 ?_ | refine zaf ?_ | refine zaq rfl ?_ | refine za5 ?_ | refine zad ?_ | refine zc2 rfl ?_ | refine zcv rfl rfl ?_ | refine zf8 rfl ?_ | refine za4 rfl ?_ | refine zai rfl rfl ?_ | refine zaa rfl rfl rfl rfl ?_ | refine za8 rfl rfl rfl rfl rfl rfl rfl ?_ | refine za9 rfl ?_ | refine zap rfl rfl rfl ?_ | refine zag rfl rfl rfl ?_ | refine zb1 rfl rfl rfl rfl ?_ | refine zam ?_ | refine zaj rfl rfl ?_ | refine zac rfl rfl ?_ | refine zd2 rfl rfl ?_ | refine zbf rfl rfl ?_ | refine zb0 rfl rfl ?_ | refine zav rfl rfl ?_ | refine zbd rfl rfl ?_ | refine zay rfl rfl rfl ?_ | refine zbj rfl rfl ?_ | refine zb9 rfl rfl rfl rfl ?_ | refine zau rfl rfl rfl rfl ?_ | refine zbb rfl rfl rfl rfl ?_ | refine zc8 rfl rfl ?_ | refine zbt rfl rfl ?_ | refine zas rfl rfl ?_ | refine zc9 ?_ | refine zbc env0_ok rfl rfl rfl ?_ | refine zaz (op := .add) rfl rfl rfl ?_ | refine zaz (op := .sub) rfl rfl rfl ?_ | refine zc7 rfl rfl rfl ?_ | refine zc6 rfl rfl rfl ?_ | refine zbe rfl rfl rfl ?_ | refine zb5 rfl rfl rfl ?_ | refine zb4 rfl rfl (by omega) (by assumption) rfl ?_ | refine zag rfl rfl (decide_eq_true ⟨by omega, by omega⟩) ?_ | refine zbn rfl rfl (by omega) (by omega) ?_ | refine zba rfl rfl rfl ?_ | refine zcb rfl ?_ | refine zca rfl ?_)
    exact zak ⟨.inr rfl, _, rfl, rfl⟩
   ·rw [h2]
    repeat (first | refine za6 ?_ | refine za0 rfl ?_ | refine za3 ?_ | refine za2 ?_ | refine zbk ?_ | refine zal ?_ | refine zae ?_ | refine zbg rfl ?_ | refine zbl rfl ?_ | refine zb8 ?_ | refine zah ?_ | refine zb7 ?_ | refine zaf ?_ | refine zaq rfl ?_ | refine za5 ?_ | refine zad ?_ | refine zc2 rfl ?_ | refine zcv rfl rfl ?_ | refine zf8 rfl ?_ | refine za4 rfl ?_ | refine zai rfl rfl ?_ | refine zaa rfl rfl rfl rfl ?_ | refine za8 rfl rfl rfl rfl rfl rfl rfl ?_ | refine za9 rfl ?_ | refine zap rfl rfl rfl ?_ | refine zag rfl rfl rfl ?_ | refine zb1 rfl rfl rfl rfl ?_ | refine zam ?_ | refine zaj rfl rfl ?_ | refine zac rfl rfl ?_ | refine zd2 rfl rfl ?_ | refine zbf rfl rfl ?_ | refine zb0 rfl rfl ?_ | refine zav rfl rfl ?_ | refine zbd rfl rfl ?_ | refine zay rfl rfl rfl ?_ | refine zbj rfl rfl ?_ | refine zb9 rfl rfl rfl rfl ?_ | refine zau rfl rfl rfl rfl ?_ | refine zbb rfl rfl rfl rfl ?_ | refine zc8 rfl rfl ?_ | refine zbt rfl rfl ?_ | refine zas rfl rfl ?_ | refine zc9 ?_ | refine zbc env0_ok rfl rfl rfl ?_ | refine zaz (op := .add) rfl rfl rfl ?_ | refine zaz (op := .sub) rfl rfl rfl ?_ | refine zc7 rfl rfl rfl ?_ | refine zc6 rfl rfl rfl ?_ | refine zbe rfl rfl rfl ?_ | refine zb5 rfl rfl rfl ?_ | refine zb4 rfl rfl (by omega) (by assumption) rfl ?_ | refine zag rfl rfl (decide_eq_true ⟨by omega, by omega⟩) ?_ | refine zbn rfl rfl (by omega) (by omega) ?_ | refine zba rfl rfl rfl ?_ | refine zcb rfl ?_ | refine zca rfl ?_)
    exact zak ⟨.inr rfl, _, rfl, rfl⟩
  ·rw [h1]
   repeat (first | refine za6 ?_ | refine za0 rfl ?_ | refine za3 ?_ | refine za2 ?_ | refine zbk ?_ | refine zal ?_ | refine zae ?_ | refine zbg rfl ?_ | refine zbl rfl ?_ | refine zb8 ?_ | refine zah ?_ | refine zb7 ?_ | refine zaf ?_ | refine zaq rfl ?_ | refine za5 ?_ | refine zad ?_ | refine zc2 rfl ?_ | refine zcv rfl rfl ?_ | refine zf8 rfl ?_ | refine za4 rfl ?_ | refine zai rfl rfl ?_ | refine zaa rfl rfl rfl rfl ?_ | refine za8 rfl rfl rfl rfl rfl rfl rfl ?_ | refine za9 rfl ?_ | refine zap rfl rfl rfl ?_ | refine zag rfl rfl rfl ?_ | refine zb1 rfl rfl rfl rfl ?_ | refine zam ?_ | refine zaj rfl rfl ?_ | refine zac rfl rfl ?_ | refine zd2 rfl rfl ?_ | refine zbf rfl rfl ?_ | refine zb0 rfl rfl ?_ | refine zav rfl rfl ?_ | refine zbd rfl rfl ?_ | refine zay rfl rfl rfl ?_ | refine zbj rfl rfl ?_ | refine zb9 rfl rfl rfl rfl ?_ | refine zau rfl rfl rfl rfl ?_ | refine zbb rfl rfl rfl rfl ?_ | refine zc8 rfl rfl ?_ | refine zbt rfl rfl ?_ | refine zas rfl rfl ?_ | refine zc9 ?_ | refine zbc env0_ok rfl rfl rfl ?_ | refine zaz (op := .add) rfl rfl rfl ?_ | refine zaz (op := .sub) rfl rfl rfl ?_ | refine zc7 rfl rfl rfl ?_ | refine zc6 rfl rfl rfl ?_ | refine zbe rfl rfl rfl ?_ | refine zb5 rfl rfl rfl ?_ | refine zb4 rfl rfl (by omega) (by assumption) rfl ?_ | refine zag rfl rfl (decide_eq_true ⟨by omega, by omega⟩) ?_ | refine zbn rfl rfl (by omega) (by omega) ?_ | refine zba rfl rfl rfl ?_ | refine zcb rfl ?_ | refine zca rfl ?_)
   exact zak ⟨.inr rfl, _, rfl, rfl⟩
end Go.Proofs.Ytmnkjofaodbokaa
namespace Go.Proofs.Ytmnkjofaodbokaa
open Go Go.Am
-- pneumatic/pneumaticref05.Same
def ic16 : IC := .seq (.region [⟨(some 2), .box (.t 0), none⟩,
  ⟨(some 3), .box (.t 1), none⟩,
  ⟨(some 4), .mov (.c (.bool false)), none⟩] none)
 (.seq (.region [⟨(some 5), .load (some 3) (.t 2), none⟩,
  ⟨(some 6), .call (.c (.fn 48 [] [])) [(.t 5)], none⟩,
  ⟨(some 7), .mov (.t 6), none⟩,
  ⟨(some 8), .load (some 3) (.t 3), some (7, true)⟩,
  ⟨(some 9), .call (.c (.fn 48 [] [])) [(.t 8)], some (7, true)⟩,
  ⟨(some 10), .pick (.t 7) (.t 9) (.c (.bool false)), none⟩,
  ⟨(some 11), .mov (.t 10), none⟩,
  ⟨(some 12), .load (some 3) (.t 2), some (11, true)⟩,
  ⟨(some 13), .load (some 3) (.t 3), some (11, true)⟩,
  ⟨(some 14), .call (.c (.fn 49 [] [])) [(.t 12), (.t 13)], some (11, true)⟩,
  ⟨(some 15), .pick (.t 11) (.t 14) (.c (.bool false)), none⟩,
  ⟨(some 4), .mov (.t 15), none⟩] none)
 (.ret))
theorem fn16 : env0.fn 16 = some ⟨16, ic16, [.t 4]⟩ := by kernel_rfl
def sameX (x y : Ex) : Bool := zcj x && (zcj y && eqX x y)
theorem same16 (x y : Ex) (hs : Slim x) (hs2 : Slim y) : PF Try.prog 16 [.agg (cX x), .agg (cX y)] (.bool (sameX x y)) := by
 have p1 := zly x hs
 have p2 := zly y hs2
 have p3 := zof _ x y (Nat.le_refl _) hs
 unfold sameX
 generalize zcj x = a at *
 generalize zcj y = b at *
 generalize eqX x y = c at *
 obtain ⟨op, ix, args⟩ := x
 obtain ⟨op2, ix2, args2⟩ := y
 refine zb3 env0_ok fn16 [(0, .agg (cX (.nd op ix args))), (1, .agg (cX (.nd op2 ix2 args2)))] (by show 2 ≤ 16; decide) rfl fun w0 N0 => ?_
 unfold ic16
 refine za6 (za0 rfl (zbd rfl rfl (zbd rfl rfl (za4 rfl (za3 (za2 ?_))))))
 refine zce [] [(0, 0, cX (.nd op ix args)), (1, 1, cX (.nd op2 ix2 args2))] [(2, .vptr (cX (.nd op ix args))), (3, .vptr (cX (.nd op2 ix2 args2)))] rfl (.cons rfl rfl (.cons rfl rfl .nil)) .nil (.cons rfl (.fptr rfl rfl) (.cons rfl (.fptr rfl rfl) .nil)) ?_
 repeat (first | refine za6 ?_ | refine za0 rfl ?_ | refine za3 ?_ | refine za2 ?_ | refine zbk ?_ | refine zal ?_ | refine zae ?_ | refine zbg rfl ?_ | refine zbl rfl ?_ | refine zb8 ?_ | refine zah ?_ | refine zb7 ?_ | refine zaf ?_ | refine zaq rfl ?_ | refine za5 ?_ | refine zad ?_ | refine zc2 rfl ?_ | refine zcv rfl rfl ?_ | refine zf8 rfl ?_ | refine za4 rfl ?_ | refine zai rfl rfl ?_ | refine zaa rfl rfl rfl rfl ?_ | refine za8 rfl rfl rfl rfl rfl rfl rfl ?_ | refine za9 rfl ?_ | refine zap rfl rfl rfl ?_ | refine zag rfl rfl rfl ?_ | refine zb1 rfl rfl rfl rfl ?_ | refine zam ?_ | refine zaj rfl rfl ?_ | refine zac rfl rfl ?_ | refine zd2 rfl rfl ?_ | refine zbf rfl rfl ?_ | refine zb0 rfl rfl ?_ | refine zav rfl rfl ?_ | refine zbd rfl rfl ?_ | refine zay rfl rfl rfl ?_ | refine zbj rfl rfl ?_ | refine zb9 rfl rfl rfl rfl ?_ | refine zau rfl rfl rfl rfl ?_ | refine zbb rfl rfl rfl rfl ?_ | refine zc8 rfl rfl ?_ | refine zbt rfl rfl ?_ | refine zas rfl rfl ?_ | refine zc9 ?_ | refine zbc env0_ok rfl rfl rfl ?_ | refine zaz (op := .add) rfl rfl rfl ?_ | refine zaz (op := .sub) rfl rfl rfl ?_ | refine zc7 rfl rfl rfl ?_ | refine zc6 rfl rfl rfl ?_ | refine zbe rfl rfl rfl ?_ | refine zb5 rfl rfl rfl ?_ | refine zb4 rfl rfl (by omega) (by assumption) rfl ?_ | refine zag rfl rfl (decide_eq_true ⟨by omega, by omega⟩) ?_ | refine zbn rfl rfl (by omega) (by omega) ?_ | refine zba rfl rfl rfl ?_ | refine zcb rfl ?_ | refine zca rfl ?_)
 refine zar rfl rfl p1 (fun h => Bool.noConfusion (show false = true from h)) ?_
 cases a with
 | false =>
  repeat (first | refine za6 ?_ | refine za0 rfl ?_ | refine za3 ?_ | refine za2 ?_ | refine zbk ?_ | refine zal ?_ | refine zae ?_ | refine zbg rfl ?_ | refine zbl rfl ?_ | refine zb8 ?_ | refine zah ?_ | refine zb7 ?_ | refine zaf ?_ | refine zaq rfl ?_ | refine za5 ?_ | refine zad ?_ | refine zc2 rfl ?_ | refine zcv rfl rfl ?_ | refine zf8 rfl ?_ | refine za4 rfl ?_ | refine zai rfl rfl ?_ | refine zaa rfl rfl rfl rfl ?_ | refine za8 rfl rfl rfl rfl rfl rfl rfl ?_ | refine za9 rfl ?_ | refine zap rfl rfl rfl ?_ | refine zag rfl rfl rfl ?_ | refine zb1 rfl rfl rfl rfl ?_ | refine zam ?_ | refine zaj rfl rfl ?_ | refine zac rfl rfl ?_ | refine zd2 rfl rfl ?_ | refine zbf rfl rfl ?_ | refine zb0 rfl rfl ?_ | refine zav rfl rfl ?_ | refine zbd rfl rfl ?_ | refine zay rfl rfl rfl ?_ | refine zbj rfl rfl ?_ | refine zb9 rfl rfl rfl rfl ?_ | refine zau rfl rfl rfl rfl ?_ | refine zbb rfl rfl rfl rfl ?_ | refine zc8 rfl rfl ?_ | refine zbt rfl rfl ?_ | refine zas rfl rfl ?_ | refine zc9 ?_ | refine zbc env0_ok rfl rfl rfl ?_ | refine zaz (op := .add) rfl rfl rfl ?_ | refine zaz (op := .sub) rfl rfl rfl ?_ | refine zc7 rfl rfl rfl ?_ | refine zc6 rfl rfl rfl ?_ | refine zbe rfl rfl rfl ?_ | refine zb5 rfl rfl rfl ?_ | refine zb4 rfl rfl (by omega) (by assumption) rfl ?_ | refine zag rfl rfl (decide_eq_true ⟨by omega, by omega⟩) ?_ | refine zbn rfl rfl (by omega) (by omega) ?_ | refine zba rfl rfl rfl ?_ | refine zcb rfl ?_ | refine zca rfl ?_)
  exact zak ⟨.inr rfl, _, rfl, rfl⟩
 | true =>
  repeat (first | refine za6 ?_ | refine za0 rfl ?_ | refine za3 ?_ | refine za2 ?_ | refine zbk ?_ | refine zal ?_ | refine zae ?_ | refine zbg rfl ?_ | refine zbl rfl ?_ | refine zb8 ?_ | refine zah ?_ | refine zb7 ?_ | refine zaf ?_ | refine zaq rfl ?_ | refine za5 ?_ | refine zad ?_ | refine zc2 rfl ?_ | refine zcv rfl rfl ?_ | refine zf8 rfl ?_ | refine za4 rfl ?_ | refine zai rfl rfl ?_ | refine zaa rfl rfl rfl rfl ?_ | refine za8 rfl rfl rfl rfl rfl rfl rfl ?_ | refine za9 rfl ?_ | refine zap rfl rfl rfl ?_ | refine zag rfl rfl rfl ?_ | refine zb1 rfl rfl rfl rfl ?_ | refine zam ?_ | refine zaj rfl rfl ?_ | refine zac rfl rfl ?_ | refine zd2 rfl rfl ?_ | refine zbf rfl rfl ?_ | refine zb0 rfl rfl ?_ | refine zav rfl rfl ?_ | refine zbd rfl rfl ?_ | refine zay rfl rfl rfl ?_ | refine zbj rfl rfl ?_ | refine zb9 rfl rfl rfl rfl ?_ | refine zau rfl rfl rfl rfl ?_ | refine zbb rfl rfl rfl rfl ?_ | refine zc8 rfl rfl ?_ | refine zbt rfl rfl ?_ | refine zas rfl rfl ?_ | refine zc9 ?_ | refine zbc env0_ok rfl rfl rfl ?_ | refine zaz (op := .add) rfl rfl rfl ?_ | refine zaz (op := .sub) rfl rfl rfl ?_ | refine zc7 rfl rfl rfl ?_ | refine zc6 rfl rfl rfl ?_ | refine zbe rfl rfl rfl ?_ | refine zb5 rfl rfl rfl ?_ | refine zb4 rfl rfl (by omega) (by assumption) rfl ?_ | refine zag rfl rfl (decide_eq_true ⟨by omega, by omega⟩) ?_ | refine zbn rfl rfl (by omega) (by omega) ?_ | refine zba rfl rfl rfl ?_ | refine zcb rfl ?_ | refine zca rfl ?_)
  refine zar rfl rfl p2 (fun h => Bool.noConfusion (show false = true from h)) ?_
  cases b with
  | false =>
   repeat (first | refine za6 ?_ | refine za0 rfl ?_ | refine za3 ?_ | refine za2 ?_ | refine zbk ?_ | refine zal ?_ | refine zae ?_ | refine zbg rfl ?_ | refine zbl rfl ?_ | refine zb8 ?_ | refine zah ?_ | refine zb7 ?_ | refine zaf ?_ | refine zaq rfl ?_ | refine za5 ?_ | refine zad ?_ | refine zc2 rfl ?_ | refine zcv rfl rfl ?_ | refine zf8 rfl ?_ | refine za4 rfl ?_ | refine zai rfl rfl ?_ | refine zaa rfl rfl rfl rfl ?_ | refine za8 rfl rfl rfl rfl rfl rfl rfl ?_ | refine za9 rfl ?_ | refine zap rfl rfl rfl ?_ | refine zag rfl rfl rfl ?_ | refine zb1 rfl rfl rfl rfl ?_ | refine zam ?_ | refine zaj rfl rfl ?_ | refine zac rfl rfl ?_ | refine zd2 rfl rfl ?_ | refine zbf rfl rfl ?_ | refine zb0 rfl rfl ?_ | refine zav rfl rfl ?_ | refine zbd rfl rfl ?_ | refine zay rfl rfl rfl ?_ | refine zbj rfl rfl ?_ | refine zb9 rfl rfl rfl rfl ?_ | refine zau rfl rfl rfl rfl ?_ | refine zbb rfl rfl rfl rfl ?_ | refine zc8 rfl rfl ?_ | refine zbt rfl rfl ?_ | refine zas rfl rfl ?_ | refine zc9 ?_ | refine zbc env0_ok rfl rfl rfl ?_ | refine zaz (op := .add) rfl rfl rfl ?_ | refine zaz (op := .sub) rfl rfl rfl ?_ | refine zc7 rfl rfl rfl ?_ | refine zc6 rfl rfl rfl ?_ | refine zbe rfl rfl rfl ?_ | refine zb5 rfl rfl rfl ?_ | refine zb4 rfl rfl (by omega) (by assumption) rfl ?_ | refine zag rfl rfl (decide_eq_true ⟨by omega, by omega⟩) ?_ | refine zbn rfl rfl (by omega) (by omega) ?_ | refine zba rfl rfl rfl ?_ | refine zcb rfl ?_ | refine zca rfl ?_)
   exact zak ⟨.inr rfl, _, rfl, rfl⟩
  | true =>
   repeat (first | refine za6 ?_ | refine za0 rfl ?_ | refine za3 ?_ | refine za2 ?_ | refine zbk ?_ | refine zal ?_ | refine zae ?_ | refine zbg rfl ?_ | refine zbl rfl ?_ | refine zb8 ?_ | refine zah ?_ | refine zb7 ?_ | refine zaf ?_ | refine zaq rfl ?_ | refine za5 ?_ | refine zad ?_ | refine zc2 rfl ?_ | refine zcv rfl rfl ?_ | refine zf8 rfl ?_ | refine za4 rfl ?_ | refine zai rfl rfl ?_ | refine zaa rfl rfl rfl rfl ?_ | refine za8 rfl rfl rfl rfl rfl rfl rfl ?_ | refine za9 rfl ?_ | refine zap rfl rfl rfl ?_ | refine zag rfl rfl rfl ?_ | refine zb1 rfl rfl rfl rfl ?_ | refine zam ?_ | refine zaj rfl rfl ?_ | refine zac rfl rfl ?_ | refine zd2 rfl rfl ?_ | refine zbf rfl rfl ?_ | refine zb0 rfl rfl ?_ | refine zav rfl rfl ?_ | refine zbd rfl rfl ?_ | refine zay rfl rfl rfl ?_ | refine zbj rfl rfl ?_ | refine zb9 rfl rfl rfl rfl ?_ | refine zau rfl rfl rfl rfl ?_ | refine zbb rfl rfl rfl rfl ?_ | refine zc8 rfl rfl ?_ | refine zbt rfl rfl ?_ | refine zas rfl rfl ?_ | refine zc9 ?_ | refine zbc env0_ok rfl rfl rfl ?_ | refine zaz (op := .add) rfl rfl rfl ?_ | refine zaz (op := .sub) rfl rfl rfl ?_ | refine zc7 rfl rfl rfl ?_ | refine zc6 rfl rfl rfl ?_ | refine zbe rfl rfl rfl ?_ | refine zb5 rfl rfl rfl ?_ | refine zb4 rfl rfl (by omega) (by assumption) rfl ?_ | refine zag rfl rfl (decide_eq_true ⟨by omega, by omega⟩) ?_ | refine zbn rfl rfl (by omega) (by omega) ?_ | refine zba rfl rfl rfl ?_ | refine zcb rfl ?_ | refine zca rfl ?_)
   refine zar rfl rfl p3 (fun h => Bool.noConfusion (show false = true from h)) ?_
   repeat (first | refine za6 ?_ | refine za0 rfl ?_ | refine za3 ?_ | refine za2 ?_ | refine zbk ?_ | refine zal ?_ | refine zae ?_ | refine zbg rfl ?_ | refine zbl rfl ?_ | refine zb8 ?_ | refine zah ?_ | refine zb7 ?_ | refine zaf ?_ | refine zaq rfl ?_ | refine za5 ?_ | refine zad ?_ | refine zc2 rfl ?_ | refine zcv rfl rfl ?_ | refine zf8 rfl ?_ | refine za4 rfl ?_ | refine zai rfl rfl ?_ | refine zaa rfl rfl rfl rfl ?_ | refine za8 rfl rfl rfl rfl rfl rfl rfl ?_ | refine za9 rfl ?_ | refine zap rfl rfl rfl ?_ | refine zag rfl rfl rfl ?_ | refine zb1 rfl rfl rfl rfl ?_ | refine zam ?_ | refine zaj rfl rfl ?_ | refine zac rfl rfl ?_ | refine zd2 rfl rfl ?_ | refine zbf rfl rfl ?_ | refine zb0 rfl rfl ?_ | refine zav rfl rfl ?_ | refine zbd rfl rfl ?_ | refine zay rfl rfl rfl ?_ | refine zbj rfl rfl ?_ | refine zb9 rfl rfl rfl rfl ?_ | refine zau rfl rfl rfl rfl ?_ | refine zbb rfl rfl rfl rfl ?_ | refine zc8 rfl rfl ?_ | refine zbt rfl rfl ?_ | refine zas rfl rfl ?_ | refine zc9 ?_ | refine zbc env0_ok rfl rfl rfl ?_ | refine zaz (op := .add) rfl rfl rfl ?_ | refine zaz (op := .sub) rfl rfl rfl ?_ | refine zc7 rfl rfl rfl ?_ | refine zc6 rfl rfl rfl ?_ | refine zbe rfl rfl rfl ?_ | refine zb5 rfl rfl rfl ?_ | refine zb4 rfl rfl (by omega) (by assumption) rfl ?_ | refine zag rfl rfl (decide_eq_true ⟨by omega, by omega⟩) ?_ | refine zbn rfl rfl (by omega) (by omega) ?_ | refine zba rfl rfl rfl ?_ | refine zcb rfl ?_ | refine zca rfl ?_)
   exact zak ⟨.inr rfl, _, rfl, rfl⟩
end Go.Proofs.Ytmnkjofaodbokaa
namespace Go.Proofs.Ytmnkjofaodbokaa
open Go Go.Am
theorem cXs_app (q : List Ex) (x : Ex) : cXs (q ++ [x]) = cXs q ++ [cX x] := by
 rw [zfd, zfd, List.map_append]; rfl
theorem zgl {q : List Ex} : ∀ x ∈ cXs q, x.length = 3 := fun x hx => by
 rw [zfd] at hx
 obtain ⟨y, _, rfl⟩ := List.mem_map.1 hx
 exact ziq y
theorem cXs_flat (q : List Ex) : (cXs q).flatten.length = q.length * 3 := by
 induction q with
 | nil => rfl
 | cons x q ih =>
  rw [cXs, List.flatten_cons, List.length_append, ziq, ih, List.length_cons]
  omega
theorem cX_cells (x : Ex) : (cX x).all AV.isCell = true := by cases x; rfl
def Gx (b : Nat) (q : List Ex) (w : AV) (hp : List (Nat × Nat × AObj)) (nx : Nat) : Prop :=
 (q = [] ∧ w = .nils) ∨ ∃ id sp, w = .ms id sp 3 0 q.length none ∧ Am.look id hp = some (sp, .cells (cXs q).flatten) ∧ b < id ∧ id < nx
section
variable {b nx : Nat} {q : List Ex} {w : AV} {hp : List (Nat × Nat × AObj)}
theorem Gx.fresh (h : Gx b q w hp nx) (ck : Nat) (x : AObj) : Gx b q w ((nx, ck, x) :: hp) (nx + 1) := by
 rcases h with h | ⟨id, sp, e, hl, h1, h2⟩
 ·exact .inl h
 ·exact .inr ⟨id, sp, e, by rw [zax, if_neg (by omega)]; exact hl, h1, by omega⟩
theorem Gx.put (h : Gx b q w hp nx) {i : Nat} (hi : i ≤ b ∨ nx ≤ i) (x : Nat × AObj) : Gx b q w (zc3 i x hp) nx := by
 rcases h with h | ⟨id, sp, e, hl, h1, h2⟩
 ·exact .inl h
 ·exact .inr ⟨id, sp, e, by rw [za1, if_neg (by omega)]; exact hl, h1, h2⟩
theorem Gx.elems {S : AS} {id sp : Nat} (hl : Am.look id S.heap = some (sp, .cells (cXs q).flatten)) : S.elems 3 (.ms id sp 3 0 q.length none) = some (cXs q) := by
 obtain ⟨n, t, hp, nx, ck, mk⟩ := S
 exact zgq (ys := []) (cap := none) (n := n) (nx := nx) (ck := ck) (mk := mk) (l := []) (hp := hp) (by rw [List.append_nil]; exact hl) (zan q) zgl
theorem cX_view {S : AS} {d : Nat} (x : Ex) : (cX x).map (S.view d) = cX x := by
 cases x
 cases d <;> rfl
theorem Gx.view {S : AS} {d : Nat} (h : Gx b q w S.heap nx) : S.view (d + 1) w = .vs (cXs q) := by
 rcases h with ⟨rfl, rfl⟩ | ⟨id, sp, rfl, hl, _, _⟩
 ·rfl
 ·have e : S.elems 3 (.ms id sp 3 0 q.length none) = some (cXs q) := Gx.elems hl
  simp only [AS.view, e]
  congr 1
  rw [zfd, List.map_map]
  exact List.map_congr_left fun x _ => cX_view x
theorem Gx.cell (h : Gx b q w hp nx) : w.isCell = true ∧ w.cells? = some [w] := by
 rcases h with ⟨rfl, rfl⟩ | ⟨id, sp, rfl, hl, _, _⟩
 ·exact ⟨rfl, rfl⟩
 ·exact ⟨rfl, rfl⟩
theorem Gx.len {r : AV} (h : Gx b q w hp nx) (e : r = .int .i64 (q.length : Nat)) : lenA false w = some r := by
 subst e
 rcases h with ⟨rfl, rfl⟩ | ⟨id, sp, rfl, _, _, _⟩
 ·rfl
 ·rfl
theorem zng {w0 : World} {N0 n d ck : Nat} {md : Md} {pf : Kn} {k : List Fr} {Q : Exit → AS → Prop} {l : List (Nat × AV)} {ios : List Opr} {bytes j sj : Nat} {x0 : Ex} {z : List AV} {s x : Arg} (hsd : ∀ i, pf.sd i = true) (hF : Gx b q w hp nx) (hbn : b < nx) (hlen : q.length ≤ 1000000) (hs : zc0 s l = some w) (hx : zc0 x l = some (.ms j sj 3 0 1 (some 1))) (hj : Am.look j hp = some (sj, .cells (cX x0))) (hb : bytes ≤ 16777216)
  (go : ∀ w' hp' nx' ck', Gx b (q ++ [x0]) w' hp' nx' → b < nx' → (∀ i, i ≤ b → Am.look i hp' = Am.look i hp) → Om Try.prog w0 N0 md pf ios (st n ((d, w') :: l) hp' nx' ck') k Q) :
  Om Try.prog w0 N0 md pf (⟨some d, .append 3 bytes z s x, none⟩ :: ios) (st n l hp nx ck) k Q := by
 have hel : ∀ l, (st n l hp nx ck []).elems 3 (.ms j sj 3 0 1 (some 1)) = some [cX x0] := fun l => zgq (xs := [cX x0]) (ys := []) (by rw [hj]; simp) rfl fun x hx => by obtain rfl := List.mem_singleton.1 hx; exact ziq x0
 have hcl : [cX x0].flatten.all AV.isCell = true := by simpa using cX_cells x0
 rcases hF with ⟨rfl, rfl⟩ | ⟨id, sp, rfl, hl, h1, h2⟩
 ·have hi : iop (st n l hp nx ck) (.append 3 bytes z s x) = some (.ms nx ck 3 0 1 none, st n l ((nx, ck, .cells [cX x0].flatten) :: hp) (nx + 1) (ck + 1)) := by
   simp only [iop, zbp, hs, hx, hel]
   unfold zcw
   rw [if_neg (show ¬ [cX x0].length = 0 from Nat.succ_ne_zero 0), if_pos (show [cX x0].flatten.all AV.isCell = true ∧ bytes ≤ 16777216 from ⟨hcl, hb⟩)]
   rfl
  exact zew hi (go _ _ _ _ (.inr ⟨nx, ck, rfl, by rw [zbs]; rfl, hbn, Nat.lt_succ_self _⟩) (by omega) fun i hi => by rw [zax, if_neg (by omega)]) (napOk hs)
 ·refine zjo [cX x0] hs hx (hel _) (fun h => Nat.noConfusion h) hcl hb hl (cXs_flat q).symm (by show _ + 1 ≤ _; omega) ?_ (apOk hs (hsd id))
  refine go _ _ _ _ (.inr ⟨id, ck, by rw [List.length_append]; rfl, by rw [za1, if_pos rfl, cXs_app, List.flatten_append], h1, h2⟩) hbn fun i hi => by rw [za1, if_neg (by omega)]
end
mutual
def zji (g : Ex → Ex) : Ex → Ex
 | .nd o i a => g (.nd o i (mapL g a))
def mapL (g : Ex → Ex) : List Ex → List Ex
 | [] => []
 | x :: xs => zji g x :: mapL g xs
end
theorem zjh (g : Ex → Ex) : ∀ l, mapL g l = l.map (zji g)
 | [] => by rw [mapL]; rfl
 | x :: xs => by rw [mapL, zjh g xs]; rfl
def b57_0 : IC := .seq (.region [⟨(some 17), .bin .lss (.t 16) (.t 15), none⟩] none)
 (.seq (.cond (.t 17) (.skip)
 (.exit 0))
 (.seq (.block 1 (.seq (.region [⟨(some 18), .idxs 3 (.t 14) (.t 16), none⟩,
  ⟨(some 19), .load (some 3) (.t 18), none⟩,
  ⟨(some 7), .alloc [.int .i64 0, .int .i64 0, .nils], none⟩,
  ⟨none, .store 3 (.t 7) (.t 19), none⟩] none)
 (.region [⟨(some 20), .faddr 2 (.t 5), none⟩,
  ⟨(some 21), .load none (.t 20), none⟩,
  ⟨(some 22), .load (some 3) (.t 7), none⟩,
  ⟨(some 23), .mov (.t 1), none⟩,
  ⟨(some 24), .call (.c (.fn 57 [] [])) [(.t 22), (.t 23)], none⟩,
  ⟨(some 25), .bslice 3 1 [.int .i64 0, .int .i64 0, .nils] [(0, 3, (.t 24))], none⟩,
  ⟨(some 26), .append 3 40 [.int .i64 0, .int .i64 0, .nils] (.t 21) (.t 25), none⟩,
  ⟨(some 27), .faddr 2 (.t 5), none⟩,
  ⟨none, .store 1 (.t 27) (.t 26), none⟩] (some [[], [0], [], [], [2, 3], [4], [1, 5, 4], [0, 1, 2, 3, 4, 5, 6], [7, 6, 6, 0, 1, 2, 3, 4, 5, 6]]))))
 (.region [⟨(some 28), .bin .add (.t 16) (.c (.int .i64 1)), none⟩,
  ⟨(some 16), .mov (.t 28), none⟩] none)))
-- pneumatic/boolexp.mapped
def ic57 : IC := .seq (.region [⟨(some 2), .box (.t 0), none⟩,
  ⟨(some 4), .alloc [.int .i64 0, .int .i64 0, .nils], none⟩] none)
 (.seq (.region [⟨(some 8), .faddr 0 (.t 2), none⟩,
  ⟨(some 9), .load none (.t 8), none⟩,
  ⟨(some 10), .faddr 1 (.t 2), none⟩,
  ⟨(some 11), .load none (.t 10), none⟩,
  ⟨(some 12), .build [.int .i64 0, .int .i64 0, .nils] [(0, 1, (.t 9)), (1, 1, (.t 11))], none⟩,
  ⟨(some 5), .alloc [.int .i64 0, .int .i64 0, .nils], none⟩,
  ⟨none, .store 3 (.t 5) (.t 12), none⟩] none)
 (.seq (.seq (.region [⟨(some 13), .faddr 2 (.t 2), none⟩,
  ⟨(some 14), .load none (.t 13), none⟩,
  ⟨(some 15), .len false (.t 14), none⟩,
  ⟨(some 16), .mov (.c (.int .i64 0)), none⟩] none)
 (.block 0 (.loop b57_0)))
 (.seq (.region [⟨(some 29), .mov (.t 1), none⟩,
  ⟨(some 30), .load (some 3) (.t 5), none⟩,
  ⟨(some 31), .call (.t 29) [(.t 30)], none⟩,
  ⟨none, .store 3 (.t 4) (.t 31), none⟩] none)
 (.ret))))
theorem fn57 : env0.fn 57 = some ⟨32, ic57, [.cell 4 (some 3)]⟩ := by kernel_rfl
structure Mq (z : AV) (op ix : Int) (q : List Ex) (v w : AV) (hp : List (Nat × Nat × AObj)) (nx : Nat) : Prop where
 res : Am.look 0 hp = some (0, .cells [.int .i64 0, .int .i64 0, z])
 out : Am.look 1 hp = some (0, .cells [.int .i64 op, .int .i64 ix, v])
 lst : Gx 1 q w hp nx
 nx1 : 1 < nx
section
variable {z : AV} {op ix : Int} {q : List Ex} {v w : AV} {hp : List (Nat × Nat × AObj)} {nx : Nat}
theorem Mq.fresh (h : Mq z op ix q v w hp nx) (ck : Nat) (x : AObj) : Mq z op ix q v w ((nx, ck, x) :: hp) (nx + 1) := by
 have h1 := h.nx1
 exact ⟨by rw [zax, if_neg (by omega)]; exact h.res, by rw [zax, if_neg (by omega)]; exact h.out, h.lst.fresh ck x, by omega⟩
theorem Mq.fresh2 (h : Mq z op ix q v w hp nx) (ck : Nat) (x : AObj) (y : Nat × AObj) : Mq z op ix q v w (zc3 nx y ((nx, ck, x) :: hp)) (nx + 1) := by
 have h0 := h.nx1
 have h1 := h.fresh ck x
 refine ⟨by rw [za1, if_neg (by omega)]; exact h1.res, by rw [za1, if_neg (by omega)]; exact h1.out, ?_, h1.nx1⟩
 rcases h.lst with h2 | ⟨id, sp, e, hl, a, b⟩
 ·exact .inl h2
 ·exact .inr ⟨id, sp, e, by rw [za1, if_neg (by omega), zax, if_neg (by omega)]; exact hl, a, by omega⟩
theorem Mq.store (h : Mq z op ix q v w hp nx) (x : AV) : Mq z op ix q x w (zc3 1 (0, .cells [.int .i64 op, .int .i64 ix, x]) hp) nx :=
 ⟨by rw [za1, if_neg (by decide)]; exact h.res, by rw [za1, if_pos rfl], h.lst.put (.inl (by decide)) _, h.nx1⟩
end
theorem zpw {a b : AV} {l m : List AV} (h : b = a) (k : m = l) : b :: m = a :: l := by rw [h, k]
theorem zp0 {x : Nat} {l : List Nat} (h : x ∉ l) : memN x l = false := by
 cases hb : memN x l with
 | false => rfl
 | true => exact absurd (zm2.1 hb) h
theorem zp2 : ∀ q : List Ex, hasM.hasML (cXs q).flatten = false
 | [] => rfl
 | .nd o i a :: q => by
  show (hasM (AV.int .i64 o) || (hasM (AV.int .i64 i) || (hasM (AV.vs (cXs a)) || hasM.hasML (cXs q).flatten))) = false
  rw [zp2 q]
  rfl
theorem z_bigx {P : Program} {w0 : World} {N0 n nx ck : Nat} {k : List Fr} {Q : Exit → AS → Prop} {ic : IC} {l : List (Nat × AV)} {hp : List (Nat × Nat × AObj)} {g v : AV} {op ix : Int} {q : List Ex} (hF : Mq .nils op ix q v v hp nx) (h1 : ze9 1 l = some g) (mg : hasM g = false) (h4 : ze9 4 l = some (.mptr 0 0 0)) (h5 : ze9 5 l = some (.mptr 1 0 0))
  (go : Zm P w0 N0 none ic (st n [(1, g), (4, .mptr 0 0 0), (5, .vptr (cX (.nd op ix q)))] [(0, 0, .cells [.int .i64 0, .int .i64 0, .nils])] 1 1) k Q) : Zm P w0 N0 none ic (st n l hp nx ck) k Q := by
 have go2 : Zm P w0 N0 none ic (st n [(1, g), (4, .mptr 0 0 0), (5, .mptr 1 0 0)] [(0, 0, .cells [.int .i64 0, .int .i64 0, .nils]), (1, 0, .cells [.int .i64 op, .int .i64 ix, .vs (cXs q)])] 2 1) k Q :=
  zce [(some (0, 0), [.int .i64 0, .int .i64 0, .nils])] [(1, 0, [.int .i64 op, .int .i64 ix, .vs (cXs q)])] [(1, g), (4, .mptr 0 0 0), (5, .vptr (cX (.nd op ix q)))] rfl (.cons rfl rfl .nil) (.cons rfl (.cons (.same rfl) (.cons (.same rfl) (.cons (.same rfl) .nil))) .nil) (.cons rfl (.same mg) (.cons rfl (.mptr rfl) (.cons rfl (.fptr rfl rfl) .nil))) go
 rcases hF.lst with ⟨rfl, rfl⟩ | ⟨id, sp, rfl, hl, h3, _⟩
 ·exact zce [(some (0, 0), [.int .i64 0, .int .i64 0, .nils]), (some (1, 0), [.int .i64 op, .int .i64 ix, .vs []])] [] [(1, g), (4, .mptr 0 0 0), (5, .mptr 1 0 0)] rfl .nil (.cons hF.res (.cons (.same rfl) (.cons (.same rfl) (.cons (.same rfl) .nil))) (.cons hF.out (.cons (.same rfl) (.cons (.same rfl) (.cons .nilvs .nil))) .nil)) (.cons h1 (.same mg) (.cons h4 (.mptr rfl) (.cons h5 (.mptr rfl) .nil))) go2
 ·have hok : okW [id] [(some (0, 0), [.int .i64 0, .int .i64 0, .nils]), (some (1, 0), [.int .i64 op, .int .i64 ix, .vs (cXs q)])] = true := by
   show (!memN 0 [id] && (!memN 1 [0, id] && true)) = true
   rw [zp0 (by simp; omega), zp0 (by simp; omega)]
   rfl
  have hfz : fzl id sp [(id, sp, (cXs q).flatten)] = some (cXs q).flatten := by
   unfold fzl
   simp
  refine zce [(some (0, 0), [.int .i64 0, .int .i64 0, .nils]), (some (1, 0), [.int .i64 op, .int .i64 ix, .vs (cXs q)])] [(id, sp, (cXs q).flatten)] [(1, g), (4, .mptr 0 0 0), (5, .mptr 1 0 0)] hok (.cons hl ?_ .nil) (.cons hF.res (.cons (.same rfl) (.cons (.same rfl) (.cons (.same rfl) .nil))) (.cons hF.out (.cons (.same rfl) (.cons (.same rfl) (.cons (.fms hfz (zan q) zgl ⟨[], by rw [List.drop_zero, List.append_nil]⟩) .nil))) .nil)) (.cons h1 (.same mg) (.cons h4 (.mptr rfl) (.cons h5 (.mptr rfl) .nil))) go2
  exact zp2 q
set_option maxHeartbeats 4000000 in
theorem zm1 (f : FuncId) (caps : List AV) (hM : hasM (.fn f [] caps) = false) (hMc : hasM.hasML caps = false) (hv1 : ∀ (S : AS), S.view VD (.fn f [] caps) = .fn f [] caps) (hv2 : ∀ (S : AS), caps.map (S.view VD) = caps) (g : Ex → Ex) (Ok : Ex → Prop)
  (hOk : ∀ op ix args, Ok (.nd op ix args) → args.length ≤ 1000000 ∧ (∀ y ∈ args, Ok y) ∧ PF Try.prog f (.agg (cX (.nd op ix (mapL g args))) :: caps) (.agg (cX (g (.nd op ix (mapL g args)))))) :
  ∀ (m : Nat) (x : Ex), SizeOf.sizeOf x ≤ m → Ok x → PF Try.prog 57 [.agg (cX x), .fn f [] caps] (.agg (cX (zji g x))) := by
 intro m
 induction m with
 | zero => intro x hq; cases x; simp at hq
 | succ m ih =>
  intro x hq hx
  obtain ⟨op, ix, args⟩ := x
  obtain ⟨hlen, hargs, hf⟩ := hOk op ix args hx
  rw [zji]
  rw [zjh] at hf ⊢
  generalize hfv : AV.fn f [] caps = fv at *
  refine zb3 env0_ok fn57 [(0, .agg (cX (.nd op ix args))), (1, fv)] (by show 2 ≤ 32; decide) rfl fun w0 N0 => ?_
  unfold ic57
  refine za6 (za0 rfl (zbd rfl rfl (zam (za3 (za2 ?_)))))
  repeat (first | refine za6 ?_ | refine za0 rfl ?_ | refine za3 ?_ | refine za2 ?_ | refine zal ?_ | refine za4 rfl ?_ | refine zai rfl rfl ?_ | refine za8 rfl rfl rfl rfl rfl rfl rfl ?_ | refine za9 rfl ?_ | refine zam ?_ | refine zbf rfl rfl ?_ | refine zb0 rfl rfl ?_)
  refine zce [(some (1, 1), [.int .i64 0, .int .i64 0, .nils]), (some (2, 2), [.int .i64 op, .int .i64 ix, .nils])] [] [(1, fv), (4, .mptr 0 0 0), (5, .mptr 1 0 0), (14, .vs (cXs args)), (15, .int .i64 ((cXs args).length : Nat)), (16, .int .i64 0)] rfl .nil (.cons rfl (.cons (.same rfl) (.cons (.same rfl) (.cons (.same rfl) .nil))) (.cons rfl (.cons (.same rfl) (.cons (.same rfl) (.cons (.same rfl) .nil))) .nil)) (.cons rfl (.same hM) (.cons rfl (.mptr rfl) (.cons rfl (.mptr rfl) (.cons rfl (.same rfl) (.cons rfl (.same rfl) (.cons rfl (.same rfl) .nil)))))) ?_
  refine zd9 (fun mm S => ∃ i v hp nx ck, mm = args.length - i ∧ i ≤ args.length ∧ Mq .nils op ix ((args.take i).map (zji g)) v v hp nx ∧ S = st 32 [(1, fv), (4, .mptr 0 0 0), (5, .mptr 1 0 0), (14, .vs (cXs args)), (15, .int .i64 ((cXs args).length : Nat)), (16, .int .i64 (i : Nat))] hp nx ck) args.length
   (zat (.cons rfl (.cons rfl (.cons rfl (.cons rfl (.cons rfl (.cons rfl .nil))))))) ⟨0, .nils, _, _, _, rfl, Nat.zero_le _, ⟨rfl, rfl, .inl ⟨rfl, rfl⟩, (by show 1 < 2; decide)⟩, rfl⟩ ?_
  rintro mm S ⟨i, v, hp, nx, ck, rfl, hi, hF, rfl⟩
  have hql : ((args.take i).map (zji g)).length ≤ 1000000 := by rw [List.length_map, List.length_take]; omega
  have hcl := zan args
  unfold b57_0
  repeat (first | refine za6 ?_ | refine za0 rfl ?_)
  refine zaw rfl rfl rfl (fun h3 => ?_) fun h3 => ?_
  ·have hlt : i < args.length := by
    have h4 : ((i : Nat) : Int) < (((cXs args).length : Nat) : Int) := of_decide_eq_true h3
    omega
   have w1 : IntKind.wrap .i64 (((i : Nat) : Int) + 1) = ((i + 1 : Nat) : Int) := zbo i (by omega)
   have hge := zcg hlt
   have hmem : args[i] ∈ args := List.getElem_mem hlt
   have py := ih args[i] (by have := zed (op := op) (ix := ix) hmem; omega) (hargs _ hmem)
   have hsn : (args.take (i + 1)).map (zji g) = (args.take i).map (zji g) ++ [zji g args[i]] := by
    rw [List.take_add_one, List.getElem?_eq_getElem hlt, List.map_append]; rfl
   generalize args[i] = y at *
   generalize zji g y = gy at *
   obtain ⟨yo, yi, ya⟩ := y
   obtain ⟨go, gi, ga⟩ := gy
   repeat (first | refine za6 ?_ | refine za0 rfl ?_ | refine za3 ?_ | refine za2 ?_ | refine zal ?_ | refine zae ?_ | refine zbg rfl ?_ | refine zaa rfl rfl rfl rfl ?_ | refine zam ?_ | refine zb4 rfl rfl (by omega) (by assumption) rfl ?_)
   refine za8 (id := nx) (sp := ck) (off := 0) rfl rfl rfl rfl zbs rfl rfl ?_
   have hF1 := hF.fresh2 ck (.cells [.int .i64 0, .int .i64 0, .nils]) (ck, .cells (cX (.nd yo yi ya)))
   have k5 : Am.look nx (zc3 nx (ck, AObj.cells (cX (.nd yo yi ya))) ((nx, ck, AObj.cells [.int .i64 0, .int .i64 0, .nils]) :: hp)) = some (ck, .cells (cX (.nd yo yi ya))) := by
    rw [za1, if_pos rfl]
   repeat (first | refine za3 ?_ | refine za2 ?_)
   refine zev env0_ok [(57, [.agg (cX (.nd yo yi ya)), fv], .agg (cX (.nd go gi ga)))] (fun x hx => by
    obtain rfl := List.mem_singleton.1 hx
    exact py) (fun f => Nat.beq f 57) rfl rfl rfl ?_
   repeat (first | refine za9 rfl ?_)
   refine zv2 (id := 1) (sp := 0) (off := 0 + 2) rfl hF1.out hF1.nx1 rfl ?_
   refine zfv (id := nx) (sp := ck) (off := 0) rfl k5 (Nat.lt_succ_self _) rfl rfl ?_
   repeat (first | refine za4 rfl ?_)
   refine zar rfl (zjq rfl (hv1 _)) zci (fun h => absurd (show (false || (hasM fv || false)) = true from h) (by rw [hM]; decide)) ?_
   repeat (first | refine zav rfl rfl ?_)
   refine zng (x0 := .nd go gi ga) (fun _ => rfl) (hF1.fresh _ (.cells (cX (.nd go gi ga)))).lst (hF1.fresh ck (.cells [])).nx1 hql rfl rfl zbs (by decide) fun w' hp' nx' ck' hG hb hk => ?_
   have hF2 : Mq .nils op ix ((args.take i).map (zji g) ++ [.nd go gi ga]) v w' hp' nx' :=
    ⟨by rw [hk 0 (by decide)]; exact (hF1.fresh _ _).res, by rw [hk 1 (by decide)]; exact (hF1.fresh _ _).out, hG, hb⟩
   repeat (first | refine za9 rfl ?_)
   refine zqf (id := 1) (sp := 0) (off := 0 + 2) rfl rfl hG.cell.2 hF2.out (by simp) hG.cell.1 ?_
   repeat (first | refine za0 rfl ?_ | refine za3 ?_ | refine za2 ?_ | refine zbk ?_ | refine za4 rfl ?_ | refine zaz (op := .add) rfl rfl rfl ?_)
   rw [w1]
   exact zbz (show args.length - (i + 1) < args.length - i by omega) (zat (.cons rfl (.cons rfl (.cons rfl (.cons rfl (.cons rfl (.cons rfl .nil))))))) ⟨i + 1, w', _, _, _, rfl, hlt, by rw [hsn]; exact hF2.store w', rfl⟩
  ·have hie : i = args.length := by
    have h4 : ¬ ((i : Nat) : Int) < (((cXs args).length : Nat) : Int) := of_decide_eq_false h3
    omega
   subst hie
   rw [List.take_length] at hF
   repeat (first | refine zbl rfl ?_ | refine za3 ?_ | refine za2 ?_ | refine za6 ?_ | refine zb8 ?_ | refine zaf ?_)
   refine zdq ?_
   refine zb7 (za2 (za6 ?_))
   refine z_bigx hF rfl hM rfl rfl ?_
   repeat (first | refine za0 rfl ?_ | refine za4 rfl ?_ | refine zaa rfl rfl rfl rfl ?_)
   generalize g (.nd op ix (args.map (zji g))) = gx at *
   obtain ⟨go, gi, ga⟩ := gx
   refine zfm (f := f) (first := []) (cap := caps) (vs := [.agg (cX (.nd op ix (args.map (zji g))))]) (congrArg some hfv.symm) rfl (zpw (a := .agg (cX (.nd op ix (args.map (zji g))))) rfl (hv2 _)) hf (fun h => absurd (show (false || hasM.hasML caps) = true from h) (by rw [hMc]; decide)) ?_
   repeat (first | refine za3 ?_ | refine za2 ?_ | refine zah ?_ | refine za8 rfl rfl rfl rfl rfl rfl rfl ?_)
   exact zak ⟨.inr rfl, _, rfl, rfl⟩
end Go.Proofs.Ytmnkjofaodbokaa
namespace Go.Proofs.Ytmnkjofaodbokaa
open Go Go.Am
def zeg (v : Bool) : Ex := .nd 0 (if v then 1 else 0) []
def zp1 (x : Ex) : Ex := .nd 2 0 [x]
def opX : Ex → Int | .nd o _ _ => o
def ixX : Ex → Int | .nd _ i _ => i
def zo3 : Ex → List Ex | .nd _ _ a => a
def isX (x : Ex) (v : Bool) : Bool := opX x == 0 && ((ixX x == 1) == v)
-- pneumatic/boolexp.constant
def ic84 : IC := .seq (.region [⟨(some 2), .alloc [.int .i64 0, .int .i64 0, .nils], none⟩] none)
 (.seq (.seq (.region [⟨(some 3), .mov (.t 0), none⟩] none)
 (.cond (.t 3) (.seq (.region [⟨(some 4), .build [.int .i64 0, .int .i64 0, .nils] [(1, 1, (.c (.int .i64 1)))], none⟩,
  ⟨none, .store 3 (.t 2) (.t 4), none⟩] none)
 (.ret))
 (.skip)))
 (.seq (.region [⟨(some 5), .build [.int .i64 0, .int .i64 0, .nils] [], none⟩,
  ⟨none, .store 3 (.t 2) (.t 5), none⟩] none)
 (.ret)))
theorem fn84 : env0.fn 84 = some ⟨6, ic84, [.cell 2 (some 3)]⟩ := by kernel_rfl
theorem ziw (v : Bool) : PF Try.prog 84 [.bool v] (.agg (cX (zeg v))) := by
 refine zb3 env0_ok fn84 [(0, .bool v)] (by show 1 ≤ 6; decide) rfl fun w0 N0 => ?_
 unfold ic84
 cases v with
 | false =>
  repeat (first | refine za6 ?_ | refine za0 rfl ?_ | refine za3 ?_ | refine za2 ?_ | refine zae ?_ | refine zbl rfl ?_ | refine zah ?_ | refine za4 rfl ?_ | refine za8 rfl rfl rfl rfl rfl rfl rfl ?_ | refine zam ?_ | refine zb0 rfl rfl ?_)
  exact zak ⟨.inr rfl, _, rfl, rfl⟩
 | true =>
  repeat (first | refine za6 ?_ | refine za0 rfl ?_ | refine za3 ?_ | refine za2 ?_ | refine zbg rfl ?_ | refine zah ?_ | refine za5 ?_ | refine za4 rfl ?_ | refine za8 rfl rfl rfl rfl rfl rfl rfl ?_ | refine zam ?_ | refine zb0 rfl rfl ?_)
  exact zak ⟨.inr rfl, _, rfl, rfl⟩
-- pneumatic/pneumaticref05.Const
def ic39 : IC := .seq (.region [⟨(some 2), .alloc [.int .i64 0, .int .i64 0, .nils], none⟩] none)
 (.seq (.seq (.region [⟨(some 3), .mov (.t 0), none⟩] none)
 (.cond (.t 3) (.seq (.region [⟨(some 4), .build [.int .i64 0, .int .i64 0, .nils] [(1, 1, (.c (.int .i64 1)))], none⟩,
  ⟨none, .store 3 (.t 2) (.t 4), none⟩] none)
 (.ret))
 (.skip)))
 (.seq (.region [⟨(some 5), .build [.int .i64 0, .int .i64 0, .nils] [], none⟩,
  ⟨none, .store 3 (.t 2) (.t 5), none⟩] none)
 (.ret)))
theorem fn39 : env0.fn 39 = some ⟨6, ic39, [.cell 2 (some 3)]⟩ := by kernel_rfl
theorem zla (v : Bool) : PF Try.prog 39 [.bool v] (.agg (cX (zeg v))) := by
 refine zb3 env0_ok fn39 [(0, .bool v)] (by show 1 ≤ 6; decide) rfl fun w0 N0 => ?_
 unfold ic39
 cases v with
 | false =>
  repeat (first | refine za6 ?_ | refine za0 rfl ?_ | refine za3 ?_ | refine za2 ?_ | refine zae ?_ | refine zbl rfl ?_ | refine zah ?_ | refine za4 rfl ?_ | refine za8 rfl rfl rfl rfl rfl rfl rfl ?_ | refine zam ?_ | refine zb0 rfl rfl ?_)
  exact zak ⟨.inr rfl, _, rfl, rfl⟩
 | true =>
  repeat (first | refine za6 ?_ | refine za0 rfl ?_ | refine za3 ?_ | refine za2 ?_ | refine zbg rfl ?_ | refine zah ?_ | refine za5 ?_ | refine za4 rfl ?_ | refine za8 rfl rfl rfl rfl rfl rfl rfl ?_ | refine zam ?_ | refine zb0 rfl rfl ?_)
  exact zak ⟨.inr rfl, _, rfl, rfl⟩
-- pneumatic/boolexp.is
def ic85 : IC := .seq (.region [⟨(some 2), .box (.t 0), none⟩,
  ⟨(some 4), .mov (.c (.bool false)), none⟩] none)
 (.seq (.region [⟨(some 5), .faddr 0 (.t 2), none⟩,
  ⟨(some 6), .load none (.t 5), none⟩,
  ⟨(some 7), .bin .eql (.t 6) (.c (.int .i64 0)), none⟩,
  ⟨(some 8), .mov (.t 7), none⟩,
  ⟨(some 9), .faddr 1 (.t 2), some (8, true)⟩,
  ⟨(some 10), .load none (.t 9), some (8, true)⟩,
  ⟨(some 11), .bin .eql (.t 10) (.c (.int .i64 1)), some (8, true)⟩,
  ⟨(some 12), .mov (.t 1), some (8, true)⟩,
  ⟨(some 13), .eqb false (.t 11) (.t 12), some (8, true)⟩,
  ⟨(some 14), .pick (.t 8) (.t 13) (.c (.bool false)), none⟩,
  ⟨(some 4), .mov (.t 14), none⟩] none)
 (.ret))
theorem fn85 : env0.fn 85 = some ⟨15, ic85, [.t 4]⟩ := by kernel_rfl
theorem is85 (x : Ex) (v : Bool) : PF Try.prog 85 [.agg (cX x), .bool v] (.bool (isX x v)) := by
 obtain ⟨op, ix, args⟩ := x
 show PF _ _ _ (.bool (op == 0 && ((ix == 1) == v)))
 refine zb3 env0_ok fn85 [(0, .agg (cX (.nd op ix args))), (1, .bool v)] (by show 2 ≤ 15; decide) rfl fun w0 N0 => ?_
 unfold ic85
 repeat (first | refine za6 ?_ | refine za0 rfl ?_ | refine za3 ?_ | refine za2 ?_ | refine za4 rfl ?_ | refine zai rfl rfl ?_ | refine za9 rfl ?_ | refine zbd rfl rfl ?_)
 refine zaw rfl rfl rfl (fun h1 => ?_) fun h1 => ?_
 ·rw [h1, Bool.true_and]
  repeat (first | refine zc2 rfl ?_ | refine za4 rfl ?_ | refine zai rfl rfl ?_ | refine za9 rfl ?_)
  refine zaw rfl rfl rfl (fun h2 => ?_) fun h2 => ?_
  ·rw [h2]
   repeat (first | refine zc2 rfl ?_ | refine za4 rfl ?_)
   refine o_eqb rfl rfl (fun h3 => ?_) fun h3 => ?_
   ·repeat (first | refine za3 ?_ | refine za2 ?_ | refine zah ?_ | refine za4 rfl ?_ | refine zaj rfl rfl ?_)
    exact zak ⟨.inr rfl, _, rfl, by rw [show (true == v) = true from h3]; rfl⟩
   ·repeat (first | refine za3 ?_ | refine za2 ?_ | refine zah ?_ | refine za4 rfl ?_ | refine zaj rfl rfl ?_)
    exact zak ⟨.inr rfl, _, rfl, by rw [show (true == v) = false from h3]; rfl⟩
  ·rw [h2]
   repeat (first | refine zc2 rfl ?_ | refine za4 rfl ?_)
   refine o_eqb rfl rfl (fun h3 => ?_) fun h3 => ?_
   ·repeat (first | refine za3 ?_ | refine za2 ?_ | refine zah ?_ | refine za4 rfl ?_ | refine zaj rfl rfl ?_)
    exact zak ⟨.inr rfl, _, rfl, by rw [show (false == v) = true from h3]; rfl⟩
   ·repeat (first | refine za3 ?_ | refine za2 ?_ | refine zah ?_ | refine za4 rfl ?_ | refine zaj rfl rfl ?_)
    exact zak ⟨.inr rfl, _, rfl, by rw [show (false == v) = false from h3]; rfl⟩
 ·rw [h1, Bool.false_and]
  repeat (first | refine za3 ?_ | refine za2 ?_ | refine zah ?_ | refine zcv rfl rfl ?_ | refine za4 rfl ?_ | refine zac rfl rfl ?_)
  exact zak ⟨.inr rfl, _, rfl, rfl⟩
-- pneumatic/boolexp.negation
def ic87 : IC := .seq (.region [⟨(some 1), .box (.t 0), none⟩,
  ⟨(some 2), .alloc [.int .i64 0, .int .i64 0, .nils], none⟩] none)
 (.seq (.region [⟨(some 3), .load (some 3) (.t 1), none⟩,
  ⟨(some 4), .bslice 3 1 [.int .i64 0, .int .i64 0, .nils] [(0, 3, (.t 3))], none⟩,
  ⟨(some 5), .build [.int .i64 0, .int .i64 0, .nils] [(0, 1, (.c (.int .i64 2))), (2, 1, (.t 4))], none⟩,
  ⟨none, .store 3 (.t 2) (.t 5), none⟩] none)
 (.ret))
theorem fn87 : env0.fn 87 = some ⟨6, ic87, [.cell 2 (some 3)]⟩ := by kernel_rfl
theorem neg87 (x : Ex) : PF Try.prog 87 [.agg (cX x)] (.agg (cX (zp1 x))) := by
 obtain ⟨op, ix, args⟩ := x
 refine zb3 env0_ok fn87 [(0, .agg (cX (.nd op ix args)))] (by show 1 ≤ 6; decide) rfl fun w0 N0 => ?_
 unfold ic87
 repeat (first | refine za6 ?_ | refine za0 rfl ?_ | refine za3 ?_ | refine za2 ?_ | refine zah ?_ | refine zaa rfl rfl rfl rfl ?_ | refine za8 rfl rfl rfl rfl rfl rfl rfl ?_ | refine zam ?_ | refine zb0 rfl rfl ?_ | refine zav rfl rfl ?_ | refine zbd rfl rfl ?_)
 exact zak ⟨.inr rfl, _, rfl, rfl⟩
-- pneumatic/pneumaticref05.Not
def ic88 : IC := .seq (.region [⟨(some 1), .box (.t 0), none⟩,
  ⟨(some 2), .alloc [.int .i64 0, .int .i64 0, .nils], none⟩] none)
 (.seq (.region [⟨(some 3), .load (some 3) (.t 1), none⟩,
  ⟨(some 4), .bslice 3 1 [.int .i64 0, .int .i64 0, .nils] [(0, 3, (.t 3))], none⟩,
  ⟨(some 5), .build [.int .i64 0, .int .i64 0, .nils] [(0, 1, (.c (.int .i64 2))), (2, 1, (.t 4))], none⟩,
  ⟨none, .store 3 (.t 2) (.t 5), none⟩] none)
 (.ret))
theorem fn88 : env0.fn 88 = some ⟨6, ic88, [.cell 2 (some 3)]⟩ := by kernel_rfl
theorem neg88 (x : Ex) : PF Try.prog 88 [.agg (cX x)] (.agg (cX (zp1 x))) := by
 obtain ⟨op, ix, args⟩ := x
 refine zb3 env0_ok fn88 [(0, .agg (cX (.nd op ix args)))] (by show 1 ≤ 6; decide) rfl fun w0 N0 => ?_
 unfold ic88
 repeat (first | refine za6 ?_ | refine za0 rfl ?_ | refine za3 ?_ | refine za2 ?_ | refine zah ?_ | refine zaa rfl rfl rfl rfl ?_ | refine za8 rfl rfl rfl rfl rfl rfl rfl ?_ | refine zam ?_ | refine zb0 rfl rfl ?_ | refine zav rfl rfl ?_ | refine zbd rfl rfl ?_)
 exact zak ⟨.inr rfl, _, rfl, rfl⟩
-- pneumatic/boolexp.Substitute$1$1
def ic61 : IC := .seq (.region [⟨(some 1), .box (.t 0), none⟩,
  ⟨(some 2), .alloc [.int .i64 0, .int .i64 0, .nils], none⟩] none)
 (.seq (.region [⟨(some 3), .load (some 3) (.t 1), none⟩,
  ⟨none, .store 3 (.t 2) (.t 3), none⟩] none)
 (.ret))
theorem fn61 : env0.fn 61 = some ⟨4, ic61, [.cell 2 (some 3)]⟩ := by kernel_rfl
theorem id61 (x : Ex) : PF Try.prog 61 [.agg (cX x)] (.agg (cX x)) := by
 obtain ⟨op, ix, args⟩ := x
 refine zb3 env0_ok fn61 [(0, .agg (cX (.nd op ix args)))] (by show 1 ≤ 4; decide) rfl fun w0 N0 => ?_
 unfold ic61
 repeat (first | refine za6 ?_ | refine za0 rfl ?_ | refine za3 ?_ | refine za2 ?_ | refine zah ?_ | refine zaa rfl rfl rfl rfl ?_ | refine za8 rfl rfl rfl rfl rfl rfl rfl ?_ | refine zam ?_ | refine zbd rfl rfl ?_)
 exact zak ⟨.inr rfl, _, rfl, rfl⟩
theorem index79g (f : FuncId) (caps : List AV) (hM : hasM (.fn f [] caps) = false) (hMc : hasM.hasML caps = false) (hv2 : ∀ (S : AS), caps.map (S.view VD) = caps) (p : Ex → Bool) (l : List Ex) (hl : l.length < 9223372036854775808) (hs : ∀ x ∈ l, PF Try.prog f (.agg (cX x) :: caps) (.bool (p x))) : PF Try.prog 79 [.vs (cXs l), .fn f [] caps] (.int .i64 (fiX p 0 l)) := by
 have hcl := zan l
 generalize hfv : AV.fn f [] caps = fv at *
 refine zb3 env0_ok fn79 [(0, .vs (cXs l)), (1, fv)] (by show 2 ≤ 19; decide) rfl fun w0 N0 => ?_
 unfold ic79
 repeat (first | refine za6 ?_ | refine za0 rfl ?_ | refine za3 ?_ | refine za2 ?_ | refine zal ?_ | refine za4 rfl ?_ | refine zbf rfl rfl ?_)
 refine zd9 (fun mm S => ∃ i, mm = l.length - i ∧ i ≤ l.length ∧ fiX p i (l.drop i) = fiX p 0 l ∧ S = st 19 [(0, .vs (cXs l)), (1, fv), (7, .int .i64 (cXs l).length), (8, .int .i64 (i : Nat))] [] 0 0) l.length
  (zat (.cons rfl (.cons rfl (.cons rfl (.cons rfl .nil))))) ⟨0, rfl, Nat.zero_le _, rfl, rfl⟩ ?_
 rintro mm S ⟨i, rfl, hi, hv, rfl⟩
 unfold b79_0
 repeat (first | refine za6 ?_ | refine za0 rfl ?_)
 refine zaw rfl rfl rfl (fun h3 => ?_) fun h3 => ?_
 ·have hlt : i < l.length := by
   have h4 : ((i : Nat) : Int) < (((cXs l).length : Nat) : Int) := of_decide_eq_true h3
   omega
  have w1 : IntKind.wrap .i64 (((i : Nat) : Int) + 1) = ((i + 1 : Nat) : Int) := zbo i (by omega)
  have hg := zcg hlt
  have hst := zq4 p hlt
  have p51 := hs l[i] (List.getElem_mem hlt)
  generalize l[i] = a at *
  generalize p a = fa at *
  obtain ⟨op, ix, args⟩ := a
  repeat (first | refine za6 ?_ | refine za0 rfl ?_ | refine za3 ?_ | refine za2 ?_ | refine zal ?_ | refine zae ?_ | refine zbg rfl ?_ | refine za4 rfl ?_ | refine zaa rfl rfl rfl rfl ?_ | refine zb4 rfl rfl (by omega) (by assumption) rfl ?_)
  refine zfm (f := f) (first := []) (cap := caps) (vs := [.agg (cX (.nd op ix args))]) (congrArg some hfv.symm) rfl (zpw (a := .agg (cX (.nd op ix args))) rfl (hv2 _)) p51 (fun _ => rfl) ?_
  cases fa with
  | true =>
   rw [if_pos rfl, hv] at hst
   repeat (first | refine za6 ?_ | refine za0 rfl ?_ | refine za3 ?_ | refine za2 ?_ | refine zbg rfl ?_ | refine zah ?_ | refine za5 ?_ | refine zad ?_ | refine za4 rfl ?_)
   exact zak ⟨.inr rfl, _, rfl, by rw [hst]; rfl⟩
  | false =>
   rw [if_neg Bool.false_ne_true, hv] at hst
   repeat (first | refine za0 rfl ?_ | refine za3 ?_ | refine za2 ?_ | refine zbk ?_ | refine zae ?_ | refine zbl rfl ?_ | refine za4 rfl ?_ | refine zaz (op := .add) rfl rfl rfl ?_)
   rw [w1]
   exact zbz (show l.length - (i + 1) < l.length - i by omega) (zat (.cons rfl (.cons rfl (.cons rfl (.cons rfl .nil))))) ⟨i + 1, rfl, hlt, hst.symm, rfl⟩
 ·have hie : i = l.length := by
   have h4 : ¬ ((i : Nat) : Int) < (((cXs l).length : Nat) : Int) := of_decide_eq_false h3
   omega
  rw [hie, List.drop_length] at hv
  repeat (first | refine za6 ?_ | refine za3 ?_ | refine za2 ?_ | refine zbl rfl ?_ | refine zb8 ?_ | refine zaf ?_)
  refine zdq ?_
  repeat (first | refine za6 ?_ | refine za0 rfl ?_ | refine za3 ?_ | refine za2 ?_ | refine zah ?_ | refine zb7 ?_ | refine za4 rfl ?_)
  exact zak ⟨.inr rfl, _, rfl, by rw [← hv]; rfl⟩
theorem zix (f : FuncId) (caps : List AV) (hM : hasM (.fn f [] caps) = false) (hMc : hasM.hasML caps = false) (hv1 : ∀ (S : AS), S.view VD (.fn f [] caps) = .fn f [] caps) (hv2 : ∀ (S : AS), caps.map (S.view VD) = caps) (p : Ex → Bool) (l : List Ex) (hl : l.length < 9223372036854775808) (hs : ∀ x ∈ l, PF Try.prog f (.agg (cX x) :: caps) (.bool (p x))) : PF Try.prog 50 [.vs (cXs l), .fn f [] caps] (.bool (l.any p)) := by
 have p79 := index79g f caps hM hMc hv2 p l hl hs
 rw [← zog _ l 0]
 generalize fiX p 0 l = z at *
 generalize hfv : AV.fn f [] caps = fv at *
 refine zb3 env0_ok fn50 [(0, .vs (cXs l)), (1, fv)] (by show 2 ≤ 9; decide) rfl fun w0 N0 => ?_
 unfold ic50
 repeat (first | refine za6 ?_ | refine za0 rfl ?_ | refine za3 ?_ | refine za2 ?_ | refine za4 rfl ?_)
 refine zar rfl (zjq rfl (hv1 _)) p79 (fun _ => rfl) ?_
 refine zaw rfl rfl rfl (fun h => ?_) fun h => ?_
 ·repeat (first | refine za3 ?_ | refine za2 ?_ | refine zah ?_ | refine za4 rfl ?_)
  exact zak ⟨.inr rfl, _, rfl, by rw [h]; rfl⟩
 ·repeat (first | refine za3 ?_ | refine za2 ?_ | refine zah ?_ | refine za4 rfl ?_)
  exact zak ⟨.inr rfl, _, rfl, by rw [h]; rfl⟩
-- pneumatic/boolexp.among$1
def ic104 : IC := .seq (.region [⟨(some 2), .box (.t 0), none⟩,
  ⟨(some 3), .mov (.c (.bool false)), none⟩] none)
 (.seq (.region [⟨(some 4), .load (some 3) (.t 1), none⟩,
  ⟨(some 5), .load (some 3) (.t 2), none⟩,
  ⟨(some 6), .call (.c (.fn 56 [] [])) [(.t 4), (.t 5)], none⟩,
  ⟨(some 3), .mov (.t 6), none⟩] none)
 (.ret))
theorem fn104 : env0.fn 104 = some ⟨7, ic104, [.t 3]⟩ := by kernel_rfl
theorem among104 (x y : Ex) (hx : szX x ≤ 256) : PF Try.prog 104 [.agg (cX y), .vptr (cX x)] (.bool (eqX x y)) := by
 have p56 := equal56 _ x y (Nat.le_refl _) hx
 generalize eqX x y = z at *
 obtain ⟨op, ix, args⟩ := x
 obtain ⟨op2, ix2, args2⟩ := y
 refine zb3 env0_ok fn104 [(0, .agg (cX (.nd op2 ix2 args2))), (1, .vptr (cX (.nd op ix args)))] (by show 2 ≤ 7; decide) rfl fun w0 N0 => ?_
 unfold ic104
 repeat (first | refine za6 ?_ | refine za0 rfl ?_ | refine za3 ?_ | refine za2 ?_ | refine za4 rfl ?_ | refine zaa rfl rfl rfl rfl ?_ | refine zbd rfl rfl ?_)
 refine zar rfl rfl p56 (fun _ => rfl) ?_
 repeat (first | refine za3 ?_ | refine za2 ?_ | refine zah ?_ | refine za4 rfl ?_)
 exact zak ⟨.inr rfl, _, rfl, rfl⟩
-- pneumatic/boolexp.among
def ic86 : IC := .seq (.region [⟨(some 3), .box (.t 1), none⟩,
  ⟨(some 4), .mov (.c (.bool false)), none⟩] none)
 (.seq (.region [⟨(some 5), .mov (.t 0), none⟩,
  ⟨(some 6), .mkfn 104 [] [(.t 3)], none⟩,
  ⟨(some 7), .call (.c (.fn 50 [] [])) [(.t 5), (.t 6)], none⟩,
  ⟨(some 4), .mov (.t 7), none⟩] none)
 (.ret))
theorem fn86 : env0.fn 86 = some ⟨8, ic86, [.t 4]⟩ := by kernel_rfl
theorem zss (l : List Ex) (x : Ex) (hl : l.length < 9223372036854775807) (hx : szX x ≤ 256) : PF Try.prog 86 [.vs (cXs l), .agg (cX x)] (.bool (l.any (eqX x))) := by
 have p50 := zix 104 [.vptr (cX x)] (by cases x; rfl) (by cases x; rfl) (fun S => by cases x; rfl) (fun S => by cases x; rfl) (eqX x) l (by omega) fun y _ => among104 x y hx
 generalize l.any (eqX x) = z at *
 obtain ⟨op, ix, args⟩ := x
 refine zb3 env0_ok fn86 [(0, .vs (cXs l)), (1, .agg (cX (.nd op ix args)))] (by show 2 ≤ 8; decide) rfl fun w0 N0 => ?_
 unfold ic86
 refine za6 (za0 rfl (zbd rfl rfl (za4 rfl (za3 (za2 ?_)))))
 refine zce [] [(0, 0, cX (.nd op ix args))] [(0, .vs (cXs l)), (3, .vptr (cX (.nd op ix args)))] rfl (.cons rfl rfl .nil) .nil (.cons rfl (.same rfl) (.cons rfl (.fptr rfl rfl) .nil)) ?_
 repeat (first | refine za6 ?_ | refine za0 rfl ?_ | refine za4 rfl ?_ | refine zbt rfl rfl ?_)
 refine zar rfl rfl p50 (fun _ => rfl) ?_
 repeat (first | refine za3 ?_ | refine za2 ?_ | refine zah ?_ | refine za4 rfl ?_)
 exact zak ⟨.inr rfl, _, rfl, rfl⟩
def b105_0 : IC := .seq (.seq (.region [⟨(some 6), .mov (.t 5), none⟩,
  ⟨(some 7), .mov (.t 0), none⟩,
  ⟨(some 8), .len false (.t 7), none⟩,
  ⟨(some 9), .bin .lss (.t 6) (.t 8), none⟩] none)
 (.cond (.t 9) (.skip)
 (.exit 0)))
 (.seq (.block 1 (.seq (.region [⟨(some 12), .mov (.t 0), none⟩,
  ⟨(some 13), .mov (.t 5), none⟩,
  ⟨(some 14), .idxs 3 (.t 12) (.t 13), none⟩,
  ⟨(some 15), .load (some 3) (.t 14), none⟩,
  ⟨(some 16), .load (some 3) (.t 3), none⟩,
  ⟨(some 17), .call (.c (.fn 49 [] [])) [(.t 15), (.t 16)], none⟩] (some [[], [], [0, 1], [2], [], [3, 4]]))
 (.cond (.t 17) (.seq (.region [⟨(some 4), .mov (.c (.bool true)), none⟩] none)
 (.ret))
 (.skip))))
 (.region [⟨(some 10), .mov (.t 5), none⟩,
  ⟨(some 11), .bin .add (.t 10) (.c (.int .i64 1)), none⟩,
  ⟨(some 5), .mov (.t 11), none⟩] none))
-- pneumatic/pneumaticref05.among
def ic105 : IC := .seq (.region [⟨(some 3), .box (.t 1), none⟩,
  ⟨(some 4), .mov (.c (.bool false)), none⟩] none)
 (.seq (.seq (.region [⟨(some 5), .mov (.c (.int .i64 0)), none⟩] none)
 (.block 0 (.loop b105_0)))
 (.seq (.region [⟨(some 4), .mov (.c (.bool false)), none⟩] none)
 (.ret)))
theorem fn105 : env0.fn 105 = some ⟨18, ic105, [.t 4]⟩ := by kernel_rfl
theorem zpl (l : List Ex) (x : Ex) (hl : l.length < 9223372036854775807) (hs : ∀ y ∈ l, Slim y) : PF Try.prog 105 [.vs (cXs l), .agg (cX x)] (.bool (l.any fun y => eqX y x)) := by
 have hcl := zan l
 have p49 : ∀ y ∈ l, PF Try.prog 49 [.agg (cX y), .agg (cX x)] (.bool (eqX y x)) := fun y hy => zof _ y x (Nat.le_refl _) (hs y hy)
 generalize hp : (fun y => eqX y x) = p at *
 have hpx : ∀ y, eqX y x = p y := fun y => by rw [← hp]
 simp only [hpx] at p49
 clear hp hpx
 obtain ⟨op, ix, args⟩ := x
 refine zb3 env0_ok fn105 [(0, .vs (cXs l)), (1, .agg (cX (.nd op ix args)))] (by show 2 ≤ 18; decide) rfl fun w0 N0 => ?_
 unfold ic105
 refine za6 (za0 rfl (zbd rfl rfl (za4 rfl (za3 (za2 ?_)))))
 refine zce [] [(0, 0, cX (.nd op ix args))] [(0, .vs (cXs l)), (3, .vptr (cX (.nd op ix args)))] rfl (.cons rfl rfl .nil) .nil (.cons rfl (.same rfl) (.cons rfl (.fptr rfl rfl) .nil)) ?_
 repeat (first | refine za6 ?_ | refine za0 rfl ?_ | refine za3 ?_ | refine za2 ?_ | refine zal ?_ | refine za4 rfl ?_)
 refine zd9 (fun mm S => ∃ i, mm = l.length - i ∧ i ≤ l.length ∧ l.any p = (l.drop i).any p ∧ S = st 18 [(0, .vs (cXs l)), (3, .vptr (cX (.nd op ix args))), (5, .int .i64 (i : Nat))] [] 0 1) l.length
  (zat (.cons rfl (.cons rfl (.cons rfl .nil)))) ⟨0, rfl, Nat.zero_le _, rfl, rfl⟩ ?_
 rintro mm S ⟨i, rfl, hi, hv, rfl⟩
 unfold b105_0
 repeat (first | refine za6 ?_ | refine za0 rfl ?_ | refine za4 rfl ?_ | refine zbf rfl rfl ?_)
 refine zaw rfl rfl rfl (fun h3 => ?_) fun h3 => ?_
 ·have hlt : i < l.length := by
   have h4 : ((i : Nat) : Int) < (((cXs l).length : Nat) : Int) := of_decide_eq_true h3
   omega
  have w1 : IntKind.wrap .i64 (((i : Nat) : Int) + 1) = ((i + 1 : Nat) : Int) := zbo i (by omega)
  have hg := zcg hlt
  have p49 := p49 l[i] (List.getElem_mem hlt)
  rw [List.drop_eq_getElem_cons hlt, List.any_cons] at hv
  generalize l[i] = a at *
  generalize p a = fa at *
  obtain ⟨op2, ix2, args2⟩ := a
  repeat (first | refine za6 ?_ | refine za3 ?_ | refine za2 ?_ | refine zal ?_ | refine zae ?_ | refine zbg rfl ?_)
  refine zev env0_ok [(49, [.agg (cX (.nd op2 ix2 args2)), .agg (cX (.nd op ix args))], .bool fa)] (fun x hx => by
   obtain rfl := List.mem_singleton.1 hx
   exact p49) (fun f => Nat.beq f 49) rfl rfl rfl ?_
  repeat (first | refine za4 rfl ?_ | refine zaa rfl rfl rfl rfl ?_ | refine zb4 rfl rfl (by omega) (by assumption) rfl ?_)
  refine zar rfl rfl zci (fun h => Bool.noConfusion (show false = true from h)) ?_
  cases fa with
  | true =>
   rw [Bool.true_or] at hv
   repeat (first | refine za6 ?_ | refine za0 rfl ?_ | refine za3 ?_ | refine za2 ?_ | refine zbg rfl ?_ | refine zah ?_ | refine za5 ?_ | refine zad ?_ | refine za4 rfl ?_)
   exact zak ⟨.inr rfl, _, rfl, by rw [hv]; rfl⟩
  | false =>
   rw [Bool.false_or] at hv
   repeat (first | refine za0 rfl ?_ | refine za3 ?_ | refine za2 ?_ | refine zbk ?_ | refine zae ?_ | refine zbl rfl ?_ | refine za4 rfl ?_ | refine zaz (op := .add) rfl rfl rfl ?_)
   rw [w1]
   exact zbz (show l.length - (i + 1) < l.length - i by omega) (zat (.cons rfl (.cons rfl (.cons rfl .nil)))) ⟨i + 1, rfl, hlt, hv, rfl⟩
 ·have hie : i = l.length := by
   have h4 : ¬ ((i : Nat) : Int) < (((cXs l).length : Nat) : Int) := of_decide_eq_false h3
   omega
  rw [hie, List.drop_length, List.any_nil] at hv
  repeat (first | refine za3 ?_ | refine za2 ?_ | refine zbl rfl ?_ | refine zb8 ?_ | refine zaf ?_)
  refine zdq ?_
  repeat (first | refine za6 ?_ | refine za0 rfl ?_ | refine za3 ?_ | refine za2 ?_ | refine zah ?_ | refine zb7 ?_ | refine za4 rfl ?_)
  exact zak ⟨.inr rfl, _, rfl, by rw [hv]; rfl⟩
end Go.Proofs.Ytmnkjofaodbokaa
