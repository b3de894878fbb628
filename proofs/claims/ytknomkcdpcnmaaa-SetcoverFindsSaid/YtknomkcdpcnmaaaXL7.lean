/-
  Fewest and Needed return the results of the reference: the law.
-/
import Derived.Test.YtknomkcdpcnmaaaXLW
import Derived.Test.YtknomkcdpcnmaaaXP5
namespace Go.Proofs.Ytknomkcdpcnmaaa
open Go Go.Am
-- pneumatic/pneumaticlaw09.SetcoverFinds
def ic7 : IC := .seq (.region [⟨(some 1), .box (.t 0), none⟩,
  ⟨(some 2), .mov (.c (.bool false)), none⟩] none)
 (.seq (.seq (.region [⟨(some 11), .load (some 2) (.t 1), none⟩,
  ⟨(some 12), .call (.c (.fn 11 [] [])) [(.t 11)], none⟩,
  ⟨(some 13), .un .not (.t 12), none⟩] none)
 (.cond (.t 13) (.seq (.region [⟨(some 14), .call (.c (.fn 12 [] [])) [], none⟩,
  ⟨(some 2), .mov (.t 14), none⟩] none)
 (.ret))
 (.skip)))
 (.seq (.region [⟨(some 16), .load (some 2) (.t 1), none⟩,
  ⟨(some 17), .call (.c (.fn 14 [] [])) [(.t 16)], none⟩,
  ⟨(some 18), .call (.c (.fn 24 [] [])) [(.t 17)], none⟩,
  ⟨(some 15), .mov (.t 18), none⟩,
  ⟨(some 19), .extract (.t 15) 0, none⟩,
  ⟨(some 20), .extract (.t 15) 1, none⟩,
  ⟨(some 3), .mov (.t 19), none⟩,
  ⟨(some 4), .mov (.t 20), none⟩] none)
 (.seq (.region [⟨(some 22), .load (some 2) (.t 1), none⟩,
  ⟨(some 23), .call (.c (.fn 30 [] [])) [(.t 22)], none⟩,
  ⟨(some 21), .mov (.t 23), none⟩,
  ⟨(some 24), .extract (.t 21) 0, none⟩,
  ⟨(some 25), .extract (.t 21) 1, none⟩,
  ⟨(some 5), .mov (.t 24), none⟩,
  ⟨(some 6), .mov (.t 25), none⟩] none)
 (.seq (.region [⟨(some 27), .load (some 2) (.t 1), none⟩,
  ⟨(some 28), .call (.c (.fn 14 [] [])) [(.t 27)], none⟩,
  ⟨(some 29), .call (.c (.fn 31 [] [])) [(.t 28)], none⟩,
  ⟨(some 26), .mov (.t 29), none⟩,
  ⟨(some 30), .extract (.t 26) 0, none⟩,
  ⟨(some 31), .extract (.t 26) 1, none⟩,
  ⟨(some 7), .mov (.t 30), none⟩,
  ⟨(some 8), .mov (.t 31), none⟩] none)
 (.seq (.region [⟨(some 33), .load (some 2) (.t 1), none⟩,
  ⟨(some 34), .call (.c (.fn 32 [] [])) [(.t 33)], none⟩,
  ⟨(some 32), .mov (.t 34), none⟩,
  ⟨(some 35), .extract (.t 32) 0, none⟩,
  ⟨(some 36), .extract (.t 32) 1, none⟩,
  ⟨(some 9), .mov (.t 35), none⟩,
  ⟨(some 10), .mov (.t 36), none⟩] none)
 (.seq (.region [⟨(some 37), .call (.c (.fn 12 [] [])) [], none⟩,
  ⟨(some 38), .mov (.t 37), none⟩,
  ⟨(some 39), .mov (.t 3), some (38, true)⟩,
  ⟨(some 40), .mov (.t 5), some (38, true)⟩,
  ⟨(some 41), .call (.c (.fn 16 [] [])) [(.t 39), (.t 40)], some (38, true)⟩,
  ⟨(some 42), .pick (.t 38) (.t 41) (.c (.bool false)), none⟩,
  ⟨(some 43), .mov (.t 42), none⟩,
  ⟨(some 44), .mov (.t 4), some (43, true)⟩,
  ⟨(some 45), .mov (.t 6), some (43, true)⟩,
  ⟨(some 46), .bin .eql (.t 44) (.t 45), some (43, true)⟩,
  ⟨(some 47), .pick (.t 43) (.t 46) (.c (.bool false)), none⟩,
  ⟨(some 48), .mov (.t 47), none⟩,
  ⟨(some 49), .mov (.t 7), some (48, true)⟩,
  ⟨(some 50), .mov (.t 9), some (48, true)⟩,
  ⟨(some 51), .call (.c (.fn 16 [] [])) [(.t 49), (.t 50)], some (48, true)⟩,
  ⟨(some 52), .pick (.t 48) (.t 51) (.c (.bool false)), none⟩,
  ⟨(some 53), .mov (.t 52), none⟩,
  ⟨(some 54), .mov (.t 8), some (53, true)⟩,
  ⟨(some 55), .mov (.t 10), some (53, true)⟩,
  ⟨(some 56), .bin .eql (.t 54) (.t 55), some (53, true)⟩,
  ⟨(some 57), .pick (.t 53) (.t 56) (.c (.bool false)), none⟩,
  ⟨(some 2), .mov (.t 57), none⟩] none)
 (.ret)))))))
theorem fn7 : env0.fn 7 = some ⟨58, ic7, [.t 2]⟩ := by kernel_rfl
theorem fewW_eq {n : Int} {s : List (BitVec 64)} (h : s.length < 200) : ∃ (l : List Int) (e : Int), fewW n s = .tup [vsI l, .int .i64 e] ∧ l.length ≤ 200 := by
 unfold fewW
 split
 ·cases hF : zk3 n s with
  | none => exact ⟨[], 6, rfl, Nat.zero_le _⟩
  | some c => exact ⟨c, 0, rfl, by have := (ztb hF).1; omega⟩
 ·exact ⟨[], _, rfl, Nat.zero_le _⟩
theorem neeW_eq {n : Int} {s : List (BitVec 64)} (h : s.length < 200) : ∃ (l : List Int) (e : Int), neeW n s = .tup [vsI l, .int .i64 e] ∧ l.length ≤ 200 := by
 unfold neeW
 split
 ·cases hF : zk3 n s with
  | none => exact ⟨[], 6, rfl, Nat.zero_le _⟩
  | some c => exact ⟨_, 0, rfl, Nat.le_trans (zq0 n s s.length) (by omega)⟩
 ·exact ⟨[], _, rfl, Nat.zero_le _⟩
set_option maxRecDepth 100000 in
set_option maxHeartbeats 4000000 in
theorem law7 (n : Int) (s : List (BitVec 64)) : PF Try.prog 7 [cF n s] (.bool true) := by
 have pF := few11 n s
 have pS := sent14 n s
 refine zc2 env0_ok fn7 [(0, cF n s)] (by show 1 ≤ 58; decide) rfl fun w0 N0 => ?_
 unfold ic7
 refine zan (za1 rfl (zbf (cs := [.int .i64 n, .vs (cUs s)]) rfl rfl (zab rfl (zai (zaj ?_)))))
 refine zd8 [] [(0, 0, [.int .i64 n, .vs (cUs s)])] [(1, .vptr [.int .i64 n, .vs (cUs s)])] rfl (.cons rfl rfl .nil) .nil (.cons rfl (.fptr rfl rfl) .nil) ?_
 repeat (first | refine zan ?_ | refine za1 rfl ?_ | refine zai ?_ | refine zaj ?_ | refine zbe ?_ | refine zak ?_ | refine zat ?_ | refine zbl rfl ?_ | refine zbk rfl ?_ | refine zb2 ?_ | refine zbc ?_ | refine zb1 ?_ | refine za4 ?_ | refine za2 rfl ?_ | refine za3 ?_ | refine za5 ?_ | refine zbn rfl ?_ | refine zbs rfl rfl ?_ | refine zbz rfl ?_ | refine zab rfl ?_ | refine zax rfl rfl ?_ | refine zap rfl rfl rfl rfl ?_ | refine zaq rfl rfl rfl rfl rfl rfl rfl ?_ | refine zae rfl ?_ | refine za6 rfl rfl rfl ?_ | refine za0 rfl rfl rfl ?_ | refine za9 rfl rfl rfl rfl ?_ | refine zar ?_ | refine zao rfl rfl ?_ | refine zam rfl rfl ?_ | refine zc0 rfl rfl ?_ | refine zbd rfl rfl ?_ | refine zav rfl rfl ?_ | refine zac rfl rfl ?_ | refine zbf rfl rfl ?_ | refine zaa rfl rfl rfl ?_ | refine zaw rfl rfl ?_ | refine zal rfl rfl rfl rfl ?_ | refine za8 rfl rfl rfl rfl ?_ | refine zag rfl rfl rfl rfl ?_ | refine zb5 rfl rfl ?_ | refine zb4 rfl rfl ?_ | refine za7 rfl rfl ?_ | refine zb8 ?_ | refine zah env0_ok rfl rfl rfl ?_ | refine zad (op := .add) rfl rfl rfl ?_ | refine zad (op := .sub) rfl rfl rfl ?_ | refine zb7 rfl rfl rfl ?_ | refine zb6 rfl rfl rfl ?_ | refine zb3 rfl rfl rfl ?_ | refine zaz rfl rfl rfl ?_ | refine zb0 rfl rfl (by omega) (by assumption) rfl ?_ | refine za0 rfl rfl (decide_eq_true ⟨by omega, by omega⟩) ?_ | refine zau rfl rfl (by omega) (by omega) ?_ | refine zaf rfl rfl rfl ?_ | refine zba rfl ?_ | refine zb9 rfl ?_)
 refine zbw rfl rfl pF (fun h => Bool.noConfusion (show false = true from h)) ?_
 cases hf : fewB n s with
 | false =>
  repeat (first | refine zan ?_ | refine za1 rfl ?_ | refine zai ?_ | refine zaj ?_ | refine zbe ?_ | refine zak ?_ | refine zat ?_ | refine zbl rfl ?_ | refine zbk rfl ?_ | refine zb2 ?_ | refine zbc ?_ | refine zb1 ?_ | refine za4 ?_ | refine za2 rfl ?_ | refine za3 ?_ | refine za5 ?_ | refine zbn rfl ?_ | refine zbs rfl rfl ?_ | refine zbz rfl ?_ | refine zab rfl ?_ | refine zax rfl rfl ?_ | refine zap rfl rfl rfl rfl ?_ | refine zaq rfl rfl rfl rfl rfl rfl rfl ?_ | refine zae rfl ?_ | refine za6 rfl rfl rfl ?_ | refine za0 rfl rfl rfl ?_ | refine za9 rfl rfl rfl rfl ?_ | refine zar ?_ | refine zao rfl rfl ?_ | refine zam rfl rfl ?_ | refine zc0 rfl rfl ?_ | refine zbd rfl rfl ?_ | refine zav rfl rfl ?_ | refine zac rfl rfl ?_ | refine zbf rfl rfl ?_ | refine zaa rfl rfl rfl ?_ | refine zaw rfl rfl ?_ | refine zal rfl rfl rfl rfl ?_ | refine za8 rfl rfl rfl rfl ?_ | refine zag rfl rfl rfl rfl ?_ | refine zb5 rfl rfl ?_ | refine zb4 rfl rfl ?_ | refine za7 rfl rfl ?_ | refine zb8 ?_ | refine zah env0_ok rfl rfl rfl ?_ | refine zad (op := .add) rfl rfl rfl ?_ | refine zad (op := .sub) rfl rfl rfl ?_ | refine zb7 rfl rfl rfl ?_ | refine zb6 rfl rfl rfl ?_ | refine zb3 rfl rfl rfl ?_ | refine zaz rfl rfl rfl ?_ | refine zb0 rfl rfl (by omega) (by assumption) rfl ?_ | refine za0 rfl rfl (decide_eq_true ⟨by omega, by omega⟩) ?_ | refine zau rfl rfl (by omega) (by omega) ?_ | refine zaf rfl rfl rfl ?_ | refine zba rfl ?_ | refine zb9 rfl ?_)
  refine zbw rfl rfl zsi (fun h => Bool.noConfusion (show false = true from h)) ?_
  repeat (first | refine zan ?_ | refine za1 rfl ?_ | refine zai ?_ | refine zaj ?_ | refine zbe ?_ | refine zak ?_ | refine zat ?_ | refine zbl rfl ?_ | refine zbk rfl ?_ | refine zb2 ?_ | refine zbc ?_ | refine zb1 ?_ | refine za4 ?_ | refine za2 rfl ?_ | refine za3 ?_ | refine za5 ?_ | refine zbn rfl ?_ | refine zbs rfl rfl ?_ | refine zbz rfl ?_ | refine zab rfl ?_ | refine zax rfl rfl ?_ | refine zap rfl rfl rfl rfl ?_ | refine zaq rfl rfl rfl rfl rfl rfl rfl ?_ | refine zae rfl ?_ | refine za6 rfl rfl rfl ?_ | refine za0 rfl rfl rfl ?_ | refine za9 rfl rfl rfl rfl ?_ | refine zar ?_ | refine zao rfl rfl ?_ | refine zam rfl rfl ?_ | refine zc0 rfl rfl ?_ | refine zbd rfl rfl ?_ | refine zav rfl rfl ?_ | refine zac rfl rfl ?_ | refine zbf rfl rfl ?_ | refine zaa rfl rfl rfl ?_ | refine zaw rfl rfl ?_ | refine zal rfl rfl rfl rfl ?_ | refine za8 rfl rfl rfl rfl ?_ | refine zag rfl rfl rfl rfl ?_ | refine zb5 rfl rfl ?_ | refine zb4 rfl rfl ?_ | refine za7 rfl rfl ?_ | refine zb8 ?_ | refine zah env0_ok rfl rfl rfl ?_ | refine zad (op := .add) rfl rfl rfl ?_ | refine zad (op := .sub) rfl rfl rfl ?_ | refine zb7 rfl rfl rfl ?_ | refine zb6 rfl rfl rfl ?_ | refine zb3 rfl rfl rfl ?_ | refine zaz rfl rfl rfl ?_ | refine zb0 rfl rfl (by omega) (by assumption) rfl ?_ | refine za0 rfl rfl (decide_eq_true ⟨by omega, by omega⟩) ?_ | refine zau rfl rfl (by omega) (by omega) ?_ | refine zaf rfl rfl rfl ?_ | refine zba rfl ?_ | refine zb9 rfl ?_)
  exact zbj ⟨.inr rfl, _, rfl, rfl⟩
 | true =>
 obtain ⟨h200, h8⟩ := ztc hf
 have p24 := zpq n s
 have p30 := fewest30 n s (fun h => by have := (h8 h).2; omega)
 have p31 := needed31 n s
 have p32 := needed32 n s (fun h => by have := (h8 h).2; omega)
 rw [few_eq (fun h => (h8 h).2)] at p24
 rw [need_eq] at p31
 obtain ⟨l1, e1, hf1, hl1⟩ := fewW_eq (n := n) h200
 obtain ⟨l2, e2, hf2, hl2⟩ := neeW_eq (n := n) h200
 rw [hf1] at p24 p30
 rw [hf2] at p31 p32
 have pM1 := same16 l1 (by omega)
 have pM2 := same16 l2 (by omega)
 repeat (first | refine zan ?_ | refine za1 rfl ?_ | refine zai ?_ | refine zaj ?_ | refine zbe ?_ | refine zak ?_ | refine zat ?_ | refine zbl rfl ?_ | refine zbk rfl ?_ | refine zb2 ?_ | refine zbc ?_ | refine zb1 ?_ | refine za4 ?_ | refine za2 rfl ?_ | refine za3 ?_ | refine za5 ?_ | refine zbn rfl ?_ | refine zbs rfl rfl ?_ | refine zbz rfl ?_ | refine zab rfl ?_ | refine zax rfl rfl ?_ | refine zap rfl rfl rfl rfl ?_ | refine zaq rfl rfl rfl rfl rfl rfl rfl ?_ | refine zae rfl ?_ | refine za6 rfl rfl rfl ?_ | refine za0 rfl rfl rfl ?_ | refine za9 rfl rfl rfl rfl ?_ | refine zar ?_ | refine zao rfl rfl ?_ | refine zam rfl rfl ?_ | refine zc0 rfl rfl ?_ | refine zbd rfl rfl ?_ | refine zav rfl rfl ?_ | refine zac rfl rfl ?_ | refine zbf rfl rfl ?_ | refine zaa rfl rfl rfl ?_ | refine zaw rfl rfl ?_ | refine zal rfl rfl rfl rfl ?_ | refine za8 rfl rfl rfl rfl ?_ | refine zag rfl rfl rfl rfl ?_ | refine zb5 rfl rfl ?_ | refine zb4 rfl rfl ?_ | refine za7 rfl rfl ?_ | refine zb8 ?_ | refine zah env0_ok rfl rfl rfl ?_ | refine zad (op := .add) rfl rfl rfl ?_ | refine zad (op := .sub) rfl rfl rfl ?_ | refine zb7 rfl rfl rfl ?_ | refine zb6 rfl rfl rfl ?_ | refine zb3 rfl rfl rfl ?_ | refine zaz rfl rfl rfl ?_ | refine zb0 rfl rfl (by omega) (by assumption) rfl ?_ | refine za0 rfl rfl (decide_eq_true ⟨by omega, by omega⟩) ?_ | refine zau rfl rfl (by omega) (by omega) ?_ | refine zaf rfl rfl rfl ?_ | refine zba rfl ?_ | refine zb9 rfl ?_)
 refine zbw rfl rfl pS (fun h => Bool.noConfusion (show false = true from h)) ?_
 repeat (first | refine zan ?_ | refine za1 rfl ?_ | refine zai ?_ | refine zaj ?_ | refine zbe ?_ | refine zak ?_ | refine zat ?_ | refine zbl rfl ?_ | refine zbk rfl ?_ | refine zb2 ?_ | refine zbc ?_ | refine zb1 ?_ | refine za4 ?_ | refine za2 rfl ?_ | refine za3 ?_ | refine za5 ?_ | refine zbn rfl ?_ | refine zbs rfl rfl ?_ | refine zbz rfl ?_ | refine zab rfl ?_ | refine zax rfl rfl ?_ | refine zap rfl rfl rfl rfl ?_ | refine zaq rfl rfl rfl rfl rfl rfl rfl ?_ | refine zae rfl ?_ | refine za6 rfl rfl rfl ?_ | refine za0 rfl rfl rfl ?_ | refine za9 rfl rfl rfl rfl ?_ | refine zar ?_ | refine zao rfl rfl ?_ | refine zam rfl rfl ?_ | refine zc0 rfl rfl ?_ | refine zbd rfl rfl ?_ | refine zav rfl rfl ?_ | refine zac rfl rfl ?_ | refine zbf rfl rfl ?_ | refine zaa rfl rfl rfl ?_ | refine zaw rfl rfl ?_ | refine zal rfl rfl rfl rfl ?_ | refine za8 rfl rfl rfl rfl ?_ | refine zag rfl rfl rfl rfl ?_ | refine zb5 rfl rfl ?_ | refine zb4 rfl rfl ?_ | refine za7 rfl rfl ?_ | refine zb8 ?_ | refine zah env0_ok rfl rfl rfl ?_ | refine zad (op := .add) rfl rfl rfl ?_ | refine zad (op := .sub) rfl rfl rfl ?_ | refine zb7 rfl rfl rfl ?_ | refine zb6 rfl rfl rfl ?_ | refine zb3 rfl rfl rfl ?_ | refine zaz rfl rfl rfl ?_ | refine zb0 rfl rfl (by omega) (by assumption) rfl ?_ | refine za0 rfl rfl (decide_eq_true ⟨by omega, by omega⟩) ?_ | refine zau rfl rfl (by omega) (by omega) ?_ | refine zaf rfl rfl rfl ?_ | refine zba rfl ?_ | refine zb9 rfl ?_)
 refine zbw rfl rfl p24 (fun h => Bool.noConfusion (show false = true from h)) ?_
 repeat (first | refine zan ?_ | refine za1 rfl ?_ | refine zai ?_ | refine zaj ?_ | refine zbe ?_ | refine zak ?_ | refine zat ?_ | refine zbl rfl ?_ | refine zbk rfl ?_ | refine zb2 ?_ | refine zbc ?_ | refine zb1 ?_ | refine za4 ?_ | refine za2 rfl ?_ | refine za3 ?_ | refine za5 ?_ | refine zbn rfl ?_ | refine zbs rfl rfl ?_ | refine zbz rfl ?_ | refine zab rfl ?_ | refine zax rfl rfl ?_ | refine zap rfl rfl rfl rfl ?_ | refine zaq rfl rfl rfl rfl rfl rfl rfl ?_ | refine zae rfl ?_ | refine za6 rfl rfl rfl ?_ | refine za0 rfl rfl rfl ?_ | refine za9 rfl rfl rfl rfl ?_ | refine zar ?_ | refine zao rfl rfl ?_ | refine zam rfl rfl ?_ | refine zc0 rfl rfl ?_ | refine zbd rfl rfl ?_ | refine zav rfl rfl ?_ | refine zac rfl rfl ?_ | refine zbf rfl rfl ?_ | refine zaa rfl rfl rfl ?_ | refine zaw rfl rfl ?_ | refine zal rfl rfl rfl rfl ?_ | refine za8 rfl rfl rfl rfl ?_ | refine zag rfl rfl rfl rfl ?_ | refine zb5 rfl rfl ?_ | refine zb4 rfl rfl ?_ | refine za7 rfl rfl ?_ | refine zb8 ?_ | refine zah env0_ok rfl rfl rfl ?_ | refine zad (op := .add) rfl rfl rfl ?_ | refine zad (op := .sub) rfl rfl rfl ?_ | refine zb7 rfl rfl rfl ?_ | refine zb6 rfl rfl rfl ?_ | refine zb3 rfl rfl rfl ?_ | refine zaz rfl rfl rfl ?_ | refine zb0 rfl rfl (by omega) (by assumption) rfl ?_ | refine za0 rfl rfl (decide_eq_true ⟨by omega, by omega⟩) ?_ | refine zau rfl rfl (by omega) (by omega) ?_ | refine zaf rfl rfl rfl ?_ | refine zba rfl ?_ | refine zb9 rfl ?_)
 refine zbw rfl rfl p30 (fun h => Bool.noConfusion (show false = true from h)) ?_
 repeat (first | refine zan ?_ | refine za1 rfl ?_ | refine zai ?_ | refine zaj ?_ | refine zbe ?_ | refine zak ?_ | refine zat ?_ | refine zbl rfl ?_ | refine zbk rfl ?_ | refine zb2 ?_ | refine zbc ?_ | refine zb1 ?_ | refine za4 ?_ | refine za2 rfl ?_ | refine za3 ?_ | refine za5 ?_ | refine zbn rfl ?_ | refine zbs rfl rfl ?_ | refine zbz rfl ?_ | refine zab rfl ?_ | refine zax rfl rfl ?_ | refine zap rfl rfl rfl rfl ?_ | refine zaq rfl rfl rfl rfl rfl rfl rfl ?_ | refine zae rfl ?_ | refine za6 rfl rfl rfl ?_ | refine za0 rfl rfl rfl ?_ | refine za9 rfl rfl rfl rfl ?_ | refine zar ?_ | refine zao rfl rfl ?_ | refine zam rfl rfl ?_ | refine zc0 rfl rfl ?_ | refine zbd rfl rfl ?_ | refine zav rfl rfl ?_ | refine zac rfl rfl ?_ | refine zbf rfl rfl ?_ | refine zaa rfl rfl rfl ?_ | refine zaw rfl rfl ?_ | refine zal rfl rfl rfl rfl ?_ | refine za8 rfl rfl rfl rfl ?_ | refine zag rfl rfl rfl rfl ?_ | refine zb5 rfl rfl ?_ | refine zb4 rfl rfl ?_ | refine za7 rfl rfl ?_ | refine zb8 ?_ | refine zah env0_ok rfl rfl rfl ?_ | refine zad (op := .add) rfl rfl rfl ?_ | refine zad (op := .sub) rfl rfl rfl ?_ | refine zb7 rfl rfl rfl ?_ | refine zb6 rfl rfl rfl ?_ | refine zb3 rfl rfl rfl ?_ | refine zaz rfl rfl rfl ?_ | refine zb0 rfl rfl (by omega) (by assumption) rfl ?_ | refine za0 rfl rfl (decide_eq_true ⟨by omega, by omega⟩) ?_ | refine zau rfl rfl (by omega) (by omega) ?_ | refine zaf rfl rfl rfl ?_ | refine zba rfl ?_ | refine zb9 rfl ?_)
 refine zbw rfl rfl pS (fun h => Bool.noConfusion (show false = true from h)) ?_
 repeat (first | refine zan ?_ | refine za1 rfl ?_ | refine zai ?_ | refine zaj ?_ | refine zbe ?_ | refine zak ?_ | refine zat ?_ | refine zbl rfl ?_ | refine zbk rfl ?_ | refine zb2 ?_ | refine zbc ?_ | refine zb1 ?_ | refine za4 ?_ | refine za2 rfl ?_ | refine za3 ?_ | refine za5 ?_ | refine zbn rfl ?_ | refine zbs rfl rfl ?_ | refine zbz rfl ?_ | refine zab rfl ?_ | refine zax rfl rfl ?_ | refine zap rfl rfl rfl rfl ?_ | refine zaq rfl rfl rfl rfl rfl rfl rfl ?_ | refine zae rfl ?_ | refine za6 rfl rfl rfl ?_ | refine za0 rfl rfl rfl ?_ | refine za9 rfl rfl rfl rfl ?_ | refine zar ?_ | refine zao rfl rfl ?_ | refine zam rfl rfl ?_ | refine zc0 rfl rfl ?_ | refine zbd rfl rfl ?_ | refine zav rfl rfl ?_ | refine zac rfl rfl ?_ | refine zbf rfl rfl ?_ | refine zaa rfl rfl rfl ?_ | refine zaw rfl rfl ?_ | refine zal rfl rfl rfl rfl ?_ | refine za8 rfl rfl rfl rfl ?_ | refine zag rfl rfl rfl rfl ?_ | refine zb5 rfl rfl ?_ | refine zb4 rfl rfl ?_ | refine za7 rfl rfl ?_ | refine zb8 ?_ | refine zah env0_ok rfl rfl rfl ?_ | refine zad (op := .add) rfl rfl rfl ?_ | refine zad (op := .sub) rfl rfl rfl ?_ | refine zb7 rfl rfl rfl ?_ | refine zb6 rfl rfl rfl ?_ | refine zb3 rfl rfl rfl ?_ | refine zaz rfl rfl rfl ?_ | refine zb0 rfl rfl (by omega) (by assumption) rfl ?_ | refine za0 rfl rfl (decide_eq_true ⟨by omega, by omega⟩) ?_ | refine zau rfl rfl (by omega) (by omega) ?_ | refine zaf rfl rfl rfl ?_ | refine zba rfl ?_ | refine zb9 rfl ?_)
 refine zbw rfl rfl p31 (fun h => Bool.noConfusion (show false = true from h)) ?_
 repeat (first | refine zan ?_ | refine za1 rfl ?_ | refine zai ?_ | refine zaj ?_ | refine zbe ?_ | refine zak ?_ | refine zat ?_ | refine zbl rfl ?_ | refine zbk rfl ?_ | refine zb2 ?_ | refine zbc ?_ | refine zb1 ?_ | refine za4 ?_ | refine za2 rfl ?_ | refine za3 ?_ | refine za5 ?_ | refine zbn rfl ?_ | refine zbs rfl rfl ?_ | refine zbz rfl ?_ | refine zab rfl ?_ | refine zax rfl rfl ?_ | refine zap rfl rfl rfl rfl ?_ | refine zaq rfl rfl rfl rfl rfl rfl rfl ?_ | refine zae rfl ?_ | refine za6 rfl rfl rfl ?_ | refine za0 rfl rfl rfl ?_ | refine za9 rfl rfl rfl rfl ?_ | refine zar ?_ | refine zao rfl rfl ?_ | refine zam rfl rfl ?_ | refine zc0 rfl rfl ?_ | refine zbd rfl rfl ?_ | refine zav rfl rfl ?_ | refine zac rfl rfl ?_ | refine zbf rfl rfl ?_ | refine zaa rfl rfl rfl ?_ | refine zaw rfl rfl ?_ | refine zal rfl rfl rfl rfl ?_ | refine za8 rfl rfl rfl rfl ?_ | refine zag rfl rfl rfl rfl ?_ | refine zb5 rfl rfl ?_ | refine zb4 rfl rfl ?_ | refine za7 rfl rfl ?_ | refine zb8 ?_ | refine zah env0_ok rfl rfl rfl ?_ | refine zad (op := .add) rfl rfl rfl ?_ | refine zad (op := .sub) rfl rfl rfl ?_ | refine zb7 rfl rfl rfl ?_ | refine zb6 rfl rfl rfl ?_ | refine zb3 rfl rfl rfl ?_ | refine zaz rfl rfl rfl ?_ | refine zb0 rfl rfl (by omega) (by assumption) rfl ?_ | refine za0 rfl rfl (decide_eq_true ⟨by omega, by omega⟩) ?_ | refine zau rfl rfl (by omega) (by omega) ?_ | refine zaf rfl rfl rfl ?_ | refine zba rfl ?_ | refine zb9 rfl ?_)
 refine zbw rfl rfl p32 (fun h => Bool.noConfusion (show false = true from h)) ?_
 repeat (first | refine zan ?_ | refine za1 rfl ?_ | refine zai ?_ | refine zaj ?_ | refine zbe ?_ | refine zak ?_ | refine zat ?_ | refine zbl rfl ?_ | refine zbk rfl ?_ | refine zb2 ?_ | refine zbc ?_ | refine zb1 ?_ | refine za4 ?_ | refine za2 rfl ?_ | refine za3 ?_ | refine za5 ?_ | refine zbn rfl ?_ | refine zbs rfl rfl ?_ | refine zbz rfl ?_ | refine zab rfl ?_ | refine zax rfl rfl ?_ | refine zap rfl rfl rfl rfl ?_ | refine zaq rfl rfl rfl rfl rfl rfl rfl ?_ | refine zae rfl ?_ | refine za6 rfl rfl rfl ?_ | refine za0 rfl rfl rfl ?_ | refine za9 rfl rfl rfl rfl ?_ | refine zar ?_ | refine zao rfl rfl ?_ | refine zam rfl rfl ?_ | refine zc0 rfl rfl ?_ | refine zbd rfl rfl ?_ | refine zav rfl rfl ?_ | refine zac rfl rfl ?_ | refine zbf rfl rfl ?_ | refine zaa rfl rfl rfl ?_ | refine zaw rfl rfl ?_ | refine zal rfl rfl rfl rfl ?_ | refine za8 rfl rfl rfl rfl ?_ | refine zag rfl rfl rfl rfl ?_ | refine zb5 rfl rfl ?_ | refine zb4 rfl rfl ?_ | refine za7 rfl rfl ?_ | refine zb8 ?_ | refine zah env0_ok rfl rfl rfl ?_ | refine zad (op := .add) rfl rfl rfl ?_ | refine zad (op := .sub) rfl rfl rfl ?_ | refine zb7 rfl rfl rfl ?_ | refine zb6 rfl rfl rfl ?_ | refine zb3 rfl rfl rfl ?_ | refine zaz rfl rfl rfl ?_ | refine zb0 rfl rfl (by omega) (by assumption) rfl ?_ | refine za0 rfl rfl (decide_eq_true ⟨by omega, by omega⟩) ?_ | refine zau rfl rfl (by omega) (by omega) ?_ | refine zaf rfl rfl rfl ?_ | refine zba rfl ?_ | refine zb9 rfl ?_)
 refine zbw rfl rfl zsi (fun h => Bool.noConfusion (show false = true from h)) ?_
 repeat (first | refine zan ?_ | refine za1 rfl ?_ | refine zai ?_ | refine zaj ?_ | refine zbe ?_ | refine zak ?_ | refine zat ?_ | refine zbl rfl ?_ | refine zbk rfl ?_ | refine zb2 ?_ | refine zbc ?_ | refine zb1 ?_ | refine za4 ?_ | refine za2 rfl ?_ | refine za3 ?_ | refine za5 ?_ | refine zbn rfl ?_ | refine zbs rfl rfl ?_ | refine zbz rfl ?_ | refine zab rfl ?_ | refine zax rfl rfl ?_ | refine zap rfl rfl rfl rfl ?_ | refine zaq rfl rfl rfl rfl rfl rfl rfl ?_ | refine zae rfl ?_ | refine za6 rfl rfl rfl ?_ | refine za0 rfl rfl rfl ?_ | refine za9 rfl rfl rfl rfl ?_ | refine zar ?_ | refine zao rfl rfl ?_ | refine zam rfl rfl ?_ | refine zc0 rfl rfl ?_ | refine zbd rfl rfl ?_ | refine zav rfl rfl ?_ | refine zac rfl rfl ?_ | refine zbf rfl rfl ?_ | refine zaa rfl rfl rfl ?_ | refine zaw rfl rfl ?_ | refine zal rfl rfl rfl rfl ?_ | refine za8 rfl rfl rfl rfl ?_ | refine zag rfl rfl rfl rfl ?_ | refine zb5 rfl rfl ?_ | refine zb4 rfl rfl ?_ | refine za7 rfl rfl ?_ | refine zb8 ?_ | refine zah env0_ok rfl rfl rfl ?_ | refine zad (op := .add) rfl rfl rfl ?_ | refine zad (op := .sub) rfl rfl rfl ?_ | refine zb7 rfl rfl rfl ?_ | refine zb6 rfl rfl rfl ?_ | refine zb3 rfl rfl rfl ?_ | refine zaz rfl rfl rfl ?_ | refine zb0 rfl rfl (by omega) (by assumption) rfl ?_ | refine za0 rfl rfl (decide_eq_true ⟨by omega, by omega⟩) ?_ | refine zau rfl rfl (by omega) (by omega) ?_ | refine zaf rfl rfl rfl ?_ | refine zba rfl ?_ | refine zb9 rfl ?_)
 refine zbw rfl rfl pM1 (fun h => Bool.noConfusion (show false = true from h)) ?_
 repeat (first | refine zan ?_ | refine za1 rfl ?_ | refine zai ?_ | refine zaj ?_ | refine zbe ?_ | refine zak ?_ | refine zat ?_ | refine zbl rfl ?_ | refine zbk rfl ?_ | refine zb2 ?_ | refine zbc ?_ | refine zb1 ?_ | refine za4 ?_ | refine za2 rfl ?_ | refine za3 ?_ | refine za5 ?_ | refine zbn rfl ?_ | refine zbs rfl rfl ?_ | refine zbz rfl ?_ | refine zab rfl ?_ | refine zax rfl rfl ?_ | refine zap rfl rfl rfl rfl ?_ | refine zaq rfl rfl rfl rfl rfl rfl rfl ?_ | refine zae rfl ?_ | refine za6 rfl rfl rfl ?_ | refine za0 rfl rfl rfl ?_ | refine za9 rfl rfl rfl rfl ?_ | refine zar ?_ | refine zao rfl rfl ?_ | refine zam rfl rfl ?_ | refine zc0 rfl rfl ?_ | refine zbd rfl rfl ?_ | refine zav rfl rfl ?_ | refine zac rfl rfl ?_ | refine zbf rfl rfl ?_ | refine zaa rfl rfl rfl ?_ | refine zaw rfl rfl ?_ | refine zal rfl rfl rfl rfl ?_ | refine za8 rfl rfl rfl rfl ?_ | refine zag rfl rfl rfl rfl ?_ | refine zb5 rfl rfl ?_ | refine zb4 rfl rfl ?_ | refine za7 rfl rfl ?_ | refine zb8 ?_ | refine zah env0_ok rfl rfl rfl ?_ | refine zad (op := .add) rfl rfl rfl ?_ | refine zad (op := .sub) rfl rfl rfl ?_ | refine zb7 rfl rfl rfl ?_ | refine zb6 rfl rfl rfl ?_ | refine zb3 rfl rfl rfl ?_ | refine zaz rfl rfl rfl ?_ | refine zb0 rfl rfl (by omega) (by assumption) rfl ?_ | refine za0 rfl rfl (decide_eq_true ⟨by omega, by omega⟩) ?_ | refine zau rfl rfl (by omega) (by omega) ?_ | refine zaf rfl rfl rfl ?_ | refine zba rfl ?_ | refine zb9 rfl ?_)
 refine zb3 rfl rfl (by show some (AV.bool (e1 == e1)) = _; simp) ?_
 repeat (first | refine zan ?_ | refine za1 rfl ?_ | refine zai ?_ | refine zaj ?_ | refine zbe ?_ | refine zak ?_ | refine zat ?_ | refine zbl rfl ?_ | refine zbk rfl ?_ | refine zb2 ?_ | refine zbc ?_ | refine zb1 ?_ | refine za4 ?_ | refine za2 rfl ?_ | refine za3 ?_ | refine za5 ?_ | refine zbn rfl ?_ | refine zbs rfl rfl ?_ | refine zbz rfl ?_ | refine zab rfl ?_ | refine zax rfl rfl ?_ | refine zap rfl rfl rfl rfl ?_ | refine zaq rfl rfl rfl rfl rfl rfl rfl ?_ | refine zae rfl ?_ | refine za6 rfl rfl rfl ?_ | refine za0 rfl rfl rfl ?_ | refine za9 rfl rfl rfl rfl ?_ | refine zar ?_ | refine zao rfl rfl ?_ | refine zam rfl rfl ?_ | refine zc0 rfl rfl ?_ | refine zbd rfl rfl ?_ | refine zav rfl rfl ?_ | refine zac rfl rfl ?_ | refine zbf rfl rfl ?_ | refine zaa rfl rfl rfl ?_ | refine zaw rfl rfl ?_ | refine zal rfl rfl rfl rfl ?_ | refine za8 rfl rfl rfl rfl ?_ | refine zag rfl rfl rfl rfl ?_ | refine zb5 rfl rfl ?_ | refine zb4 rfl rfl ?_ | refine za7 rfl rfl ?_ | refine zb8 ?_ | refine zah env0_ok rfl rfl rfl ?_ | refine zad (op := .add) rfl rfl rfl ?_ | refine zad (op := .sub) rfl rfl rfl ?_ | refine zb7 rfl rfl rfl ?_ | refine zb6 rfl rfl rfl ?_ | refine zb3 rfl rfl rfl ?_ | refine zaz rfl rfl rfl ?_ | refine zb0 rfl rfl (by omega) (by assumption) rfl ?_ | refine za0 rfl rfl (decide_eq_true ⟨by omega, by omega⟩) ?_ | refine zau rfl rfl (by omega) (by omega) ?_ | refine zaf rfl rfl rfl ?_ | refine zba rfl ?_ | refine zb9 rfl ?_)
 refine zbw rfl rfl pM2 (fun h => Bool.noConfusion (show false = true from h)) ?_
 repeat (first | refine zan ?_ | refine za1 rfl ?_ | refine zai ?_ | refine zaj ?_ | refine zbe ?_ | refine zak ?_ | refine zat ?_ | refine zbl rfl ?_ | refine zbk rfl ?_ | refine zb2 ?_ | refine zbc ?_ | refine zb1 ?_ | refine za4 ?_ | refine za2 rfl ?_ | refine za3 ?_ | refine za5 ?_ | refine zbn rfl ?_ | refine zbs rfl rfl ?_ | refine zbz rfl ?_ | refine zab rfl ?_ | refine zax rfl rfl ?_ | refine zap rfl rfl rfl rfl ?_ | refine zaq rfl rfl rfl rfl rfl rfl rfl ?_ | refine zae rfl ?_ | refine za6 rfl rfl rfl ?_ | refine za0 rfl rfl rfl ?_ | refine za9 rfl rfl rfl rfl ?_ | refine zar ?_ | refine zao rfl rfl ?_ | refine zam rfl rfl ?_ | refine zc0 rfl rfl ?_ | refine zbd rfl rfl ?_ | refine zav rfl rfl ?_ | refine zac rfl rfl ?_ | refine zbf rfl rfl ?_ | refine zaa rfl rfl rfl ?_ | refine zaw rfl rfl ?_ | refine zal rfl rfl rfl rfl ?_ | refine za8 rfl rfl rfl rfl ?_ | refine zag rfl rfl rfl rfl ?_ | refine zb5 rfl rfl ?_ | refine zb4 rfl rfl ?_ | refine za7 rfl rfl ?_ | refine zb8 ?_ | refine zah env0_ok rfl rfl rfl ?_ | refine zad (op := .add) rfl rfl rfl ?_ | refine zad (op := .sub) rfl rfl rfl ?_ | refine zb7 rfl rfl rfl ?_ | refine zb6 rfl rfl rfl ?_ | refine zb3 rfl rfl rfl ?_ | refine zaz rfl rfl rfl ?_ | refine zb0 rfl rfl (by omega) (by assumption) rfl ?_ | refine za0 rfl rfl (decide_eq_true ⟨by omega, by omega⟩) ?_ | refine zau rfl rfl (by omega) (by omega) ?_ | refine zaf rfl rfl rfl ?_ | refine zba rfl ?_ | refine zb9 rfl ?_)
 refine zb3 rfl rfl (by show some (AV.bool (e2 == e2)) = _; simp) ?_
 repeat (first | refine zan ?_ | refine za1 rfl ?_ | refine zai ?_ | refine zaj ?_ | refine zbe ?_ | refine zak ?_ | refine zat ?_ | refine zbl rfl ?_ | refine zbk rfl ?_ | refine zb2 ?_ | refine zbc ?_ | refine zb1 ?_ | refine za4 ?_ | refine za2 rfl ?_ | refine za3 ?_ | refine za5 ?_ | refine zbn rfl ?_ | refine zbs rfl rfl ?_ | refine zbz rfl ?_ | refine zab rfl ?_ | refine zax rfl rfl ?_ | refine zap rfl rfl rfl rfl ?_ | refine zaq rfl rfl rfl rfl rfl rfl rfl ?_ | refine zae rfl ?_ | refine za6 rfl rfl rfl ?_ | refine za0 rfl rfl rfl ?_ | refine za9 rfl rfl rfl rfl ?_ | refine zar ?_ | refine zao rfl rfl ?_ | refine zam rfl rfl ?_ | refine zc0 rfl rfl ?_ | refine zbd rfl rfl ?_ | refine zav rfl rfl ?_ | refine zac rfl rfl ?_ | refine zbf rfl rfl ?_ | refine zaa rfl rfl rfl ?_ | refine zaw rfl rfl ?_ | refine zal rfl rfl rfl rfl ?_ | refine za8 rfl rfl rfl rfl ?_ | refine zag rfl rfl rfl rfl ?_ | refine zb5 rfl rfl ?_ | refine zb4 rfl rfl ?_ | refine za7 rfl rfl ?_ | refine zb8 ?_ | refine zah env0_ok rfl rfl rfl ?_ | refine zad (op := .add) rfl rfl rfl ?_ | refine zad (op := .sub) rfl rfl rfl ?_ | refine zb7 rfl rfl rfl ?_ | refine zb6 rfl rfl rfl ?_ | refine zb3 rfl rfl rfl ?_ | refine zaz rfl rfl rfl ?_ | refine zb0 rfl rfl (by omega) (by assumption) rfl ?_ | refine za0 rfl rfl (decide_eq_true ⟨by omega, by omega⟩) ?_ | refine zau rfl rfl (by omega) (by omega) ?_ | refine zaf rfl rfl rfl ?_ | refine zba rfl ?_ | refine zb9 rfl ?_)
 exact zbj ⟨.inr rfl, _, rfl, rfl⟩
end Go.Proofs.Ytknomkcdpcnmaaa
