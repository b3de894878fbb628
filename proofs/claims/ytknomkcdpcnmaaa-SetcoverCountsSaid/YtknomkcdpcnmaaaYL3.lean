/-
  Exact returns the results of the reference: the law.
-/
import Derived.Test.YtknomkcdpcnmaaaYLW
import Derived.Test.YtknomkcdpcnmaaaYP6
namespace Go.Proofs.Ytknomkcdpcnmaaa
open Go Go.Am
-- pneumatic/pneumaticlaw09.SetcoverCounts
def ic3 : IC := .seq (.region [⟨(some 1), .box (.t 0), none⟩,
  ⟨(some 2), .mov (.c (.bool false)), none⟩] none)
 (.seq (.seq (.region [⟨(some 9), .load (some 2) (.t 1), none⟩,
  ⟨(some 10), .call (.c (.fn 11 [] [])) [(.t 9)], none⟩,
  ⟨(some 11), .un .not (.t 10), none⟩] none)
 (.cond (.t 11) (.seq (.region [⟨(some 12), .call (.c (.fn 12 [] [])) [], none⟩,
  ⟨(some 2), .mov (.t 12), none⟩] none)
 (.ret))
 (.skip)))
 (.seq (.region [⟨(some 14), .load (some 2) (.t 1), none⟩,
  ⟨(some 15), .call (.c (.fn 14 [] [])) [(.t 14)], none⟩,
  ⟨(some 16), .call (.c (.fn 13 [] [])) [(.t 15)], none⟩,
  ⟨(some 13), .mov (.t 16), none⟩,
  ⟨(some 17), .extract (.t 13) 0, none⟩,
  ⟨(some 18), .extract (.t 13) 1, none⟩,
  ⟨(some 19), .extract (.t 13) 2, none⟩,
  ⟨(some 3), .mov (.t 17), none⟩,
  ⟨(some 4), .mov (.t 18), none⟩,
  ⟨(some 5), .mov (.t 19), none⟩] none)
 (.seq (.region [⟨(some 21), .load (some 2) (.t 1), none⟩,
  ⟨(some 22), .call (.c (.fn 15 [] [])) [(.t 21)], none⟩,
  ⟨(some 20), .mov (.t 22), none⟩,
  ⟨(some 23), .extract (.t 20) 0, none⟩,
  ⟨(some 24), .extract (.t 20) 1, none⟩,
  ⟨(some 25), .extract (.t 20) 2, none⟩,
  ⟨(some 6), .mov (.t 23), none⟩,
  ⟨(some 7), .mov (.t 24), none⟩,
  ⟨(some 8), .mov (.t 25), none⟩] none)
 (.seq (.region [⟨(some 26), .call (.c (.fn 12 [] [])) [], none⟩,
  ⟨(some 27), .mov (.t 26), none⟩,
  ⟨(some 28), .mov (.t 3), some (27, true)⟩,
  ⟨(some 29), .mov (.t 6), some (27, true)⟩,
  ⟨(some 30), .call (.c (.fn 16 [] [])) [(.t 28), (.t 29)], some (27, true)⟩,
  ⟨(some 31), .pick (.t 27) (.t 30) (.c (.bool false)), none⟩,
  ⟨(some 32), .mov (.t 31), none⟩,
  ⟨(some 33), .mov (.t 4), some (32, true)⟩,
  ⟨(some 34), .mov (.t 7), some (32, true)⟩,
  ⟨(some 35), .bin .eql (.t 33) (.t 34), some (32, true)⟩,
  ⟨(some 36), .pick (.t 32) (.t 35) (.c (.bool false)), none⟩,
  ⟨(some 37), .mov (.t 36), none⟩,
  ⟨(some 38), .mov (.t 5), some (37, true)⟩,
  ⟨(some 39), .mov (.t 8), some (37, true)⟩,
  ⟨(some 40), .bin .eql (.t 38) (.t 39), some (37, true)⟩,
  ⟨(some 41), .pick (.t 37) (.t 40) (.c (.bool false)), none⟩,
  ⟨(some 2), .mov (.t 41), none⟩] none)
 (.ret)))))
theorem fn3 : env0.fn 3 = some ⟨42, ic3, [.t 2]⟩ := by kernel_rfl
theorem exaW_eq {n : Int} {s : List (BitVec 64)} (h : s.length < 200) : ∃ (l : List Int) (m e : Int), exaW n s = .tup [vsI l, .int .i64 m, .int .i64 e] ∧ l.length ≤ 200 := by
 unfold exaW
 split
 ·cases hE : exL n s with
  | nil => exact ⟨[], 0, 6, rfl, Nat.zero_le _⟩
  | cons c E =>
   have hm : c ∈ exL n s := by rw [hE]; exact List.mem_cons_self ..
   unfold exL znm at hm
   obtain ⟨j, hj, hm⟩ := List.mem_flatMap.1 (List.mem_filter.1 hm).1
   rw [List.mem_range'_1] at hj
   have hm : c.length = j ∧ ∀ z ∈ c, ((0 : Nat) : Int) ≤ z ∧ z < s.length := zh1 hm
   exact ⟨c, _, 0, rfl, by omega⟩
 ·exact ⟨[], 0, _, rfl, Nat.zero_le _⟩
set_option maxRecDepth 100000 in
set_option maxHeartbeats 4000000 in
theorem law3 (n : Int) (s : List (BitVec 64)) : PF Try.prog 3 [cF n s] (.bool true) := by
 have pF := few11 n s
 have pS := sent14 n s
 refine zc2 env0_ok fn3 [(0, cF n s)] (by show 1 ≤ 42; decide) rfl fun w0 N0 => ?_
 unfold ic3
 refine zal (za0 rfl (zbg (cs := [.int .i64 n, .vs (cUs s)]) rfl rfl (zab rfl (zac (zae ?_)))))
 refine zdp [] [(0, 0, [.int .i64 n, .vs (cUs s)])] [(1, .vptr [.int .i64 n, .vs (cUs s)])] rfl (.cons rfl rfl .nil) .nil (.cons rfl (.fptr rfl rfl) .nil) ?_
 repeat (first | refine zal ?_ | refine za0 rfl ?_ | refine zac ?_ | refine zae ?_ | refine zbf ?_ | refine zah ?_ | refine zas ?_ | refine zbm rfl ?_ | refine zbl rfl ?_ | refine zb3 ?_ | refine zbc ?_ | refine zb2 ?_ | refine za4 ?_ | refine za2 rfl ?_ | refine za3 ?_ | refine za5 ?_ | refine zbp rfl ?_ | refine zbx rfl rfl ?_ | refine zby rfl ?_ | refine zab rfl ?_ | refine zau rfl rfl ?_ | refine zaq rfl rfl rfl rfl ?_ | refine zar rfl rfl rfl rfl rfl rfl rfl ?_ | refine zag rfl ?_ | refine za6 rfl rfl rfl ?_ | refine za1 rfl rfl rfl ?_ | refine za9 rfl rfl rfl rfl ?_ | refine zat ?_ | refine zap rfl rfl ?_ | refine zao rfl rfl ?_ | refine zbz rfl rfl ?_ | refine zbe rfl rfl ?_ | refine zaw rfl rfl ?_ | refine zad rfl rfl ?_ | refine zbg rfl rfl ?_ | refine zaa rfl rfl rfl ?_ | refine zax rfl rfl ?_ | refine zan rfl rfl rfl rfl ?_ | refine za8 rfl rfl rfl rfl ?_ | refine zaj rfl rfl rfl rfl ?_ | refine zb6 rfl rfl ?_ | refine zb5 rfl rfl ?_ | refine za7 rfl rfl ?_ | refine zb9 ?_ | refine zak env0_ok rfl rfl rfl ?_ | refine zaf (op := .add) rfl rfl rfl ?_ | refine zaf (op := .sub) rfl rfl rfl ?_ | refine zb8 rfl rfl rfl ?_ | refine zb7 rfl rfl rfl ?_ | refine zb4 rfl rfl rfl ?_ | refine zb0 rfl rfl rfl ?_ | refine zb1 rfl rfl (by omega) (by assumption) rfl ?_ | refine za1 rfl rfl (decide_eq_true ⟨by omega, by omega⟩) ?_ | refine zav rfl rfl (by omega) (by omega) ?_ | refine zai rfl rfl rfl ?_ | refine zbb rfl ?_ | refine zba rfl ?_)
 refine zc3 rfl rfl pF (fun h => Bool.noConfusion (show false = true from h)) ?_
 cases hf : fewB n s with
 | false =>
  repeat (first | refine zal ?_ | refine za0 rfl ?_ | refine zac ?_ | refine zae ?_ | refine zbf ?_ | refine zah ?_ | refine zas ?_ | refine zbm rfl ?_ | refine zbl rfl ?_ | refine zb3 ?_ | refine zbc ?_ | refine zb2 ?_ | refine za4 ?_ | refine za2 rfl ?_ | refine za3 ?_ | refine za5 ?_ | refine zbp rfl ?_ | refine zbx rfl rfl ?_ | refine zby rfl ?_ | refine zab rfl ?_ | refine zau rfl rfl ?_ | refine zaq rfl rfl rfl rfl ?_ | refine zar rfl rfl rfl rfl rfl rfl rfl ?_ | refine zag rfl ?_ | refine za6 rfl rfl rfl ?_ | refine za1 rfl rfl rfl ?_ | refine za9 rfl rfl rfl rfl ?_ | refine zat ?_ | refine zap rfl rfl ?_ | refine zao rfl rfl ?_ | refine zbz rfl rfl ?_ | refine zbe rfl rfl ?_ | refine zaw rfl rfl ?_ | refine zad rfl rfl ?_ | refine zbg rfl rfl ?_ | refine zaa rfl rfl rfl ?_ | refine zax rfl rfl ?_ | refine zan rfl rfl rfl rfl ?_ | refine za8 rfl rfl rfl rfl ?_ | refine zaj rfl rfl rfl rfl ?_ | refine zb6 rfl rfl ?_ | refine zb5 rfl rfl ?_ | refine za7 rfl rfl ?_ | refine zb9 ?_ | refine zak env0_ok rfl rfl rfl ?_ | refine zaf (op := .add) rfl rfl rfl ?_ | refine zaf (op := .sub) rfl rfl rfl ?_ | refine zb8 rfl rfl rfl ?_ | refine zb7 rfl rfl rfl ?_ | refine zb4 rfl rfl rfl ?_ | refine zb0 rfl rfl rfl ?_ | refine zb1 rfl rfl (by omega) (by assumption) rfl ?_ | refine za1 rfl rfl (decide_eq_true ⟨by omega, by omega⟩) ?_ | refine zav rfl rfl (by omega) (by omega) ?_ | refine zai rfl rfl rfl ?_ | refine zbb rfl ?_ | refine zba rfl ?_)
  refine zc3 rfl rfl zsg (fun h => Bool.noConfusion (show false = true from h)) ?_
  repeat (first | refine zal ?_ | refine za0 rfl ?_ | refine zac ?_ | refine zae ?_ | refine zbf ?_ | refine zah ?_ | refine zas ?_ | refine zbm rfl ?_ | refine zbl rfl ?_ | refine zb3 ?_ | refine zbc ?_ | refine zb2 ?_ | refine za4 ?_ | refine za2 rfl ?_ | refine za3 ?_ | refine za5 ?_ | refine zbp rfl ?_ | refine zbx rfl rfl ?_ | refine zby rfl ?_ | refine zab rfl ?_ | refine zau rfl rfl ?_ | refine zaq rfl rfl rfl rfl ?_ | refine zar rfl rfl rfl rfl rfl rfl rfl ?_ | refine zag rfl ?_ | refine za6 rfl rfl rfl ?_ | refine za1 rfl rfl rfl ?_ | refine za9 rfl rfl rfl rfl ?_ | refine zat ?_ | refine zap rfl rfl ?_ | refine zao rfl rfl ?_ | refine zbz rfl rfl ?_ | refine zbe rfl rfl ?_ | refine zaw rfl rfl ?_ | refine zad rfl rfl ?_ | refine zbg rfl rfl ?_ | refine zaa rfl rfl rfl ?_ | refine zax rfl rfl ?_ | refine zan rfl rfl rfl rfl ?_ | refine za8 rfl rfl rfl rfl ?_ | refine zaj rfl rfl rfl rfl ?_ | refine zb6 rfl rfl ?_ | refine zb5 rfl rfl ?_ | refine za7 rfl rfl ?_ | refine zb9 ?_ | refine zak env0_ok rfl rfl rfl ?_ | refine zaf (op := .add) rfl rfl rfl ?_ | refine zaf (op := .sub) rfl rfl rfl ?_ | refine zb8 rfl rfl rfl ?_ | refine zb7 rfl rfl rfl ?_ | refine zb4 rfl rfl rfl ?_ | refine zb0 rfl rfl rfl ?_ | refine zb1 rfl rfl (by omega) (by assumption) rfl ?_ | refine za1 rfl rfl (decide_eq_true ⟨by omega, by omega⟩) ?_ | refine zav rfl rfl (by omega) (by omega) ?_ | refine zai rfl rfl rfl ?_ | refine zbb rfl ?_ | refine zba rfl ?_)
  exact zbj ⟨.inr rfl, _, rfl, rfl⟩
 | true =>
 obtain ⟨h200, h8⟩ := ztb hf
 have p13 := znw n s
 have p15 := exact15 n s (fun h => by have := (h8 h).2; omega)
 rw [exa_eq h8] at p13
 obtain ⟨l1, m1, e1, hf1, hl1⟩ := exaW_eq (n := n) h200
 rw [hf1] at p13 p15
 have pM1 := same16 l1 (by omega)
 repeat (first | refine zal ?_ | refine za0 rfl ?_ | refine zac ?_ | refine zae ?_ | refine zbf ?_ | refine zah ?_ | refine zas ?_ | refine zbm rfl ?_ | refine zbl rfl ?_ | refine zb3 ?_ | refine zbc ?_ | refine zb2 ?_ | refine za4 ?_ | refine za2 rfl ?_ | refine za3 ?_ | refine za5 ?_ | refine zbp rfl ?_ | refine zbx rfl rfl ?_ | refine zby rfl ?_ | refine zab rfl ?_ | refine zau rfl rfl ?_ | refine zaq rfl rfl rfl rfl ?_ | refine zar rfl rfl rfl rfl rfl rfl rfl ?_ | refine zag rfl ?_ | refine za6 rfl rfl rfl ?_ | refine za1 rfl rfl rfl ?_ | refine za9 rfl rfl rfl rfl ?_ | refine zat ?_ | refine zap rfl rfl ?_ | refine zao rfl rfl ?_ | refine zbz rfl rfl ?_ | refine zbe rfl rfl ?_ | refine zaw rfl rfl ?_ | refine zad rfl rfl ?_ | refine zbg rfl rfl ?_ | refine zaa rfl rfl rfl ?_ | refine zax rfl rfl ?_ | refine zan rfl rfl rfl rfl ?_ | refine za8 rfl rfl rfl rfl ?_ | refine zaj rfl rfl rfl rfl ?_ | refine zb6 rfl rfl ?_ | refine zb5 rfl rfl ?_ | refine za7 rfl rfl ?_ | refine zb9 ?_ | refine zak env0_ok rfl rfl rfl ?_ | refine zaf (op := .add) rfl rfl rfl ?_ | refine zaf (op := .sub) rfl rfl rfl ?_ | refine zb8 rfl rfl rfl ?_ | refine zb7 rfl rfl rfl ?_ | refine zb4 rfl rfl rfl ?_ | refine zb0 rfl rfl rfl ?_ | refine zb1 rfl rfl (by omega) (by assumption) rfl ?_ | refine za1 rfl rfl (decide_eq_true ⟨by omega, by omega⟩) ?_ | refine zav rfl rfl (by omega) (by omega) ?_ | refine zai rfl rfl rfl ?_ | refine zbb rfl ?_ | refine zba rfl ?_)
 refine zc3 rfl rfl pS (fun h => Bool.noConfusion (show false = true from h)) ?_
 repeat (first | refine zal ?_ | refine za0 rfl ?_ | refine zac ?_ | refine zae ?_ | refine zbf ?_ | refine zah ?_ | refine zas ?_ | refine zbm rfl ?_ | refine zbl rfl ?_ | refine zb3 ?_ | refine zbc ?_ | refine zb2 ?_ | refine za4 ?_ | refine za2 rfl ?_ | refine za3 ?_ | refine za5 ?_ | refine zbp rfl ?_ | refine zbx rfl rfl ?_ | refine zby rfl ?_ | refine zab rfl ?_ | refine zau rfl rfl ?_ | refine zaq rfl rfl rfl rfl ?_ | refine zar rfl rfl rfl rfl rfl rfl rfl ?_ | refine zag rfl ?_ | refine za6 rfl rfl rfl ?_ | refine za1 rfl rfl rfl ?_ | refine za9 rfl rfl rfl rfl ?_ | refine zat ?_ | refine zap rfl rfl ?_ | refine zao rfl rfl ?_ | refine zbz rfl rfl ?_ | refine zbe rfl rfl ?_ | refine zaw rfl rfl ?_ | refine zad rfl rfl ?_ | refine zbg rfl rfl ?_ | refine zaa rfl rfl rfl ?_ | refine zax rfl rfl ?_ | refine zan rfl rfl rfl rfl ?_ | refine za8 rfl rfl rfl rfl ?_ | refine zaj rfl rfl rfl rfl ?_ | refine zb6 rfl rfl ?_ | refine zb5 rfl rfl ?_ | refine za7 rfl rfl ?_ | refine zb9 ?_ | refine zak env0_ok rfl rfl rfl ?_ | refine zaf (op := .add) rfl rfl rfl ?_ | refine zaf (op := .sub) rfl rfl rfl ?_ | refine zb8 rfl rfl rfl ?_ | refine zb7 rfl rfl rfl ?_ | refine zb4 rfl rfl rfl ?_ | refine zb0 rfl rfl rfl ?_ | refine zb1 rfl rfl (by omega) (by assumption) rfl ?_ | refine za1 rfl rfl (decide_eq_true ⟨by omega, by omega⟩) ?_ | refine zav rfl rfl (by omega) (by omega) ?_ | refine zai rfl rfl rfl ?_ | refine zbb rfl ?_ | refine zba rfl ?_)
 refine zc3 rfl rfl p13 (fun h => Bool.noConfusion (show false = true from h)) ?_
 repeat (first | refine zal ?_ | refine za0 rfl ?_ | refine zac ?_ | refine zae ?_ | refine zbf ?_ | refine zah ?_ | refine zas ?_ | refine zbm rfl ?_ | refine zbl rfl ?_ | refine zb3 ?_ | refine zbc ?_ | refine zb2 ?_ | refine za4 ?_ | refine za2 rfl ?_ | refine za3 ?_ | refine za5 ?_ | refine zbp rfl ?_ | refine zbx rfl rfl ?_ | refine zby rfl ?_ | refine zab rfl ?_ | refine zau rfl rfl ?_ | refine zaq rfl rfl rfl rfl ?_ | refine zar rfl rfl rfl rfl rfl rfl rfl ?_ | refine zag rfl ?_ | refine za6 rfl rfl rfl ?_ | refine za1 rfl rfl rfl ?_ | refine za9 rfl rfl rfl rfl ?_ | refine zat ?_ | refine zap rfl rfl ?_ | refine zao rfl rfl ?_ | refine zbz rfl rfl ?_ | refine zbe rfl rfl ?_ | refine zaw rfl rfl ?_ | refine zad rfl rfl ?_ | refine zbg rfl rfl ?_ | refine zaa rfl rfl rfl ?_ | refine zax rfl rfl ?_ | refine zan rfl rfl rfl rfl ?_ | refine za8 rfl rfl rfl rfl ?_ | refine zaj rfl rfl rfl rfl ?_ | refine zb6 rfl rfl ?_ | refine zb5 rfl rfl ?_ | refine za7 rfl rfl ?_ | refine zb9 ?_ | refine zak env0_ok rfl rfl rfl ?_ | refine zaf (op := .add) rfl rfl rfl ?_ | refine zaf (op := .sub) rfl rfl rfl ?_ | refine zb8 rfl rfl rfl ?_ | refine zb7 rfl rfl rfl ?_ | refine zb4 rfl rfl rfl ?_ | refine zb0 rfl rfl rfl ?_ | refine zb1 rfl rfl (by omega) (by assumption) rfl ?_ | refine za1 rfl rfl (decide_eq_true ⟨by omega, by omega⟩) ?_ | refine zav rfl rfl (by omega) (by omega) ?_ | refine zai rfl rfl rfl ?_ | refine zbb rfl ?_ | refine zba rfl ?_)
 refine zc3 rfl rfl p15 (fun h => Bool.noConfusion (show false = true from h)) ?_
 repeat (first | refine zal ?_ | refine za0 rfl ?_ | refine zac ?_ | refine zae ?_ | refine zbf ?_ | refine zah ?_ | refine zas ?_ | refine zbm rfl ?_ | refine zbl rfl ?_ | refine zb3 ?_ | refine zbc ?_ | refine zb2 ?_ | refine za4 ?_ | refine za2 rfl ?_ | refine za3 ?_ | refine za5 ?_ | refine zbp rfl ?_ | refine zbx rfl rfl ?_ | refine zby rfl ?_ | refine zab rfl ?_ | refine zau rfl rfl ?_ | refine zaq rfl rfl rfl rfl ?_ | refine zar rfl rfl rfl rfl rfl rfl rfl ?_ | refine zag rfl ?_ | refine za6 rfl rfl rfl ?_ | refine za1 rfl rfl rfl ?_ | refine za9 rfl rfl rfl rfl ?_ | refine zat ?_ | refine zap rfl rfl ?_ | refine zao rfl rfl ?_ | refine zbz rfl rfl ?_ | refine zbe rfl rfl ?_ | refine zaw rfl rfl ?_ | refine zad rfl rfl ?_ | refine zbg rfl rfl ?_ | refine zaa rfl rfl rfl ?_ | refine zax rfl rfl ?_ | refine zan rfl rfl rfl rfl ?_ | refine za8 rfl rfl rfl rfl ?_ | refine zaj rfl rfl rfl rfl ?_ | refine zb6 rfl rfl ?_ | refine zb5 rfl rfl ?_ | refine za7 rfl rfl ?_ | refine zb9 ?_ | refine zak env0_ok rfl rfl rfl ?_ | refine zaf (op := .add) rfl rfl rfl ?_ | refine zaf (op := .sub) rfl rfl rfl ?_ | refine zb8 rfl rfl rfl ?_ | refine zb7 rfl rfl rfl ?_ | refine zb4 rfl rfl rfl ?_ | refine zb0 rfl rfl rfl ?_ | refine zb1 rfl rfl (by omega) (by assumption) rfl ?_ | refine za1 rfl rfl (decide_eq_true ⟨by omega, by omega⟩) ?_ | refine zav rfl rfl (by omega) (by omega) ?_ | refine zai rfl rfl rfl ?_ | refine zbb rfl ?_ | refine zba rfl ?_)
 refine zc3 rfl rfl zsg (fun h => Bool.noConfusion (show false = true from h)) ?_
 repeat (first | refine zal ?_ | refine za0 rfl ?_ | refine zac ?_ | refine zae ?_ | refine zbf ?_ | refine zah ?_ | refine zas ?_ | refine zbm rfl ?_ | refine zbl rfl ?_ | refine zb3 ?_ | refine zbc ?_ | refine zb2 ?_ | refine za4 ?_ | refine za2 rfl ?_ | refine za3 ?_ | refine za5 ?_ | refine zbp rfl ?_ | refine zbx rfl rfl ?_ | refine zby rfl ?_ | refine zab rfl ?_ | refine zau rfl rfl ?_ | refine zaq rfl rfl rfl rfl ?_ | refine zar rfl rfl rfl rfl rfl rfl rfl ?_ | refine zag rfl ?_ | refine za6 rfl rfl rfl ?_ | refine za1 rfl rfl rfl ?_ | refine za9 rfl rfl rfl rfl ?_ | refine zat ?_ | refine zap rfl rfl ?_ | refine zao rfl rfl ?_ | refine zbz rfl rfl ?_ | refine zbe rfl rfl ?_ | refine zaw rfl rfl ?_ | refine zad rfl rfl ?_ | refine zbg rfl rfl ?_ | refine zaa rfl rfl rfl ?_ | refine zax rfl rfl ?_ | refine zan rfl rfl rfl rfl ?_ | refine za8 rfl rfl rfl rfl ?_ | refine zaj rfl rfl rfl rfl ?_ | refine zb6 rfl rfl ?_ | refine zb5 rfl rfl ?_ | refine za7 rfl rfl ?_ | refine zb9 ?_ | refine zak env0_ok rfl rfl rfl ?_ | refine zaf (op := .add) rfl rfl rfl ?_ | refine zaf (op := .sub) rfl rfl rfl ?_ | refine zb8 rfl rfl rfl ?_ | refine zb7 rfl rfl rfl ?_ | refine zb4 rfl rfl rfl ?_ | refine zb0 rfl rfl rfl ?_ | refine zb1 rfl rfl (by omega) (by assumption) rfl ?_ | refine za1 rfl rfl (decide_eq_true ⟨by omega, by omega⟩) ?_ | refine zav rfl rfl (by omega) (by omega) ?_ | refine zai rfl rfl rfl ?_ | refine zbb rfl ?_ | refine zba rfl ?_)
 refine zc3 rfl rfl pM1 (fun h => Bool.noConfusion (show false = true from h)) ?_
 repeat (first | refine zal ?_ | refine za0 rfl ?_ | refine zac ?_ | refine zae ?_ | refine zbf ?_ | refine zah ?_ | refine zas ?_ | refine zbm rfl ?_ | refine zbl rfl ?_ | refine zb3 ?_ | refine zbc ?_ | refine zb2 ?_ | refine za4 ?_ | refine za2 rfl ?_ | refine za3 ?_ | refine za5 ?_ | refine zbp rfl ?_ | refine zbx rfl rfl ?_ | refine zby rfl ?_ | refine zab rfl ?_ | refine zau rfl rfl ?_ | refine zaq rfl rfl rfl rfl ?_ | refine zar rfl rfl rfl rfl rfl rfl rfl ?_ | refine zag rfl ?_ | refine za6 rfl rfl rfl ?_ | refine za1 rfl rfl rfl ?_ | refine za9 rfl rfl rfl rfl ?_ | refine zat ?_ | refine zap rfl rfl ?_ | refine zao rfl rfl ?_ | refine zbz rfl rfl ?_ | refine zbe rfl rfl ?_ | refine zaw rfl rfl ?_ | refine zad rfl rfl ?_ | refine zbg rfl rfl ?_ | refine zaa rfl rfl rfl ?_ | refine zax rfl rfl ?_ | refine zan rfl rfl rfl rfl ?_ | refine za8 rfl rfl rfl rfl ?_ | refine zaj rfl rfl rfl rfl ?_ | refine zb6 rfl rfl ?_ | refine zb5 rfl rfl ?_ | refine za7 rfl rfl ?_ | refine zb9 ?_ | refine zak env0_ok rfl rfl rfl ?_ | refine zaf (op := .add) rfl rfl rfl ?_ | refine zaf (op := .sub) rfl rfl rfl ?_ | refine zb8 rfl rfl rfl ?_ | refine zb7 rfl rfl rfl ?_ | refine zb4 rfl rfl rfl ?_ | refine zb0 rfl rfl rfl ?_ | refine zb1 rfl rfl (by omega) (by assumption) rfl ?_ | refine za1 rfl rfl (decide_eq_true ⟨by omega, by omega⟩) ?_ | refine zav rfl rfl (by omega) (by omega) ?_ | refine zai rfl rfl rfl ?_ | refine zbb rfl ?_ | refine zba rfl ?_)
 refine zb4 rfl rfl (by show some (AV.bool (m1 == m1)) = _; simp) ?_
 repeat (first | refine zal ?_ | refine za0 rfl ?_ | refine zac ?_ | refine zae ?_ | refine zbf ?_ | refine zah ?_ | refine zas ?_ | refine zbm rfl ?_ | refine zbl rfl ?_ | refine zb3 ?_ | refine zbc ?_ | refine zb2 ?_ | refine za4 ?_ | refine za2 rfl ?_ | refine za3 ?_ | refine za5 ?_ | refine zbp rfl ?_ | refine zbx rfl rfl ?_ | refine zby rfl ?_ | refine zab rfl ?_ | refine zau rfl rfl ?_ | refine zaq rfl rfl rfl rfl ?_ | refine zar rfl rfl rfl rfl rfl rfl rfl ?_ | refine zag rfl ?_ | refine za6 rfl rfl rfl ?_ | refine za1 rfl rfl rfl ?_ | refine za9 rfl rfl rfl rfl ?_ | refine zat ?_ | refine zap rfl rfl ?_ | refine zao rfl rfl ?_ | refine zbz rfl rfl ?_ | refine zbe rfl rfl ?_ | refine zaw rfl rfl ?_ | refine zad rfl rfl ?_ | refine zbg rfl rfl ?_ | refine zaa rfl rfl rfl ?_ | refine zax rfl rfl ?_ | refine zan rfl rfl rfl rfl ?_ | refine za8 rfl rfl rfl rfl ?_ | refine zaj rfl rfl rfl rfl ?_ | refine zb6 rfl rfl ?_ | refine zb5 rfl rfl ?_ | refine za7 rfl rfl ?_ | refine zb9 ?_ | refine zak env0_ok rfl rfl rfl ?_ | refine zaf (op := .add) rfl rfl rfl ?_ | refine zaf (op := .sub) rfl rfl rfl ?_ | refine zb8 rfl rfl rfl ?_ | refine zb7 rfl rfl rfl ?_ | refine zb4 rfl rfl rfl ?_ | refine zb0 rfl rfl rfl ?_ | refine zb1 rfl rfl (by omega) (by assumption) rfl ?_ | refine za1 rfl rfl (decide_eq_true ⟨by omega, by omega⟩) ?_ | refine zav rfl rfl (by omega) (by omega) ?_ | refine zai rfl rfl rfl ?_ | refine zbb rfl ?_ | refine zba rfl ?_)
 refine zb4 rfl rfl (by show some (AV.bool (e1 == e1)) = _; simp) ?_
 repeat (first | refine zal ?_ | refine za0 rfl ?_ | refine zac ?_ | refine zae ?_ | refine zbf ?_ | refine zah ?_ | refine zas ?_ | refine zbm rfl ?_ | refine zbl rfl ?_ | refine zb3 ?_ | refine zbc ?_ | refine zb2 ?_ | refine za4 ?_ | refine za2 rfl ?_ | refine za3 ?_ | refine za5 ?_ | refine zbp rfl ?_ | refine zbx rfl rfl ?_ | refine zby rfl ?_ | refine zab rfl ?_ | refine zau rfl rfl ?_ | refine zaq rfl rfl rfl rfl ?_ | refine zar rfl rfl rfl rfl rfl rfl rfl ?_ | refine zag rfl ?_ | refine za6 rfl rfl rfl ?_ | refine za1 rfl rfl rfl ?_ | refine za9 rfl rfl rfl rfl ?_ | refine zat ?_ | refine zap rfl rfl ?_ | refine zao rfl rfl ?_ | refine zbz rfl rfl ?_ | refine zbe rfl rfl ?_ | refine zaw rfl rfl ?_ | refine zad rfl rfl ?_ | refine zbg rfl rfl ?_ | refine zaa rfl rfl rfl ?_ | refine zax rfl rfl ?_ | refine zan rfl rfl rfl rfl ?_ | refine za8 rfl rfl rfl rfl ?_ | refine zaj rfl rfl rfl rfl ?_ | refine zb6 rfl rfl ?_ | refine zb5 rfl rfl ?_ | refine za7 rfl rfl ?_ | refine zb9 ?_ | refine zak env0_ok rfl rfl rfl ?_ | refine zaf (op := .add) rfl rfl rfl ?_ | refine zaf (op := .sub) rfl rfl rfl ?_ | refine zb8 rfl rfl rfl ?_ | refine zb7 rfl rfl rfl ?_ | refine zb4 rfl rfl rfl ?_ | refine zb0 rfl rfl rfl ?_ | refine zb1 rfl rfl (by omega) (by assumption) rfl ?_ | refine za1 rfl rfl (decide_eq_true ⟨by omega, by omega⟩) ?_ | refine zav rfl rfl (by omega) (by omega) ?_ | refine zai rfl rfl rfl ?_ | refine zbb rfl ?_ | refine zba rfl ?_)
 exact zbj ⟨.inr rfl, _, rfl, rfl⟩
end Go.Proofs.Ytknomkcdpcnmaaa
