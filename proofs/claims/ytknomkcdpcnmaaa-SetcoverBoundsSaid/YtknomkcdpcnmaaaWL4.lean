/-
  Apart, Bound and Greedy return the results of the reference: the law.
-/
import Derived.Test.YtknomkcdpcnmaaaWLW
import Derived.Test.YtknomkcdpcnmaaaWP7
import Derived.Test.YtknomkcdpcnmaaaWP8
namespace Go.Proofs.Ytknomkcdpcnmaaa
open Go Go.Am
-- pneumatic/pneumaticlaw09.SetcoverBounds
def ic4 : IC := .seq (.region [⟨(some 2), .box (.t 0), none⟩,
  ⟨(some 4), .mov (.c (.bool false)), none⟩] none)
 (.seq (.seq (.region [⟨(some 17), .load (some 2) (.t 2), none⟩,
  ⟨(some 18), .call (.c (.fn 11 [] [])) [(.t 17)], none⟩,
  ⟨(some 19), .un .not (.t 18), none⟩,
  ⟨(some 20), .mov (.t 19), none⟩,
  ⟨(some 21), .mov (.t 1), some (20, false)⟩,
  ⟨(some 22), .len false (.t 21), some (20, false)⟩,
  ⟨(some 23), .bin .gtr (.t 22) (.c (.int .i64 100)), some (20, false)⟩,
  ⟨(some 24), .pick (.t 20) (.c (.bool true)) (.t 23), none⟩] none)
 (.cond (.t 24) (.seq (.region [⟨(some 25), .call (.c (.fn 12 [] [])) [], none⟩,
  ⟨(some 4), .mov (.t 25), none⟩] none)
 (.ret))
 (.skip)))
 (.seq (.region [⟨(some 27), .load (some 2) (.t 2), none⟩,
  ⟨(some 28), .call (.c (.fn 14 [] [])) [(.t 27)], none⟩,
  ⟨(some 29), .mov (.t 1), none⟩,
  ⟨(some 30), .call (.c (.fn 17 [] [])) [(.t 28), (.t 29)], none⟩,
  ⟨(some 26), .mov (.t 30), none⟩,
  ⟨(some 31), .extract (.t 26) 0, none⟩,
  ⟨(some 32), .extract (.t 26) 1, none⟩,
  ⟨(some 5), .mov (.t 31), none⟩,
  ⟨(some 6), .mov (.t 32), none⟩] none)
 (.seq (.region [⟨(some 34), .load (some 2) (.t 2), none⟩,
  ⟨(some 35), .mov (.t 1), none⟩,
  ⟨(some 36), .call (.c (.fn 18 [] [])) [(.t 34), (.t 35)], none⟩,
  ⟨(some 33), .mov (.t 36), none⟩,
  ⟨(some 37), .extract (.t 33) 0, none⟩,
  ⟨(some 38), .extract (.t 33) 1, none⟩,
  ⟨(some 7), .mov (.t 37), none⟩,
  ⟨(some 8), .mov (.t 38), none⟩] none)
 (.seq (.region [⟨(some 40), .load (some 2) (.t 2), none⟩,
  ⟨(some 41), .call (.c (.fn 14 [] [])) [(.t 40)], none⟩,
  ⟨(some 42), .call (.c (.fn 19 [] [])) [(.t 41)], none⟩,
  ⟨(some 39), .mov (.t 42), none⟩,
  ⟨(some 43), .extract (.t 39) 0, none⟩,
  ⟨(some 44), .extract (.t 39) 1, none⟩,
  ⟨(some 9), .mov (.t 43), none⟩,
  ⟨(some 10), .mov (.t 44), none⟩] none)
 (.seq (.region [⟨(some 46), .load (some 2) (.t 2), none⟩,
  ⟨(some 47), .call (.c (.fn 20 [] [])) [(.t 46)], none⟩,
  ⟨(some 45), .mov (.t 47), none⟩,
  ⟨(some 48), .extract (.t 45) 0, none⟩,
  ⟨(some 49), .extract (.t 45) 1, none⟩,
  ⟨(some 11), .mov (.t 48), none⟩,
  ⟨(some 12), .mov (.t 49), none⟩] none)
 (.seq (.region [⟨(some 51), .load (some 2) (.t 2), none⟩,
  ⟨(some 52), .call (.c (.fn 14 [] [])) [(.t 51)], none⟩,
  ⟨(some 53), .call (.c (.fn 21 [] [])) [(.t 52)], none⟩,
  ⟨(some 50), .mov (.t 53), none⟩,
  ⟨(some 54), .extract (.t 50) 0, none⟩,
  ⟨(some 55), .extract (.t 50) 1, none⟩,
  ⟨(some 13), .mov (.t 54), none⟩,
  ⟨(some 14), .mov (.t 55), none⟩] none)
 (.seq (.region [⟨(some 57), .load (some 2) (.t 2), none⟩,
  ⟨(some 58), .call (.c (.fn 22 [] [])) [(.t 57)], none⟩,
  ⟨(some 56), .mov (.t 58), none⟩,
  ⟨(some 59), .extract (.t 56) 0, none⟩,
  ⟨(some 60), .extract (.t 56) 1, none⟩,
  ⟨(some 15), .mov (.t 59), none⟩,
  ⟨(some 16), .mov (.t 60), none⟩] none)
 (.seq (.region [⟨(some 61), .call (.c (.fn 12 [] [])) [], none⟩,
  ⟨(some 62), .mov (.t 61), none⟩,
  ⟨(some 63), .mov (.t 5), some (62, true)⟩,
  ⟨(some 64), .mov (.t 7), some (62, true)⟩,
  ⟨(some 65), .eqb false (.t 63) (.t 64), some (62, true)⟩,
  ⟨(some 66), .pick (.t 62) (.t 65) (.c (.bool false)), none⟩,
  ⟨(some 67), .mov (.t 66), none⟩,
  ⟨(some 68), .mov (.t 6), some (67, true)⟩,
  ⟨(some 69), .mov (.t 8), some (67, true)⟩,
  ⟨(some 70), .bin .eql (.t 68) (.t 69), some (67, true)⟩,
  ⟨(some 71), .pick (.t 67) (.t 70) (.c (.bool false)), none⟩,
  ⟨(some 72), .mov (.t 71), none⟩,
  ⟨(some 73), .mov (.t 9), some (72, true)⟩,
  ⟨(some 74), .mov (.t 11), some (72, true)⟩,
  ⟨(some 75), .call (.c (.fn 16 [] [])) [(.t 73), (.t 74)], some (72, true)⟩,
  ⟨(some 76), .pick (.t 72) (.t 75) (.c (.bool false)), none⟩,
  ⟨(some 77), .mov (.t 76), none⟩,
  ⟨(some 78), .mov (.t 10), some (77, true)⟩,
  ⟨(some 79), .mov (.t 12), some (77, true)⟩,
  ⟨(some 80), .bin .eql (.t 78) (.t 79), some (77, true)⟩,
  ⟨(some 81), .pick (.t 77) (.t 80) (.c (.bool false)), none⟩,
  ⟨(some 82), .mov (.t 81), none⟩,
  ⟨(some 83), .mov (.t 13), some (82, true)⟩,
  ⟨(some 84), .mov (.t 15), some (82, true)⟩,
  ⟨(some 85), .call (.c (.fn 16 [] [])) [(.t 83), (.t 84)], some (82, true)⟩,
  ⟨(some 86), .pick (.t 82) (.t 85) (.c (.bool false)), none⟩,
  ⟨(some 87), .mov (.t 86), none⟩,
  ⟨(some 88), .mov (.t 14), some (87, true)⟩,
  ⟨(some 89), .mov (.t 16), some (87, true)⟩,
  ⟨(some 90), .bin .eql (.t 88) (.t 89), some (87, true)⟩,
  ⟨(some 91), .pick (.t 87) (.t 90) (.c (.bool false)), none⟩,
  ⟨(some 4), .mov (.t 91), none⟩] none)
 (.ret)))))))))
theorem fn4 : env0.fn 4 = some ⟨92, ic4, [.t 4]⟩ := by kernel_rfl
theorem apaW_eq {n : Int} {s : List (BitVec 64)} {c : List Int} : ∃ (b : Bool) (e : Int), apaW n s c = .tup [.bool b, .int .i64 e] := by
 unfold apaW
 split
 ·split
  ·exact ⟨_, _, rfl⟩
  ·exact ⟨_, _, rfl⟩
 ·exact ⟨_, _, rfl⟩
theorem zt2 {N : Nat} {s : List (BitVec 64)} {b : List Int} : ∀ m : Nat, boR N s m = some b → b.length ≤ m
 | 0, h => by cases h
 | m + 1, h => by
  rw [boR] at h
  cases hf : (asc N (m + 1) 0).find? (zf3 s) with
  | none =>
   rw [hf] at h
   exact Nat.le_succ_of_le (zt2 m h)
  | some c =>
   rw [hf] at h
   obtain rfl := Option.some.inj h
   have hm : c.length = m + 1 ∧ ∀ z ∈ c, ((0 : Nat) : Int) ≤ z ∧ z < N := zh5 (List.mem_of_find?_eq_some hf)
   omega
theorem bouW_eq {n : Int} {s : List (BitVec 64)} : ∃ (l : List Int) (e : Int), bouW n s = .tup [vsI l, .int .i64 e] ∧ l.length ≤ 200 := by
 unfold bouW
 split
 ·rename_i hc
  obtain ⟨n0, n1, _⟩ := zf1 hc
  refine ⟨_, 0, rfl, ?_⟩
  cases hb : boR n.toNat s n.toNat with
  | none => exact Nat.zero_le _
  | some b =>
   have := zt2 n.toNat hb
   show b.length ≤ 200
   omega
 ·exact ⟨[], _, rfl, Nat.zero_le _⟩
theorem greW_eq {n : Int} {s : List (BitVec 64)} (h : s.length < 200) : ∃ (l : List Int) (e : Int), greW n s = .tup [vsI l, .int .i64 e] ∧ l.length ≤ 200 := by
 unfold greW
 split
 ·cases zjx s (szB (zcy n) + 1) (zcy n) [] with
  | none => exact ⟨[], 6, rfl, Nat.zero_le _⟩
  | some out => exact ⟨_, 0, rfl, by have := zqu out s.length; omega⟩
 ·exact ⟨[], _, rfl, Nat.zero_le _⟩
set_option maxRecDepth 100000 in
set_option maxHeartbeats 4000000 in
theorem law4 (n : Int) (s : List (BitVec 64)) (c : List Int) : PF Try.prog 4 [cF n s, vsI c] (.bool true) := by
 have pF := few11 n s
 have pS := sent14 n s
 have hvl := zdo c
 refine zby env0_ok fn4 [(0, cF n s), (1, .vs (vL c))] (by show 2 ≤ 92; decide) rfl fun w0 N0 => ?_
 unfold ic4
 refine zaa (za0 rfl (zbh (cs := [.int .i64 n, .vs (cUs s)]) rfl rfl (za6 rfl (za7 (za8 ?_)))))
 refine zd9 [] [(0, 0, [.int .i64 n, .vs (cUs s)])] [(1, .vs (vL c)), (2, .vptr [.int .i64 n, .vs (cUs s)])] rfl (.cons rfl rfl .nil) .nil (.cons rfl (.same rfl) (.cons rfl (.fptr rfl rfl) .nil)) ?_
 repeat (first | refine zaa ?_ | refine za0 rfl ?_ | refine za7 ?_ | refine za8 ?_ | refine zbf ?_ | refine zag ?_ | refine zao ?_ | refine zbo rfl ?_ | refine zbl rfl ?_ | refine zb2 ?_ | refine zb6 ?_ | refine zb1 ?_ | refine za4 ?_ | refine za3 rfl ?_ | refine za2 ?_ | refine za5 ?_ | refine zbx rfl ?_ | refine zbz rfl rfl ?_ | refine zc4 rfl ?_ | refine za6 rfl ?_ | refine zar rfl rfl ?_ | refine zat rfl rfl rfl rfl ?_ | refine zau rfl rfl rfl rfl rfl rfl rfl ?_ | refine zak rfl ?_ | refine za9 rfl rfl rfl ?_ | refine za1 rfl rfl rfl ?_ | refine zad rfl rfl rfl rfl ?_ | refine zaw ?_ | refine zap rfl rfl ?_ | refine zal rfl rfl ?_ | refine zc7 rfl rfl ?_ | refine zbe rfl rfl ?_ | refine zax rfl rfl ?_ | refine zai rfl rfl ?_ | refine zbh rfl rfl ?_ | refine zae rfl rfl rfl ?_ | refine zaz rfl rfl ?_ | refine zaq rfl rfl rfl rfl ?_ | refine zac rfl rfl rfl rfl ?_ | refine zan rfl rfl rfl rfl ?_ | refine zb8 rfl rfl ?_ | refine zb7 rfl rfl ?_ | refine zab rfl rfl ?_ | refine zbb ?_ | refine zaj env0_ok rfl rfl rfl ?_ | refine zah (op := .add) rfl rfl rfl ?_ | refine zah (op := .sub) rfl rfl rfl ?_ | refine zb9 rfl rfl rfl ?_ | refine zba rfl rfl rfl ?_ | refine zb4 rfl rfl rfl ?_ | refine zb3 rfl rfl rfl ?_ | refine zb0 rfl rfl (by omega) (by assumption) rfl ?_ | refine za1 rfl rfl (decide_eq_true ⟨by omega, by omega⟩) ?_ | refine zav rfl rfl (by omega) (by omega) ?_ | refine zam rfl rfl rfl ?_ | refine zbd rfl ?_ | refine zbc rfl ?_)
 refine zbu rfl rfl pF (fun h => Bool.noConfusion (show false = true from h)) ?_
 cases hf : fewB n s with
 | false =>
  repeat (first | refine zaa ?_ | refine za0 rfl ?_ | refine za7 ?_ | refine za8 ?_ | refine zbf ?_ | refine zag ?_ | refine zao ?_ | refine zbo rfl ?_ | refine zbl rfl ?_ | refine zb2 ?_ | refine zb6 ?_ | refine zb1 ?_ | refine za4 ?_ | refine za3 rfl ?_ | refine za2 ?_ | refine za5 ?_ | refine zbx rfl ?_ | refine zbz rfl rfl ?_ | refine zc4 rfl ?_ | refine za6 rfl ?_ | refine zar rfl rfl ?_ | refine zat rfl rfl rfl rfl ?_ | refine zau rfl rfl rfl rfl rfl rfl rfl ?_ | refine zak rfl ?_ | refine za9 rfl rfl rfl ?_ | refine za1 rfl rfl rfl ?_ | refine zad rfl rfl rfl rfl ?_ | refine zaw ?_ | refine zap rfl rfl ?_ | refine zal rfl rfl ?_ | refine zc7 rfl rfl ?_ | refine zbe rfl rfl ?_ | refine zax rfl rfl ?_ | refine zai rfl rfl ?_ | refine zbh rfl rfl ?_ | refine zae rfl rfl rfl ?_ | refine zaz rfl rfl ?_ | refine zaq rfl rfl rfl rfl ?_ | refine zac rfl rfl rfl rfl ?_ | refine zan rfl rfl rfl rfl ?_ | refine zb8 rfl rfl ?_ | refine zb7 rfl rfl ?_ | refine zab rfl rfl ?_ | refine zbb ?_ | refine zaj env0_ok rfl rfl rfl ?_ | refine zah (op := .add) rfl rfl rfl ?_ | refine zah (op := .sub) rfl rfl rfl ?_ | refine zb9 rfl rfl rfl ?_ | refine zba rfl rfl rfl ?_ | refine zb4 rfl rfl rfl ?_ | refine zb3 rfl rfl rfl ?_ | refine zb0 rfl rfl (by omega) (by assumption) rfl ?_ | refine za1 rfl rfl (decide_eq_true ⟨by omega, by omega⟩) ?_ | refine zav rfl rfl (by omega) (by omega) ?_ | refine zam rfl rfl rfl ?_ | refine zbd rfl ?_ | refine zbc rfl ?_)
  refine zbu rfl rfl zo1 (fun h => Bool.noConfusion (show false = true from h)) ?_
  repeat (first | refine zaa ?_ | refine za0 rfl ?_ | refine za7 ?_ | refine za8 ?_ | refine zbf ?_ | refine zag ?_ | refine zao ?_ | refine zbo rfl ?_ | refine zbl rfl ?_ | refine zb2 ?_ | refine zb6 ?_ | refine zb1 ?_ | refine za4 ?_ | refine za3 rfl ?_ | refine za2 ?_ | refine za5 ?_ | refine zbx rfl ?_ | refine zbz rfl rfl ?_ | refine zc4 rfl ?_ | refine za6 rfl ?_ | refine zar rfl rfl ?_ | refine zat rfl rfl rfl rfl ?_ | refine zau rfl rfl rfl rfl rfl rfl rfl ?_ | refine zak rfl ?_ | refine za9 rfl rfl rfl ?_ | refine za1 rfl rfl rfl ?_ | refine zad rfl rfl rfl rfl ?_ | refine zaw ?_ | refine zap rfl rfl ?_ | refine zal rfl rfl ?_ | refine zc7 rfl rfl ?_ | refine zbe rfl rfl ?_ | refine zax rfl rfl ?_ | refine zai rfl rfl ?_ | refine zbh rfl rfl ?_ | refine zae rfl rfl rfl ?_ | refine zaz rfl rfl ?_ | refine zaq rfl rfl rfl rfl ?_ | refine zac rfl rfl rfl rfl ?_ | refine zan rfl rfl rfl rfl ?_ | refine zb8 rfl rfl ?_ | refine zb7 rfl rfl ?_ | refine zab rfl rfl ?_ | refine zbb ?_ | refine zaj env0_ok rfl rfl rfl ?_ | refine zah (op := .add) rfl rfl rfl ?_ | refine zah (op := .sub) rfl rfl rfl ?_ | refine zb9 rfl rfl rfl ?_ | refine zba rfl rfl rfl ?_ | refine zb4 rfl rfl rfl ?_ | refine zb3 rfl rfl rfl ?_ | refine zb0 rfl rfl (by omega) (by assumption) rfl ?_ | refine za1 rfl rfl (decide_eq_true ⟨by omega, by omega⟩) ?_ | refine zav rfl rfl (by omega) (by omega) ?_ | refine zam rfl rfl rfl ?_ | refine zbd rfl ?_ | refine zbc rfl ?_)
  exact zbj ⟨.inr rfl, _, rfl, rfl⟩
 | true =>
 obtain ⟨h200, h8⟩ := ztn hf
 repeat (first | refine zaa ?_ | refine za0 rfl ?_ | refine za7 ?_ | refine za8 ?_ | refine zbf ?_ | refine zag ?_ | refine zao ?_ | refine zbo rfl ?_ | refine zbl rfl ?_ | refine zb2 ?_ | refine zb6 ?_ | refine zb1 ?_ | refine za4 ?_ | refine za3 rfl ?_ | refine za2 ?_ | refine za5 ?_ | refine zbx rfl ?_ | refine zbz rfl rfl ?_ | refine zc4 rfl ?_ | refine za6 rfl ?_ | refine zar rfl rfl ?_ | refine zat rfl rfl rfl rfl ?_ | refine zau rfl rfl rfl rfl rfl rfl rfl ?_ | refine zak rfl ?_ | refine za9 rfl rfl rfl ?_ | refine za1 rfl rfl rfl ?_ | refine zad rfl rfl rfl rfl ?_ | refine zaw ?_ | refine zap rfl rfl ?_ | refine zal rfl rfl ?_ | refine zc7 rfl rfl ?_ | refine zbe rfl rfl ?_ | refine zax rfl rfl ?_ | refine zai rfl rfl ?_ | refine zbh rfl rfl ?_ | refine zae rfl rfl rfl ?_ | refine zaz rfl rfl ?_ | refine zaq rfl rfl rfl rfl ?_ | refine zac rfl rfl rfl rfl ?_ | refine zan rfl rfl rfl rfl ?_ | refine zb8 rfl rfl ?_ | refine zb7 rfl rfl ?_ | refine zab rfl rfl ?_ | refine zbb ?_ | refine zaj env0_ok rfl rfl rfl ?_ | refine zah (op := .add) rfl rfl rfl ?_ | refine zah (op := .sub) rfl rfl rfl ?_ | refine zb9 rfl rfl rfl ?_ | refine zba rfl rfl rfl ?_ | refine zb4 rfl rfl rfl ?_ | refine zb3 rfl rfl rfl ?_ | refine zb0 rfl rfl (by omega) (by assumption) rfl ?_ | refine za1 rfl rfl (decide_eq_true ⟨by omega, by omega⟩) ?_ | refine zav rfl rfl (by omega) (by omega) ?_ | refine zam rfl rfl rfl ?_ | refine zbd rfl ?_ | refine zbc rfl ?_)
 refine zbm rfl rfl (by show some (AV.bool (decide (((vL c).length : Nat) > (100 : Int)))) = _; rfl) (fun h => ?_) fun h => ?_
 ·repeat (first | refine zaa ?_ | refine za0 rfl ?_ | refine za7 ?_ | refine za8 ?_ | refine zbf ?_ | refine zag ?_ | refine zao ?_ | refine zbo rfl ?_ | refine zbl rfl ?_ | refine zb2 ?_ | refine zb6 ?_ | refine zb1 ?_ | refine za4 ?_ | refine za3 rfl ?_ | refine za2 ?_ | refine za5 ?_ | refine zbx rfl ?_ | refine zbz rfl rfl ?_ | refine zc4 rfl ?_ | refine za6 rfl ?_ | refine zar rfl rfl ?_ | refine zat rfl rfl rfl rfl ?_ | refine zau rfl rfl rfl rfl rfl rfl rfl ?_ | refine zak rfl ?_ | refine za9 rfl rfl rfl ?_ | refine za1 rfl rfl rfl ?_ | refine zad rfl rfl rfl rfl ?_ | refine zaw ?_ | refine zap rfl rfl ?_ | refine zal rfl rfl ?_ | refine zc7 rfl rfl ?_ | refine zbe rfl rfl ?_ | refine zax rfl rfl ?_ | refine zai rfl rfl ?_ | refine zbh rfl rfl ?_ | refine zae rfl rfl rfl ?_ | refine zaz rfl rfl ?_ | refine zaq rfl rfl rfl rfl ?_ | refine zac rfl rfl rfl rfl ?_ | refine zan rfl rfl rfl rfl ?_ | refine zb8 rfl rfl ?_ | refine zb7 rfl rfl ?_ | refine zab rfl rfl ?_ | refine zbb ?_ | refine zaj env0_ok rfl rfl rfl ?_ | refine zah (op := .add) rfl rfl rfl ?_ | refine zah (op := .sub) rfl rfl rfl ?_ | refine zb9 rfl rfl rfl ?_ | refine zba rfl rfl rfl ?_ | refine zb4 rfl rfl rfl ?_ | refine zb3 rfl rfl rfl ?_ | refine zb0 rfl rfl (by omega) (by assumption) rfl ?_ | refine za1 rfl rfl (decide_eq_true ⟨by omega, by omega⟩) ?_ | refine zav rfl rfl (by omega) (by omega) ?_ | refine zam rfl rfl rfl ?_ | refine zbd rfl ?_ | refine zbc rfl ?_)
  refine zbu rfl rfl zo1 (fun h => Bool.noConfusion (show false = true from h)) ?_
  repeat (first | refine zaa ?_ | refine za0 rfl ?_ | refine za7 ?_ | refine za8 ?_ | refine zbf ?_ | refine zag ?_ | refine zao ?_ | refine zbo rfl ?_ | refine zbl rfl ?_ | refine zb2 ?_ | refine zb6 ?_ | refine zb1 ?_ | refine za4 ?_ | refine za3 rfl ?_ | refine za2 ?_ | refine za5 ?_ | refine zbx rfl ?_ | refine zbz rfl rfl ?_ | refine zc4 rfl ?_ | refine za6 rfl ?_ | refine zar rfl rfl ?_ | refine zat rfl rfl rfl rfl ?_ | refine zau rfl rfl rfl rfl rfl rfl rfl ?_ | refine zak rfl ?_ | refine za9 rfl rfl rfl ?_ | refine za1 rfl rfl rfl ?_ | refine zad rfl rfl rfl rfl ?_ | refine zaw ?_ | refine zap rfl rfl ?_ | refine zal rfl rfl ?_ | refine zc7 rfl rfl ?_ | refine zbe rfl rfl ?_ | refine zax rfl rfl ?_ | refine zai rfl rfl ?_ | refine zbh rfl rfl ?_ | refine zae rfl rfl rfl ?_ | refine zaz rfl rfl ?_ | refine zaq rfl rfl rfl rfl ?_ | refine zac rfl rfl rfl rfl ?_ | refine zan rfl rfl rfl rfl ?_ | refine zb8 rfl rfl ?_ | refine zb7 rfl rfl ?_ | refine zab rfl rfl ?_ | refine zbb ?_ | refine zaj env0_ok rfl rfl rfl ?_ | refine zah (op := .add) rfl rfl rfl ?_ | refine zah (op := .sub) rfl rfl rfl ?_ | refine zb9 rfl rfl rfl ?_ | refine zba rfl rfl rfl ?_ | refine zb4 rfl rfl rfl ?_ | refine zb3 rfl rfl rfl ?_ | refine zb0 rfl rfl (by omega) (by assumption) rfl ?_ | refine za1 rfl rfl (decide_eq_true ⟨by omega, by omega⟩) ?_ | refine zav rfl rfl (by omega) (by omega) ?_ | refine zam rfl rfl rfl ?_ | refine zbd rfl ?_ | refine zbc rfl ?_)
  exact zbj ⟨.inr rfl, _, rfl, rfl⟩
 have h : ¬ (((vL c).length : Nat) : Int) > 100 := of_decide_eq_false h
 have hl : c.length ≤ 100 := by omega
 have p17 := zsp n s c (by omega)
 have p18 := apart18 n s c (by omega)
 have p19 := zt4 n s
 have p20 := bound20 n s (fun h => by have := (h8 h).1; omega)
 have p21 := zq8 n s (fun h => by have := (h8 h).1; omega)
 have p22 := greedy22 n s
 rw [apa_eq] at p17
 rw [bou_eq h8] at p19
 rw [gre_eq] at p21
 obtain ⟨b, e1, hf1⟩ := apaW_eq (n := n) (s := s) (c := c)
 obtain ⟨l2, e2, hf2, hl2⟩ := bouW_eq (n := n) (s := s)
 obtain ⟨l3, e3, hf3, hl3⟩ := greW_eq (n := n) h200
 rw [hf1] at p17 p18
 rw [hf2] at p19 p20
 rw [hf3] at p21 p22
 have pM2 := same16 l2 (by omega)
 have pM3 := same16 l3 (by omega)
 repeat (first | refine zaa ?_ | refine za0 rfl ?_ | refine za7 ?_ | refine za8 ?_ | refine zbf ?_ | refine zag ?_ | refine zao ?_ | refine zbo rfl ?_ | refine zbl rfl ?_ | refine zb2 ?_ | refine zb6 ?_ | refine zb1 ?_ | refine za4 ?_ | refine za3 rfl ?_ | refine za2 ?_ | refine za5 ?_ | refine zbx rfl ?_ | refine zbz rfl rfl ?_ | refine zc4 rfl ?_ | refine za6 rfl ?_ | refine zar rfl rfl ?_ | refine zat rfl rfl rfl rfl ?_ | refine zau rfl rfl rfl rfl rfl rfl rfl ?_ | refine zak rfl ?_ | refine za9 rfl rfl rfl ?_ | refine za1 rfl rfl rfl ?_ | refine zad rfl rfl rfl rfl ?_ | refine zaw ?_ | refine zap rfl rfl ?_ | refine zal rfl rfl ?_ | refine zc7 rfl rfl ?_ | refine zbe rfl rfl ?_ | refine zax rfl rfl ?_ | refine zai rfl rfl ?_ | refine zbh rfl rfl ?_ | refine zae rfl rfl rfl ?_ | refine zaz rfl rfl ?_ | refine zaq rfl rfl rfl rfl ?_ | refine zac rfl rfl rfl rfl ?_ | refine zan rfl rfl rfl rfl ?_ | refine zb8 rfl rfl ?_ | refine zb7 rfl rfl ?_ | refine zab rfl rfl ?_ | refine zbb ?_ | refine zaj env0_ok rfl rfl rfl ?_ | refine zah (op := .add) rfl rfl rfl ?_ | refine zah (op := .sub) rfl rfl rfl ?_ | refine zb9 rfl rfl rfl ?_ | refine zba rfl rfl rfl ?_ | refine zb4 rfl rfl rfl ?_ | refine zb3 rfl rfl rfl ?_ | refine zb0 rfl rfl (by omega) (by assumption) rfl ?_ | refine za1 rfl rfl (decide_eq_true ⟨by omega, by omega⟩) ?_ | refine zav rfl rfl (by omega) (by omega) ?_ | refine zam rfl rfl rfl ?_ | refine zbd rfl ?_ | refine zbc rfl ?_)
 refine zbu rfl rfl pS (fun h => Bool.noConfusion (show false = true from h)) ?_
 repeat (first | refine zaa ?_ | refine za0 rfl ?_ | refine za7 ?_ | refine za8 ?_ | refine zbf ?_ | refine zag ?_ | refine zao ?_ | refine zbo rfl ?_ | refine zbl rfl ?_ | refine zb2 ?_ | refine zb6 ?_ | refine zb1 ?_ | refine za4 ?_ | refine za3 rfl ?_ | refine za2 ?_ | refine za5 ?_ | refine zbx rfl ?_ | refine zbz rfl rfl ?_ | refine zc4 rfl ?_ | refine za6 rfl ?_ | refine zar rfl rfl ?_ | refine zat rfl rfl rfl rfl ?_ | refine zau rfl rfl rfl rfl rfl rfl rfl ?_ | refine zak rfl ?_ | refine za9 rfl rfl rfl ?_ | refine za1 rfl rfl rfl ?_ | refine zad rfl rfl rfl rfl ?_ | refine zaw ?_ | refine zap rfl rfl ?_ | refine zal rfl rfl ?_ | refine zc7 rfl rfl ?_ | refine zbe rfl rfl ?_ | refine zax rfl rfl ?_ | refine zai rfl rfl ?_ | refine zbh rfl rfl ?_ | refine zae rfl rfl rfl ?_ | refine zaz rfl rfl ?_ | refine zaq rfl rfl rfl rfl ?_ | refine zac rfl rfl rfl rfl ?_ | refine zan rfl rfl rfl rfl ?_ | refine zb8 rfl rfl ?_ | refine zb7 rfl rfl ?_ | refine zab rfl rfl ?_ | refine zbb ?_ | refine zaj env0_ok rfl rfl rfl ?_ | refine zah (op := .add) rfl rfl rfl ?_ | refine zah (op := .sub) rfl rfl rfl ?_ | refine zb9 rfl rfl rfl ?_ | refine zba rfl rfl rfl ?_ | refine zb4 rfl rfl rfl ?_ | refine zb3 rfl rfl rfl ?_ | refine zb0 rfl rfl (by omega) (by assumption) rfl ?_ | refine za1 rfl rfl (decide_eq_true ⟨by omega, by omega⟩) ?_ | refine zav rfl rfl (by omega) (by omega) ?_ | refine zam rfl rfl rfl ?_ | refine zbd rfl ?_ | refine zbc rfl ?_)
 refine zbu rfl rfl p17 (fun h => Bool.noConfusion (show false = true from h)) ?_
 repeat (first | refine zaa ?_ | refine za0 rfl ?_ | refine za7 ?_ | refine za8 ?_ | refine zbf ?_ | refine zag ?_ | refine zao ?_ | refine zbo rfl ?_ | refine zbl rfl ?_ | refine zb2 ?_ | refine zb6 ?_ | refine zb1 ?_ | refine za4 ?_ | refine za3 rfl ?_ | refine za2 ?_ | refine za5 ?_ | refine zbx rfl ?_ | refine zbz rfl rfl ?_ | refine zc4 rfl ?_ | refine za6 rfl ?_ | refine zar rfl rfl ?_ | refine zat rfl rfl rfl rfl ?_ | refine zau rfl rfl rfl rfl rfl rfl rfl ?_ | refine zak rfl ?_ | refine za9 rfl rfl rfl ?_ | refine za1 rfl rfl rfl ?_ | refine zad rfl rfl rfl rfl ?_ | refine zaw ?_ | refine zap rfl rfl ?_ | refine zal rfl rfl ?_ | refine zc7 rfl rfl ?_ | refine zbe rfl rfl ?_ | refine zax rfl rfl ?_ | refine zai rfl rfl ?_ | refine zbh rfl rfl ?_ | refine zae rfl rfl rfl ?_ | refine zaz rfl rfl ?_ | refine zaq rfl rfl rfl rfl ?_ | refine zac rfl rfl rfl rfl ?_ | refine zan rfl rfl rfl rfl ?_ | refine zb8 rfl rfl ?_ | refine zb7 rfl rfl ?_ | refine zab rfl rfl ?_ | refine zbb ?_ | refine zaj env0_ok rfl rfl rfl ?_ | refine zah (op := .add) rfl rfl rfl ?_ | refine zah (op := .sub) rfl rfl rfl ?_ | refine zb9 rfl rfl rfl ?_ | refine zba rfl rfl rfl ?_ | refine zb4 rfl rfl rfl ?_ | refine zb3 rfl rfl rfl ?_ | refine zb0 rfl rfl (by omega) (by assumption) rfl ?_ | refine za1 rfl rfl (decide_eq_true ⟨by omega, by omega⟩) ?_ | refine zav rfl rfl (by omega) (by omega) ?_ | refine zam rfl rfl rfl ?_ | refine zbd rfl ?_ | refine zbc rfl ?_)
 refine zbu rfl rfl p18 (fun h => Bool.noConfusion (show false = true from h)) ?_
 repeat (first | refine zaa ?_ | refine za0 rfl ?_ | refine za7 ?_ | refine za8 ?_ | refine zbf ?_ | refine zag ?_ | refine zao ?_ | refine zbo rfl ?_ | refine zbl rfl ?_ | refine zb2 ?_ | refine zb6 ?_ | refine zb1 ?_ | refine za4 ?_ | refine za3 rfl ?_ | refine za2 ?_ | refine za5 ?_ | refine zbx rfl ?_ | refine zbz rfl rfl ?_ | refine zc4 rfl ?_ | refine za6 rfl ?_ | refine zar rfl rfl ?_ | refine zat rfl rfl rfl rfl ?_ | refine zau rfl rfl rfl rfl rfl rfl rfl ?_ | refine zak rfl ?_ | refine za9 rfl rfl rfl ?_ | refine za1 rfl rfl rfl ?_ | refine zad rfl rfl rfl rfl ?_ | refine zaw ?_ | refine zap rfl rfl ?_ | refine zal rfl rfl ?_ | refine zc7 rfl rfl ?_ | refine zbe rfl rfl ?_ | refine zax rfl rfl ?_ | refine zai rfl rfl ?_ | refine zbh rfl rfl ?_ | refine zae rfl rfl rfl ?_ | refine zaz rfl rfl ?_ | refine zaq rfl rfl rfl rfl ?_ | refine zac rfl rfl rfl rfl ?_ | refine zan rfl rfl rfl rfl ?_ | refine zb8 rfl rfl ?_ | refine zb7 rfl rfl ?_ | refine zab rfl rfl ?_ | refine zbb ?_ | refine zaj env0_ok rfl rfl rfl ?_ | refine zah (op := .add) rfl rfl rfl ?_ | refine zah (op := .sub) rfl rfl rfl ?_ | refine zb9 rfl rfl rfl ?_ | refine zba rfl rfl rfl ?_ | refine zb4 rfl rfl rfl ?_ | refine zb3 rfl rfl rfl ?_ | refine zb0 rfl rfl (by omega) (by assumption) rfl ?_ | refine za1 rfl rfl (decide_eq_true ⟨by omega, by omega⟩) ?_ | refine zav rfl rfl (by omega) (by omega) ?_ | refine zam rfl rfl rfl ?_ | refine zbd rfl ?_ | refine zbc rfl ?_)
 refine zbu rfl rfl pS (fun h => Bool.noConfusion (show false = true from h)) ?_
 repeat (first | refine zaa ?_ | refine za0 rfl ?_ | refine za7 ?_ | refine za8 ?_ | refine zbf ?_ | refine zag ?_ | refine zao ?_ | refine zbo rfl ?_ | refine zbl rfl ?_ | refine zb2 ?_ | refine zb6 ?_ | refine zb1 ?_ | refine za4 ?_ | refine za3 rfl ?_ | refine za2 ?_ | refine za5 ?_ | refine zbx rfl ?_ | refine zbz rfl rfl ?_ | refine zc4 rfl ?_ | refine za6 rfl ?_ | refine zar rfl rfl ?_ | refine zat rfl rfl rfl rfl ?_ | refine zau rfl rfl rfl rfl rfl rfl rfl ?_ | refine zak rfl ?_ | refine za9 rfl rfl rfl ?_ | refine za1 rfl rfl rfl ?_ | refine zad rfl rfl rfl rfl ?_ | refine zaw ?_ | refine zap rfl rfl ?_ | refine zal rfl rfl ?_ | refine zc7 rfl rfl ?_ | refine zbe rfl rfl ?_ | refine zax rfl rfl ?_ | refine zai rfl rfl ?_ | refine zbh rfl rfl ?_ | refine zae rfl rfl rfl ?_ | refine zaz rfl rfl ?_ | refine zaq rfl rfl rfl rfl ?_ | refine zac rfl rfl rfl rfl ?_ | refine zan rfl rfl rfl rfl ?_ | refine zb8 rfl rfl ?_ | refine zb7 rfl rfl ?_ | refine zab rfl rfl ?_ | refine zbb ?_ | refine zaj env0_ok rfl rfl rfl ?_ | refine zah (op := .add) rfl rfl rfl ?_ | refine zah (op := .sub) rfl rfl rfl ?_ | refine zb9 rfl rfl rfl ?_ | refine zba rfl rfl rfl ?_ | refine zb4 rfl rfl rfl ?_ | refine zb3 rfl rfl rfl ?_ | refine zb0 rfl rfl (by omega) (by assumption) rfl ?_ | refine za1 rfl rfl (decide_eq_true ⟨by omega, by omega⟩) ?_ | refine zav rfl rfl (by omega) (by omega) ?_ | refine zam rfl rfl rfl ?_ | refine zbd rfl ?_ | refine zbc rfl ?_)
 refine zbu rfl rfl p19 (fun h => Bool.noConfusion (show false = true from h)) ?_
 repeat (first | refine zaa ?_ | refine za0 rfl ?_ | refine za7 ?_ | refine za8 ?_ | refine zbf ?_ | refine zag ?_ | refine zao ?_ | refine zbo rfl ?_ | refine zbl rfl ?_ | refine zb2 ?_ | refine zb6 ?_ | refine zb1 ?_ | refine za4 ?_ | refine za3 rfl ?_ | refine za2 ?_ | refine za5 ?_ | refine zbx rfl ?_ | refine zbz rfl rfl ?_ | refine zc4 rfl ?_ | refine za6 rfl ?_ | refine zar rfl rfl ?_ | refine zat rfl rfl rfl rfl ?_ | refine zau rfl rfl rfl rfl rfl rfl rfl ?_ | refine zak rfl ?_ | refine za9 rfl rfl rfl ?_ | refine za1 rfl rfl rfl ?_ | refine zad rfl rfl rfl rfl ?_ | refine zaw ?_ | refine zap rfl rfl ?_ | refine zal rfl rfl ?_ | refine zc7 rfl rfl ?_ | refine zbe rfl rfl ?_ | refine zax rfl rfl ?_ | refine zai rfl rfl ?_ | refine zbh rfl rfl ?_ | refine zae rfl rfl rfl ?_ | refine zaz rfl rfl ?_ | refine zaq rfl rfl rfl rfl ?_ | refine zac rfl rfl rfl rfl ?_ | refine zan rfl rfl rfl rfl ?_ | refine zb8 rfl rfl ?_ | refine zb7 rfl rfl ?_ | refine zab rfl rfl ?_ | refine zbb ?_ | refine zaj env0_ok rfl rfl rfl ?_ | refine zah (op := .add) rfl rfl rfl ?_ | refine zah (op := .sub) rfl rfl rfl ?_ | refine zb9 rfl rfl rfl ?_ | refine zba rfl rfl rfl ?_ | refine zb4 rfl rfl rfl ?_ | refine zb3 rfl rfl rfl ?_ | refine zb0 rfl rfl (by omega) (by assumption) rfl ?_ | refine za1 rfl rfl (decide_eq_true ⟨by omega, by omega⟩) ?_ | refine zav rfl rfl (by omega) (by omega) ?_ | refine zam rfl rfl rfl ?_ | refine zbd rfl ?_ | refine zbc rfl ?_)
 refine zbu rfl rfl p20 (fun h => Bool.noConfusion (show false = true from h)) ?_
 repeat (first | refine zaa ?_ | refine za0 rfl ?_ | refine za7 ?_ | refine za8 ?_ | refine zbf ?_ | refine zag ?_ | refine zao ?_ | refine zbo rfl ?_ | refine zbl rfl ?_ | refine zb2 ?_ | refine zb6 ?_ | refine zb1 ?_ | refine za4 ?_ | refine za3 rfl ?_ | refine za2 ?_ | refine za5 ?_ | refine zbx rfl ?_ | refine zbz rfl rfl ?_ | refine zc4 rfl ?_ | refine za6 rfl ?_ | refine zar rfl rfl ?_ | refine zat rfl rfl rfl rfl ?_ | refine zau rfl rfl rfl rfl rfl rfl rfl ?_ | refine zak rfl ?_ | refine za9 rfl rfl rfl ?_ | refine za1 rfl rfl rfl ?_ | refine zad rfl rfl rfl rfl ?_ | refine zaw ?_ | refine zap rfl rfl ?_ | refine zal rfl rfl ?_ | refine zc7 rfl rfl ?_ | refine zbe rfl rfl ?_ | refine zax rfl rfl ?_ | refine zai rfl rfl ?_ | refine zbh rfl rfl ?_ | refine zae rfl rfl rfl ?_ | refine zaz rfl rfl ?_ | refine zaq rfl rfl rfl rfl ?_ | refine zac rfl rfl rfl rfl ?_ | refine zan rfl rfl rfl rfl ?_ | refine zb8 rfl rfl ?_ | refine zb7 rfl rfl ?_ | refine zab rfl rfl ?_ | refine zbb ?_ | refine zaj env0_ok rfl rfl rfl ?_ | refine zah (op := .add) rfl rfl rfl ?_ | refine zah (op := .sub) rfl rfl rfl ?_ | refine zb9 rfl rfl rfl ?_ | refine zba rfl rfl rfl ?_ | refine zb4 rfl rfl rfl ?_ | refine zb3 rfl rfl rfl ?_ | refine zb0 rfl rfl (by omega) (by assumption) rfl ?_ | refine za1 rfl rfl (decide_eq_true ⟨by omega, by omega⟩) ?_ | refine zav rfl rfl (by omega) (by omega) ?_ | refine zam rfl rfl rfl ?_ | refine zbd rfl ?_ | refine zbc rfl ?_)
 refine zbu rfl rfl pS (fun h => Bool.noConfusion (show false = true from h)) ?_
 repeat (first | refine zaa ?_ | refine za0 rfl ?_ | refine za7 ?_ | refine za8 ?_ | refine zbf ?_ | refine zag ?_ | refine zao ?_ | refine zbo rfl ?_ | refine zbl rfl ?_ | refine zb2 ?_ | refine zb6 ?_ | refine zb1 ?_ | refine za4 ?_ | refine za3 rfl ?_ | refine za2 ?_ | refine za5 ?_ | refine zbx rfl ?_ | refine zbz rfl rfl ?_ | refine zc4 rfl ?_ | refine za6 rfl ?_ | refine zar rfl rfl ?_ | refine zat rfl rfl rfl rfl ?_ | refine zau rfl rfl rfl rfl rfl rfl rfl ?_ | refine zak rfl ?_ | refine za9 rfl rfl rfl ?_ | refine za1 rfl rfl rfl ?_ | refine zad rfl rfl rfl rfl ?_ | refine zaw ?_ | refine zap rfl rfl ?_ | refine zal rfl rfl ?_ | refine zc7 rfl rfl ?_ | refine zbe rfl rfl ?_ | refine zax rfl rfl ?_ | refine zai rfl rfl ?_ | refine zbh rfl rfl ?_ | refine zae rfl rfl rfl ?_ | refine zaz rfl rfl ?_ | refine zaq rfl rfl rfl rfl ?_ | refine zac rfl rfl rfl rfl ?_ | refine zan rfl rfl rfl rfl ?_ | refine zb8 rfl rfl ?_ | refine zb7 rfl rfl ?_ | refine zab rfl rfl ?_ | refine zbb ?_ | refine zaj env0_ok rfl rfl rfl ?_ | refine zah (op := .add) rfl rfl rfl ?_ | refine zah (op := .sub) rfl rfl rfl ?_ | refine zb9 rfl rfl rfl ?_ | refine zba rfl rfl rfl ?_ | refine zb4 rfl rfl rfl ?_ | refine zb3 rfl rfl rfl ?_ | refine zb0 rfl rfl (by omega) (by assumption) rfl ?_ | refine za1 rfl rfl (decide_eq_true ⟨by omega, by omega⟩) ?_ | refine zav rfl rfl (by omega) (by omega) ?_ | refine zam rfl rfl rfl ?_ | refine zbd rfl ?_ | refine zbc rfl ?_)
 refine zbu rfl rfl p21 (fun h => Bool.noConfusion (show false = true from h)) ?_
 repeat (first | refine zaa ?_ | refine za0 rfl ?_ | refine za7 ?_ | refine za8 ?_ | refine zbf ?_ | refine zag ?_ | refine zao ?_ | refine zbo rfl ?_ | refine zbl rfl ?_ | refine zb2 ?_ | refine zb6 ?_ | refine zb1 ?_ | refine za4 ?_ | refine za3 rfl ?_ | refine za2 ?_ | refine za5 ?_ | refine zbx rfl ?_ | refine zbz rfl rfl ?_ | refine zc4 rfl ?_ | refine za6 rfl ?_ | refine zar rfl rfl ?_ | refine zat rfl rfl rfl rfl ?_ | refine zau rfl rfl rfl rfl rfl rfl rfl ?_ | refine zak rfl ?_ | refine za9 rfl rfl rfl ?_ | refine za1 rfl rfl rfl ?_ | refine zad rfl rfl rfl rfl ?_ | refine zaw ?_ | refine zap rfl rfl ?_ | refine zal rfl rfl ?_ | refine zc7 rfl rfl ?_ | refine zbe rfl rfl ?_ | refine zax rfl rfl ?_ | refine zai rfl rfl ?_ | refine zbh rfl rfl ?_ | refine zae rfl rfl rfl ?_ | refine zaz rfl rfl ?_ | refine zaq rfl rfl rfl rfl ?_ | refine zac rfl rfl rfl rfl ?_ | refine zan rfl rfl rfl rfl ?_ | refine zb8 rfl rfl ?_ | refine zb7 rfl rfl ?_ | refine zab rfl rfl ?_ | refine zbb ?_ | refine zaj env0_ok rfl rfl rfl ?_ | refine zah (op := .add) rfl rfl rfl ?_ | refine zah (op := .sub) rfl rfl rfl ?_ | refine zb9 rfl rfl rfl ?_ | refine zba rfl rfl rfl ?_ | refine zb4 rfl rfl rfl ?_ | refine zb3 rfl rfl rfl ?_ | refine zb0 rfl rfl (by omega) (by assumption) rfl ?_ | refine za1 rfl rfl (decide_eq_true ⟨by omega, by omega⟩) ?_ | refine zav rfl rfl (by omega) (by omega) ?_ | refine zam rfl rfl rfl ?_ | refine zbd rfl ?_ | refine zbc rfl ?_)
 refine zbu rfl rfl p22 (fun h => Bool.noConfusion (show false = true from h)) ?_
 repeat (first | refine zaa ?_ | refine za0 rfl ?_ | refine za7 ?_ | refine za8 ?_ | refine zbf ?_ | refine zag ?_ | refine zao ?_ | refine zbo rfl ?_ | refine zbl rfl ?_ | refine zb2 ?_ | refine zb6 ?_ | refine zb1 ?_ | refine za4 ?_ | refine za3 rfl ?_ | refine za2 ?_ | refine za5 ?_ | refine zbx rfl ?_ | refine zbz rfl rfl ?_ | refine zc4 rfl ?_ | refine za6 rfl ?_ | refine zar rfl rfl ?_ | refine zat rfl rfl rfl rfl ?_ | refine zau rfl rfl rfl rfl rfl rfl rfl ?_ | refine zak rfl ?_ | refine za9 rfl rfl rfl ?_ | refine za1 rfl rfl rfl ?_ | refine zad rfl rfl rfl rfl ?_ | refine zaw ?_ | refine zap rfl rfl ?_ | refine zal rfl rfl ?_ | refine zc7 rfl rfl ?_ | refine zbe rfl rfl ?_ | refine zax rfl rfl ?_ | refine zai rfl rfl ?_ | refine zbh rfl rfl ?_ | refine zae rfl rfl rfl ?_ | refine zaz rfl rfl ?_ | refine zaq rfl rfl rfl rfl ?_ | refine zac rfl rfl rfl rfl ?_ | refine zan rfl rfl rfl rfl ?_ | refine zb8 rfl rfl ?_ | refine zb7 rfl rfl ?_ | refine zab rfl rfl ?_ | refine zbb ?_ | refine zaj env0_ok rfl rfl rfl ?_ | refine zah (op := .add) rfl rfl rfl ?_ | refine zah (op := .sub) rfl rfl rfl ?_ | refine zb9 rfl rfl rfl ?_ | refine zba rfl rfl rfl ?_ | refine zb4 rfl rfl rfl ?_ | refine zb3 rfl rfl rfl ?_ | refine zb0 rfl rfl (by omega) (by assumption) rfl ?_ | refine za1 rfl rfl (decide_eq_true ⟨by omega, by omega⟩) ?_ | refine zav rfl rfl (by omega) (by omega) ?_ | refine zam rfl rfl rfl ?_ | refine zbd rfl ?_ | refine zbc rfl ?_)
 refine zbu rfl rfl zo1 (fun h => Bool.noConfusion (show false = true from h)) ?_
 repeat (first | refine zaa ?_ | refine za0 rfl ?_ | refine za7 ?_ | refine za8 ?_ | refine zbf ?_ | refine zag ?_ | refine zao ?_ | refine zbo rfl ?_ | refine zbl rfl ?_ | refine zb2 ?_ | refine zb6 ?_ | refine zb1 ?_ | refine za4 ?_ | refine za3 rfl ?_ | refine za2 ?_ | refine za5 ?_ | refine zbx rfl ?_ | refine zbz rfl rfl ?_ | refine zc4 rfl ?_ | refine za6 rfl ?_ | refine zar rfl rfl ?_ | refine zat rfl rfl rfl rfl ?_ | refine zau rfl rfl rfl rfl rfl rfl rfl ?_ | refine zak rfl ?_ | refine za9 rfl rfl rfl ?_ | refine za1 rfl rfl rfl ?_ | refine zad rfl rfl rfl rfl ?_ | refine zaw ?_ | refine zap rfl rfl ?_ | refine zal rfl rfl ?_ | refine zc7 rfl rfl ?_ | refine zbe rfl rfl ?_ | refine zax rfl rfl ?_ | refine zai rfl rfl ?_ | refine zbh rfl rfl ?_ | refine zae rfl rfl rfl ?_ | refine zaz rfl rfl ?_ | refine zaq rfl rfl rfl rfl ?_ | refine zac rfl rfl rfl rfl ?_ | refine zan rfl rfl rfl rfl ?_ | refine zb8 rfl rfl ?_ | refine zb7 rfl rfl ?_ | refine zab rfl rfl ?_ | refine zbb ?_ | refine zaj env0_ok rfl rfl rfl ?_ | refine zah (op := .add) rfl rfl rfl ?_ | refine zah (op := .sub) rfl rfl rfl ?_ | refine zb9 rfl rfl rfl ?_ | refine zba rfl rfl rfl ?_ | refine zb4 rfl rfl rfl ?_ | refine zb3 rfl rfl rfl ?_ | refine zb0 rfl rfl (by omega) (by assumption) rfl ?_ | refine za1 rfl rfl (decide_eq_true ⟨by omega, by omega⟩) ?_ | refine zav rfl rfl (by omega) (by omega) ?_ | refine zam rfl rfl rfl ?_ | refine zbd rfl ?_ | refine zbc rfl ?_)
 refine zb9 rfl rfl (by show (b == b) = true; simp) ?_
 repeat (first | refine zaa ?_ | refine za0 rfl ?_ | refine za7 ?_ | refine za8 ?_ | refine zbf ?_ | refine zag ?_ | refine zao ?_ | refine zbo rfl ?_ | refine zbl rfl ?_ | refine zb2 ?_ | refine zb6 ?_ | refine zb1 ?_ | refine za4 ?_ | refine za3 rfl ?_ | refine za2 ?_ | refine za5 ?_ | refine zbx rfl ?_ | refine zbz rfl rfl ?_ | refine zc4 rfl ?_ | refine za6 rfl ?_ | refine zar rfl rfl ?_ | refine zat rfl rfl rfl rfl ?_ | refine zau rfl rfl rfl rfl rfl rfl rfl ?_ | refine zak rfl ?_ | refine za9 rfl rfl rfl ?_ | refine za1 rfl rfl rfl ?_ | refine zad rfl rfl rfl rfl ?_ | refine zaw ?_ | refine zap rfl rfl ?_ | refine zal rfl rfl ?_ | refine zc7 rfl rfl ?_ | refine zbe rfl rfl ?_ | refine zax rfl rfl ?_ | refine zai rfl rfl ?_ | refine zbh rfl rfl ?_ | refine zae rfl rfl rfl ?_ | refine zaz rfl rfl ?_ | refine zaq rfl rfl rfl rfl ?_ | refine zac rfl rfl rfl rfl ?_ | refine zan rfl rfl rfl rfl ?_ | refine zb8 rfl rfl ?_ | refine zb7 rfl rfl ?_ | refine zab rfl rfl ?_ | refine zbb ?_ | refine zaj env0_ok rfl rfl rfl ?_ | refine zah (op := .add) rfl rfl rfl ?_ | refine zah (op := .sub) rfl rfl rfl ?_ | refine zb9 rfl rfl rfl ?_ | refine zba rfl rfl rfl ?_ | refine zb4 rfl rfl rfl ?_ | refine zb3 rfl rfl rfl ?_ | refine zb0 rfl rfl (by omega) (by assumption) rfl ?_ | refine za1 rfl rfl (decide_eq_true ⟨by omega, by omega⟩) ?_ | refine zav rfl rfl (by omega) (by omega) ?_ | refine zam rfl rfl rfl ?_ | refine zbd rfl ?_ | refine zbc rfl ?_)
 refine zb4 rfl rfl (by show some (AV.bool (e1 == e1)) = _; simp) ?_
 repeat (first | refine zaa ?_ | refine za0 rfl ?_ | refine za7 ?_ | refine za8 ?_ | refine zbf ?_ | refine zag ?_ | refine zao ?_ | refine zbo rfl ?_ | refine zbl rfl ?_ | refine zb2 ?_ | refine zb6 ?_ | refine zb1 ?_ | refine za4 ?_ | refine za3 rfl ?_ | refine za2 ?_ | refine za5 ?_ | refine zbx rfl ?_ | refine zbz rfl rfl ?_ | refine zc4 rfl ?_ | refine za6 rfl ?_ | refine zar rfl rfl ?_ | refine zat rfl rfl rfl rfl ?_ | refine zau rfl rfl rfl rfl rfl rfl rfl ?_ | refine zak rfl ?_ | refine za9 rfl rfl rfl ?_ | refine za1 rfl rfl rfl ?_ | refine zad rfl rfl rfl rfl ?_ | refine zaw ?_ | refine zap rfl rfl ?_ | refine zal rfl rfl ?_ | refine zc7 rfl rfl ?_ | refine zbe rfl rfl ?_ | refine zax rfl rfl ?_ | refine zai rfl rfl ?_ | refine zbh rfl rfl ?_ | refine zae rfl rfl rfl ?_ | refine zaz rfl rfl ?_ | refine zaq rfl rfl rfl rfl ?_ | refine zac rfl rfl rfl rfl ?_ | refine zan rfl rfl rfl rfl ?_ | refine zb8 rfl rfl ?_ | refine zb7 rfl rfl ?_ | refine zab rfl rfl ?_ | refine zbb ?_ | refine zaj env0_ok rfl rfl rfl ?_ | refine zah (op := .add) rfl rfl rfl ?_ | refine zah (op := .sub) rfl rfl rfl ?_ | refine zb9 rfl rfl rfl ?_ | refine zba rfl rfl rfl ?_ | refine zb4 rfl rfl rfl ?_ | refine zb3 rfl rfl rfl ?_ | refine zb0 rfl rfl (by omega) (by assumption) rfl ?_ | refine za1 rfl rfl (decide_eq_true ⟨by omega, by omega⟩) ?_ | refine zav rfl rfl (by omega) (by omega) ?_ | refine zam rfl rfl rfl ?_ | refine zbd rfl ?_ | refine zbc rfl ?_)
 refine zbu rfl rfl pM2 (fun h => Bool.noConfusion (show false = true from h)) ?_
 repeat (first | refine zaa ?_ | refine za0 rfl ?_ | refine za7 ?_ | refine za8 ?_ | refine zbf ?_ | refine zag ?_ | refine zao ?_ | refine zbo rfl ?_ | refine zbl rfl ?_ | refine zb2 ?_ | refine zb6 ?_ | refine zb1 ?_ | refine za4 ?_ | refine za3 rfl ?_ | refine za2 ?_ | refine za5 ?_ | refine zbx rfl ?_ | refine zbz rfl rfl ?_ | refine zc4 rfl ?_ | refine za6 rfl ?_ | refine zar rfl rfl ?_ | refine zat rfl rfl rfl rfl ?_ | refine zau rfl rfl rfl rfl rfl rfl rfl ?_ | refine zak rfl ?_ | refine za9 rfl rfl rfl ?_ | refine za1 rfl rfl rfl ?_ | refine zad rfl rfl rfl rfl ?_ | refine zaw ?_ | refine zap rfl rfl ?_ | refine zal rfl rfl ?_ | refine zc7 rfl rfl ?_ | refine zbe rfl rfl ?_ | refine zax rfl rfl ?_ | refine zai rfl rfl ?_ | refine zbh rfl rfl ?_ | refine zae rfl rfl rfl ?_ | refine zaz rfl rfl ?_ | refine zaq rfl rfl rfl rfl ?_ | refine zac rfl rfl rfl rfl ?_ | refine zan rfl rfl rfl rfl ?_ | refine zb8 rfl rfl ?_ | refine zb7 rfl rfl ?_ | refine zab rfl rfl ?_ | refine zbb ?_ | refine zaj env0_ok rfl rfl rfl ?_ | refine zah (op := .add) rfl rfl rfl ?_ | refine zah (op := .sub) rfl rfl rfl ?_ | refine zb9 rfl rfl rfl ?_ | refine zba rfl rfl rfl ?_ | refine zb4 rfl rfl rfl ?_ | refine zb3 rfl rfl rfl ?_ | refine zb0 rfl rfl (by omega) (by assumption) rfl ?_ | refine za1 rfl rfl (decide_eq_true ⟨by omega, by omega⟩) ?_ | refine zav rfl rfl (by omega) (by omega) ?_ | refine zam rfl rfl rfl ?_ | refine zbd rfl ?_ | refine zbc rfl ?_)
 refine zb4 rfl rfl (by show some (AV.bool (e2 == e2)) = _; simp) ?_
 repeat (first | refine zaa ?_ | refine za0 rfl ?_ | refine za7 ?_ | refine za8 ?_ | refine zbf ?_ | refine zag ?_ | refine zao ?_ | refine zbo rfl ?_ | refine zbl rfl ?_ | refine zb2 ?_ | refine zb6 ?_ | refine zb1 ?_ | refine za4 ?_ | refine za3 rfl ?_ | refine za2 ?_ | refine za5 ?_ | refine zbx rfl ?_ | refine zbz rfl rfl ?_ | refine zc4 rfl ?_ | refine za6 rfl ?_ | refine zar rfl rfl ?_ | refine zat rfl rfl rfl rfl ?_ | refine zau rfl rfl rfl rfl rfl rfl rfl ?_ | refine zak rfl ?_ | refine za9 rfl rfl rfl ?_ | refine za1 rfl rfl rfl ?_ | refine zad rfl rfl rfl rfl ?_ | refine zaw ?_ | refine zap rfl rfl ?_ | refine zal rfl rfl ?_ | refine zc7 rfl rfl ?_ | refine zbe rfl rfl ?_ | refine zax rfl rfl ?_ | refine zai rfl rfl ?_ | refine zbh rfl rfl ?_ | refine zae rfl rfl rfl ?_ | refine zaz rfl rfl ?_ | refine zaq rfl rfl rfl rfl ?_ | refine zac rfl rfl rfl rfl ?_ | refine zan rfl rfl rfl rfl ?_ | refine zb8 rfl rfl ?_ | refine zb7 rfl rfl ?_ | refine zab rfl rfl ?_ | refine zbb ?_ | refine zaj env0_ok rfl rfl rfl ?_ | refine zah (op := .add) rfl rfl rfl ?_ | refine zah (op := .sub) rfl rfl rfl ?_ | refine zb9 rfl rfl rfl ?_ | refine zba rfl rfl rfl ?_ | refine zb4 rfl rfl rfl ?_ | refine zb3 rfl rfl rfl ?_ | refine zb0 rfl rfl (by omega) (by assumption) rfl ?_ | refine za1 rfl rfl (decide_eq_true ⟨by omega, by omega⟩) ?_ | refine zav rfl rfl (by omega) (by omega) ?_ | refine zam rfl rfl rfl ?_ | refine zbd rfl ?_ | refine zbc rfl ?_)
 refine zbu rfl rfl pM3 (fun h => Bool.noConfusion (show false = true from h)) ?_
 repeat (first | refine zaa ?_ | refine za0 rfl ?_ | refine za7 ?_ | refine za8 ?_ | refine zbf ?_ | refine zag ?_ | refine zao ?_ | refine zbo rfl ?_ | refine zbl rfl ?_ | refine zb2 ?_ | refine zb6 ?_ | refine zb1 ?_ | refine za4 ?_ | refine za3 rfl ?_ | refine za2 ?_ | refine za5 ?_ | refine zbx rfl ?_ | refine zbz rfl rfl ?_ | refine zc4 rfl ?_ | refine za6 rfl ?_ | refine zar rfl rfl ?_ | refine zat rfl rfl rfl rfl ?_ | refine zau rfl rfl rfl rfl rfl rfl rfl ?_ | refine zak rfl ?_ | refine za9 rfl rfl rfl ?_ | refine za1 rfl rfl rfl ?_ | refine zad rfl rfl rfl rfl ?_ | refine zaw ?_ | refine zap rfl rfl ?_ | refine zal rfl rfl ?_ | refine zc7 rfl rfl ?_ | refine zbe rfl rfl ?_ | refine zax rfl rfl ?_ | refine zai rfl rfl ?_ | refine zbh rfl rfl ?_ | refine zae rfl rfl rfl ?_ | refine zaz rfl rfl ?_ | refine zaq rfl rfl rfl rfl ?_ | refine zac rfl rfl rfl rfl ?_ | refine zan rfl rfl rfl rfl ?_ | refine zb8 rfl rfl ?_ | refine zb7 rfl rfl ?_ | refine zab rfl rfl ?_ | refine zbb ?_ | refine zaj env0_ok rfl rfl rfl ?_ | refine zah (op := .add) rfl rfl rfl ?_ | refine zah (op := .sub) rfl rfl rfl ?_ | refine zb9 rfl rfl rfl ?_ | refine zba rfl rfl rfl ?_ | refine zb4 rfl rfl rfl ?_ | refine zb3 rfl rfl rfl ?_ | refine zb0 rfl rfl (by omega) (by assumption) rfl ?_ | refine za1 rfl rfl (decide_eq_true ⟨by omega, by omega⟩) ?_ | refine zav rfl rfl (by omega) (by omega) ?_ | refine zam rfl rfl rfl ?_ | refine zbd rfl ?_ | refine zbc rfl ?_)
 refine zb4 rfl rfl (by show some (AV.bool (e3 == e3)) = _; simp) ?_
 repeat (first | refine zaa ?_ | refine za0 rfl ?_ | refine za7 ?_ | refine za8 ?_ | refine zbf ?_ | refine zag ?_ | refine zao ?_ | refine zbo rfl ?_ | refine zbl rfl ?_ | refine zb2 ?_ | refine zb6 ?_ | refine zb1 ?_ | refine za4 ?_ | refine za3 rfl ?_ | refine za2 ?_ | refine za5 ?_ | refine zbx rfl ?_ | refine zbz rfl rfl ?_ | refine zc4 rfl ?_ | refine za6 rfl ?_ | refine zar rfl rfl ?_ | refine zat rfl rfl rfl rfl ?_ | refine zau rfl rfl rfl rfl rfl rfl rfl ?_ | refine zak rfl ?_ | refine za9 rfl rfl rfl ?_ | refine za1 rfl rfl rfl ?_ | refine zad rfl rfl rfl rfl ?_ | refine zaw ?_ | refine zap rfl rfl ?_ | refine zal rfl rfl ?_ | refine zc7 rfl rfl ?_ | refine zbe rfl rfl ?_ | refine zax rfl rfl ?_ | refine zai rfl rfl ?_ | refine zbh rfl rfl ?_ | refine zae rfl rfl rfl ?_ | refine zaz rfl rfl ?_ | refine zaq rfl rfl rfl rfl ?_ | refine zac rfl rfl rfl rfl ?_ | refine zan rfl rfl rfl rfl ?_ | refine zb8 rfl rfl ?_ | refine zb7 rfl rfl ?_ | refine zab rfl rfl ?_ | refine zbb ?_ | refine zaj env0_ok rfl rfl rfl ?_ | refine zah (op := .add) rfl rfl rfl ?_ | refine zah (op := .sub) rfl rfl rfl ?_ | refine zb9 rfl rfl rfl ?_ | refine zba rfl rfl rfl ?_ | refine zb4 rfl rfl rfl ?_ | refine zb3 rfl rfl rfl ?_ | refine zb0 rfl rfl (by omega) (by assumption) rfl ?_ | refine za1 rfl rfl (decide_eq_true ⟨by omega, by omega⟩) ?_ | refine zav rfl rfl (by omega) (by omega) ?_ | refine zam rfl rfl rfl ?_ | refine zbd rfl ?_ | refine zbc rfl ?_)
 exact zbj ⟨.inr rfl, _, rfl, rfl⟩
end Go.Proofs.Ytknomkcdpcnmaaa
