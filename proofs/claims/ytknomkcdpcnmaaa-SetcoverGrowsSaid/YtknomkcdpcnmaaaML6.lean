/-
  The fewest of a family with one more set: the law.
-/
import Derived.Test.YtknomkcdpcnmaaaMRJ
import Derived.Test.YtknomkcdpcnmaaaMRK
import Derived.Test.YtknomkcdpcnmaaaMRO
import Derived.Test.YtknomkcdpcnmaaaMP13
namespace Go.Proofs.Ytknomkcdpcnmaaa
open Go Go.Am
-- pneumatic/pneumaticlaw09.SetcoverGrows
def ic6 : IC := .seq (.region [⟨(some 2), .box (.t 0), none⟩,
  ⟨(some 4), .mov (.c (.bool false)), none⟩] none)
 (.seq (.seq (.region [⟨(some 10), .load (some 2) (.t 2), none⟩,
  ⟨(some 11), .call (.c (.fn 23 [] [])) [(.t 10)], none⟩,
  ⟨(some 12), .un .not (.t 11), none⟩,
  ⟨(some 13), .mov (.t 12), none⟩,
  ⟨(some 14), .faddr 1 (.t 2), some (13, false)⟩,
  ⟨(some 15), .load none (.t 14), some (13, false)⟩,
  ⟨(some 16), .len false (.t 15), some (13, false)⟩,
  ⟨(some 17), .bin .gtr (.t 16) (.c (.int .i64 9)), some (13, false)⟩,
  ⟨(some 18), .pick (.t 13) (.c (.bool true)) (.t 17), none⟩] none)
 (.cond (.t 18) (.seq (.region [⟨(some 19), .call (.c (.fn 12 [] [])) [], none⟩,
  ⟨(some 4), .mov (.t 19), none⟩] none)
 (.ret))
 (.skip)))
 (.seq (.region [⟨(some 20), .faddr 0 (.t 2), none⟩,
  ⟨(some 21), .load none (.t 20), none⟩,
  ⟨(some 22), .faddr 1 (.t 2), none⟩,
  ⟨(some 23), .load none (.t 22), none⟩,
  ⟨(some 24), .call (.c (.fn 27 [] [])) [(.t 23)], none⟩,
  ⟨(some 25), .mov (.t 1), none⟩,
  ⟨(some 26), .conv .u64 (.t 25), none⟩,
  ⟨(some 27), .faddr 0 (.t 2), none⟩,
  ⟨(some 28), .load none (.t 27), none⟩,
  ⟨(some 29), .bin .shl (.c (.int .u64 1)) (.t 28), none⟩,
  ⟨(some 30), .bin .sub (.t 29) (.c (.int .u64 1)), none⟩,
  ⟨(some 31), .bin .and (.t 26) (.t 30), none⟩,
  ⟨(some 32), .bslice 1 1 [.int .u64 0] [(0, 1, (.t 31))], none⟩,
  ⟨(some 33), .append 1 8 [.int .u64 0] (.t 24) (.t 32), none⟩,
  ⟨(some 34), .build [.int .i64 0, .nils] [(0, 1, (.t 21)), (1, 1, (.t 33))], none⟩,
  ⟨(some 5), .alloc [.int .i64 0, .nils], none⟩,
  ⟨none, .store 2 (.t 5) (.t 34), none⟩] (some [[], [0], [], [2], [3], [], [5], [], [7], [8], [9], [6, 10], [11], [4, 12, 4], [1, 13], [], [15, 14, 13, 0, 1, 2, 3, 4, 5, 6, 7, 8, 9, 10, 11, 12, 13, 14, 15]]))
 (.seq (.region [⟨(some 36), .load (some 2) (.t 2), none⟩,
  ⟨(some 37), .call (.c (.fn 14 [] [])) [(.t 36)], none⟩,
  ⟨(some 38), .call (.c (.fn 24 [] [])) [(.t 37)], none⟩,
  ⟨(some 35), .mov (.t 38), none⟩,
  ⟨(some 39), .extract (.t 35) 0, none⟩,
  ⟨(some 40), .extract (.t 35) 1, none⟩,
  ⟨(some 6), .mov (.t 39), none⟩,
  ⟨(some 7), .mov (.t 40), none⟩] none)
 (.seq (.region [⟨(some 42), .load (some 2) (.t 5), none⟩,
  ⟨(some 43), .call (.c (.fn 14 [] [])) [(.t 42)], none⟩,
  ⟨(some 44), .call (.c (.fn 24 [] [])) [(.t 43)], none⟩,
  ⟨(some 41), .mov (.t 44), none⟩,
  ⟨(some 45), .extract (.t 41) 0, none⟩,
  ⟨(some 46), .extract (.t 41) 1, none⟩,
  ⟨(some 8), .mov (.t 45), none⟩,
  ⟨(some 9), .mov (.t 46), none⟩] none)
 (.seq (.seq (.region [⟨(some 47), .mov (.t 9), none⟩,
  ⟨(some 48), .bin .neq (.t 47) (.c (.int .i64 0)), none⟩] none)
 (.cond (.t 48) (.seq (.region [⟨(some 49), .mov (.t 9), none⟩,
  ⟨(some 50), .bin .eql (.t 49) (.c (.int .i64 6)), none⟩,
  ⟨(some 51), .mov (.t 50), none⟩,
  ⟨(some 52), .mov (.t 7), some (51, true)⟩,
  ⟨(some 53), .bin .eql (.t 52) (.c (.int .i64 6)), some (51, true)⟩,
  ⟨(some 54), .pick (.t 51) (.t 53) (.c (.bool false)), none⟩,
  ⟨(some 55), .mov (.t 54), none⟩,
  ⟨(some 56), .call (.c (.fn 12 [] [])) [], some (55, true)⟩,
  ⟨(some 57), .pick (.t 55) (.t 56) (.c (.bool false)), none⟩,
  ⟨(some 4), .mov (.t 57), none⟩] none)
 (.ret))
 (.skip)))
 (.seq (.seq (.region [⟨(some 58), .load (some 2) (.t 5), none⟩,
  ⟨(some 59), .mov (.t 8), none⟩,
  ⟨(some 60), .call (.c (.fn 25 [] [])) [(.t 58), (.t 59)], none⟩,
  ⟨(some 61), .un .not (.t 60), none⟩,
  ⟨(some 62), .mov (.t 61), none⟩,
  ⟨(some 63), .mov (.t 7), some (62, false)⟩,
  ⟨(some 64), .bin .neq (.t 63) (.c (.int .i64 0)), some (62, false)⟩,
  ⟨(some 65), .mov (.t 64), some (62, false)⟩,
  ⟨(some 66), .mov (.t 7), some (65, true)⟩,
  ⟨(some 67), .bin .neq (.t 66) (.c (.int .i64 6)), some (65, true)⟩,
  ⟨(some 68), .pick (.t 65) (.t 67) (.c (.bool false)), some (62, false)⟩,
  ⟨(some 69), .pick (.t 62) (.c (.bool true)) (.t 68), none⟩] none)
 (.cond (.t 69) (.seq (.region [⟨(some 4), .mov (.c (.bool false)), none⟩] none)
 (.ret))
 (.skip)))
 (.seq (.seq (.region [⟨(some 70), .mov (.t 7), none⟩,
  ⟨(some 71), .bin .eql (.t 70) (.c (.int .i64 6)), none⟩,
  ⟨(some 72), .mov (.t 71), none⟩,
  ⟨(some 73), .mov (.t 8), some (72, false)⟩,
  ⟨(some 74), .len false (.t 73), some (72, false)⟩,
  ⟨(some 75), .mov (.t 6), some (72, false)⟩,
  ⟨(some 76), .len false (.t 75), some (72, false)⟩,
  ⟨(some 77), .bin .lss (.t 74) (.t 76), some (72, false)⟩,
  ⟨(some 78), .pick (.t 72) (.c (.bool true)) (.t 77), none⟩] none)
 (.cond (.t 78) (.seq (.region [⟨(some 79), .mov (.t 8), none⟩,
  ⟨(some 80), .faddr 1 (.t 2), none⟩,
  ⟨(some 81), .load none (.t 80), none⟩,
  ⟨(some 82), .len false (.t 81), none⟩,
  ⟨(some 83), .call (.c (.fn 28 [] [])) [(.t 79), (.t 82)], none⟩,
  ⟨(some 84), .mov (.t 83), none⟩,
  ⟨(some 85), .call (.c (.fn 12 [] [])) [], some (84, true)⟩,
  ⟨(some 86), .pick (.t 84) (.t 85) (.c (.bool false)), none⟩,
  ⟨(some 4), .mov (.t 86), none⟩] none)
 (.ret))
 (.skip)))
 (.seq (.region [⟨(some 87), .mov (.t 8), none⟩,
  ⟨(some 88), .len false (.t 87), none⟩,
  ⟨(some 89), .mov (.t 6), none⟩,
  ⟨(some 90), .len false (.t 89), none⟩,
  ⟨(some 91), .bin .eql (.t 88) (.t 90), none⟩,
  ⟨(some 92), .mov (.t 91), none⟩,
  ⟨(some 93), .mov (.t 6), some (92, true)⟩,
  ⟨(some 94), .mov (.t 8), some (92, true)⟩,
  ⟨(some 95), .call (.c (.fn 29 [] [])) [(.t 93), (.t 94)], some (92, true)⟩,
  ⟨(some 96), .mov (.t 8), some (92, true)⟩,
  ⟨(some 97), .faddr 1 (.t 2), some (92, true)⟩,
  ⟨(some 98), .load none (.t 97), some (92, true)⟩,
  ⟨(some 99), .len false (.t 98), some (92, true)⟩,
  ⟨(some 100), .call (.c (.fn 28 [] [])) [(.t 96), (.t 99)], some (92, true)⟩,
  ⟨(some 101), .un .not (.t 100), some (92, true)⟩,
  ⟨(some 102), .eqb false (.t 95) (.t 101), some (92, true)⟩,
  ⟨(some 103), .pick (.t 92) (.t 102) (.c (.bool false)), none⟩,
  ⟨(some 104), .mov (.t 103), none⟩,
  ⟨(some 105), .call (.c (.fn 12 [] [])) [], some (104, true)⟩,
  ⟨(some 106), .pick (.t 104) (.t 105) (.c (.bool false)), none⟩,
  ⟨(some 4), .mov (.t 106), none⟩] (some [[], [0], [], [2], [1, 3], [4], [5], [5], [6, 7, 5, 5], [5], [5], [10, 5], [11, 5], [9, 12, 8, 5], [13, 5], [8, 14, 5], [5, 15], [16, 13], [17, 17], [17, 18], [19, 18, 0, 1, 2, 3, 4, 5, 6, 7, 8, 9, 10, 11, 12, 13, 14, 15, 16, 17, 18, 19]]))
 (.ret)))))))))
theorem fn6 : env0.fn 6 = some ⟨107, ic6, [.t 4]⟩ := by kernel_rfl
theorem chk_grow {n : Int} {s : List (BitVec 64)} {w : BitVec 64} (hc : zfh n s = 0) (hs : s.length ≤ 50) : zfh n (s ++ [w &&& zcq n]) = 0 := by
 obtain ⟨n0, n1, s1, hb⟩ := zhc hc
 unfold zfh zrc
 rw [if_neg (by omega), if_neg (by omega), if_neg (by rw [List.length_append, List.length_singleton]; omega)]
 refine if_neg ?_
 rw [List.any_eq_true]
 rintro ⟨x, hx, h⟩
 rcases List.mem_append.1 hx with hx | hx
 ·rw [hb x hx] at h
  cases h
 ·obtain rfl := List.mem_singleton.1 hx
  unfold zsd at h
  rw [BitVec.and_assoc, BitVec.and_not_self] at h
  simp at h
def zhn (c : List Int) : Nat := (c.map fun z => [AV.int .i64 z]).length
set_option maxRecDepth 100000 in
set_option maxHeartbeats 4000000 in
theorem law6 (n : Int) (s : List (BitVec 64)) (u : Int) (_hu : 0 ≤ u ∧ u ≤ 65535) : PF Try.prog 6 [cF n s, .int .u16 u] (.bool true) := by
 have pF := right23 n s
 have pS := sent14 n s
 have hcl := zc4 s
 refine zb9 env0_ok fn6 [(0, cF n s), (1, .int .u16 u)] (by show 2 ≤ 107; decide) rfl fun w0 N0 => ?_
 unfold ic6
 refine za5 (za0 rfl (zcw (cs := [.int .i64 n, .vs (cUs s)]) rfl rfl (za1 rfl (za3 (za4 ?_)))))
 refine zdb [] [(0, 0, [.int .i64 n, .vs (cUs s)])] [(1, .int .u16 u), (2, .vptr [.int .i64 n, .vs (cUs s)])] rfl (.cons rfl rfl .nil) .nil (.cons rfl (.same rfl) (.cons rfl (.fptr rfl rfl) .nil)) ?_
 repeat (first | refine za5 ?_ | refine za0 rfl ?_ | refine zay rfl rfl rfl rfl ?_)
 refine zaq rfl rfl pF (fun h => Bool.noConfusion (show false = true from h)) ?_
 cases hf : rigB n s with
 | false =>
  repeat (first | refine za5 ?_ | refine za0 rfl ?_ | refine za3 ?_ | refine za4 ?_ | refine zbv rfl ?_ | refine zg5 rfl rfl ?_ | refine za1 rfl ?_ | refine zam rfl rfl ?_ | refine zlm rfl rfl ?_)
  refine zaq rfl rfl zfr (fun h => Bool.noConfusion (show false = true from h)) ?_
  repeat (first | refine za3 ?_ | refine za4 ?_ | refine zao ?_ | refine za8 ?_ | refine za1 rfl ?_)
  exact zaj ⟨.inr rfl, _, rfl, rfl⟩
 | true =>
 unfold rigB at hf
 rw [Bool.and_eq_true, Bool.and_eq_true, decide_eq_true_eq, decide_eq_true_eq, beq_iff_eq] at hf
 obtain ⟨hn, hs, hc⟩ := hf
 obtain ⟨n0, n1, s1, _⟩ := zhc hc
 obtain ⟨m, rfl⟩ := Int.eq_ofNat_of_zero_le n0
 repeat (first | refine zcr rfl ?_ | refine za1 rfl ?_ | refine zah rfl rfl ?_ | refine zab rfl rfl rfl ?_ | refine zlm rfl rfl ?_ | refine zb8 rfl rfl ?_)
 refine zax rfl rfl rfl (fun h9 => ?_) fun h9 => ?_
 ·repeat (first | refine za5 ?_ | refine za0 rfl ?_ | refine za3 ?_ | refine za4 ?_ | refine zbv rfl ?_ | refine zal rfl rfl ?_)
  refine zaq rfl rfl zfr (fun h => Bool.noConfusion (show false = true from h)) ?_
  repeat (first | refine za3 ?_ | refine za4 ?_ | refine zao ?_ | refine za8 ?_ | refine za1 rfl ?_)
  exact zaj ⟨.inr rfl, _, rfl, rfl⟩
 have h9 : ¬ (((cUs s).length : Nat) : Int) > 9 := of_decide_eq_false h9
 have hm12 : m ≤ 12 := by omega
 repeat (first | refine za5 ?_ | refine za3 ?_ | refine za4 ?_ | refine zac ?_ | refine zbk rfl ?_ | refine zal rfl rfl ?_)
 refine zho (zaa (l' := zgw m s (.int .u16 u)) (.cons rfl (.cons rfl .nil))) (grow6 m (by omega) s (.int .u16 u) (BitVec.ofInt 64 u) (by show some (AV.int .u64 (IntKind.u64.wrap u)) = _; rw [zmd]; rfl) rfl (by omega) ?_)
 rw [zs0 hm12]
 have hc2 := chk_grow (w := BitVec.ofInt 64 u) hc (by omega)
 generalize hx : (BitVec.ofInt 64 u) &&& zcq (m : Nat) = x at *
 have hl2 : (s ++ [x]).length = s.length + 1 := by rw [List.length_append]; rfl
 have pS2 := sent14 (m : Nat) (s ++ [x])
 have p24 := zkz (m : Nat) s
 have q24 := zkz (m : Nat) (s ++ [x])
 have lim1 : zmy (m : Nat) s = 0 := by unfold zmy; rw [if_pos hc, if_neg (by omega)]
 have lim2 : zmy (m : Nat) (s ++ [x]) = 0 := by unfold zmy; rw [if_pos hc2, if_neg (by omega)]
 unfold fewV at p24 q24
 rw [if_pos lim1] at p24
 rw [if_pos lim2] at q24
 have gN := ztk (n := (m : Nat)) (s := s) (x := x) (by omega)
 have gL := @ztj (m : Nat) s x (by omega)
 have gO := @grow_old (m : Nat) s x (by omega)
 cases hG : zjp (m : Nat) (s ++ [x]) with
 | none =>
  rw [gN hG] at p24
  rw [hG] at q24
  repeat (first | refine za5 ?_ | refine za0 rfl ?_ | refine zay rfl rfl rfl rfl ?_)
  refine zaq rfl rfl pS (fun h => Bool.noConfusion (show false = true from h)) ?_
  refine zaq rfl rfl p24 (fun h => Bool.noConfusion (show false = true from h)) ?_
  repeat (first | refine za5 ?_ | refine za0 rfl ?_ | refine za3 ?_ | refine za4 ?_ | refine za1 rfl ?_ | refine zay rfl rfl rfl rfl ?_ | refine zb4 rfl rfl ?_)
  refine zaq rfl rfl pS2 (fun h => Bool.noConfusion (show false = true from h)) ?_
  refine zaq rfl rfl q24 (fun h => Bool.noConfusion (show false = true from h)) ?_
  repeat (first | refine za5 ?_ | refine za0 rfl ?_ | refine za3 ?_ | refine za4 ?_ | refine zbv rfl ?_ | refine zcr rfl ?_ | refine za1 rfl ?_ | refine zam rfl rfl ?_ | refine zb4 rfl rfl ?_ | refine zbw rfl rfl rfl ?_)
  refine zaq rfl rfl zfr (fun h => Bool.noConfusion (show false = true from h)) ?_
  repeat (first | refine za3 ?_ | refine za4 ?_ | refine zao ?_ | refine za8 ?_ | refine za1 rfl ?_ | refine zam rfl rfl ?_)
  exact zaj ⟨.inr rfl, _, rfl, rfl⟩
 | some d =>
 rw [hG] at q24
 obtain ⟨hd1, hd2, hd3⟩ := zfw hG
 have p25 := has25 m hm12 (s ++ [x]) (by omega) d (by omega) hd3 (zvg (zpk (by omega) hG)) (by unfold zhs at hd2; exact eq_of_beq hd2)
 have p28 := zqu d (by omega) (s.length : Nat)
 rw [← hcl] at p28
 cases hF : zjp (m : Nat) s with
 | none =>
  rw [hF] at p24
  have hin : d.contains (s.length : Int) = true := by
   cases hb : d.contains (s.length : Int) with
   | true => rfl
   | false => rw [gO hG hb] at hF; cases hF
  rw [hcl, hin, ← hcl] at p28
  repeat (first | refine za5 ?_ | refine za0 rfl ?_ | refine zay rfl rfl rfl rfl ?_)
  refine zaq rfl rfl pS (fun h => Bool.noConfusion (show false = true from h)) ?_
  refine zaq rfl rfl p24 (fun h => Bool.noConfusion (show false = true from h)) ?_
  repeat (first | refine za5 ?_ | refine za0 rfl ?_ | refine za3 ?_ | refine za4 ?_ | refine za1 rfl ?_ | refine zay rfl rfl rfl rfl ?_ | refine zb4 rfl rfl ?_)
  refine zaq rfl rfl pS2 (fun h => Bool.noConfusion (show false = true from h)) ?_
  refine zaq rfl rfl q24 (fun h => Bool.noConfusion (show false = true from h)) ?_
  repeat (first | refine za5 ?_ | refine za0 rfl ?_ | refine za3 ?_ | refine za4 ?_ | refine zac ?_ | refine zbk rfl ?_ | refine za1 rfl ?_ | refine zay rfl rfl rfl rfl ?_ | refine zb4 rfl rfl ?_ | refine zb7 rfl rfl rfl ?_)
  refine zaq rfl rfl p25 (fun h => Bool.noConfusion (show false = true from h)) ?_
  repeat (first | refine za5 ?_ | refine za0 rfl ?_ | refine za3 ?_ | refine za4 ?_ | refine zac ?_ | refine zbv rfl ?_ | refine zbk rfl ?_ | refine zcr rfl ?_ | refine zg5 rfl rfl ?_ | refine za1 rfl ?_ | refine zah rfl rfl ?_ | refine zab rfl rfl rfl ?_ | refine zam rfl rfl ?_ | refine zal rfl rfl ?_ | refine zlm rfl rfl ?_ | refine zb8 rfl rfl ?_ | refine zbw rfl rfl rfl ?_ | refine zb7 rfl rfl rfl ?_)
  refine zaq rfl rfl p28 (fun h => Bool.noConfusion (show false = true from h)) ?_
  repeat (first | refine zcr rfl ?_ | refine za1 rfl ?_)
  refine zaq rfl rfl zfr (fun h => Bool.noConfusion (show false = true from h)) ?_
  repeat (first | refine za3 ?_ | refine za4 ?_ | refine zao ?_ | refine za8 ?_ | refine za1 rfl ?_ | refine zam rfl rfl ?_)
  exact zaj ⟨.inr rfl, _, rfl, rfl⟩
 | some c =>
  rw [hF] at p24
  have hle := gL hF hG
  obtain ⟨hc1, _, hc3⟩ := zfw hF
  have p29 := equal29 c d (by omega)
  have hcd : d.contains (s.length : Int) = false → c = d := fun hb => by
   have := gO hG hb
   rw [hF] at this
   exact Option.some.inj this
  have hdc : d.contains (s.length : Int) = true → (c == d) = false := fun hb => by
   refine beq_eq_false_iff_ne.2 fun e => ?_
   have := hc3 _ (e ▸ List.contains_iff_mem.1 hb)
   omega
  have lc : (vsI c) = .vs (c.map fun z => [.int .i64 z]) := rfl
  repeat (first | refine za5 ?_ | refine za0 rfl ?_ | refine zay rfl rfl rfl rfl ?_)
  refine zaq rfl rfl pS (fun h => Bool.noConfusion (show false = true from h)) ?_
  refine zaq rfl rfl p24 (fun h => Bool.noConfusion (show false = true from h)) ?_
  repeat (first | refine za5 ?_ | refine za0 rfl ?_ | refine za3 ?_ | refine za4 ?_ | refine za1 rfl ?_ | refine zay rfl rfl rfl rfl ?_ | refine zb4 rfl rfl ?_)
  refine zaq rfl rfl pS2 (fun h => Bool.noConfusion (show false = true from h)) ?_
  refine zaq rfl rfl q24 (fun h => Bool.noConfusion (show false = true from h)) ?_
  repeat (first | refine za5 ?_ | refine za0 rfl ?_ | refine za3 ?_ | refine za4 ?_ | refine zac ?_ | refine zbk rfl ?_ | refine za1 rfl ?_ | refine zay rfl rfl rfl rfl ?_ | refine zb4 rfl rfl ?_ | refine zb7 rfl rfl rfl ?_)
  refine zaq rfl rfl p25 (fun h => Bool.noConfusion (show false = true from h)) ?_
  repeat (first | refine za5 ?_ | refine za0 rfl ?_ | refine za3 ?_ | refine za4 ?_ | refine zac ?_ | refine zbk rfl ?_ | refine zcr rfl ?_ | refine zg5 rfl rfl ?_ | refine za1 rfl ?_ | refine zal rfl rfl ?_ | refine zlm rfl rfl ?_ | refine zb8 rfl rfl ?_ | refine zb7 rfl rfl rfl ?_)
  refine zax rfl rfl rfl (fun h => ?_) fun h => ?_
  ·have hlt : d.length < c.length := by
    have : ((zhn d : Nat) : Int) < ((zhn c : Nat) : Int) := of_decide_eq_true h
    unfold zhn at this
    rw [List.length_map, List.length_map] at this
    omega
   have hin : d.contains (s.length : Int) = true := by
    cases hb : d.contains (s.length : Int) with
    | true => rfl
    | false => rw [hcd hb] at hlt; omega
   rw [hcl, hin, ← hcl] at p28
   repeat (first | refine za5 ?_ | refine za0 rfl ?_ | refine za3 ?_ | refine za4 ?_ | refine zbv rfl ?_ | refine za1 rfl ?_ | refine zah rfl rfl ?_ | refine zab rfl rfl rfl ?_ | refine zal rfl rfl ?_ | refine zb8 rfl rfl ?_)
   refine zaq rfl rfl p28 (fun h => Bool.noConfusion (show false = true from h)) ?_
   repeat (first | refine zcr rfl ?_ | refine za1 rfl ?_)
   refine zaq rfl rfl zfr (fun h => Bool.noConfusion (show false = true from h)) ?_
   repeat (first | refine za3 ?_ | refine za4 ?_ | refine zao ?_ | refine za8 ?_ | refine za1 rfl ?_ | refine zam rfl rfl ?_)
   exact zaj ⟨.inr rfl, _, rfl, rfl⟩
  ·have hlen : d.length = c.length := by
    have : ¬ ((zhn d : Nat) : Int) < ((zhn c : Nat) : Int) := of_decide_eq_false h
    unfold zhn at this
    rw [List.length_map, List.length_map] at this
    omega
   cases hb : d.contains (s.length : Int) with
   | true =>
    rw [hdc hb] at p29
    rw [hcl, hb, ← hcl] at p28
    repeat (first | refine za5 ?_ | refine za3 ?_ | refine za4 ?_ | refine zac ?_ | refine zbk rfl ?_ | refine zal rfl rfl ?_)
    refine zg4 env0_ok [(29, [vsI c, vsI d], .bool false), (28, [vsI d, .int .i64 ((cUs s).length : Nat)], .bool true), (12, [], .bool true)] (fun x hx => by
     rcases List.mem_cons.1 hx with rfl | hx
     ·exact p29
     rcases List.mem_cons.1 hx with rfl | hx
     ·exact p28
     obtain rfl := List.mem_singleton.1 hx
     exact zfr) (fun f => Nat.beq f 29 || Nat.beq f 28 || Nat.beq f 12) rfl rfl rfl ?_
    repeat (first | refine za1 rfl ?_ | refine zb8 rfl rfl ?_)
    refine zbw rfl rfl (by show some (AV.bool (((zhn d : Nat) : Int) == ((zhn c : Nat) : Int))) = _; unfold zhn; rw [List.length_map, List.length_map, hlen]; simp) ?_
    repeat (first | refine zcr rfl ?_ | refine za1 rfl ?_)
    refine zaq rfl rfl zc5 (fun h => Bool.noConfusion (show false = true from h)) ?_
    repeat (first | refine zcr rfl ?_ | refine za1 rfl ?_ | refine zah rfl rfl ?_ | refine zab rfl rfl rfl ?_ | refine zb8 rfl rfl ?_)
    refine zaq rfl rfl (zcy (by decide) zc5) (fun h => Bool.noConfusion (show false = true from h)) ?_
    repeat (first | refine zcr rfl ?_ | refine za1 rfl ?_ | refine zam rfl rfl ?_ | refine zlm rfl rfl ?_ | refine zds rfl rfl rfl ?_)
    refine zaq rfl rfl (zcy (by decide) (zcy (by decide) zc5)) (fun h => Bool.noConfusion (show false = true from h)) ?_
    repeat (first | refine za3 ?_ | refine za4 ?_ | refine zao ?_ | refine za1 rfl ?_ | refine zam rfl rfl ?_)
    exact zaj ⟨.inr rfl, _, rfl, rfl⟩
   | false =>
    rw [show (c == d) = true from beq_iff_eq.2 (hcd hb)] at p29
    rw [hcl, hb, ← hcl] at p28
    repeat (first | refine za5 ?_ | refine za3 ?_ | refine za4 ?_ | refine zac ?_ | refine zbk rfl ?_ | refine zal rfl rfl ?_)
    refine zg4 env0_ok [(29, [vsI c, vsI d], .bool true), (28, [vsI d, .int .i64 ((cUs s).length : Nat)], .bool false), (12, [], .bool true)] (fun x hx => by
     rcases List.mem_cons.1 hx with rfl | hx
     ·exact p29
     rcases List.mem_cons.1 hx with rfl | hx
     ·exact p28
     obtain rfl := List.mem_singleton.1 hx
     exact zfr) (fun f => Nat.beq f 29 || Nat.beq f 28 || Nat.beq f 12) rfl rfl rfl ?_
    repeat (first | refine za1 rfl ?_ | refine zb8 rfl rfl ?_)
    refine zbw rfl rfl (by show some (AV.bool (((zhn d : Nat) : Int) == ((zhn c : Nat) : Int))) = _; unfold zhn; rw [List.length_map, List.length_map, hlen]; simp) ?_
    repeat (first | refine zcr rfl ?_ | refine za1 rfl ?_)
    refine zaq rfl rfl zc5 (fun h => Bool.noConfusion (show false = true from h)) ?_
    repeat (first | refine zcr rfl ?_ | refine za1 rfl ?_ | refine zah rfl rfl ?_ | refine zab rfl rfl rfl ?_ | refine zb8 rfl rfl ?_)
    refine zaq rfl rfl (zcy (by decide) zc5) (fun h => Bool.noConfusion (show false = true from h)) ?_
    repeat (first | refine zcr rfl ?_ | refine za1 rfl ?_ | refine zam rfl rfl ?_ | refine zlm rfl rfl ?_ | refine zds rfl rfl rfl ?_)
    refine zaq rfl rfl (zcy (by decide) (zcy (by decide) zc5)) (fun h => Bool.noConfusion (show false = true from h)) ?_
    repeat (first | refine za3 ?_ | refine za4 ?_ | refine zao ?_ | refine za1 rfl ?_ | refine zam rfl rfl ?_)
    exact zaj ⟨.inr rfl, _, rfl, rfl⟩
end Go.Proofs.Ytknomkcdpcnmaaa
