/-
  Cycle, Order and Layers return the results of the reference: the law.
-/
import Derived.Test.YtoagikifehmlpaaFK7
import Derived.Test.YtoagikifehmlpaaFK8
import Derived.Test.YtoagikifehmlpaaFW1
namespace Go.Proofs.Ytoagikifehmlpaa
open Go Go.Am
-- pneumatic/pneumaticlaw10.DigraphSorts
def ic9 : IC := .seq (.region [⟨(some 1), .box (.t 0), none⟩,
  ⟨(some 2), .mov (.c (.bool false)), none⟩] none)
 (.seq (.seq (.region [⟨(some 15), .load (some 2) (.t 1), none⟩,
  ⟨(some 16), .call (.c (.fn 11 [] [])) [(.t 15)], none⟩,
  ⟨(some 17), .un .not (.t 16), none⟩] none)
 (.cond (.t 17) (.seq (.region [⟨(some 18), .call (.c (.fn 12 [] [])) [], none⟩,
  ⟨(some 2), .mov (.t 18), none⟩] none)
 (.ret))
 (.skip)))
 (.seq (.region [⟨(some 20), .load (some 2) (.t 1), none⟩,
  ⟨(some 21), .call (.c (.fn 21 [] [])) [(.t 20)], none⟩,
  ⟨(some 19), .mov (.t 21), none⟩,
  ⟨(some 22), .extract (.t 19) 0, none⟩,
  ⟨(some 23), .extract (.t 19) 1, none⟩,
  ⟨(some 3), .mov (.t 22), none⟩,
  ⟨(some 4), .mov (.t 23), none⟩] none)
 (.seq (.region [⟨(some 25), .load (some 2) (.t 1), none⟩,
  ⟨(some 26), .call (.c (.fn 36 [] [])) [(.t 25)], none⟩,
  ⟨(some 24), .mov (.t 26), none⟩,
  ⟨(some 27), .extract (.t 24) 0, none⟩,
  ⟨(some 28), .extract (.t 24) 1, none⟩,
  ⟨(some 5), .mov (.t 27), none⟩,
  ⟨(some 6), .mov (.t 28), none⟩] none)
 (.seq (.region [⟨(some 30), .load (some 2) (.t 1), none⟩,
  ⟨(some 31), .call (.c (.fn 23 [] [])) [(.t 30)], none⟩,
  ⟨(some 29), .mov (.t 31), none⟩,
  ⟨(some 32), .extract (.t 29) 0, none⟩,
  ⟨(some 33), .extract (.t 29) 1, none⟩,
  ⟨(some 7), .mov (.t 32), none⟩,
  ⟨(some 8), .mov (.t 33), none⟩] none)
 (.seq (.region [⟨(some 35), .load (some 2) (.t 1), none⟩,
  ⟨(some 36), .call (.c (.fn 37 [] [])) [(.t 35)], none⟩,
  ⟨(some 34), .mov (.t 36), none⟩,
  ⟨(some 37), .extract (.t 34) 0, none⟩,
  ⟨(some 38), .extract (.t 34) 1, none⟩,
  ⟨(some 9), .mov (.t 37), none⟩,
  ⟨(some 10), .mov (.t 38), none⟩] none)
 (.seq (.region [⟨(some 40), .load (some 2) (.t 1), none⟩,
  ⟨(some 41), .call (.c (.fn 38 [] [])) [(.t 40)], none⟩,
  ⟨(some 39), .mov (.t 41), none⟩,
  ⟨(some 42), .extract (.t 39) 0, none⟩,
  ⟨(some 43), .extract (.t 39) 1, none⟩,
  ⟨(some 11), .mov (.t 42), none⟩,
  ⟨(some 12), .mov (.t 43), none⟩] none)
 (.seq (.region [⟨(some 45), .load (some 2) (.t 1), none⟩,
  ⟨(some 46), .call (.c (.fn 39 [] [])) [(.t 45)], none⟩,
  ⟨(some 44), .mov (.t 46), none⟩,
  ⟨(some 47), .extract (.t 44) 0, none⟩,
  ⟨(some 48), .extract (.t 44) 1, none⟩,
  ⟨(some 13), .mov (.t 47), none⟩,
  ⟨(some 14), .mov (.t 48), none⟩] none)
 (.seq (.region [⟨(some 49), .call (.c (.fn 12 [] [])) [], none⟩,
  ⟨(some 50), .mov (.t 49), none⟩,
  ⟨(some 51), .mov (.t 3), some (50, true)⟩,
  ⟨(some 52), .mov (.t 5), some (50, true)⟩,
  ⟨(some 53), .call (.c (.fn 19 [] [])) [(.t 51), (.t 52)], some (50, true)⟩,
  ⟨(some 54), .pick (.t 50) (.t 53) (.c (.bool false)), none⟩,
  ⟨(some 55), .mov (.t 54), none⟩,
  ⟨(some 56), .mov (.t 4), some (55, true)⟩,
  ⟨(some 57), .mov (.t 6), some (55, true)⟩,
  ⟨(some 58), .bin .eql (.t 56) (.t 57), some (55, true)⟩,
  ⟨(some 59), .pick (.t 55) (.t 58) (.c (.bool false)), none⟩,
  ⟨(some 60), .mov (.t 59), none⟩,
  ⟨(some 61), .mov (.t 7), some (60, true)⟩,
  ⟨(some 62), .mov (.t 9), some (60, true)⟩,
  ⟨(some 63), .call (.c (.fn 19 [] [])) [(.t 61), (.t 62)], some (60, true)⟩,
  ⟨(some 64), .pick (.t 60) (.t 63) (.c (.bool false)), none⟩,
  ⟨(some 65), .mov (.t 64), none⟩,
  ⟨(some 66), .mov (.t 8), some (65, true)⟩,
  ⟨(some 67), .mov (.t 10), some (65, true)⟩,
  ⟨(some 68), .bin .eql (.t 66) (.t 67), some (65, true)⟩,
  ⟨(some 69), .pick (.t 65) (.t 68) (.c (.bool false)), none⟩,
  ⟨(some 70), .mov (.t 69), none⟩,
  ⟨(some 71), .mov (.t 11), some (70, true)⟩,
  ⟨(some 72), .mov (.t 13), some (70, true)⟩,
  ⟨(some 73), .call (.c (.fn 19 [] [])) [(.t 71), (.t 72)], some (70, true)⟩,
  ⟨(some 74), .pick (.t 70) (.t 73) (.c (.bool false)), none⟩,
  ⟨(some 75), .mov (.t 74), none⟩,
  ⟨(some 76), .mov (.t 12), some (75, true)⟩,
  ⟨(some 77), .mov (.t 14), some (75, true)⟩,
  ⟨(some 78), .bin .eql (.t 76) (.t 77), some (75, true)⟩,
  ⟨(some 79), .pick (.t 75) (.t 78) (.c (.bool false)), none⟩,
  ⟨(some 2), .mov (.t 79), none⟩] none)
 (.ret)))))))))
theorem fn9 : env0.fn 9 = some ⟨80, ic9, [.t 2]⟩ := by kernel_rfl
theorem cycV_eq (n : Int) (es : List (Int × Int)) : ∃ (l : List Int) (e : Int), cycV n es = .tup [vsI l, .int .i64 e] ∧ l.length ≤ 1000000 := by
 by_cases hg : zd7 n es = 0
 ·obtain ⟨m, E, rfl, rfl, hm, _, hE, hb⟩ := zf5 hg
  rw [zml hg]
  unfold cycN
  split
  ·rename_i v hv
   have hvm : v < m := List.mem_range.1 (List.mem_of_find?_eq_some hv)
   have hL := zdz (es := rvE E) hvm fun u v h => (zj8 hb u v h).2
   refine ⟨_, _, rfl, ?_⟩
   rw [zee]
   unfold cycL
   rw [List.length_cons, List.length_take]
   have := zhw hL.len hL.down (ze6 (zcj (rvE E) m v m) (nbr E m v)).toNat
   omega
  ·exact ⟨[], _, rfl, Nat.zero_le _⟩
 ·rw [zjn hg]
  exact ⟨[], _, rfl, Nat.zero_le _⟩
theorem ordV_eq (n : Int) (es : List (Int × Int)) : ∃ (l : List Int) (e : Int), ordV n es = .tup [vsI l, .int .i64 e] ∧ l.length ≤ 1000000 := by
 by_cases hg : zd7 n es = 0
 ·obtain ⟨m, E, rfl, rfl, hm, _, hE, hb⟩ := zf5 hg
  rw [zne hg]
  unfold ordN
  split
  ·rename_i l hl
   obtain ⟨_, h, _⟩ := zh4 hl
   exact ⟨_, _, rfl, by rw [zee]; omega⟩
  ·exact ⟨[], _, rfl, Nat.zero_le _⟩
 ·rw [zke hg]
  exact ⟨[], _, rfl, Nat.zero_le _⟩
theorem layV_eq (n : Int) (es : List (Int × Int)) : ∃ (l : List Int) (e : Int), layV n es = .tup [vsI l, .int .i64 e] ∧ l.length ≤ 1000000 := by
 by_cases hg : zd7 n es = 0
 ·obtain ⟨m, E, rfl, rfl, hm, _, hE, hb⟩ := zf5 hg
  rw [zn6 hg]
  unfold layN
  split
  ·rename_i l hl
   have := zk5 E m l (List.replicate m 0)
   rw [List.length_replicate] at this
   exact ⟨_, _, rfl, by show (zsn E m l).length ≤ _; unfold zsn; omega⟩
  ·exact ⟨[], _, rfl, Nat.zero_le _⟩
 ·rw [zk4 hg]
  exact ⟨[], _, rfl, Nat.zero_le _⟩
set_option maxRecDepth 100000 in
set_option maxHeartbeats 4000000 in
theorem law9 (n : Int) (es : List (Int × Int)) : PF Try.prog 9 [cG n es] (.bool true) := by
 have pF := few11 n es
 refine zav env0_ok fn9 [(0, .agg [.int .i64 n, .vs (cE es)])] (by show 1 ≤ 80; decide) rfl fun w0 N0 => ?_
 unfold ic9
 refine za5 (za0 rfl (zd3 rfl rfl (za1 rfl (za3 (za2 ?_)))))
 refine zbf [] [(0, 0, [.int .i64 n, .vs (cE es)])] [(1, .vptr [.int .i64 n, .vs (cE es)])] rfl (.cons rfl rfl .nil) .nil (.cons rfl (.fptr rfl rfl) .nil) ?_
 repeat (first | refine za5 ?_ | refine za0 rfl ?_ | refine zaq rfl rfl rfl rfl ?_)
 refine zas rfl rfl pF (fun h => Bool.noConfusion (show false = true from h)) ?_
 cases hf : fewB n es with
 | false =>
  repeat (first | refine za5 ?_ | refine za0 rfl ?_ | refine za3 ?_ | refine za2 ?_ | refine zbt rfl ?_ | refine zpx rfl rfl ?_)
  refine zas rfl rfl zr0 (fun h => Bool.noConfusion (show false = true from h)) ?_
  repeat (first | refine za3 ?_ | refine za2 ?_ | refine zat ?_ | refine zag ?_ | refine za1 rfl ?_)
  exact zao ⟨.inr rfl, _, rfl, rfl⟩
 | true =>
 obtain ⟨_, h8⟩ := zru hf
 have hn : zd7 n es = 0 → n ≤ 12 := fun h => by have := (h8 h).1; omega
 have p21 := cycle21 n es hn
 have p36 := cycle36 n es
 have p23 := order23 n es
 have p37 := order37 n es
 have p38 := layers38 n es
 have p39 := layers39 n es
 obtain ⟨a, e, ha, hal⟩ := cycV_eq n es
 obtain ⟨c, f, hc, hcl⟩ := ordV_eq n es
 obtain ⟨x, g, hx, hxl⟩ := layV_eq n es
 rw [ha] at p21 p36
 rw [hc] at p23 p37
 rw [hx] at p38 p39
 have pa := ztp a hal
 have pc := ztp c hcl
 have px := ztp x hxl
 repeat (first | refine za5 ?_ | refine za0 rfl ?_ | refine za3 ?_ | refine za2 ?_ | refine zad ?_ | refine zbm rfl ?_ | refine zaq rfl rfl rfl rfl ?_ | refine zpx rfl rfl ?_)
 refine zas rfl rfl p21 (fun h => Bool.noConfusion (show false = true from h)) ?_
 repeat (first | refine za5 ?_ | refine za0 rfl ?_ | refine za3 ?_ | refine za2 ?_ | refine za1 rfl ?_ | refine zaq rfl rfl rfl rfl ?_ | refine zbc rfl rfl ?_)
 refine zas rfl rfl p36 (fun h => Bool.noConfusion (show false = true from h)) ?_
 repeat (first | refine za5 ?_ | refine za0 rfl ?_ | refine za3 ?_ | refine za2 ?_ | refine za1 rfl ?_ | refine zaq rfl rfl rfl rfl ?_ | refine zbc rfl rfl ?_)
 refine zas rfl rfl p23 (fun h => Bool.noConfusion (show false = true from h)) ?_
 repeat (first | refine za5 ?_ | refine za0 rfl ?_ | refine za3 ?_ | refine za2 ?_ | refine za1 rfl ?_ | refine zaq rfl rfl rfl rfl ?_ | refine zbc rfl rfl ?_)
 refine zas rfl rfl p37 (fun h => Bool.noConfusion (show false = true from h)) ?_
 repeat (first | refine za5 ?_ | refine za0 rfl ?_ | refine za3 ?_ | refine za2 ?_ | refine za1 rfl ?_ | refine zaq rfl rfl rfl rfl ?_ | refine zbc rfl rfl ?_)
 refine zas rfl rfl p38 (fun h => Bool.noConfusion (show false = true from h)) ?_
 repeat (first | refine za5 ?_ | refine za0 rfl ?_ | refine za3 ?_ | refine za2 ?_ | refine za1 rfl ?_ | refine zaq rfl rfl rfl rfl ?_ | refine zbc rfl rfl ?_)
 refine zas rfl rfl p39 (fun h => Bool.noConfusion (show false = true from h)) ?_
 repeat (first | refine za5 ?_ | refine za0 rfl ?_ | refine za3 ?_ | refine za2 ?_ | refine za1 rfl ?_ | refine zbc rfl rfl ?_)
 refine zas rfl rfl zr0 (fun h => Bool.noConfusion (show false = true from h)) ?_
 repeat (first | refine zd4 rfl ?_ | refine za1 rfl ?_)
 refine zas rfl rfl pa (fun h => Bool.noConfusion (show false = true from h)) ?_
 repeat (first | refine zd4 rfl ?_ | refine za1 rfl ?_ | refine zal rfl rfl ?_)
 refine zfy rfl rfl (by show some (AV.bool (e == e)) = _; simp) ?_
 repeat (first | refine zd4 rfl ?_ | refine za1 rfl ?_ | refine zal rfl rfl ?_)
 refine zas rfl rfl pc (fun h => Bool.noConfusion (show false = true from h)) ?_
 repeat (first | refine zd4 rfl ?_ | refine za1 rfl ?_ | refine zal rfl rfl ?_)
 refine zfy rfl rfl (by show some (AV.bool (f == f)) = _; simp) ?_
 repeat (first | refine zd4 rfl ?_ | refine za1 rfl ?_ | refine zal rfl rfl ?_)
 refine zas rfl rfl px (fun h => Bool.noConfusion (show false = true from h)) ?_
 repeat (first | refine zd4 rfl ?_ | refine za1 rfl ?_ | refine zal rfl rfl ?_)
 refine zfy rfl rfl (by show some (AV.bool (g == g)) = _; simp) ?_
 repeat (first | refine za3 ?_ | refine za2 ?_ | refine zat ?_ | refine za1 rfl ?_ | refine zal rfl rfl ?_)
 exact zao ⟨.inr rfl, _, rfl, rfl⟩
end Go.Proofs.Ytoagikifehmlpaa
