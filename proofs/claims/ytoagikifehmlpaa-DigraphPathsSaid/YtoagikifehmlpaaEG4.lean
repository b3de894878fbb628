/-
  Path and Reverse return the results of the reference: the law.
-/
import Derived.Test.YtoagikifehmlpaaEJ8
import Derived.Test.YtoagikifehmlpaaEW1
namespace Go.Proofs.Ytoagikifehmlpaa
open Go Go.Am
-- pneumatic/pneumaticlaw10.DigraphPaths
def ic6 : IC := .seq (.region [⟨(some 3), .box (.t 0), none⟩,
  ⟨(some 6), .mov (.c (.bool false)), none⟩] none)
 (.seq (.seq (.region [⟨(some 15), .load (some 2) (.t 3), none⟩,
  ⟨(some 16), .call (.c (.fn 11 [] [])) [(.t 15)], none⟩,
  ⟨(some 17), .un .not (.t 16), none⟩] none)
 (.cond (.t 17) (.seq (.region [⟨(some 18), .call (.c (.fn 12 [] [])) [], none⟩,
  ⟨(some 6), .mov (.t 18), none⟩] none)
 (.ret))
 (.skip)))
 (.seq (.region [⟨(some 20), .load (some 2) (.t 3), none⟩,
  ⟨(some 21), .mov (.t 1), none⟩,
  ⟨(some 22), .mov (.t 2), none⟩,
  ⟨(some 23), .call (.c (.fn 27 [] [])) [(.t 20), (.t 21), (.t 22)], none⟩,
  ⟨(some 19), .mov (.t 23), none⟩,
  ⟨(some 24), .extract (.t 19) 0, none⟩,
  ⟨(some 25), .extract (.t 19) 1, none⟩,
  ⟨(some 7), .mov (.t 24), none⟩,
  ⟨(some 8), .mov (.t 25), none⟩] none)
 (.seq (.region [⟨(some 27), .load (some 2) (.t 3), none⟩,
  ⟨(some 28), .mov (.t 1), none⟩,
  ⟨(some 29), .mov (.t 2), none⟩,
  ⟨(some 30), .call (.c (.fn 28 [] [])) [(.t 27), (.t 28), (.t 29)], none⟩,
  ⟨(some 26), .mov (.t 30), none⟩,
  ⟨(some 31), .extract (.t 26) 0, none⟩,
  ⟨(some 32), .extract (.t 26) 1, none⟩,
  ⟨(some 9), .mov (.t 31), none⟩,
  ⟨(some 10), .mov (.t 32), none⟩] none)
 (.seq (.region [⟨(some 34), .load (some 2) (.t 3), none⟩,
  ⟨(some 35), .call (.c (.fn 29 [] [])) [(.t 34)], none⟩,
  ⟨(some 33), .mov (.t 35), none⟩,
  ⟨(some 36), .extract (.t 33) 0, none⟩,
  ⟨(some 37), .extract (.t 33) 1, none⟩,
  ⟨(some 11), .alloc [.int .i64 0, .nils], none⟩,
  ⟨none, .store 2 (.t 11) (.t 36), none⟩,
  ⟨(some 12), .mov (.t 37), none⟩] none)
 (.seq (.region [⟨(some 39), .load (some 2) (.t 3), none⟩,
  ⟨(some 40), .call (.c (.fn 30 [] [])) [(.t 39)], none⟩,
  ⟨(some 38), .mov (.t 40), none⟩,
  ⟨(some 41), .extract (.t 38) 0, none⟩,
  ⟨(some 42), .extract (.t 38) 1, none⟩,
  ⟨(some 13), .alloc [.int .i64 0, .nils], none⟩,
  ⟨none, .store 2 (.t 13) (.t 41), none⟩,
  ⟨(some 14), .mov (.t 42), none⟩] none)
 (.seq (.region [⟨(some 43), .call (.c (.fn 12 [] [])) [], none⟩,
  ⟨(some 44), .mov (.t 43), none⟩,
  ⟨(some 45), .mov (.t 7), some (44, true)⟩,
  ⟨(some 46), .mov (.t 9), some (44, true)⟩,
  ⟨(some 47), .call (.c (.fn 19 [] [])) [(.t 45), (.t 46)], some (44, true)⟩,
  ⟨(some 48), .pick (.t 44) (.t 47) (.c (.bool false)), none⟩,
  ⟨(some 49), .mov (.t 48), none⟩,
  ⟨(some 50), .mov (.t 8), some (49, true)⟩,
  ⟨(some 51), .mov (.t 10), some (49, true)⟩,
  ⟨(some 52), .bin .eql (.t 50) (.t 51), some (49, true)⟩,
  ⟨(some 53), .pick (.t 49) (.t 52) (.c (.bool false)), none⟩,
  ⟨(some 54), .mov (.t 53), none⟩,
  ⟨(some 55), .load (some 2) (.t 11), some (54, true)⟩,
  ⟨(some 56), .load (some 2) (.t 13), some (54, true)⟩,
  ⟨(some 57), .call (.c (.fn 18 [] [])) [(.t 55), (.t 56)], some (54, true)⟩,
  ⟨(some 58), .pick (.t 54) (.t 57) (.c (.bool false)), none⟩,
  ⟨(some 59), .mov (.t 58), none⟩,
  ⟨(some 60), .mov (.t 12), some (59, true)⟩,
  ⟨(some 61), .mov (.t 14), some (59, true)⟩,
  ⟨(some 62), .bin .eql (.t 60) (.t 61), some (59, true)⟩,
  ⟨(some 63), .pick (.t 59) (.t 62) (.c (.bool false)), none⟩,
  ⟨(some 6), .mov (.t 63), none⟩] none)
 (.ret)))))))
theorem fn6 : env0.fn 6 = some ⟨64, ic6, [.t 6]⟩ := by kernel_rfl
theorem ptN_eq (m : Nat) (E : List (Nat × Nat)) (f t : Nat) (hm : m ≤ 256) (ht : t < m) (hb : ∀ u v, (u, v) ∈ E → u < m ∧ v < m) : ∃ (l : List Int) (e : Int), ptN m E f t = .tup [vsI l, .int .i64 e] ∧ l.length ≤ 1000000 := by
 unfold ptN
 split
 ·exact ⟨[], 6, rfl, Nat.zero_le _⟩
 ·have hL := zej (es := rvE E) ht fun u v h => (ziw hb u v h).2
  have := zl0 hL.len hL.down f
  refine ⟨_, 0, rfl, ?_⟩
  unfold iL
  rw [List.length_map, List.length_cons, zfl]
  omega
theorem pthV_eq (n : Int) (es : List (Int × Int)) (f t : Int) : ∃ (l : List Int) (e : Int), pthV n es f t = .tup [vsI l, .int .i64 e] ∧ l.length ≤ 1000000 := by
 by_cases hg : zgg n es [f, t] = 0
 ·obtain ⟨hc, hv⟩ := zqu hg
  obtain ⟨f0, f1⟩ := zg6 hv f (by simp)
  obtain ⟨t0, t1⟩ := zg6 hv t (by simp)
  obtain ⟨m, E, rfl, rfl, hm, _, hE, hb⟩ := zkm hc
  obtain ⟨f, rfl⟩ := Int.eq_ofNat_of_zero_le f0
  obtain ⟨t, rfl⟩ := Int.eq_ofNat_of_zero_le t0
  rw [zmh hg]
  exact ptN_eq m E f t hm (by omega) hb
 ·rw [zgn hg]
  exact ⟨[], _, rfl, Nat.zero_le _⟩
theorem revV_eq (n : Int) (es : List (Int × Int)) : ∃ (n' : Int) (es' : List (Int × Int)) (e : Int), revV n es = .tup [cG n' es', .int .i64 e] ∧ es'.length ≤ 1000000 := by
 unfold revV
 split
 ·rename_i h
  exact ⟨_, _, _, rfl, by unfold swE; rw [List.length_map]; have := zlp h; omega⟩
 ·exact ⟨_, _, _, rfl, Nat.zero_le _⟩
set_option maxRecDepth 100000 in
set_option maxHeartbeats 4000000 in
theorem law6 (n : Int) (es : List (Int × Int)) (f t : Int) : PF Try.prog 6 [cG n es, .int .i64 f, .int .i64 t] (.bool true) := by
 have pF := few11 n es
 refine zb1 env0_ok fn6 [(0, .agg [.int .i64 n, .vs (cE es)]), (1, .int .i64 f), (2, .int .i64 t)] (by show 3 ≤ 64; decide) rfl fun w0 N0 => ?_
 unfold ic6
 refine za7 (za0 rfl (zdf rfl rfl (za3 rfl (za5 (za4 ?_)))))
 refine zbm [] [(0, 0, [.int .i64 n, .vs (cE es)])] [(1, .int .i64 f), (2, .int .i64 t), (3, .vptr [.int .i64 n, .vs (cE es)])] rfl (.cons rfl rfl .nil) .nil (.cons rfl (.same rfl) (.cons rfl (.same rfl) (.cons rfl (.fptr rfl rfl) .nil))) ?_
 repeat (first | refine za7 ?_ | refine za0 rfl ?_ | refine zan rfl rfl rfl rfl ?_)
 refine zax rfl rfl pF (fun h => Bool.noConfusion (show false = true from h)) ?_
 cases hf : fewB n es with
 | false =>
  repeat (first | refine za7 ?_ | refine za0 rfl ?_ | refine za5 ?_ | refine za4 ?_ | refine zd3 rfl ?_ | refine o_un rfl rfl ?_)
  refine zax rfl rfl zpu (fun h => Bool.noConfusion (show false = true from h)) ?_
  repeat (first | refine za5 ?_ | refine za4 ?_ | refine zar ?_ | refine zah ?_ | refine za3 rfl ?_)
  exact zal ⟨.inr rfl, _, rfl, rfl⟩
 | true =>
 obtain ⟨_, h8⟩ := zql hf
 have hn : zes n es = 0 → n ≤ 12 := fun h => by have := (h8 h).1; omega
 have p27 := path27 n es hn f t
 have p28 := path28 n es f t
 have p29 := zs3 n es
 have p30 := zs4 n es
 obtain ⟨a, e, ha, hal⟩ := pthV_eq n es f t
 obtain ⟨n2, es2, d, hc, hcl⟩ := revV_eq n es
 rw [ha] at p27 p28
 rw [hc] at p29 p30
 have p19 := same19 a hal
 have p18 := same18 n2 es2 hcl
 repeat (first | refine za7 ?_ | refine za0 rfl ?_ | refine za5 ?_ | refine za4 ?_ | refine zai ?_ | refine zcx rfl ?_ | refine za3 rfl ?_ | refine zan rfl rfl rfl rfl ?_ | refine o_un rfl rfl ?_)
 refine zax rfl rfl p27 (fun h => Bool.noConfusion (show false = true from h)) ?_
 repeat (first | refine za7 ?_ | refine za0 rfl ?_ | refine za5 ?_ | refine za4 ?_ | refine za3 rfl ?_ | refine zan rfl rfl rfl rfl ?_ | refine zdj rfl rfl ?_)
 refine zax rfl rfl p28 (fun h => Bool.noConfusion (show false = true from h)) ?_
 repeat (first | refine za7 ?_ | refine za0 rfl ?_ | refine za5 ?_ | refine za4 ?_ | refine za3 rfl ?_ | refine zan rfl rfl rfl rfl ?_ | refine zdj rfl rfl ?_)
 refine zax rfl rfl p29 (fun h => Bool.noConfusion (show false = true from h)) ?_
 repeat (first | refine za7 ?_ | refine za0 rfl ?_ | refine za5 ?_ | refine za4 ?_ | refine za3 rfl ?_ | refine zan rfl rfl rfl rfl ?_ | refine zbs rfl rfl rfl rfl rfl rfl rfl ?_ | refine zcp ?_ | refine zdj rfl rfl ?_)
 refine zax rfl rfl p30 (fun h => Bool.noConfusion (show false = true from h)) ?_
 repeat (first | refine za7 ?_ | refine za0 rfl ?_ | refine za5 ?_ | refine za4 ?_ | refine za3 rfl ?_ | refine zbs rfl rfl rfl rfl rfl rfl rfl ?_ | refine zcp ?_ | refine zdj rfl rfl ?_)
 refine zax rfl rfl zpu (fun h => Bool.noConfusion (show false = true from h)) ?_
 repeat (first | refine ze2 rfl ?_ | refine za3 rfl ?_)
 refine zax rfl rfl p19 (fun h => Bool.noConfusion (show false = true from h)) ?_
 repeat (first | refine ze2 rfl ?_ | refine za3 rfl ?_ | refine zaq rfl rfl ?_)
 refine zno rfl rfl (by show some (AV.bool (e == e)) = _; simp) ?_
 repeat (first | refine ze2 rfl ?_ | refine za3 rfl ?_ | refine zan rfl rfl rfl rfl ?_ | refine zaq rfl rfl ?_)
 refine zax rfl rfl p18 (fun h => Bool.noConfusion (show false = true from h)) ?_
 repeat (first | refine ze2 rfl ?_ | refine za3 rfl ?_ | refine zaq rfl rfl ?_)
 refine zno rfl rfl (by show some (AV.bool (d == d)) = _; simp) ?_
 repeat (first | refine za5 ?_ | refine za4 ?_ | refine zar ?_ | refine za3 rfl ?_ | refine zaq rfl rfl ?_)
 exact zal ⟨.inr rfl, _, rfl, rfl⟩
end Go.Proofs.Ytoagikifehmlpaa
