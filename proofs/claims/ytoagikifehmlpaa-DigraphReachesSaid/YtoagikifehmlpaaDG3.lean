/-
  Check, Reach and Distances return the results of the reference: the law.
-/
import Derived.Test.YtoagikifehmlpaaDG2
import Derived.Test.YtoagikifehmlpaaDW1
namespace Go.Proofs.Ytoagikifehmlpaa
open Go Go.Am
-- pneumatic/pneumaticlaw10.DigraphReaches
def ic7 : IC := .seq (.region [⟨(some 2), .box (.t 0), none⟩,
  ⟨(some 4), .mov (.c (.bool false)), none⟩] none)
 (.seq (.seq (.region [⟨(some 13), .load (some 2) (.t 2), none⟩,
  ⟨(some 14), .call (.c (.fn 11 [] [])) [(.t 13)], none⟩,
  ⟨(some 15), .un .not (.t 14), none⟩] none)
 (.cond (.t 15) (.seq (.region [⟨(some 16), .call (.c (.fn 12 [] [])) [], none⟩,
  ⟨(some 4), .mov (.t 16), none⟩] none)
 (.ret))
 (.skip)))
 (.seq (.region [⟨(some 18), .load (some 2) (.t 2), none⟩,
  ⟨(some 19), .mov (.t 1), none⟩,
  ⟨(some 20), .call (.c (.fn 31 [] [])) [(.t 18), (.t 19)], none⟩,
  ⟨(some 17), .mov (.t 20), none⟩,
  ⟨(some 21), .extract (.t 17) 0, none⟩,
  ⟨(some 22), .extract (.t 17) 1, none⟩,
  ⟨(some 5), .mov (.t 21), none⟩,
  ⟨(some 6), .mov (.t 22), none⟩] none)
 (.seq (.region [⟨(some 24), .load (some 2) (.t 2), none⟩,
  ⟨(some 25), .mov (.t 1), none⟩,
  ⟨(some 26), .call (.c (.fn 32 [] [])) [(.t 24), (.t 25)], none⟩,
  ⟨(some 23), .mov (.t 26), none⟩,
  ⟨(some 27), .extract (.t 23) 0, none⟩,
  ⟨(some 28), .extract (.t 23) 1, none⟩,
  ⟨(some 7), .mov (.t 27), none⟩,
  ⟨(some 8), .mov (.t 28), none⟩] none)
 (.seq (.region [⟨(some 30), .load (some 2) (.t 2), none⟩,
  ⟨(some 31), .mov (.t 1), none⟩,
  ⟨(some 32), .call (.c (.fn 22 [] [])) [(.t 30), (.t 31)], none⟩,
  ⟨(some 29), .mov (.t 32), none⟩,
  ⟨(some 33), .extract (.t 29) 0, none⟩,
  ⟨(some 34), .extract (.t 29) 1, none⟩,
  ⟨(some 9), .mov (.t 33), none⟩,
  ⟨(some 10), .mov (.t 34), none⟩] none)
 (.seq (.region [⟨(some 36), .load (some 2) (.t 2), none⟩,
  ⟨(some 37), .mov (.t 1), none⟩,
  ⟨(some 38), .call (.c (.fn 33 [] [])) [(.t 36), (.t 37)], none⟩,
  ⟨(some 35), .mov (.t 38), none⟩,
  ⟨(some 39), .extract (.t 35) 0, none⟩,
  ⟨(some 40), .extract (.t 35) 1, none⟩,
  ⟨(some 11), .mov (.t 39), none⟩,
  ⟨(some 12), .mov (.t 40), none⟩] none)
 (.seq (.region [⟨(some 41), .call (.c (.fn 12 [] [])) [], none⟩,
  ⟨(some 42), .mov (.t 41), none⟩,
  ⟨(some 43), .load (some 2) (.t 2), some (42, true)⟩,
  ⟨(some 44), .call (.c (.fn 34 [] [])) [(.t 43)], some (42, true)⟩,
  ⟨(some 45), .load (some 2) (.t 2), some (42, true)⟩,
  ⟨(some 46), .call (.c (.fn 35 [] [])) [(.t 45)], some (42, true)⟩,
  ⟨(some 47), .bin .eql (.t 44) (.t 46), some (42, true)⟩,
  ⟨(some 48), .pick (.t 42) (.t 47) (.c (.bool false)), none⟩,
  ⟨(some 49), .mov (.t 48), none⟩,
  ⟨(some 50), .mov (.t 5), some (49, true)⟩,
  ⟨(some 51), .mov (.t 7), some (49, true)⟩,
  ⟨(some 52), .call (.c (.fn 19 [] [])) [(.t 50), (.t 51)], some (49, true)⟩,
  ⟨(some 53), .pick (.t 49) (.t 52) (.c (.bool false)), none⟩,
  ⟨(some 54), .mov (.t 53), none⟩,
  ⟨(some 55), .mov (.t 6), some (54, true)⟩,
  ⟨(some 56), .mov (.t 8), some (54, true)⟩,
  ⟨(some 57), .bin .eql (.t 55) (.t 56), some (54, true)⟩,
  ⟨(some 58), .pick (.t 54) (.t 57) (.c (.bool false)), none⟩,
  ⟨(some 59), .mov (.t 58), none⟩,
  ⟨(some 60), .mov (.t 9), some (59, true)⟩,
  ⟨(some 61), .mov (.t 11), some (59, true)⟩,
  ⟨(some 62), .call (.c (.fn 19 [] [])) [(.t 60), (.t 61)], some (59, true)⟩,
  ⟨(some 63), .pick (.t 59) (.t 62) (.c (.bool false)), none⟩,
  ⟨(some 64), .mov (.t 63), none⟩,
  ⟨(some 65), .mov (.t 10), some (64, true)⟩,
  ⟨(some 66), .mov (.t 12), some (64, true)⟩,
  ⟨(some 67), .bin .eql (.t 65) (.t 66), some (64, true)⟩,
  ⟨(some 68), .pick (.t 64) (.t 67) (.c (.bool false)), none⟩,
  ⟨(some 4), .mov (.t 68), none⟩] (some [[], [0, 0], [1], [2, 1, 1], [1], [4, 3, 1], [3, 5, 1], [1, 6], [7, 5], [8], [8], [9, 10, 8, 8], [8, 11], [12, 11], [13], [13], [14, 15, 13], [13, 16], [17, 13], [18], [18], [19, 20, 18, 18], [18, 21], [22, 21], [23], [23], [24, 25, 23], [23, 26], [27, 23, 0, 1, 2, 3, 4, 5, 6, 7, 8, 9, 10, 11, 12, 13, 14, 15, 16, 17, 18, 19, 20, 21, 22, 23, 24, 25, 26, 27]]))
 (.ret)))))))
theorem fn7 : env0.fn 7 = some ⟨69, ic7, [.t 4]⟩ := by kernel_rfl
theorem rchV_eq {n : Int} {es : List (Int × Int)} (hn : zel n es = 0 → n ≤ 12) (v : Int) : ∃ (l : List Int) (e : Int), rchV n es v = .tup [vsI l, .int .i64 e] ∧ l.length ≤ 1000000 := by
 unfold rchV
 split
 ·rename_i hg
  have := hn (zhz hg).1
  exact ⟨_, 0, rfl, by have := zji (zhq (es.map fun e => (e.1.toNat, e.2.toNat)) n.toNat v.toNat n.toNat) n.toNat; omega⟩
 ·exact ⟨[], _, rfl, Nat.zero_le _⟩
theorem disV_eq {n : Int} {es : List (Int × Int)} (hn : zel n es = 0 → n ≤ 12) (v : Int) : ∃ (l : List Int) (e : Int), disV n es v = .tup [vsI l, .int .i64 e] ∧ l.length ≤ 1000000 := by
 unfold disV
 split
 ·rename_i hg
  have := hn (zhz hg).1
  exact ⟨_, 0, rfl, by rw [zf5]; omega⟩
 ·exact ⟨[], _, rfl, Nat.zero_le _⟩
set_option maxRecDepth 100000 in
set_option maxHeartbeats 4000000 in
theorem law7 (n : Int) (es : List (Int × Int)) (v : Int) : PF Try.prog 7 [cG n es, .int .i64 v] (.bool true) := by
 have pF := few11 n es
 refine zbk env0_ok fn7 [(0, .agg [.int .i64 n, .vs (cE es)]), (1, .int .i64 v)] (by show 2 ≤ 69; decide) rfl fun w0 N0 => ?_
 unfold ic7
 refine za7 (za0 rfl (zeo rfl rfl (za3 rfl (za5 (za4 ?_)))))
 refine zc5 [] [(0, 0, [.int .i64 n, .vs (cE es)])] [(1, .int .i64 v), (2, .vptr [.int .i64 n, .vs (cE es)])] rfl (.cons rfl rfl .nil) .nil (.cons rfl (.same rfl) (.cons rfl (.fptr rfl rfl) .nil)) ?_
 repeat (first | refine za7 ?_ | refine za0 rfl ?_ | refine zat rfl rfl rfl rfl ?_)
 refine zaw rfl rfl pF (fun h => Bool.noConfusion (show false = true from h)) ?_
 cases hf : fewB n es with
 | false =>
  repeat (first | refine za7 ?_ | refine za0 rfl ?_ | refine za5 ?_ | refine za4 ?_ | refine zdu rfl ?_ | refine o_un rfl rfl ?_)
  refine zaw rfl rfl zpc (fun h => Bool.noConfusion (show false = true from h)) ?_
  repeat (first | refine za5 ?_ | refine za4 ?_ | refine zau ?_ | refine zah ?_ | refine za3 rfl ?_)
  exact zar ⟨.inr rfl, _, rfl, rfl⟩
 | true =>
 obtain ⟨_, h8⟩ := zq4 hf
 have hn : zel n es = 0 → n ≤ 12 := fun h => by have := (h8 h).1; omega
 have p31 := reach31 n es hn v
 have p32 := reach32 n es v
 have p22 := zlf n es hn v
 have p33 := zlg n es v
 obtain ⟨a, e, ha, hal⟩ := rchV_eq hn v
 obtain ⟨c, d, hc, hcl⟩ := disV_eq hn v
 rw [ha] at p31 p32
 rw [hc] at p22 p33
 have p19 := same19 a hal
 have q19 := same19 c hcl
 have p34 := zpl n es
 have p35 := zpm n es
 repeat (first | refine za7 ?_ | refine za0 rfl ?_ | refine za5 ?_ | refine za4 ?_ | refine zao ?_ | refine zdw rfl ?_ | refine za3 rfl ?_ | refine zat rfl rfl rfl rfl ?_ | refine o_un rfl rfl ?_)
 refine zaw rfl rfl p31 (fun h => Bool.noConfusion (show false = true from h)) ?_
 repeat (first | refine za7 ?_ | refine za0 rfl ?_ | refine za5 ?_ | refine za4 ?_ | refine za3 rfl ?_ | refine zat rfl rfl rfl rfl ?_ | refine zcg rfl rfl ?_)
 refine zaw rfl rfl p32 (fun h => Bool.noConfusion (show false = true from h)) ?_
 repeat (first | refine za7 ?_ | refine za0 rfl ?_ | refine za5 ?_ | refine za4 ?_ | refine za3 rfl ?_ | refine zat rfl rfl rfl rfl ?_ | refine zcg rfl rfl ?_)
 refine zaw rfl rfl p22 (fun h => Bool.noConfusion (show false = true from h)) ?_
 repeat (first | refine za7 ?_ | refine za0 rfl ?_ | refine za5 ?_ | refine za4 ?_ | refine za3 rfl ?_ | refine zat rfl rfl rfl rfl ?_ | refine zcg rfl rfl ?_)
 refine zaw rfl rfl p33 (fun h => Bool.noConfusion (show false = true from h)) ?_
 repeat (first | refine za7 ?_ | refine za5 ?_ | refine za4 ?_ | refine za3 rfl ?_ | refine zcg rfl rfl ?_)
 refine zmc env0_ok [(12, [], .bool true), (34, [cG n es], .int .i64 (zel n es)), (35, [cG n es], .int .i64 (zel n es)), (19, [vsI a, vsI a], .bool true), (19, [vsI c, vsI c], .bool true)] (fun x hx => by
  rcases List.mem_cons.1 hx with rfl | hx
  ·exact zpc
  rcases List.mem_cons.1 hx with rfl | hx
  ·exact p34
  rcases List.mem_cons.1 hx with rfl | hx
  ·exact p35
  rcases List.mem_cons.1 hx with rfl | hx
  ·exact p19
  obtain rfl := List.mem_singleton.1 hx
  exact q19) (fun f => Nat.beq f 12 || Nat.beq f 34 || Nat.beq f 35 || Nat.beq f 19) rfl rfl rfl ?_
 have lk2 : zdk [(19, [vsI a, vsI a], .bool true), (19, [vsI c, vsI c], .bool true)] 19 [vsI c, vsI c] = some (.bool true) := by
  by_cases hab : a = c
  ·subst hab
   exact zbn
  ·refine zi2 (fun e => hab ?_) zbn
   injection e with e _
   injection e with e
   have := congrArg (List.map fun l => match l with | [AV.int _ z] => z | _ => 0) e
   simpa [List.map_map, Function.comp_def] using this
 refine zaw rfl rfl zbn (fun h => Bool.noConfusion (show false = true from h)) ?_
 repeat (first | refine zef rfl ?_ | refine za3 rfl ?_ | refine zat rfl rfl rfl rfl ?_)
 refine zaw rfl rfl (zbo (by decide) zbn) (fun h => Bool.noConfusion (show false = true from h)) ?_
 repeat (first | refine zef rfl ?_ | refine zat rfl rfl rfl rfl ?_)
 refine zaw rfl rfl (zbo (by decide) (zbo (by decide) zbn)) (fun h => Bool.noConfusion (show false = true from h)) ?_
 repeat (first | refine zef rfl ?_)
 refine zkr rfl rfl (by show some (AV.bool (zel n es == zel n es)) = _; simp) ?_
 repeat (first | refine zef rfl ?_ | refine za3 rfl ?_ | refine zav rfl rfl ?_)
 refine zaw rfl rfl (zbo (by decide) (zbo (by decide) (zbo (by decide) zbn))) (fun h => Bool.noConfusion (show false = true from h)) ?_
 repeat (first | refine zef rfl ?_ | refine za3 rfl ?_ | refine zav rfl rfl ?_)
 refine zkr rfl rfl (by show some (AV.bool (e == e)) = _; simp) ?_
 repeat (first | refine zef rfl ?_ | refine za3 rfl ?_ | refine zav rfl rfl ?_)
 refine zaw rfl rfl (zbo (by decide) (zbo (by decide) (zbo (by decide) lk2))) (fun h => Bool.noConfusion (show false = true from h)) ?_
 repeat (first | refine zef rfl ?_ | refine za3 rfl ?_ | refine zav rfl rfl ?_)
 refine zkr rfl rfl (by show some (AV.bool (d == d)) = _; simp) ?_
 repeat (first | refine za5 ?_ | refine za4 ?_ | refine zau ?_ | refine za3 rfl ?_ | refine zav rfl rfl ?_)
 exact zar ⟨.inr rfl, _, rfl, rfl⟩
end Go.Proofs.Ytoagikifehmlpaa
