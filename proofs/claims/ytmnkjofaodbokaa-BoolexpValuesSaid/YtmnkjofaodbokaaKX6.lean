/-
  THE LAW OF VALUES.; WHAT EVERY LAW OF THE SEAT SHARES.; READING THE ARGUMENTS.
-/
import Derived.Test.YtmnkjofaodbokaaKX5
import Derived.Test.YtmnkjofaodbokaaRows
import Derived.JoinedCond
namespace Go.Proofs.Ytmnkjofaodbokaa
open Go Go.Am
theorem zr7 (x : Ex) (v : List Bool) : ∃ b e, zp8 x v = .tup [.bool b, .int .i64 e] := by
 unfold zp8
 split
 ·exact ⟨_, _, rfl⟩
 ·exact ⟨_, _, rfl⟩
theorem zpo (x : Ex) (n : Nat) : ∃ a b e, zjo x n = .tup [.agg [.int .i64 a, .int .u64 b], .int .i64 e] := by
 unfold zjo
 split
 ·exact ⟨_, _, _, rfl⟩
 ·split
  ·exact ⟨_, _, _, rfl⟩
  ·exact ⟨_, _, _, rfl⟩
-- pneumatic/pneumaticlaw05.BoolexpValues
def ic4 : IC := .seq (.region [⟨(some 3), .box (.t 0), none⟩,
  ⟨(some 4), .box (.t 1), none⟩,
  ⟨(some 6), .mov (.c (.bool false)), none⟩] none)
 (.seq (.seq (.region [⟨(some 15), .load (some 3) (.t 3), none⟩,
  ⟨(some 16), .load (some 3) (.t 4), none⟩,
  ⟨(some 17), .bslice 3 2 [.int .i64 0, .int .i64 0, .nils, .int .i64 0, .int .i64 0, .nils] [(0, 3, (.t 15)), (3, 3, (.t 16))], none⟩,
  ⟨(some 18), .call (.c (.fn 17 [] [])) [(.t 17)], none⟩,
  ⟨(some 19), .un .not (.t 18), none⟩,
  ⟨(some 20), .mov (.t 19), none⟩,
  ⟨(some 21), .mov (.t 2), some (20, false)⟩,
  ⟨(some 22), .len false (.t 21), some (20, false)⟩,
  ⟨(some 23), .bin .gtr (.t 22) (.c (.int .i64 512)), some (20, false)⟩,
  ⟨(some 24), .pick (.t 20) (.c (.bool true)) (.t 23), none⟩] none)
 (.cond (.t 24) (.seq (.region [⟨(some 25), .call (.c (.fn 13 [] [])) [], none⟩,
  ⟨(some 6), .mov (.t 25), none⟩] none)
 (.ret))
 (.skip)))
 (.seq (.region [⟨(some 27), .load (some 3) (.t 3), none⟩,
  ⟨(some 28), .mov (.t 2), none⟩,
  ⟨(some 29), .call (.c (.fn 18 [] [])) [(.t 27), (.t 28)], none⟩,
  ⟨(some 26), .mov (.t 29), none⟩,
  ⟨(some 30), .extract (.t 26) 0, none⟩,
  ⟨(some 31), .extract (.t 26) 1, none⟩,
  ⟨(some 7), .mov (.t 30), none⟩,
  ⟨(some 8), .mov (.t 31), none⟩] none)
 (.seq (.region [⟨(some 33), .load (some 3) (.t 3), none⟩,
  ⟨(some 34), .mov (.t 2), none⟩,
  ⟨(some 35), .call (.c (.fn 19 [] [])) [(.t 33), (.t 34)], none⟩,
  ⟨(some 32), .mov (.t 35), none⟩,
  ⟨(some 36), .extract (.t 32) 0, none⟩,
  ⟨(some 37), .extract (.t 32) 1, none⟩,
  ⟨(some 9), .mov (.t 36), none⟩,
  ⟨(some 10), .mov (.t 37), none⟩] none)
 (.seq (.region [⟨(some 39), .load (some 3) (.t 3), none⟩,
  ⟨(some 40), .mov (.t 2), none⟩,
  ⟨(some 41), .len false (.t 40), none⟩,
  ⟨(some 42), .call (.c (.fn 20 [] [])) [(.t 39), (.t 41)], none⟩,
  ⟨(some 38), .mov (.t 42), none⟩,
  ⟨(some 43), .extract (.t 38) 0, none⟩,
  ⟨(some 44), .extract (.t 38) 1, none⟩,
  ⟨(some 11), .alloc [.int .i64 0, .int .u64 0], none⟩,
  ⟨none, .store 2 (.t 11) (.t 43), none⟩,
  ⟨(some 12), .mov (.t 44), none⟩] none)
 (.seq (.region [⟨(some 46), .load (some 3) (.t 3), none⟩,
  ⟨(some 47), .mov (.t 2), none⟩,
  ⟨(some 48), .len false (.t 47), none⟩,
  ⟨(some 49), .call (.c (.fn 21 [] [])) [(.t 46), (.t 48)], none⟩,
  ⟨(some 45), .mov (.t 49), none⟩,
  ⟨(some 50), .extract (.t 45) 0, none⟩,
  ⟨(some 51), .extract (.t 45) 1, none⟩,
  ⟨(some 13), .alloc [.int .i64 0, .int .u64 0], none⟩,
  ⟨none, .store 2 (.t 13) (.t 50), none⟩,
  ⟨(some 14), .mov (.t 51), none⟩] none)
 (.seq (.region [⟨(some 52), .call (.c (.fn 13 [] [])) [], none⟩,
  ⟨(some 53), .mov (.t 52), none⟩,
  ⟨(some 54), .mov (.t 7), some (53, true)⟩,
  ⟨(some 55), .mov (.t 9), some (53, true)⟩,
  ⟨(some 56), .eqb false (.t 54) (.t 55), some (53, true)⟩,
  ⟨(some 57), .pick (.t 53) (.t 56) (.c (.bool false)), none⟩,
  ⟨(some 58), .mov (.t 57), none⟩,
  ⟨(some 59), .mov (.t 8), some (58, true)⟩,
  ⟨(some 60), .mov (.t 10), some (58, true)⟩,
  ⟨(some 61), .bin .eql (.t 59) (.t 60), some (58, true)⟩,
  ⟨(some 62), .pick (.t 58) (.t 61) (.c (.bool false)), none⟩,
  ⟨(some 63), .mov (.t 62), none⟩,
  ⟨(some 64), .load (some 2) (.t 11), some (63, true)⟩,
  ⟨(some 65), .load (some 2) (.t 13), some (63, true)⟩,
  ⟨(some 66), .eqs false [(0, .int), (1, .int)] (.t 64) (.t 65), some (63, true)⟩,
  ⟨(some 67), .pick (.t 63) (.t 66) (.c (.bool false)), none⟩,
  ⟨(some 68), .mov (.t 67), none⟩,
  ⟨(some 69), .mov (.t 12), some (68, true)⟩,
  ⟨(some 70), .mov (.t 14), some (68, true)⟩,
  ⟨(some 71), .bin .eql (.t 69) (.t 70), some (68, true)⟩,
  ⟨(some 72), .pick (.t 68) (.t 71) (.c (.bool false)), none⟩,
  ⟨(some 73), .mov (.t 72), none⟩,
  ⟨(some 74), .load (some 3) (.t 3), some (73, true)⟩,
  ⟨(some 75), .load (some 3) (.t 4), some (73, true)⟩,
  ⟨(some 76), .call (.c (.fn 22 [] [])) [(.t 74), (.t 75)], some (73, true)⟩,
  ⟨(some 77), .load (some 3) (.t 3), some (73, true)⟩,
  ⟨(some 78), .load (some 3) (.t 4), some (73, true)⟩,
  ⟨(some 79), .call (.c (.fn 16 [] [])) [(.t 77), (.t 78)], some (73, true)⟩,
  ⟨(some 80), .eqb false (.t 76) (.t 79), some (73, true)⟩,
  ⟨(some 81), .pick (.t 73) (.t 80) (.c (.bool false)), none⟩,
  ⟨(some 6), .mov (.t 81), none⟩] (some [[], [0, 0], [1], [1], [2, 3, 1], [1, 4], [5, 1], [6], [6], [7, 8, 6], [6, 9], [10, 6], [11], [11], [12, 13, 11], [11, 14], [15, 11], [16], [16], [17, 18, 16], [16, 19], [20, 16], [21], [21], [22, 23, 21, 21], [21], [21], [25, 26, 24, 21], [24, 27, 21], [21, 28], [29, 27, 0, 1, 2, 3, 4, 5, 6, 7, 8, 9, 10, 11, 12, 13, 14, 15, 16, 17, 18, 19, 20, 21, 22, 23, 24, 25, 26, 27, 28, 29]]))
 (.ret)))))))
theorem fn4 : env0.fn 4 = some ⟨82, ic4, [.t 6]⟩ := by kernel_rfl
set_option maxRecDepth 100000 in
set_option maxHeartbeats 8000000 in
theorem law4 (x : Ex) (hs : Slim x) (y : Ex) (hs2 : Slim y) (v : List Bool) : PF Try.prog 4 [.agg (cX x), .agg (cX y), vsB v] (.bool true) := by
 have p17 := few17 [x, y] (by show 2 < 9223372036854775807; decide) (fun z hz => by
  rcases List.mem_cons.1 hz with rfl | hz
  ·exact hs
  obtain rfl := List.mem_singleton.1 hz
  exact hs2)
 have p18 := eval81 x hs v
 have p19 := eval19 x hs v
 have p20 := table20 x hs v.length
 have p21 := table21 x hs v.length
 have p22 := same22 x y hs hs2
 have p16 := same16 x y hs hs2
 obtain ⟨b1, e1, h1⟩ := zr7 x v
 obtain ⟨a2, b2, e2, h2⟩ := zpo x v.length
 rw [h1] at p18 p19
 rw [h2] at p20 p21
 generalize zsr x y = sm at *
 generalize [x, y].all zm5 = fw at *
 clear h1 h2
 have hvl : (v.map fun b => ([.bool b] : List AV)).length = v.length := List.length_map ..
 obtain ⟨op, ix, args⟩ := x
 obtain ⟨op2, ix2, args2⟩ := y
 refine zbx env0_ok fn4 [(0, .agg (cX (.nd op ix args))), (1, .agg (cX (.nd op2 ix2 args2))), (2, vsB v)] (by show 3 ≤ 82; decide) rfl fun w0 N0 => ?_
 unfold ic4
 refine zai (za0 rfl (zbd rfl rfl (zbd rfl rfl (zad rfl (zab (zac ?_))))))
 refine ze6 [] [(0, 0, cX (.nd op ix args)), (1, 1, cX (.nd op2 ix2 args2))] [(2, vsB v), (3, .vptr (cX (.nd op ix args))), (4, .vptr (cX (.nd op2 ix2 args2)))] rfl (.cons rfl rfl (.cons rfl rfl .nil)) .nil (.cons rfl (.same rfl) (.cons rfl (.fptr rfl rfl) (.cons rfl (.fptr rfl rfl) .nil))) ?_
 repeat (first | refine zai ?_ | refine za0 rfl ?_ | refine zab ?_ | refine zac ?_ | refine zbg ?_ | refine zaj ?_ | refine zat ?_ | refine zbl rfl ?_ | refine zbo rfl ?_ | refine zb5 ?_ | refine zaz ?_ | refine zb4 ?_ | refine za6 ?_ | refine za4 rfl ?_ | refine za2 ?_ | refine za7 ?_ | refine zbs rfl ?_ | refine zbu rfl rfl ?_ | refine zc6 rfl ?_ | refine zad rfl ?_ | refine zam rfl rfl ?_ | refine zar rfl rfl rfl rfl ?_ | refine zak rfl rfl rfl rfl rfl rfl rfl ?_ | refine za5 rfl ?_ | refine zal rfl rfl rfl ?_ | refine za1 rfl rfl rfl ?_ | refine zag rfl rfl rfl rfl ?_ | refine zau ?_ | refine zah rfl rfl ?_ | refine zaa rfl rfl ?_ | refine zc2 rfl rfl ?_ | refine zbh rfl rfl ?_ | refine zb0 rfl rfl ?_ | refine zao rfl rfl ?_ | refine zbd rfl rfl ?_ | refine zaf rfl rfl rfl ?_ | refine zax rfl rfl ?_ | refine zan rfl rfl rfl rfl ?_ | refine za9 rfl rfl rfl rfl ?_ | refine zaq rfl rfl rfl rfl ?_ | refine zb9 rfl rfl ?_ | refine zb6 rfl rfl ?_ | refine zae rfl rfl ?_ | refine zba ?_ | refine zas env0_ok rfl rfl rfl ?_ | refine zav (op := .add) rfl rfl rfl ?_ | refine zav (op := .sub) rfl rfl rfl ?_ | refine zb8 rfl rfl rfl ?_ | refine zb7 rfl rfl rfl ?_ | refine zb2 rfl rfl rfl ?_ | refine zb1 rfl rfl rfl ?_ | refine zb3 rfl rfl (by omega) (by assumption) rfl ?_ | refine za1 rfl rfl (decide_eq_true ⟨by omega, by omega⟩) ?_ | refine zay rfl rfl (by omega) (by omega) ?_ | refine zap rfl rfl rfl ?_ | refine zbc rfl ?_ | refine zbb rfl ?_)
 refine zbn rfl rfl p17 (fun _ => rfl) ?_
 cases fw with
 | false =>
  repeat (first | refine zai ?_ | refine za0 rfl ?_ | refine zab ?_ | refine zac ?_ | refine zbg ?_ | refine zaj ?_ | refine zat ?_ | refine zbl rfl ?_ | refine zbo rfl ?_ | refine zb5 ?_ | refine zaz ?_ | refine zb4 ?_ | refine za6 ?_ | refine za4 rfl ?_ | refine za2 ?_ | refine za7 ?_ | refine zbs rfl ?_ | refine zbu rfl rfl ?_ | refine zc6 rfl ?_ | refine zad rfl ?_ | refine zam rfl rfl ?_ | refine zar rfl rfl rfl rfl ?_ | refine zak rfl rfl rfl rfl rfl rfl rfl ?_ | refine za5 rfl ?_ | refine zal rfl rfl rfl ?_ | refine za1 rfl rfl rfl ?_ | refine zag rfl rfl rfl rfl ?_ | refine zau ?_ | refine zah rfl rfl ?_ | refine zaa rfl rfl ?_ | refine zc2 rfl rfl ?_ | refine zbh rfl rfl ?_ | refine zb0 rfl rfl ?_ | refine zao rfl rfl ?_ | refine zbd rfl rfl ?_ | refine zaf rfl rfl rfl ?_ | refine zax rfl rfl ?_ | refine zan rfl rfl rfl rfl ?_ | refine za9 rfl rfl rfl rfl ?_ | refine zaq rfl rfl rfl rfl ?_ | refine zb9 rfl rfl ?_ | refine zb6 rfl rfl ?_ | refine zae rfl rfl ?_ | refine zba ?_ | refine zas env0_ok rfl rfl rfl ?_ | refine zav (op := .add) rfl rfl rfl ?_ | refine zav (op := .sub) rfl rfl rfl ?_ | refine zb8 rfl rfl rfl ?_ | refine zb7 rfl rfl rfl ?_ | refine zb2 rfl rfl rfl ?_ | refine zb1 rfl rfl rfl ?_ | refine zb3 rfl rfl (by omega) (by assumption) rfl ?_ | refine za1 rfl rfl (decide_eq_true ⟨by omega, by omega⟩) ?_ | refine zay rfl rfl (by omega) (by omega) ?_ | refine zap rfl rfl rfl ?_ | refine zbc rfl ?_ | refine zbb rfl ?_)
  refine zbn rfl rfl zm9 (fun _ => rfl) ?_
  repeat (first | refine zai ?_ | refine za0 rfl ?_ | refine zab ?_ | refine zac ?_ | refine zbg ?_ | refine zaj ?_ | refine zat ?_ | refine zbl rfl ?_ | refine zbo rfl ?_ | refine zb5 ?_ | refine zaz ?_ | refine zb4 ?_ | refine za6 ?_ | refine za4 rfl ?_ | refine za2 ?_ | refine za7 ?_ | refine zbs rfl ?_ | refine zbu rfl rfl ?_ | refine zc6 rfl ?_ | refine zad rfl ?_ | refine zam rfl rfl ?_ | refine zar rfl rfl rfl rfl ?_ | refine zak rfl rfl rfl rfl rfl rfl rfl ?_ | refine za5 rfl ?_ | refine zal rfl rfl rfl ?_ | refine za1 rfl rfl rfl ?_ | refine zag rfl rfl rfl rfl ?_ | refine zau ?_ | refine zah rfl rfl ?_ | refine zaa rfl rfl ?_ | refine zc2 rfl rfl ?_ | refine zbh rfl rfl ?_ | refine zb0 rfl rfl ?_ | refine zao rfl rfl ?_ | refine zbd rfl rfl ?_ | refine zaf rfl rfl rfl ?_ | refine zax rfl rfl ?_ | refine zan rfl rfl rfl rfl ?_ | refine za9 rfl rfl rfl rfl ?_ | refine zaq rfl rfl rfl rfl ?_ | refine zb9 rfl rfl ?_ | refine zb6 rfl rfl ?_ | refine zae rfl rfl ?_ | refine zba ?_ | refine zas env0_ok rfl rfl rfl ?_ | refine zav (op := .add) rfl rfl rfl ?_ | refine zav (op := .sub) rfl rfl rfl ?_ | refine zb8 rfl rfl rfl ?_ | refine zb7 rfl rfl rfl ?_ | refine zb2 rfl rfl rfl ?_ | refine zb1 rfl rfl rfl ?_ | refine zb3 rfl rfl (by omega) (by assumption) rfl ?_ | refine za1 rfl rfl (decide_eq_true ⟨by omega, by omega⟩) ?_ | refine zay rfl rfl (by omega) (by omega) ?_ | refine zap rfl rfl rfl ?_ | refine zbc rfl ?_ | refine zbb rfl ?_)
  exact zbe ⟨.inr rfl, _, rfl, rfl⟩
 | true =>
  repeat (first | refine zai ?_ | refine za0 rfl ?_ | refine zab ?_ | refine zac ?_ | refine zbg ?_ | refine zaj ?_ | refine zat ?_ | refine zbl rfl ?_ | refine zbo rfl ?_ | refine zb5 ?_ | refine zaz ?_ | refine zb4 ?_ | refine za6 ?_ | refine za4 rfl ?_ | refine za2 ?_ | refine za7 ?_ | refine zbs rfl ?_ | refine zbu rfl rfl ?_ | refine zc6 rfl ?_ | refine zad rfl ?_ | refine zam rfl rfl ?_ | refine zar rfl rfl rfl rfl ?_ | refine zak rfl rfl rfl rfl rfl rfl rfl ?_ | refine za5 rfl ?_ | refine zal rfl rfl rfl ?_ | refine za1 rfl rfl rfl ?_ | refine zag rfl rfl rfl rfl ?_ | refine zau ?_ | refine zah rfl rfl ?_ | refine zaa rfl rfl ?_ | refine zc2 rfl rfl ?_ | refine zbh rfl rfl ?_ | refine zb0 rfl rfl ?_ | refine zao rfl rfl ?_ | refine zbd rfl rfl ?_ | refine zaf rfl rfl rfl ?_ | refine zax rfl rfl ?_ | refine zan rfl rfl rfl rfl ?_ | refine za9 rfl rfl rfl rfl ?_ | refine zaq rfl rfl rfl rfl ?_ | refine zb9 rfl rfl ?_ | refine zb6 rfl rfl ?_ | refine zae rfl rfl ?_ | refine zba ?_ | refine zas env0_ok rfl rfl rfl ?_ | refine zav (op := .add) rfl rfl rfl ?_ | refine zav (op := .sub) rfl rfl rfl ?_ | refine zb8 rfl rfl rfl ?_ | refine zb7 rfl rfl rfl ?_ | refine zb2 rfl rfl rfl ?_ | refine zb1 rfl rfl rfl ?_ | refine zb3 rfl rfl (by omega) (by assumption) rfl ?_ | refine za1 rfl rfl (decide_eq_true ⟨by omega, by omega⟩) ?_ | refine zay rfl rfl (by omega) (by omega) ?_ | refine zap rfl rfl rfl ?_ | refine zbc rfl ?_ | refine zbb rfl ?_)
  refine zbm rfl rfl rfl (fun h1 => ?_) fun h1 => ?_
  ·repeat (first | refine zai ?_ | refine za0 rfl ?_ | refine zab ?_ | refine zac ?_ | refine zbg ?_ | refine zaj ?_ | refine zat ?_ | refine zbl rfl ?_ | refine zbo rfl ?_ | refine zb5 ?_ | refine zaz ?_ | refine zb4 ?_ | refine za6 ?_ | refine za4 rfl ?_ | refine za2 ?_ | refine za7 ?_ | refine zbs rfl ?_ | refine zbu rfl rfl ?_ | refine zc6 rfl ?_ | refine zad rfl ?_ | refine zam rfl rfl ?_ | refine zar rfl rfl rfl rfl ?_ | refine zak rfl rfl rfl rfl rfl rfl rfl ?_ | refine za5 rfl ?_ | refine zal rfl rfl rfl ?_ | refine za1 rfl rfl rfl ?_ | refine zag rfl rfl rfl rfl ?_ | refine zau ?_ | refine zah rfl rfl ?_ | refine zaa rfl rfl ?_ | refine zc2 rfl rfl ?_ | refine zbh rfl rfl ?_ | refine zb0 rfl rfl ?_ | refine zao rfl rfl ?_ | refine zbd rfl rfl ?_ | refine zaf rfl rfl rfl ?_ | refine zax rfl rfl ?_ | refine zan rfl rfl rfl rfl ?_ | refine za9 rfl rfl rfl rfl ?_ | refine zaq rfl rfl rfl rfl ?_ | refine zb9 rfl rfl ?_ | refine zb6 rfl rfl ?_ | refine zae rfl rfl ?_ | refine zba ?_ | refine zas env0_ok rfl rfl rfl ?_ | refine zav (op := .add) rfl rfl rfl ?_ | refine zav (op := .sub) rfl rfl rfl ?_ | refine zb8 rfl rfl rfl ?_ | refine zb7 rfl rfl rfl ?_ | refine zb2 rfl rfl rfl ?_ | refine zb1 rfl rfl rfl ?_ | refine zb3 rfl rfl (by omega) (by assumption) rfl ?_ | refine za1 rfl rfl (decide_eq_true ⟨by omega, by omega⟩) ?_ | refine zay rfl rfl (by omega) (by omega) ?_ | refine zap rfl rfl rfl ?_ | refine zbc rfl ?_ | refine zbb rfl ?_)
   refine zbn rfl rfl zm9 (fun _ => rfl) ?_
   repeat (first | refine zai ?_ | refine za0 rfl ?_ | refine zab ?_ | refine zac ?_ | refine zbg ?_ | refine zaj ?_ | refine zat ?_ | refine zbl rfl ?_ | refine zbo rfl ?_ | refine zb5 ?_ | refine zaz ?_ | refine zb4 ?_ | refine za6 ?_ | refine za4 rfl ?_ | refine za2 ?_ | refine za7 ?_ | refine zbs rfl ?_ | refine zbu rfl rfl ?_ | refine zc6 rfl ?_ | refine zad rfl ?_ | refine zam rfl rfl ?_ | refine zar rfl rfl rfl rfl ?_ | refine zak rfl rfl rfl rfl rfl rfl rfl ?_ | refine za5 rfl ?_ | refine zal rfl rfl rfl ?_ | refine za1 rfl rfl rfl ?_ | refine zag rfl rfl rfl rfl ?_ | refine zau ?_ | refine zah rfl rfl ?_ | refine zaa rfl rfl ?_ | refine zc2 rfl rfl ?_ | refine zbh rfl rfl ?_ | refine zb0 rfl rfl ?_ | refine zao rfl rfl ?_ | refine zbd rfl rfl ?_ | refine zaf rfl rfl rfl ?_ | refine zax rfl rfl ?_ | refine zan rfl rfl rfl rfl ?_ | refine za9 rfl rfl rfl rfl ?_ | refine zaq rfl rfl rfl rfl ?_ | refine zb9 rfl rfl ?_ | refine zb6 rfl rfl ?_ | refine zae rfl rfl ?_ | refine zba ?_ | refine zas env0_ok rfl rfl rfl ?_ | refine zav (op := .add) rfl rfl rfl ?_ | refine zav (op := .sub) rfl rfl rfl ?_ | refine zb8 rfl rfl rfl ?_ | refine zb7 rfl rfl rfl ?_ | refine zb2 rfl rfl rfl ?_ | refine zb1 rfl rfl rfl ?_ | refine zb3 rfl rfl (by omega) (by assumption) rfl ?_ | refine za1 rfl rfl (decide_eq_true ⟨by omega, by omega⟩) ?_ | refine zay rfl rfl (by omega) (by omega) ?_ | refine zap rfl rfl rfl ?_ | refine zbc rfl ?_ | refine zbb rfl ?_)
   exact zbe ⟨.inr rfl, _, rfl, rfl⟩
  repeat (first | refine zai ?_ | refine za0 rfl ?_ | refine zab ?_ | refine zac ?_ | refine zbg ?_ | refine zaj ?_ | refine zat ?_ | refine zbl rfl ?_ | refine zbo rfl ?_ | refine zb5 ?_ | refine zaz ?_ | refine zb4 ?_ | refine za6 ?_ | refine za4 rfl ?_ | refine za2 ?_ | refine za7 ?_ | refine zbs rfl ?_ | refine zbu rfl rfl ?_ | refine zc6 rfl ?_ | refine zad rfl ?_ | refine zam rfl rfl ?_ | refine zar rfl rfl rfl rfl ?_ | refine zak rfl rfl rfl rfl rfl rfl rfl ?_ | refine za5 rfl ?_ | refine zal rfl rfl rfl ?_ | refine za1 rfl rfl rfl ?_ | refine zag rfl rfl rfl rfl ?_ | refine zau ?_ | refine zah rfl rfl ?_ | refine zaa rfl rfl ?_ | refine zc2 rfl rfl ?_ | refine zbh rfl rfl ?_ | refine zb0 rfl rfl ?_ | refine zao rfl rfl ?_ | refine zbd rfl rfl ?_ | refine zaf rfl rfl rfl ?_ | refine zax rfl rfl ?_ | refine zan rfl rfl rfl rfl ?_ | refine za9 rfl rfl rfl rfl ?_ | refine zaq rfl rfl rfl rfl ?_ | refine zb9 rfl rfl ?_ | refine zb6 rfl rfl ?_ | refine zae rfl rfl ?_ | refine zba ?_ | refine zas env0_ok rfl rfl rfl ?_ | refine zav (op := .add) rfl rfl rfl ?_ | refine zav (op := .sub) rfl rfl rfl ?_ | refine zb8 rfl rfl rfl ?_ | refine zb7 rfl rfl rfl ?_ | refine zb2 rfl rfl rfl ?_ | refine zb1 rfl rfl rfl ?_ | refine zb3 rfl rfl (by omega) (by assumption) rfl ?_ | refine za1 rfl rfl (decide_eq_true ⟨by omega, by omega⟩) ?_ | refine zay rfl rfl (by omega) (by omega) ?_ | refine zap rfl rfl rfl ?_ | refine zbc rfl ?_ | refine zbb rfl ?_)
  refine zbn rfl rfl p18 (fun h => Bool.noConfusion (show false = true from h)) ?_
  repeat (first | refine zai ?_ | refine za0 rfl ?_ | refine zab ?_ | refine zac ?_ | refine zbg ?_ | refine zaj ?_ | refine zat ?_ | refine zbl rfl ?_ | refine zbo rfl ?_ | refine zb5 ?_ | refine zaz ?_ | refine zb4 ?_ | refine za6 ?_ | refine za4 rfl ?_ | refine za2 ?_ | refine za7 ?_ | refine zbs rfl ?_ | refine zbu rfl rfl ?_ | refine zc6 rfl ?_ | refine zad rfl ?_ | refine zam rfl rfl ?_ | refine zar rfl rfl rfl rfl ?_ | refine zak rfl rfl rfl rfl rfl rfl rfl ?_ | refine za5 rfl ?_ | refine zal rfl rfl rfl ?_ | refine za1 rfl rfl rfl ?_ | refine zag rfl rfl rfl rfl ?_ | refine zau ?_ | refine zah rfl rfl ?_ | refine zaa rfl rfl ?_ | refine zc2 rfl rfl ?_ | refine zbh rfl rfl ?_ | refine zb0 rfl rfl ?_ | refine zao rfl rfl ?_ | refine zbd rfl rfl ?_ | refine zaf rfl rfl rfl ?_ | refine zax rfl rfl ?_ | refine zan rfl rfl rfl rfl ?_ | refine za9 rfl rfl rfl rfl ?_ | refine zaq rfl rfl rfl rfl ?_ | refine zb9 rfl rfl ?_ | refine zb6 rfl rfl ?_ | refine zae rfl rfl ?_ | refine zba ?_ | refine zas env0_ok rfl rfl rfl ?_ | refine zav (op := .add) rfl rfl rfl ?_ | refine zav (op := .sub) rfl rfl rfl ?_ | refine zb8 rfl rfl rfl ?_ | refine zb7 rfl rfl rfl ?_ | refine zb2 rfl rfl rfl ?_ | refine zb1 rfl rfl rfl ?_ | refine zb3 rfl rfl (by omega) (by assumption) rfl ?_ | refine za1 rfl rfl (decide_eq_true ⟨by omega, by omega⟩) ?_ | refine zay rfl rfl (by omega) (by omega) ?_ | refine zap rfl rfl rfl ?_ | refine zbc rfl ?_ | refine zbb rfl ?_)
  refine zbn rfl rfl p19 (fun h => Bool.noConfusion (show false = true from h)) ?_
  repeat (first | refine zai ?_ | refine za0 rfl ?_ | refine zab ?_ | refine zac ?_ | refine zbg ?_ | refine zaj ?_ | refine zat ?_ | refine zbl rfl ?_ | refine zbo rfl ?_ | refine zb5 ?_ | refine zaz ?_ | refine zb4 ?_ | refine za6 ?_ | refine za4 rfl ?_ | refine za2 ?_ | refine za7 ?_ | refine zbs rfl ?_ | refine zbu rfl rfl ?_ | refine zc6 rfl ?_ | refine zad rfl ?_ | refine zam rfl rfl ?_ | refine zar rfl rfl rfl rfl ?_ | refine zak rfl rfl rfl rfl rfl rfl rfl ?_ | refine za5 rfl ?_ | refine zal rfl rfl rfl ?_ | refine za1 rfl rfl rfl ?_ | refine zag rfl rfl rfl rfl ?_ | refine zau ?_ | refine zah rfl rfl ?_ | refine zaa rfl rfl ?_ | refine zc2 rfl rfl ?_ | refine zbh rfl rfl ?_ | refine zb0 rfl rfl ?_ | refine zao rfl rfl ?_ | refine zbd rfl rfl ?_ | refine zaf rfl rfl rfl ?_ | refine zax rfl rfl ?_ | refine zan rfl rfl rfl rfl ?_ | refine za9 rfl rfl rfl rfl ?_ | refine zaq rfl rfl rfl rfl ?_ | refine zb9 rfl rfl ?_ | refine zb6 rfl rfl ?_ | refine zae rfl rfl ?_ | refine zba ?_ | refine zas env0_ok rfl rfl rfl ?_ | refine zav (op := .add) rfl rfl rfl ?_ | refine zav (op := .sub) rfl rfl rfl ?_ | refine zb8 rfl rfl rfl ?_ | refine zb7 rfl rfl rfl ?_ | refine zb2 rfl rfl rfl ?_ | refine zb1 rfl rfl rfl ?_ | refine zb3 rfl rfl (by omega) (by assumption) rfl ?_ | refine za1 rfl rfl (decide_eq_true ⟨by omega, by omega⟩) ?_ | refine zay rfl rfl (by omega) (by omega) ?_ | refine zap rfl rfl rfl ?_ | refine zbc rfl ?_ | refine zbb rfl ?_)
  refine zbn rfl (by rw [hvl]; rfl) p20 (fun h => Bool.noConfusion (show false = true from h)) ?_
  repeat (first | refine zai ?_ | refine za0 rfl ?_ | refine zab ?_ | refine zac ?_ | refine zbg ?_ | refine zaj ?_ | refine zat ?_ | refine zbl rfl ?_ | refine zbo rfl ?_ | refine zb5 ?_ | refine zaz ?_ | refine zb4 ?_ | refine za6 ?_ | refine za4 rfl ?_ | refine za2 ?_ | refine za7 ?_ | refine zbs rfl ?_ | refine zbu rfl rfl ?_ | refine zc6 rfl ?_ | refine zad rfl ?_ | refine zam rfl rfl ?_ | refine zar rfl rfl rfl rfl ?_ | refine zak rfl rfl rfl rfl rfl rfl rfl ?_ | refine za5 rfl ?_ | refine zal rfl rfl rfl ?_ | refine za1 rfl rfl rfl ?_ | refine zag rfl rfl rfl rfl ?_ | refine zau ?_ | refine zah rfl rfl ?_ | refine zaa rfl rfl ?_ | refine zc2 rfl rfl ?_ | refine zbh rfl rfl ?_ | refine zb0 rfl rfl ?_ | refine zao rfl rfl ?_ | refine zbd rfl rfl ?_ | refine zaf rfl rfl rfl ?_ | refine zax rfl rfl ?_ | refine zan rfl rfl rfl rfl ?_ | refine za9 rfl rfl rfl rfl ?_ | refine zaq rfl rfl rfl rfl ?_ | refine zb9 rfl rfl ?_ | refine zb6 rfl rfl ?_ | refine zae rfl rfl ?_ | refine zba ?_ | refine zas env0_ok rfl rfl rfl ?_ | refine zav (op := .add) rfl rfl rfl ?_ | refine zav (op := .sub) rfl rfl rfl ?_ | refine zb8 rfl rfl rfl ?_ | refine zb7 rfl rfl rfl ?_ | refine zb2 rfl rfl rfl ?_ | refine zb1 rfl rfl rfl ?_ | refine zb3 rfl rfl (by omega) (by assumption) rfl ?_ | refine za1 rfl rfl (decide_eq_true ⟨by omega, by omega⟩) ?_ | refine zay rfl rfl (by omega) (by omega) ?_ | refine zap rfl rfl rfl ?_ | refine zbc rfl ?_ | refine zbb rfl ?_)
  refine zbn rfl (by rw [hvl]; rfl) p21 (fun h => Bool.noConfusion (show false = true from h)) ?_
  repeat (first | refine zai ?_ | refine za0 rfl ?_ | refine zab ?_ | refine zac ?_ | refine zbg ?_ | refine zaj ?_ | refine zat ?_ | refine zbl rfl ?_ | refine zbo rfl ?_ | refine zb5 ?_ | refine zaz ?_ | refine zb4 ?_ | refine za6 ?_ | refine za4 rfl ?_ | refine za2 ?_ | refine za7 ?_ | refine zbs rfl ?_ | refine zbu rfl rfl ?_ | refine zc6 rfl ?_ | refine zad rfl ?_ | refine zam rfl rfl ?_ | refine zar rfl rfl rfl rfl ?_ | refine zak rfl rfl rfl rfl rfl rfl rfl ?_ | refine za5 rfl ?_ | refine zal rfl rfl rfl ?_ | refine za1 rfl rfl rfl ?_ | refine zag rfl rfl rfl rfl ?_ | refine zau ?_ | refine zah rfl rfl ?_ | refine zaa rfl rfl ?_ | refine zc2 rfl rfl ?_ | refine zbh rfl rfl ?_ | refine zb0 rfl rfl ?_ | refine zao rfl rfl ?_ | refine zbd rfl rfl ?_ | refine zaf rfl rfl rfl ?_ | refine zax rfl rfl ?_ | refine zan rfl rfl rfl rfl ?_ | refine za9 rfl rfl rfl rfl ?_ | refine zaq rfl rfl rfl rfl ?_ | refine zb9 rfl rfl ?_ | refine zb6 rfl rfl ?_ | refine zae rfl rfl ?_ | refine zba ?_ | refine zav (op := .add) rfl rfl rfl ?_ | refine zav (op := .sub) rfl rfl rfl ?_ | refine zb8 rfl rfl rfl ?_ | refine zb7 rfl rfl rfl ?_ | refine zb2 rfl rfl rfl ?_ | refine zb1 rfl rfl rfl ?_ | refine zb3 rfl rfl (by omega) (by assumption) rfl ?_ | refine za1 rfl rfl (decide_eq_true ⟨by omega, by omega⟩) ?_ | refine zay rfl rfl (by omega) (by omega) ?_ | refine zap rfl rfl rfl ?_ | refine zbc rfl ?_ | refine zbb rfl ?_)
  refine zf5 env0_ok [(13, [], .bool true), (22, [.agg (cX (.nd op ix args)), .agg (cX (.nd op2 ix2 args2))], .bool sm), (16, [.agg (cX (.nd op ix args)), .agg (cX (.nd op2 ix2 args2))], .bool sm)] (fun x hx => by
   rcases List.mem_cons.1 hx with rfl | hx
   ·exact zm9
   rcases List.mem_cons.1 hx with rfl | hx
   ·exact p22
   obtain rfl := List.mem_singleton.1 hx
   exact p16) (fun f => Nat.beq f 13 || (Nat.beq f 22 || Nat.beq f 16)) rfl rfl rfl ?_
  repeat (first | refine zai ?_ | refine za0 rfl ?_ | refine zab ?_ | refine zac ?_ | refine zbg ?_ | refine zaj ?_ | refine zat ?_ | refine zbl rfl ?_ | refine zbo rfl ?_ | refine zb5 ?_ | refine zaz ?_ | refine zb4 ?_ | refine za6 ?_ | refine za4 rfl ?_ | refine za2 ?_ | refine za7 ?_ | refine zbs rfl ?_ | refine zbu rfl rfl ?_ | refine zc6 rfl ?_ | refine zad rfl ?_ | refine zam rfl rfl ?_ | refine zar rfl rfl rfl rfl ?_ | refine zak rfl rfl rfl rfl rfl rfl rfl ?_ | refine za5 rfl ?_ | refine zal rfl rfl rfl ?_ | refine za1 rfl rfl rfl ?_ | refine zag rfl rfl rfl rfl ?_ | refine zau ?_ | refine zah rfl rfl ?_ | refine zaa rfl rfl ?_ | refine zc2 rfl rfl ?_ | refine zbh rfl rfl ?_ | refine zb0 rfl rfl ?_ | refine zao rfl rfl ?_ | refine zbd rfl rfl ?_ | refine zaf rfl rfl rfl ?_ | refine zax rfl rfl ?_ | refine zan rfl rfl rfl rfl ?_ | refine za9 rfl rfl rfl rfl ?_ | refine zaq rfl rfl rfl rfl ?_ | refine zb9 rfl rfl ?_ | refine zb6 rfl rfl ?_ | refine zae rfl rfl ?_ | refine zba ?_ | refine zas env0_ok rfl rfl rfl ?_ | refine zav (op := .add) rfl rfl rfl ?_ | refine zav (op := .sub) rfl rfl rfl ?_ | refine zb8 rfl rfl rfl ?_ | refine zb7 rfl rfl rfl ?_ | refine zb2 rfl rfl rfl ?_ | refine zb1 rfl rfl rfl ?_ | refine zb3 rfl rfl (by omega) (by assumption) rfl ?_ | refine za1 rfl rfl (decide_eq_true ⟨by omega, by omega⟩) ?_ | refine zay rfl rfl (by omega) (by omega) ?_ | refine zap rfl rfl rfl ?_ | refine zbc rfl ?_ | refine zbb rfl ?_)
  refine zbn rfl rfl zcc (fun h => Bool.noConfusion (show false = true from h)) ?_
  repeat (first | refine zai ?_ | refine za0 rfl ?_ | refine zab ?_ | refine zac ?_ | refine zbg ?_ | refine zaj ?_ | refine zat ?_ | refine zbl rfl ?_ | refine zbo rfl ?_ | refine zb5 ?_ | refine zaz ?_ | refine zb4 ?_ | refine za6 ?_ | refine za4 rfl ?_ | refine za2 ?_ | refine za7 ?_ | refine zbs rfl ?_ | refine zbu rfl rfl ?_ | refine zc6 rfl ?_ | refine zad rfl ?_ | refine zam rfl rfl ?_ | refine zar rfl rfl rfl rfl ?_ | refine zak rfl rfl rfl rfl rfl rfl rfl ?_ | refine za5 rfl ?_ | refine zal rfl rfl rfl ?_ | refine za1 rfl rfl rfl ?_ | refine zag rfl rfl rfl rfl ?_ | refine zau ?_ | refine zah rfl rfl ?_ | refine zaa rfl rfl ?_ | refine zc2 rfl rfl ?_ | refine zbh rfl rfl ?_ | refine zb0 rfl rfl ?_ | refine zao rfl rfl ?_ | refine zbd rfl rfl ?_ | refine zaf rfl rfl rfl ?_ | refine zax rfl rfl ?_ | refine zan rfl rfl rfl rfl ?_ | refine za9 rfl rfl rfl rfl ?_ | refine zaq rfl rfl rfl rfl ?_ | refine zb9 rfl rfl ?_ | refine zb6 rfl rfl ?_ | refine zae rfl rfl ?_ | refine zba ?_ | refine zas env0_ok rfl rfl rfl ?_ | refine zav (op := .add) rfl rfl rfl ?_ | refine zav (op := .sub) rfl rfl rfl ?_ | refine zb8 rfl rfl rfl ?_ | refine zb7 rfl rfl rfl ?_ | refine zb2 rfl rfl rfl ?_ | refine zb1 rfl rfl rfl ?_ | refine zb3 rfl rfl (by omega) (by assumption) rfl ?_ | refine za1 rfl rfl (decide_eq_true ⟨by omega, by omega⟩) ?_ | refine zay rfl rfl (by omega) (by omega) ?_ | refine zap rfl rfl rfl ?_ | refine zbc rfl ?_ | refine zbb rfl ?_)
  refine zef (v := .bool true) (by show some (AV.bool (b1 == b1), _) = _; rw [beq_self_eq_true]) ?_
  repeat (first | refine zai ?_ | refine za0 rfl ?_ | refine zab ?_ | refine zac ?_ | refine zbg ?_ | refine zaj ?_ | refine zat ?_ | refine zbl rfl ?_ | refine zbo rfl ?_ | refine zb5 ?_ | refine zaz ?_ | refine zb4 ?_ | refine za6 ?_ | refine za4 rfl ?_ | refine za2 ?_ | refine za7 ?_ | refine zbs rfl ?_ | refine zbu rfl rfl ?_ | refine zc6 rfl ?_ | refine zad rfl ?_ | refine zam rfl rfl ?_ | refine zar rfl rfl rfl rfl ?_ | refine zak rfl rfl rfl rfl rfl rfl rfl ?_ | refine za5 rfl ?_ | refine zal rfl rfl rfl ?_ | refine za1 rfl rfl rfl ?_ | refine zag rfl rfl rfl rfl ?_ | refine zau ?_ | refine zah rfl rfl ?_ | refine zaa rfl rfl ?_ | refine zc2 rfl rfl ?_ | refine zbh rfl rfl ?_ | refine zb0 rfl rfl ?_ | refine zao rfl rfl ?_ | refine zbd rfl rfl ?_ | refine zaf rfl rfl rfl ?_ | refine zax rfl rfl ?_ | refine zan rfl rfl rfl rfl ?_ | refine za9 rfl rfl rfl rfl ?_ | refine zaq rfl rfl rfl rfl ?_ | refine zb9 rfl rfl ?_ | refine zb6 rfl rfl ?_ | refine zae rfl rfl ?_ | refine zba ?_ | refine zas env0_ok rfl rfl rfl ?_ | refine zav (op := .add) rfl rfl rfl ?_ | refine zav (op := .sub) rfl rfl rfl ?_ | refine zb8 rfl rfl rfl ?_ | refine zb7 rfl rfl rfl ?_ | refine zb2 rfl rfl rfl ?_ | refine zb1 rfl rfl rfl ?_ | refine zb3 rfl rfl (by omega) (by assumption) rfl ?_ | refine za1 rfl rfl (decide_eq_true ⟨by omega, by omega⟩) ?_ | refine zay rfl rfl (by omega) (by omega) ?_ | refine zap rfl rfl rfl ?_ | refine zbc rfl ?_ | refine zbb rfl ?_)
  refine zb2 rfl rfl (by show some (AV.bool (e1 == e1)) = _; rw [beq_self_eq_true]) ?_
  repeat (first | refine zai ?_ | refine za0 rfl ?_ | refine zab ?_ | refine zac ?_ | refine zbg ?_ | refine zaj ?_ | refine zat ?_ | refine zbl rfl ?_ | refine zbo rfl ?_ | refine zb5 ?_ | refine zaz ?_ | refine zb4 ?_ | refine za6 ?_ | refine za4 rfl ?_ | refine za2 ?_ | refine za7 ?_ | refine zbs rfl ?_ | refine zbu rfl rfl ?_ | refine zc6 rfl ?_ | refine zad rfl ?_ | refine zam rfl rfl ?_ | refine zar rfl rfl rfl rfl ?_ | refine zak rfl rfl rfl rfl rfl rfl rfl ?_ | refine za5 rfl ?_ | refine zal rfl rfl rfl ?_ | refine za1 rfl rfl rfl ?_ | refine zag rfl rfl rfl rfl ?_ | refine zau ?_ | refine zah rfl rfl ?_ | refine zaa rfl rfl ?_ | refine zc2 rfl rfl ?_ | refine zbh rfl rfl ?_ | refine zb0 rfl rfl ?_ | refine zao rfl rfl ?_ | refine zbd rfl rfl ?_ | refine zaf rfl rfl rfl ?_ | refine zax rfl rfl ?_ | refine zan rfl rfl rfl rfl ?_ | refine za9 rfl rfl rfl rfl ?_ | refine zaq rfl rfl rfl rfl ?_ | refine zb9 rfl rfl ?_ | refine zb6 rfl rfl ?_ | refine zae rfl rfl ?_ | refine zba ?_ | refine zas env0_ok rfl rfl rfl ?_ | refine zav (op := .add) rfl rfl rfl ?_ | refine zav (op := .sub) rfl rfl rfl ?_ | refine zb8 rfl rfl rfl ?_ | refine zb7 rfl rfl rfl ?_ | refine zb2 rfl rfl rfl ?_ | refine zb1 rfl rfl rfl ?_ | refine zb3 rfl rfl (by omega) (by assumption) rfl ?_ | refine za1 rfl rfl (decide_eq_true ⟨by omega, by omega⟩) ?_ | refine zay rfl rfl (by omega) (by omega) ?_ | refine zap rfl rfl rfl ?_ | refine zbc rfl ?_ | refine zbb rfl ?_)
  have heq : znz [AV.int .i64 a2, AV.int .u64 b2] [AV.int .i64 a2, AV.int .u64 b2] [(0, .int), (1, .int)] = some true := by
   simp [znz, eqK]
  refine o_eqs (r := true) rfl rfl heq (fun _ => ?_) fun h => Bool.noConfusion h
  repeat (first | refine zai ?_ | refine za0 rfl ?_ | refine zab ?_ | refine zac ?_ | refine zbg ?_ | refine zaj ?_ | refine zat ?_ | refine zbl rfl ?_ | refine zbo rfl ?_ | refine zb5 ?_ | refine zaz ?_ | refine zb4 ?_ | refine za6 ?_ | refine za4 rfl ?_ | refine za2 ?_ | refine za7 ?_ | refine zbs rfl ?_ | refine zbu rfl rfl ?_ | refine zc6 rfl ?_ | refine zad rfl ?_ | refine zam rfl rfl ?_ | refine zar rfl rfl rfl rfl ?_ | refine zak rfl rfl rfl rfl rfl rfl rfl ?_ | refine za5 rfl ?_ | refine zal rfl rfl rfl ?_ | refine za1 rfl rfl rfl ?_ | refine zag rfl rfl rfl rfl ?_ | refine zau ?_ | refine zah rfl rfl ?_ | refine zaa rfl rfl ?_ | refine zc2 rfl rfl ?_ | refine zbh rfl rfl ?_ | refine zb0 rfl rfl ?_ | refine zao rfl rfl ?_ | refine zbd rfl rfl ?_ | refine zaf rfl rfl rfl ?_ | refine zax rfl rfl ?_ | refine zan rfl rfl rfl rfl ?_ | refine za9 rfl rfl rfl rfl ?_ | refine zaq rfl rfl rfl rfl ?_ | refine zb9 rfl rfl ?_ | refine zb6 rfl rfl ?_ | refine zae rfl rfl ?_ | refine zba ?_ | refine zas env0_ok rfl rfl rfl ?_ | refine zav (op := .add) rfl rfl rfl ?_ | refine zav (op := .sub) rfl rfl rfl ?_ | refine zb8 rfl rfl rfl ?_ | refine zb7 rfl rfl rfl ?_ | refine zb2 rfl rfl rfl ?_ | refine zb1 rfl rfl rfl ?_ | refine zb3 rfl rfl (by omega) (by assumption) rfl ?_ | refine za1 rfl rfl (decide_eq_true ⟨by omega, by omega⟩) ?_ | refine zay rfl rfl (by omega) (by omega) ?_ | refine zap rfl rfl rfl ?_ | refine zbc rfl ?_ | refine zbb rfl ?_)
  refine zb2 rfl rfl (by show some (AV.bool (e2 == e2)) = _; rw [beq_self_eq_true]) ?_
  repeat (first | refine zai ?_ | refine za0 rfl ?_ | refine zab ?_ | refine zac ?_ | refine zbg ?_ | refine zaj ?_ | refine zat ?_ | refine zbl rfl ?_ | refine zbo rfl ?_ | refine zb5 ?_ | refine zaz ?_ | refine zb4 ?_ | refine za6 ?_ | refine za4 rfl ?_ | refine za2 ?_ | refine za7 ?_ | refine zbs rfl ?_ | refine zbu rfl rfl ?_ | refine zc6 rfl ?_ | refine zad rfl ?_ | refine zam rfl rfl ?_ | refine zar rfl rfl rfl rfl ?_ | refine zak rfl rfl rfl rfl rfl rfl rfl ?_ | refine za5 rfl ?_ | refine zal rfl rfl rfl ?_ | refine za1 rfl rfl rfl ?_ | refine zag rfl rfl rfl rfl ?_ | refine zau ?_ | refine zah rfl rfl ?_ | refine zaa rfl rfl ?_ | refine zc2 rfl rfl ?_ | refine zbh rfl rfl ?_ | refine zb0 rfl rfl ?_ | refine zao rfl rfl ?_ | refine zbd rfl rfl ?_ | refine zaf rfl rfl rfl ?_ | refine zax rfl rfl ?_ | refine zan rfl rfl rfl rfl ?_ | refine za9 rfl rfl rfl rfl ?_ | refine zaq rfl rfl rfl rfl ?_ | refine zb9 rfl rfl ?_ | refine zb6 rfl rfl ?_ | refine zae rfl rfl ?_ | refine zba ?_ | refine zas env0_ok rfl rfl rfl ?_ | refine zav (op := .add) rfl rfl rfl ?_ | refine zav (op := .sub) rfl rfl rfl ?_ | refine zb8 rfl rfl rfl ?_ | refine zb7 rfl rfl rfl ?_ | refine zb2 rfl rfl rfl ?_ | refine zb1 rfl rfl rfl ?_ | refine zb3 rfl rfl (by omega) (by assumption) rfl ?_ | refine za1 rfl rfl (decide_eq_true ⟨by omega, by omega⟩) ?_ | refine zay rfl rfl (by omega) (by omega) ?_ | refine zap rfl rfl rfl ?_ | refine zbc rfl ?_ | refine zbb rfl ?_)
  refine zbn rfl rfl (zen (by decide) zcc) (fun h => Bool.noConfusion (show false = true from h)) ?_
  repeat (first | refine zai ?_ | refine za0 rfl ?_ | refine zab ?_ | refine zac ?_ | refine zbg ?_ | refine zaj ?_ | refine zat ?_ | refine zbl rfl ?_ | refine zbo rfl ?_ | refine zb5 ?_ | refine zaz ?_ | refine zb4 ?_ | refine za6 ?_ | refine za4 rfl ?_ | refine za2 ?_ | refine za7 ?_ | refine zbs rfl ?_ | refine zbu rfl rfl ?_ | refine zc6 rfl ?_ | refine zad rfl ?_ | refine zam rfl rfl ?_ | refine zar rfl rfl rfl rfl ?_ | refine zak rfl rfl rfl rfl rfl rfl rfl ?_ | refine za5 rfl ?_ | refine zal rfl rfl rfl ?_ | refine za1 rfl rfl rfl ?_ | refine zag rfl rfl rfl rfl ?_ | refine zau ?_ | refine zah rfl rfl ?_ | refine zaa rfl rfl ?_ | refine zc2 rfl rfl ?_ | refine zbh rfl rfl ?_ | refine zb0 rfl rfl ?_ | refine zao rfl rfl ?_ | refine zbd rfl rfl ?_ | refine zaf rfl rfl rfl ?_ | refine zax rfl rfl ?_ | refine zan rfl rfl rfl rfl ?_ | refine za9 rfl rfl rfl rfl ?_ | refine zaq rfl rfl rfl rfl ?_ | refine zb9 rfl rfl ?_ | refine zb6 rfl rfl ?_ | refine zae rfl rfl ?_ | refine zba ?_ | refine zas env0_ok rfl rfl rfl ?_ | refine zav (op := .add) rfl rfl rfl ?_ | refine zav (op := .sub) rfl rfl rfl ?_ | refine zb8 rfl rfl rfl ?_ | refine zb7 rfl rfl rfl ?_ | refine zb2 rfl rfl rfl ?_ | refine zb1 rfl rfl rfl ?_ | refine zb3 rfl rfl (by omega) (by assumption) rfl ?_ | refine za1 rfl rfl (decide_eq_true ⟨by omega, by omega⟩) ?_ | refine zay rfl rfl (by omega) (by omega) ?_ | refine zap rfl rfl rfl ?_ | refine zbc rfl ?_ | refine zbb rfl ?_)
  refine zbn rfl rfl (zen (by decide) (zen (by decide) zcc)) (fun h => Bool.noConfusion (show false = true from h)) ?_
  repeat (first | refine zai ?_ | refine za0 rfl ?_ | refine zab ?_ | refine zac ?_ | refine zbg ?_ | refine zaj ?_ | refine zat ?_ | refine zbl rfl ?_ | refine zbo rfl ?_ | refine zb5 ?_ | refine zaz ?_ | refine zb4 ?_ | refine za6 ?_ | refine za4 rfl ?_ | refine za2 ?_ | refine za7 ?_ | refine zbs rfl ?_ | refine zbu rfl rfl ?_ | refine zc6 rfl ?_ | refine zad rfl ?_ | refine zam rfl rfl ?_ | refine zar rfl rfl rfl rfl ?_ | refine zak rfl rfl rfl rfl rfl rfl rfl ?_ | refine za5 rfl ?_ | refine zal rfl rfl rfl ?_ | refine za1 rfl rfl rfl ?_ | refine zag rfl rfl rfl rfl ?_ | refine zau ?_ | refine zah rfl rfl ?_ | refine zaa rfl rfl ?_ | refine zc2 rfl rfl ?_ | refine zbh rfl rfl ?_ | refine zb0 rfl rfl ?_ | refine zao rfl rfl ?_ | refine zbd rfl rfl ?_ | refine zaf rfl rfl rfl ?_ | refine zax rfl rfl ?_ | refine zan rfl rfl rfl rfl ?_ | refine za9 rfl rfl rfl rfl ?_ | refine zaq rfl rfl rfl rfl ?_ | refine zb9 rfl rfl ?_ | refine zb6 rfl rfl ?_ | refine zae rfl rfl ?_ | refine zba ?_ | refine zas env0_ok rfl rfl rfl ?_ | refine zav (op := .add) rfl rfl rfl ?_ | refine zav (op := .sub) rfl rfl rfl ?_ | refine zb8 rfl rfl rfl ?_ | refine zb7 rfl rfl rfl ?_ | refine zb2 rfl rfl rfl ?_ | refine zb1 rfl rfl rfl ?_ | refine zb3 rfl rfl (by omega) (by assumption) rfl ?_ | refine za1 rfl rfl (decide_eq_true ⟨by omega, by omega⟩) ?_ | refine zay rfl rfl (by omega) (by omega) ?_ | refine zap rfl rfl rfl ?_ | refine zbc rfl ?_ | refine zbb rfl ?_)
  refine zef (v := .bool true) (by show some (AV.bool (sm == sm), _) = _; rw [beq_self_eq_true]) ?_
  repeat (first | refine zai ?_ | refine za0 rfl ?_ | refine zab ?_ | refine zac ?_ | refine zbg ?_ | refine zaj ?_ | refine zat ?_ | refine zbl rfl ?_ | refine zbo rfl ?_ | refine zb5 ?_ | refine zaz ?_ | refine zb4 ?_ | refine za6 ?_ | refine za4 rfl ?_ | refine za2 ?_ | refine za7 ?_ | refine zbs rfl ?_ | refine zbu rfl rfl ?_ | refine zc6 rfl ?_ | refine zad rfl ?_ | refine zam rfl rfl ?_ | refine zar rfl rfl rfl rfl ?_ | refine zak rfl rfl rfl rfl rfl rfl rfl ?_ | refine za5 rfl ?_ | refine zal rfl rfl rfl ?_ | refine za1 rfl rfl rfl ?_ | refine zag rfl rfl rfl rfl ?_ | refine zau ?_ | refine zah rfl rfl ?_ | refine zaa rfl rfl ?_ | refine zc2 rfl rfl ?_ | refine zbh rfl rfl ?_ | refine zb0 rfl rfl ?_ | refine zao rfl rfl ?_ | refine zbd rfl rfl ?_ | refine zaf rfl rfl rfl ?_ | refine zax rfl rfl ?_ | refine zan rfl rfl rfl rfl ?_ | refine za9 rfl rfl rfl rfl ?_ | refine zaq rfl rfl rfl rfl ?_ | refine zb9 rfl rfl ?_ | refine zb6 rfl rfl ?_ | refine zae rfl rfl ?_ | refine zba ?_ | refine zas env0_ok rfl rfl rfl ?_ | refine zav (op := .add) rfl rfl rfl ?_ | refine zav (op := .sub) rfl rfl rfl ?_ | refine zb8 rfl rfl rfl ?_ | refine zb7 rfl rfl rfl ?_ | refine zb2 rfl rfl rfl ?_ | refine zb1 rfl rfl rfl ?_ | refine zb3 rfl rfl (by omega) (by assumption) rfl ?_ | refine za1 rfl rfl (decide_eq_true ⟨by omega, by omega⟩) ?_ | refine zay rfl rfl (by omega) (by omega) ?_ | refine zap rfl rfl rfl ?_ | refine zbc rfl ?_ | refine zbb rfl ?_)
  exact zbe ⟨.inr rfl, _, rfl, rfl⟩
end Go.Proofs.Ytmnkjofaodbokaa
namespace Go.Proofs.Ytmnkjofaodbokaa
open Go Go.Am Go.ChangeShapes Go.WideShapes Go.ChangeAt Go.RowKit
theorem own : ownKnob Try.prog.godebug = none := by kernel_rfl
theorem gok {W : World} : GOk (fun _ => True) W := fun _ hx => absurd hx List.not_mem_nil
theorem solid : zq0 Try.prog Try.prog.types.size := solid_of (by kernel_rfl)
end Go.Proofs.Ytmnkjofaodbokaa
namespace Go.Proofs.Ytmnkjofaodbokaa
open Go Go.Am Go.ChangeShapes Go.WideShapes Go.ChangeAt Go.RowKit Go.Deep
section
variable {H : Type} {enc : TypeId × Value → H} {w : World} {base : Nat} {spare : Nat → Bool} {held : Bool}
theorem rdT : Rd enc Try.prog w base spare held 24 fun d => cX (exD d) :=
 rd_tree Try.underlying24 rfl Try.underlying3 (by kernel_rfl) Try.underlying22 (by kernel_rfl) (by rw [show Try.prog.cellsOf 24 = 3 from by kernel_rfl]; decide) (by kernel_rfl)
theorem slimX {n : Nat} {cs : List Value} {d : DataW H} {p : List MemPlace} (h : DataW.trod enc Try.prog w base spare held n 24 cs = some (d, p)) : Slim (exD d) :=
 zsv Try.underlying24 rfl Try.underlying22 _ d (Nat.le_refl _) _ _ _ h
theorem rdB : Rd enc Try.prog w base spare held 37 (zhq cBool) :=
 rd_slice Try.underlying37 (by kernel_rfl) (by rw [show Try.prog.cellsOf 4 = 1 from by kernel_rfl]; decide) (rd_bool Try.underlying4 (by kernel_rfl))
end
end Go.Proofs.Ytmnkjofaodbokaa
