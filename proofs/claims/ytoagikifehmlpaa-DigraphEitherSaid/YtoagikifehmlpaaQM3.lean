/-
  A graph either has an order or a cycle: the law.
-/
import Derived.Test.YtoagikifehmlpaaQP7
import Derived.Test.YtoagikifehmlpaaQM2
import Derived.Test.YtoagikifehmlpaaQK7
namespace Go.Proofs.Ytoagikifehmlpaa
open Go Go.Am
def b5_0 : IC := .seq (.region [⟨(some 39), .bin .lss (.t 38) (.t 37), none⟩] none)
 (.seq (.cond (.t 39) (.skip)
 (.exit 0))
 (.seq (.block 1 (.seq (.region [⟨(some 40), .mov (.t 38), none⟩,
  ⟨(some 41), .idxs 1 (.t 36) (.t 38), none⟩,
  ⟨(some 42), .load none (.t 41), none⟩,
  ⟨(some 7), .mov (.t 40), none⟩,
  ⟨(some 8), .mov (.t 42), none⟩] none)
 (.seq (.region [⟨(some 43), .mov (.t 5), none⟩,
  ⟨(some 44), .mov (.t 7), none⟩,
  ⟨(some 45), .slsl 1 (.t 43) none (some (.t 44)) none, none⟩,
  ⟨(some 46), .mov (.t 8), none⟩,
  ⟨(some 47), .call (.c (.fn 24 [] [])) [(.t 45), (.t 46)], none⟩,
  ⟨(some 48), .mov (.t 47), none⟩,
  ⟨(some 49), .faddr 1 (.t 1), some (48, false)⟩,
  ⟨(some 50), .load none (.t 49), some (48, false)⟩,
  ⟨(some 51), .mov (.t 8), some (48, false)⟩,
  ⟨(some 52), .mov (.t 5), some (48, false)⟩,
  ⟨(some 53), .mov (.t 7), some (48, false)⟩,
  ⟨(some 54), .bin .add (.t 53) (.c (.int .i64 1)), some (48, false)⟩,
  ⟨(some 55), .mov (.t 5), some (48, false)⟩,
  ⟨(some 56), .len false (.t 55), some (48, false)⟩,
  ⟨(some 57), .bin .rem (.t 54) (.t 56), some (48, false)⟩,
  ⟨(some 58), .idxs 1 (.t 52) (.t 57), some (48, false)⟩,
  ⟨(some 59), .load none (.t 58), some (48, false)⟩,
  ⟨(some 60), .build [.int .i64 0, .int .i64 0] [(0, 1, (.t 51)), (1, 1, (.t 59))], some (48, false)⟩,
  ⟨(some 61), .call (.c (.fn 25 [] [])) [(.t 50), (.t 60)], some (48, false)⟩,
  ⟨(some 62), .un .not (.t 61), some (48, false)⟩,
  ⟨(some 63), .pick (.t 48) (.c (.bool true)) (.t 62), none⟩] (some [[], [], [0, 1], [], [2, 3], [4, 4], [5], [6, 5], [5], [5], [5], [10, 5], [5], [12, 5], [11, 13, 5], [9, 14, 5], [15, 5], [8, 16, 5], [7, 17, 5, 5], [18, 5], [5, 19]]))
 (.cond (.t 63) (.seq (.region [⟨(some 2), .mov (.c (.bool false)), none⟩] none)
 (.ret))
 (.skip)))))
 (.region [⟨(some 64), .bin .add (.t 38) (.c (.int .i64 1)), none⟩,
  ⟨(some 38), .mov (.t 64), none⟩] none)))
def b5_2 : IC := .seq (.region [⟨(some 83), .bin .lss (.t 82) (.t 81), none⟩] none)
 (.seq (.cond (.t 83) (.skip)
 (.exit 2))
 (.seq (.block 3 (.seq (.region [⟨(some 84), .idxs 2 (.t 80) (.t 82), none⟩,
  ⟨(some 85), .load (some 2) (.t 84), none⟩,
  ⟨(some 10), .alloc [.int .i64 0, .int .i64 0], none⟩,
  ⟨none, .store 2 (.t 10) (.t 85), none⟩] none)
 (.seq (.region [⟨(some 86), .mov (.t 3), none⟩,
  ⟨(some 87), .faddr 0 (.t 10), none⟩,
  ⟨(some 88), .load none (.t 87), none⟩,
  ⟨(some 89), .call (.c (.fn 26 [] [])) [(.t 86), (.t 88)], none⟩,
  ⟨(some 90), .mov (.t 3), none⟩,
  ⟨(some 91), .faddr 1 (.t 10), none⟩,
  ⟨(some 92), .load none (.t 91), none⟩,
  ⟨(some 93), .call (.c (.fn 26 [] [])) [(.t 90), (.t 92)], none⟩,
  ⟨(some 11), .mov (.t 89), none⟩,
  ⟨(some 12), .mov (.t 93), none⟩] (some [[], [], [1], [0, 2], [], [], [5], [4, 6, 3], [3, 7, 0, 1, 2, 3], [7, 8, 0, 1, 2, 3, 4, 5, 6, 7, 8]]))
 (.seq (.region [⟨(some 94), .mov (.t 11), none⟩,
  ⟨(some 95), .bin .lss (.t 94) (.c (.int .i64 0)), none⟩,
  ⟨(some 96), .mov (.t 95), none⟩,
  ⟨(some 97), .mov (.t 12), some (96, false)⟩,
  ⟨(some 98), .mov (.t 11), some (96, false)⟩,
  ⟨(some 99), .bin .leq (.t 97) (.t 98), some (96, false)⟩,
  ⟨(some 100), .pick (.t 96) (.c (.bool true)) (.t 99), none⟩] none)
 (.cond (.t 100) (.seq (.region [⟨(some 2), .mov (.c (.bool false)), none⟩] none)
 (.ret))
 (.skip))))))
 (.region [⟨(some 101), .bin .add (.t 82) (.c (.int .i64 1)), none⟩,
  ⟨(some 82), .mov (.t 101), none⟩] none)))
-- pneumatic/pneumaticlaw10.DigraphEither
def ic5 : IC := .seq (.region [⟨(some 1), .box (.t 0), none⟩,
  ⟨(some 2), .mov (.c (.bool false)), none⟩] none)
 (.seq (.seq (.region [⟨(some 13), .load (some 2) (.t 1), none⟩,
  ⟨(some 14), .call (.c (.fn 20 [] [])) [(.t 13)], none⟩,
  ⟨(some 15), .un .not (.t 14), none⟩] none)
 (.cond (.t 15) (.seq (.region [⟨(some 16), .call (.c (.fn 12 [] [])) [], none⟩,
  ⟨(some 2), .mov (.t 16), none⟩] none)
 (.ret))
 (.skip)))
 (.seq (.region [⟨(some 18), .load (some 2) (.t 1), none⟩,
  ⟨(some 19), .call (.c (.fn 23 [] [])) [(.t 18)], none⟩,
  ⟨(some 17), .mov (.t 19), none⟩,
  ⟨(some 20), .extract (.t 17) 0, none⟩,
  ⟨(some 21), .extract (.t 17) 1, none⟩,
  ⟨(some 3), .mov (.t 20), none⟩,
  ⟨(some 4), .mov (.t 21), none⟩] none)
 (.seq (.region [⟨(some 23), .load (some 2) (.t 1), none⟩,
  ⟨(some 24), .call (.c (.fn 21 [] [])) [(.t 23)], none⟩,
  ⟨(some 22), .mov (.t 24), none⟩,
  ⟨(some 25), .extract (.t 22) 0, none⟩,
  ⟨(some 26), .extract (.t 22) 1, none⟩,
  ⟨(some 5), .mov (.t 25), none⟩,
  ⟨(some 6), .mov (.t 26), none⟩] none)
 (.seq (.seq (.region [⟨(some 27), .mov (.t 4), none⟩,
  ⟨(some 28), .bin .eql (.t 27) (.c (.int .i64 20)), none⟩] none)
 (.cond (.t 28) (.seq (.seq (.region [⟨(some 29), .mov (.t 6), none⟩,
  ⟨(some 30), .bin .neq (.t 29) (.c (.int .i64 0)), none⟩,
  ⟨(some 31), .mov (.t 30), none⟩,
  ⟨(some 32), .mov (.t 5), some (31, false)⟩,
  ⟨(some 33), .len false (.t 32), some (31, false)⟩,
  ⟨(some 34), .bin .eql (.t 33) (.c (.int .i64 0)), some (31, false)⟩,
  ⟨(some 35), .pick (.t 31) (.c (.bool true)) (.t 34), none⟩] none)
 (.cond (.t 35) (.seq (.region [⟨(some 2), .mov (.c (.bool false)), none⟩] none)
 (.ret))
 (.skip)))
 (.seq (.seq (.region [⟨(some 36), .mov (.t 5), none⟩,
  ⟨(some 37), .len false (.t 36), none⟩,
  ⟨(some 38), .mov (.c (.int .i64 0)), none⟩] none)
 (.block 0 (.loop b5_0)))
 (.seq (.region [⟨(some 65), .call (.c (.fn 12 [] [])) [], none⟩,
  ⟨(some 2), .mov (.t 65), none⟩] none)
 (.ret))))
 (.skip)))
 (.seq (.seq (.region [⟨(some 66), .mov (.t 4), none⟩,
  ⟨(some 67), .bin .neq (.t 66) (.c (.int .i64 0)), none⟩,
  ⟨(some 68), .mov (.t 67), none⟩,
  ⟨(some 69), .mov (.t 6), some (68, false)⟩,
  ⟨(some 70), .bin .neq (.t 69) (.c (.int .i64 6)), some (68, false)⟩,
  ⟨(some 71), .pick (.t 68) (.c (.bool true)) (.t 70), none⟩,
  ⟨(some 72), .mov (.t 71), none⟩,
  ⟨(some 73), .mov (.t 3), some (72, false)⟩,
  ⟨(some 74), .len false (.t 73), some (72, false)⟩,
  ⟨(some 75), .faddr 0 (.t 1), some (72, false)⟩,
  ⟨(some 76), .load none (.t 75), some (72, false)⟩,
  ⟨(some 77), .bin .neq (.t 74) (.t 76), some (72, false)⟩,
  ⟨(some 78), .pick (.t 72) (.c (.bool true)) (.t 77), none⟩] none)
 (.cond (.t 78) (.seq (.region [⟨(some 2), .mov (.c (.bool false)), none⟩] none)
 (.ret))
 (.skip)))
 (.seq (.seq (.region [⟨(some 79), .faddr 1 (.t 1), none⟩,
  ⟨(some 80), .load none (.t 79), none⟩,
  ⟨(some 81), .len false (.t 80), none⟩,
  ⟨(some 82), .mov (.c (.int .i64 0)), none⟩] none)
 (.block 2 (.loop b5_2)))
 (.seq (.region [⟨(some 102), .call (.c (.fn 12 [] [])) [], none⟩,
  ⟨(some 2), .mov (.t 102), none⟩] none)
 (.ret))))))))
theorem fn5 : env0.fn 5 = some ⟨103, ic5, [.t 2]⟩ := by kernel_rfl
set_option maxRecDepth 100000 in
set_option maxHeartbeats 8000000 in
theorem law5 (n : Int) (es : List (Int × Int)) : PF Try.prog 5 [cG n es] (.bool true) := by
 have p20 := zt8 n es
 refine zb4 env0_ok fn5 [(0, .agg [.int .i64 n, .vs (cE es)])] (by show 1 ≤ 103; decide) rfl fun w0 N0 => ?_
 unfold ic5
 refine za6 (za0 rfl (ze8 rfl rfl (za2 rfl (za5 (za3 ?_)))))
 refine zby [] [(0, 0, [.int .i64 n, .vs (cE es)])] [(1, .vptr [.int .i64 n, .vs (cE es)])] rfl (.cons rfl rfl .nil) .nil (.cons rfl (.fptr rfl rfl) .nil) ?_
 repeat (first | refine za6 ?_ | refine za0 rfl ?_ | refine zax rfl rfl rfl rfl ?_)
 refine zak rfl rfl p20 (fun h => Bool.noConfusion (show false = true from h)) ?_
 cases hr : rgtB n es with
 | false =>
  repeat (first | refine za6 ?_ | refine za0 rfl ?_ | refine za5 ?_ | refine za3 ?_ | refine zcp rfl ?_ | refine zpr rfl rfl ?_)
  refine zak rfl rfl zf4 (fun h => Bool.noConfusion (show false = true from h)) ?_
  repeat (first | refine za5 ?_ | refine za3 ?_ | refine zaq ?_ | refine zac ?_ | refine za2 rfl ?_)
  exact zao ⟨.inr rfl, _, rfl, rfl⟩
 | true =>
 obtain ⟨m, E, rfl, rfl, hm, hE, hck, hb⟩ := rgt_ok hr
 have p23 := order23 (m : Nat) (zal E)
 have p21 := cycle21 (m : Nat) (zal E) (fun _ => by omega)
 rw [zsq hck] at p23
 rw [zrc hck] at p21
 have hls := lp_srt hb
 have hcl : (cE (zal E)).length = E.length := by rw [zcg]; exact List.length_map ..
 have hmC : ∀ x y : Nat, (x, y) ∈ E → PF Try.prog 25 [.vs (cE (zal E)), .agg [.int .i64 (x : Nat), .int .i64 (y : Nat)]] (.bool true) := fun x y h => by
  have p25 := zin (zal E) (x : Nat) (y : Nat) (by unfold zal; rw [List.length_map]; omega)
  rwa [zky, List.contains_iff_mem.2 h] at p25
 unfold ordN at p23
 unfold cycN at p21
 cases hs : zm1 E m m [] with
 | none =>
  obtain ⟨v, hv⟩ : ∃ v, lpS E m = some v := by
   cases hl : lpS E m with
   | some v => exact ⟨v, rfl⟩
   | none => obtain ⟨l, hl2⟩ := hls.1 hl; rw [hs] at hl2; cases hl2
  rw [hs] at p23
  rw [hv] at p21
  have hvm : v < m := List.mem_range.1 (List.mem_of_find?_eq_some hv)
  have hld : ldB E m v v = true := by
   have := List.find?_some hv
   exact this
  have hC := cyc_ok hb hvm hld
  have p21 : PF Try.prog 21 [cG (m : Nat) (zal E)] (.tup [vsI (iL (cycL E m v)), .int .i64 0]) := p21
  generalize cycL E m v = c at *
  have hcp := hC.pos
  have hcm := hC.len
  have hvl : ((iL c).map fun z => ([.int .i64 z] : List AV)).length = c.length := by rw [List.length_map, zf0]
  repeat (first | refine za6 ?_ | refine za0 rfl ?_ | refine za5 ?_ | refine za3 ?_ | refine zad ?_ | refine zce rfl ?_ | refine zax rfl rfl rfl rfl ?_ | refine zpr rfl rfl ?_)
  refine zak rfl rfl p23 (fun h => Bool.noConfusion (show false = true from h)) ?_
  repeat (first | refine za6 ?_ | refine za0 rfl ?_ | refine za5 ?_ | refine za3 ?_ | refine za2 rfl ?_ | refine zax rfl rfl rfl rfl ?_ | refine zav rfl rfl ?_)
  refine zak rfl rfl p21 (fun h => Bool.noConfusion (show false = true from h)) ?_
  repeat (first | refine za6 ?_ | refine za0 rfl ?_ | refine za5 ?_ | refine za3 ?_ | refine zcp rfl ?_ | refine zee rfl ?_ | refine za2 rfl ?_ | refine zbf rfl rfl ?_ | refine zav rfl rfl ?_ | refine zlm rfl rfl rfl ?_ | refine zc0 rfl rfl rfl ?_)
  refine zc0 rfl rfl (by show some (AV.bool ((((iL c).map fun z => ([.int .i64 z] : List AV)).length : Int) == 0)) = _; rw [hvl, show (((c.length : Nat) : Int) == 0) = false from beq_eq_false_iff_ne.2 (by omega)]) ?_
  repeat (first | refine za6 ?_ | refine za0 rfl ?_ | refine za5 ?_ | refine za3 ?_ | refine zae ?_ | refine zad ?_ | refine zce rfl ?_ | refine za2 rfl ?_ | refine zas rfl rfl ?_ | refine zbf rfl rfl ?_)
  refine zbx (fun mm S => ∃ i : Nat, mm = c.length - i ∧ i ≤ c.length ∧ S = st 103 [(1, .vptr [.int .i64 (m : Nat), .vs (cE (zal E))]), (5, vsI (iL c)), (36, vsI (iL c)), (37, .int .i64 (c.length : Nat)), (38, .int .i64 (i : Nat))] [] 0 1) c.length
   (za9 (.cons rfl (.cons rfl (.cons rfl (.cons (by exact congrArg (fun z : Nat => some (AV.int .i64 (z : Nat))) hvl) (.cons rfl .nil)))))) ⟨0, rfl, Nat.zero_le _, rfl⟩ ?_
  rintro mm S ⟨i, rfl, hi, rfl⟩
  unfold b5_0
  repeat (first | refine za6 ?_ | refine za0 rfl ?_)
  refine zau rfl rfl rfl (fun h3 => ?_) fun h3 => ?_
  ·have hlt : i < c.length := Int.ofNat_lt.1 (of_decide_eq_true h3)
   have w1 : IntKind.wrap .i64 (((i : Nat) : Int) + 1) = ((i + 1 : Nat) : Int) := zar i (by omega)
   have hge := zis hlt
   have hmod := Nat.mod_lt (i + 1) hcp
   have hgn := zis hmod
   have hrem := zn8 ((i + 1 : Nat) : Int) (Int.natCast_nonneg _) (Nat.ne_of_gt hcp)
   rw [Int.toNat_natCast] at hrem
   have p25 := hmC _ _ (hC.edge i hlt)
   have hno := zn1 hC.diff hlt
   have p24 := zim (iL (c.take i)) (gN c i : Nat) (by rw [zf0, List.length_take]; omega)
   rw [zmm, show (c.take i).contains (gN c i) = false from by
    cases hc : (c.take i).contains (gN c i) with
    | false => rfl
    | true => exact absurd (List.contains_iff_mem.1 hc) hno] at p24
   have htk : ((iL c).map fun z => ([.int .i64 z] : List AV)).take i = (iL (c.take i)).map fun z => [.int .i64 z] := by
    unfold iL
    rw [List.map_take, List.map_take]
   generalize gN c i = x at *
   generalize gN c ((i + 1) % c.length) = y at *
   generalize hq : iL (c.take i) = q at *
   repeat (first | refine za6 ?_ | refine za0 rfl ?_ | refine za5 ?_ | refine za3 ?_ | refine zae ?_ | refine zad ?_ | refine zcp rfl ?_ | refine za2 rfl ?_ | refine zaf rfl rfl ?_ | refine zaw rfl rfl (by omega) (by assumption) rfl ?_)
   refine zgh env0_ok [(24, [vsI q, .int .i64 (x : Nat)], .bool false), (25, [.vs (cE (zal E)), .agg [.int .i64 (x : Nat), .int .i64 (y : Nat)]], .bool true)] (fun x hx => by
    rcases List.mem_cons.1 hx with rfl | hx
    ·exact p24
    obtain rfl := List.mem_singleton.1 hx
    exact p25) (fun f => Nat.beq f 24 || Nat.beq f 25) rfl rfl rfl ?_
   repeat (first | refine za2 rfl ?_)
   refine o_slvs rfl rfl (by rw [hvl]; omega) (List.all_eq_true.2 fun x hx => by obtain ⟨s, _, rfl⟩ := List.mem_map.1 hx; rfl) ?_
   rw [htk]
   repeat (first | refine za2 rfl ?_)
   refine zak rfl rfl zbm (fun h => Bool.noConfusion (show false = true from h)) ?_
   repeat (first | refine zee rfl ?_ | refine za2 rfl ?_ | refine zaf rfl rfl ?_ | refine zan rfl rfl rfl ?_ | refine zbf rfl rfl ?_ | refine zbe (op := .add) rfl rfl rfl ?_)
   rw [w1, hvl]
   refine zbe (op := .rem) rfl rfl hrem ?_
   repeat (first | refine zee rfl ?_ | refine zaf rfl rfl ?_ | refine zk8 rfl rfl ?_ | refine zaw rfl rfl (by omega) (by assumption) rfl ?_)
   refine zak rfl rfl (zpm (by decide) zbm) (fun h => Bool.noConfusion (show false = true from h)) ?_
   repeat (first | refine za0 rfl ?_ | refine za5 ?_ | refine za3 ?_ | refine zcb ?_ | refine zad ?_ | refine zce rfl ?_ | refine zee rfl ?_ | refine za2 rfl ?_ | refine zas rfl rfl ?_ | refine zpr rfl rfl ?_ | refine zbe (op := .add) rfl rfl rfl ?_)
   rw [w1]
   exact zay (show c.length - (i + 1) < c.length - i by omega) (za9 (.cons rfl (.cons rfl (.cons rfl (.cons rfl (.cons rfl .nil)))))) ⟨i + 1, rfl, hlt, rfl⟩
  ·repeat (first | refine za6 ?_ | refine za5 ?_ | refine za3 ?_ | refine zce rfl ?_ | refine zbw ?_ | refine zag ?_)
   refine zdb ?_
   repeat (first | refine za6 ?_ | refine za0 rfl ?_ | refine za3 ?_ | refine zbv ?_)
   refine zak rfl rfl zf4 (fun h => Bool.noConfusion (show false = true from h)) ?_
   repeat (first | refine za5 ?_ | refine za3 ?_ | refine zaq ?_ | refine zac ?_ | refine za2 rfl ?_)
   exact zao ⟨.inr rfl, _, rfl, rfl⟩
 | some l =>
  have hlp := hls.2 ⟨l, hs⟩
  rw [hs] at p23
  rw [hlp] at p21
  obtain ⟨hT, hll, _⟩ := zow hs
  have p23 : PF Try.prog 23 [cG (m : Nat) (zal E)] (.tup [vsI (iL l), .int .i64 0]) := p23
  have p21 : PF Try.prog 21 [cG (m : Nat) (zal E)] (.tup [.vs [], .int .i64 6]) := p21
  have hvl : ((iL l).map fun z => ([.int .i64 z] : List AV)).length = m := by rw [List.length_map, zf0, hll]
  repeat (first | refine za6 ?_ | refine za0 rfl ?_ | refine za5 ?_ | refine za3 ?_ | refine zad ?_ | refine zce rfl ?_ | refine zax rfl rfl rfl rfl ?_ | refine zpr rfl rfl ?_)
  refine zak rfl rfl p23 (fun h => Bool.noConfusion (show false = true from h)) ?_
  repeat (first | refine za6 ?_ | refine za0 rfl ?_ | refine za5 ?_ | refine za3 ?_ | refine za2 rfl ?_ | refine zax rfl rfl rfl rfl ?_ | refine zav rfl rfl ?_)
  refine zak rfl rfl p21 (fun h => Bool.noConfusion (show false = true from h)) ?_
  repeat (first | refine za6 ?_ | refine za0 rfl ?_ | refine za5 ?_ | refine za3 ?_ | refine zad ?_ | refine zce rfl ?_ | refine zee rfl ?_ | refine za2 rfl ?_ | refine zaf rfl rfl ?_ | refine zan rfl rfl rfl ?_ | refine zas rfl rfl ?_ | refine zbf rfl rfl ?_ | refine zav rfl rfl ?_ | refine zc0 rfl rfl rfl ?_)
  refine zc0 rfl rfl (by show some (AV.bool (!((((iL l).map fun z => ([.int .i64 z] : List AV)).length : Int) == (m : Nat)))) = _; rw [hvl]; simp) ?_
  repeat (first | refine za6 ?_ | refine za0 rfl ?_ | refine za5 ?_ | refine za3 ?_ | refine zae ?_ | refine zad ?_ | refine zce rfl ?_ | refine za2 rfl ?_ | refine zaf rfl rfl ?_ | refine zan rfl rfl rfl ?_ | refine zas rfl rfl ?_ | refine zbf rfl rfl ?_)
  refine zbx (fun mm S => ∃ i hp nx ck, mm = E.length - i ∧ i ≤ E.length ∧ S = st 103 [(1, .vptr [.int .i64 (m : Nat), .vs (cE (zal E))]), (3, vsI (iL l)), (80, .vs (cE (zal E))), (81, .int .i64 (E.length : Nat)), (82, .int .i64 (i : Nat))] hp nx ck) E.length
   (za9 (.cons rfl (.cons rfl (.cons rfl (.cons (by exact congrArg (fun z : Nat => some (AV.int .i64 (z : Nat))) hcl) (.cons rfl .nil)))))) ⟨0, _, _, _, rfl, Nat.zero_le _, rfl⟩ ?_
  rintro mm S ⟨i, hp, nx, ck, rfl, hi, rfl⟩
  unfold b5_2
  repeat (first | refine za6 ?_ | refine za0 rfl ?_)
  refine zau rfl rfl rfl (fun h3 => ?_) fun h3 => ?_
  ·have hlt : i < E.length := Int.ofNat_lt.1 (of_decide_eq_true h3)
   have w3 : IntKind.wrap .i64 (((i : Nat) : Int) + 1) = ((i + 1 : Nat) : Int) := zar i (by omega)
   have hg := zhb hlt
   have hmm : (E[i].1, E[i].2) ∈ E := List.getElem_mem hlt
   obtain ⟨hx, hy⟩ := hb _ _ hmm
   generalize E[i].1 = x at *
   generalize E[i].2 = y at *
   have hyl := all_in hT.nd hT.lt (Nat.le_of_eq hll.symm) y hy
   obtain ⟨hxl, hxy⟩ := hT.edge hmm hyl
   have hne : x ≠ y := fun e => by rw [e] at hxy; omega
   have px := zk1 (iL l) (x : Nat) (by rw [zf0]; omega)
   have py := zk1 (iL l) (y : Nat) (by rw [zf0]; omega)
   rw [zrf hxl] at px
   rw [zrf hyl] at py
   generalize l.idxOf x = a at *
   generalize l.idxOf y = b at *
   repeat (first | refine za6 ?_ | refine za0 rfl ?_ | refine za5 ?_ | refine za3 ?_ | refine zae ?_ | refine zad ?_ | refine zcp rfl ?_ | refine zax rfl rfl rfl rfl ?_ | refine ze6 ?_ | refine zaw rfl rfl (by omega) (by assumption) rfl ?_)
   refine zdm (id := nx) (sp := ck) (off := 0) rfl rfl rfl rfl zb5 rfl rfl ?_
   have k5 : Am.look nx (zca nx (ck, AObj.cells [.int .i64 (x : Nat), .int .i64 (y : Nat)]) ((nx, ck, AObj.cells [.int .i64 0, .int .i64 0]) :: hp)) = some (ck, .cells [.int .i64 (x : Nat), .int .i64 (y : Nat)]) := by
    rw [za7, if_pos rfl]
   repeat (first | refine za6 ?_ | refine za5 ?_ | refine za3 ?_)
   refine zgh env0_ok [(26, [vsI (iL l), .int .i64 (x : Nat)], .int .i64 (a : Nat)), (26, [vsI (iL l), .int .i64 (y : Nat)], .int .i64 (b : Nat))] (fun x hx => by
    rcases List.mem_cons.1 hx with rfl | hx
    ·exact px
    obtain rfl := List.mem_singleton.1 hx
    exact py) (fun f => Nat.beq f 26) rfl rfl rfl ?_
   repeat (first | refine za2 rfl ?_ | refine zbq rfl ?_)
   refine zb1 (id := nx) (sp := ck) (off := 0) rfl k5 (Nat.lt_succ_self _) rfl ?_
   refine zak rfl rfl zbm (fun h => Bool.noConfusion (show false = true from h)) ?_
   repeat (first | refine za2 rfl ?_ | refine zbq rfl ?_)
   refine zb1 (id := nx) (sp := ck) (off := 0 + 1) rfl k5 (Nat.lt_succ_self _) rfl ?_
   refine zak rfl rfl (ziw (fun e => ?_) zbm) (fun h => Bool.noConfusion (show false = true from h)) ?_
   ·injection e with _ e
    injection e with e
    injection e with _ e
    exact hne (Int.ofNat_inj.1 e)
   repeat (first | refine za6 ?_ | refine za0 rfl ?_ | refine za5 ?_ | refine za3 ?_ | refine zee rfl ?_ | refine za2 rfl ?_ | refine zc0 rfl rfl rfl ?_)
   refine zc0 rfl rfl (by show some (AV.bool (decide (((b : Nat) : Int) ≤ ((a : Nat) : Int)))) = _; rw [decide_eq_false (by omega)]) ?_
   repeat (first | refine za0 rfl ?_ | refine za5 ?_ | refine za3 ?_ | refine zcb ?_ | refine zad ?_ | refine zce rfl ?_ | refine za2 rfl ?_ | refine zas rfl rfl ?_ | refine zbe (op := .add) rfl rfl rfl ?_)
   rw [w3]
   exact zay (show E.length - (i + 1) < E.length - i by omega) (za9 (.cons rfl (.cons rfl (.cons rfl (.cons rfl (.cons rfl .nil)))))) ⟨i + 1, _, _, _, rfl, hlt, rfl⟩
  ·repeat (first | refine za6 ?_ | refine za5 ?_ | refine za3 ?_ | refine zce rfl ?_ | refine zbw ?_ | refine zag ?_)
   refine zdb ?_
   repeat (first | refine za6 ?_ | refine za0 rfl ?_ | refine za3 ?_ | refine zbv ?_)
   refine zak rfl rfl zf4 (fun h => Bool.noConfusion (show false = true from h)) ?_
   repeat (first | refine za5 ?_ | refine za3 ?_ | refine zaq ?_ | refine za2 rfl ?_)
   exact zao ⟨.inr rfl, _, rfl, rfl⟩
end Go.Proofs.Ytoagikifehmlpaa
