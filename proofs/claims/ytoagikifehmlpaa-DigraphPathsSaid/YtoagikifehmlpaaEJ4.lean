/-
  REVERSED GRAPHS: Reverse on both sides; graphs that are the same.
-/
import Derived.Test.YtoagikifehmlpaaEJ3
namespace Go.Proofs.Ytoagikifehmlpaa
open Go Go.Am
def revV (n : Int) (es : List (Int × Int)) : AV := if zes n es = 0 then .tup [cG n (swE es), .int .i64 0] else .tup [cG 0 [], .int .i64 (zes n es)]
theorem zlp {n : Int} {es : List (Int × Int)} (h : zes n es = 0) : es.length ≤ 4096 := by
 obtain ⟨m, E, _, _, _, h1, h2, _⟩ := zkm h
 omega
-- pneumatic/digraph.Reverse
def ic29 : IC := .seq (.region [⟨(some 1), .box (.t 0), none⟩,
  ⟨(some 2), .alloc [.int .i64 0, .nils], none⟩,
  ⟨(some 3), .mov (.c (.int .i64 0)), none⟩] none)
 (.seq (.seq (.region [⟨(some 5), .load (some 2) (.t 1), none⟩,
  ⟨(some 6), .call (.c (.fn 34 [] [])) [(.t 5)], none⟩,
  ⟨(some 4), .mov (.t 6), none⟩] none)
 (.seq (.region [⟨(some 7), .mov (.t 4), none⟩,
  ⟨(some 8), .bin .neq (.t 7) (.c (.int .i64 0)), none⟩] none)
 (.cond (.t 8) (.seq (.region [⟨(some 9), .build [.int .i64 0, .nils] [], none⟩,
  ⟨(some 10), .mov (.t 4), none⟩,
  ⟨none, .store 2 (.t 2) (.t 9), none⟩,
  ⟨(some 3), .mov (.t 10), none⟩] none)
 (.ret))
 (.skip))))
 (.seq (.region [⟨(some 11), .load (some 2) (.t 1), none⟩,
  ⟨(some 12), .call (.c (.fn 47 [] [])) [(.t 11)], none⟩,
  ⟨none, .store 2 (.t 2) (.t 12), none⟩,
  ⟨(some 3), .mov (.c (.int .i64 0)), none⟩] none)
 (.ret)))
theorem fn29 : env0.fn 29 = some ⟨13, ic29, [.cell 2 (some 2), .t 3]⟩ := by kernel_rfl
set_option maxHeartbeats 1000000 in
theorem zs3 (n : Int) (es : List (Int × Int)) : PF Try.prog 29 [cG n es] (revV n es) := by
 have p34 := zq4 n es
 refine zb1 env0_ok fn29 [(0, .agg [.int .i64 n, .vs (cE es)])] (by show 1 ≤ 13; decide) rfl fun w0 N0 => ?_
 unfold ic29 revV
 refine za7 (za0 rfl (zdf rfl rfl (zcp (za3 rfl (za5 (za4 ?_))))))
 refine zbm [(some (1, 1), [.int .i64 0, .nils])] [(0, 0, [.int .i64 n, .vs (cE es)])] [(1, .vptr [.int .i64 n, .vs (cE es)]), (2, .mptr 0 0 0), (3, .int .i64 0)] rfl (.cons rfl rfl .nil) (.cons rfl (.cons (.same rfl) (.cons (.same rfl) .nil)) .nil) (.cons rfl (.fptr rfl rfl) (.cons rfl (.mptr rfl) (.cons rfl (.same rfl) .nil))) ?_
 repeat (first | refine za7 ?_ | refine za0 rfl ?_ | refine zan rfl rfl rfl rfl ?_)
 refine zax rfl rfl p34 (fun h => Bool.noConfusion (show false = true from h)) ?_
 repeat (first | refine za7 ?_ | refine za0 rfl ?_ | refine za5 ?_ | refine za4 ?_ | refine za3 rfl ?_)
 refine zav rfl rfl rfl (fun h => ?_) fun h => ?_
 ·have h : ¬ zes n es = 0 := by simpa using h
  rw [if_neg h]
  repeat (first | refine za7 ?_ | refine za0 rfl ?_ | refine za5 ?_ | refine za4 ?_ | refine zd3 rfl ?_ | refine zar ?_ | refine zah ?_ | refine za3 rfl ?_ | refine zbs rfl rfl rfl rfl rfl rfl rfl ?_ | refine zg0 rfl rfl ?_)
  exact zal ⟨.inr rfl, _, rfl, rfl⟩
 ·have h : zes n es = 0 := by simpa using h
  have p47 := ziu n es (by have := zlp h; omega)
  rw [if_pos h]
  repeat (first | refine za7 ?_ | refine za0 rfl ?_ | refine za5 ?_ | refine za4 ?_ | refine zai ?_ | refine zcx rfl ?_ | refine zan rfl rfl rfl rfl ?_)
  refine zax rfl rfl p47 (fun h => Bool.noConfusion (show false = true from h)) ?_
  repeat (first | refine za5 ?_ | refine za4 ?_ | refine zar ?_ | refine za3 rfl ?_ | refine zbs rfl rfl rfl rfl rfl rfl rfl ?_)
  exact zal ⟨.inr rfl, _, rfl, rfl⟩
def b18_0 : IC := .seq (.seq (.region [⟨(some 20), .mov (.t 5), none⟩,
  ⟨(some 21), .faddr 1 (.t 2), none⟩,
  ⟨(some 22), .load none (.t 21), none⟩,
  ⟨(some 23), .len false (.t 22), none⟩,
  ⟨(some 24), .bin .lss (.t 20) (.t 23), none⟩] none)
 (.cond (.t 24) (.skip)
 (.exit 0)))
 (.seq (.block 1 (.seq (.region [⟨(some 27), .faddr 1 (.t 2), none⟩,
  ⟨(some 28), .load none (.t 27), none⟩,
  ⟨(some 29), .mov (.t 5), none⟩,
  ⟨(some 30), .idxs 2 (.t 28) (.t 29), none⟩,
  ⟨(some 31), .load (some 2) (.t 30), none⟩,
  ⟨(some 32), .faddr 1 (.t 3), none⟩,
  ⟨(some 33), .load none (.t 32), none⟩,
  ⟨(some 34), .mov (.t 5), none⟩,
  ⟨(some 35), .idxs 2 (.t 33) (.t 34), none⟩,
  ⟨(some 36), .load (some 2) (.t 35), none⟩,
  ⟨(some 37), .eqs true [(0, .int), (1, .int)] (.t 31) (.t 36), none⟩] (some [[], [0], [], [1, 2], [3], [], [5], [], [6, 7], [8], [4, 9]]))
 (.cond (.t 37) (.seq (.region [⟨(some 4), .mov (.c (.bool false)), none⟩] none)
 (.ret))
 (.skip))))
 (.region [⟨(some 25), .mov (.t 5), none⟩,
  ⟨(some 26), .bin .add (.t 25) (.c (.int .i64 1)), none⟩,
  ⟨(some 5), .mov (.t 26), none⟩] none))
-- pneumatic/pneumaticref10.Same
def ic18 : IC := .seq (.region [⟨(some 2), .box (.t 0), none⟩,
  ⟨(some 3), .box (.t 1), none⟩,
  ⟨(some 4), .mov (.c (.bool false)), none⟩] none)
 (.seq (.seq (.region [⟨(some 6), .faddr 0 (.t 2), none⟩,
  ⟨(some 7), .load none (.t 6), none⟩,
  ⟨(some 8), .faddr 0 (.t 3), none⟩,
  ⟨(some 9), .load none (.t 8), none⟩,
  ⟨(some 10), .bin .neq (.t 7) (.t 9), none⟩,
  ⟨(some 11), .mov (.t 10), none⟩,
  ⟨(some 12), .faddr 1 (.t 2), some (11, false)⟩,
  ⟨(some 13), .load none (.t 12), some (11, false)⟩,
  ⟨(some 14), .len false (.t 13), some (11, false)⟩,
  ⟨(some 15), .faddr 1 (.t 3), some (11, false)⟩,
  ⟨(some 16), .load none (.t 15), some (11, false)⟩,
  ⟨(some 17), .len false (.t 16), some (11, false)⟩,
  ⟨(some 18), .bin .neq (.t 14) (.t 17), some (11, false)⟩,
  ⟨(some 19), .pick (.t 11) (.c (.bool true)) (.t 18), none⟩] none)
 (.cond (.t 19) (.seq (.region [⟨(some 4), .mov (.c (.bool false)), none⟩] none)
 (.ret))
 (.skip)))
 (.seq (.seq (.region [⟨(some 5), .mov (.c (.int .i64 0)), none⟩] none)
 (.block 0 (.loop b18_0)))
 (.seq (.region [⟨(some 4), .mov (.c (.bool true)), none⟩] none)
 (.ret))))
theorem fn18 : env0.fn 18 = some ⟨38, ic18, [.t 4]⟩ := by kernel_rfl
set_option maxHeartbeats 1000000 in
theorem same18 (n : Int) (es : List (Int × Int)) (he : es.length ≤ 1000000) : PF Try.prog 18 [cG n es, cG n es] (.bool true) := by
 have hcl := zbv es
 refine zb1 env0_ok fn18 [(0, .agg [.int .i64 n, .vs (cE es)]), (1, .agg [.int .i64 n, .vs (cE es)])] (by show 2 ≤ 38; decide) rfl fun w0 N0 => ?_
 unfold ic18
 refine za7 (za0 rfl (zdf rfl rfl (zdf rfl rfl (za3 rfl (za5 (za4 ?_))))))
 refine zbm [] [(0, 0, [.int .i64 n, .vs (cE es)]), (1, 1, [.int .i64 n, .vs (cE es)])] [(2, .vptr [.int .i64 n, .vs (cE es)]), (3, .vptr [.int .i64 n, .vs (cE es)])] rfl (.cons rfl rfl (.cons rfl rfl .nil)) .nil (.cons rfl (.fptr rfl rfl) (.cons rfl (.fptr rfl rfl) .nil)) ?_
 repeat (first | refine za7 ?_ | refine za0 rfl ?_ | refine zad rfl rfl ?_ | refine zac rfl rfl rfl ?_)
 refine zfj rfl rfl (by show some (AV.bool (!(n == n))) = _; simp) ?_
 repeat (first | refine ze2 rfl ?_ | refine za3 rfl ?_ | refine zad rfl rfl ?_ | refine zac rfl rfl rfl ?_ | refine zch rfl rfl ?_)
 refine zfj rfl rfl (by show some (AV.bool (!((((cE es).length : Nat) : Int) == ((cE es).length : Nat)))) = _; simp) ?_
 repeat (first | refine za7 ?_ | refine za0 rfl ?_ | refine za5 ?_ | refine za4 ?_ | refine zaj ?_ | refine zai ?_ | refine zcx rfl ?_ | refine za3 rfl ?_ | refine zb0 rfl rfl ?_)
 refine zce (fun mm S => ∃ i, mm = es.length - i ∧ i ≤ es.length ∧ S = st 38 [(2, .vptr [.int .i64 n, .vs (cE es)]), (3, .vptr [.int .i64 n, .vs (cE es)]), (5, .int .i64 (i : Nat))] [] 0 1) es.length
  (za9 (.cons rfl (.cons rfl (.cons rfl .nil)))) ⟨0, rfl, Nat.zero_le _, rfl⟩ ?_
 rintro mm S ⟨i, rfl, hi, rfl⟩
 unfold b18_0
 repeat (first | refine za7 ?_ | refine za0 rfl ?_ | refine za3 rfl ?_ | refine zad rfl rfl ?_ | refine zac rfl rfl rfl ?_ | refine zch rfl rfl ?_)
 refine zav rfl rfl rfl (fun h3 => ?_) fun h3 => ?_
 ·have hlt : i < es.length := by
   have h4 : ((i : Nat) : Int) < (((cE es).length : Nat) : Int) := of_decide_eq_true h3
   omega
  have w1 : IntKind.wrap .i64 (((i : Nat) : Int) + 1) = ((i + 1 : Nat) : Int) := zb4 i (by omega)
  have hg := zki hlt
  generalize es[i].1 = a at *
  generalize es[i].2 = b at *
  repeat (first | refine za7 ?_ | refine za5 ?_ | refine za4 ?_ | refine zaj ?_ | refine zai ?_ | refine zd3 rfl ?_ | refine za3 rfl ?_ | refine zad rfl rfl ?_ | refine zan rfl rfl rfl rfl ?_ | refine zac rfl rfl rfl ?_ | refine zka env0_ok rfl rfl rfl ?_ | refine zbf rfl rfl (by omega) (by assumption) rfl ?_)
  refine o_eqs (r := true) rfl rfl (by simp [zok, eqK]) (fun h => Bool.noConfusion h) fun _ => ?_
  repeat (first | refine za0 rfl ?_ | refine za5 ?_ | refine za4 ?_ | refine zc6 ?_ | refine zai ?_ | refine zcx rfl ?_ | refine za3 rfl ?_ | refine zc3 (op := .add) rfl rfl rfl ?_)
  rw [w1]
  exact zaw (show es.length - (i + 1) < es.length - i by omega) (za9 (.cons rfl (.cons rfl (.cons rfl .nil)))) ⟨i + 1, rfl, hlt, rfl⟩
 ·repeat (first | refine za5 ?_ | refine za4 ?_ | refine zcx rfl ?_ | refine zck ?_ | refine zak ?_)
  refine ze4 ?_
  repeat (first | refine za7 ?_ | refine za0 rfl ?_ | refine za5 ?_ | refine za4 ?_ | refine zar ?_ | refine zcj ?_ | refine za3 rfl ?_)
  exact zal ⟨.inr rfl, _, rfl, rfl⟩
end Go.Proofs.Ytoagikifehmlpaa
