/-
  THE REFERENCE's CHECKS OF GRAPHS; small graphs.
-/
import Derived.Test.YtoagikifehmlpaaFF1
namespace Go.Proofs.Ytoagikifehmlpaa
open Go Go.Am
-- pneumatic/pneumaticref10.Vertex
def ic53 : IC := .seq (.region [⟨(some 2), .box (.t 0), none⟩,
  ⟨(some 4), .mov (.c (.bool false)), none⟩] none)
 (.seq (.region [⟨(some 5), .mov (.t 1), none⟩,
  ⟨(some 6), .bin .geq (.t 5) (.c (.int .i64 0)), none⟩,
  ⟨(some 7), .mov (.t 6), none⟩,
  ⟨(some 8), .mov (.t 1), some (7, true)⟩,
  ⟨(some 9), .faddr 0 (.t 2), some (7, true)⟩,
  ⟨(some 10), .load none (.t 9), some (7, true)⟩,
  ⟨(some 11), .bin .lss (.t 8) (.t 10), some (7, true)⟩,
  ⟨(some 12), .pick (.t 7) (.t 11) (.c (.bool false)), none⟩,
  ⟨(some 4), .mov (.t 12), none⟩] none)
 (.ret))
theorem fn53 : env0.fn 53 = some ⟨13, ic53, [.t 4]⟩ := by kernel_rfl
def b35_0 : IC := .seq (.seq (.region [⟨(some 16), .mov (.t 3), none⟩,
  ⟨(some 17), .faddr 1 (.t 1), none⟩,
  ⟨(some 18), .load none (.t 17), none⟩,
  ⟨(some 19), .len false (.t 18), none⟩,
  ⟨(some 20), .bin .lss (.t 16) (.t 19), none⟩] none)
 (.cond (.t 20) (.skip)
 (.exit 0)))
 (.seq (.block 1 (.seq (.region [⟨(some 23), .load (some 2) (.t 1), none⟩,
  ⟨(some 24), .faddr 1 (.t 1), none⟩,
  ⟨(some 25), .load none (.t 24), none⟩,
  ⟨(some 26), .mov (.t 3), none⟩,
  ⟨(some 27), .idxs 2 (.t 25) (.t 26), none⟩,
  ⟨(some 28), .faddr 0 (.t 27), none⟩,
  ⟨(some 29), .load none (.t 28), none⟩,
  ⟨(some 30), .call (.c (.fn 53 [] [])) [(.t 23), (.t 29)], none⟩,
  ⟨(some 31), .un .not (.t 30), none⟩,
  ⟨(some 32), .mov (.t 31), none⟩,
  ⟨(some 33), .load (some 2) (.t 1), some (32, false)⟩,
  ⟨(some 34), .faddr 1 (.t 1), some (32, false)⟩,
  ⟨(some 35), .load none (.t 34), some (32, false)⟩,
  ⟨(some 36), .mov (.t 3), some (32, false)⟩,
  ⟨(some 37), .idxs 2 (.t 35) (.t 36), some (32, false)⟩,
  ⟨(some 38), .faddr 1 (.t 37), some (32, false)⟩,
  ⟨(some 39), .load none (.t 38), some (32, false)⟩,
  ⟨(some 40), .call (.c (.fn 53 [] [])) [(.t 33), (.t 39)], some (32, false)⟩,
  ⟨(some 41), .un .not (.t 40), some (32, false)⟩,
  ⟨(some 42), .pick (.t 32) (.c (.bool true)) (.t 41), none⟩] (some [[], [], [1], [], [2, 3], [4], [5], [0, 6], [7], [8, 7], [9], [9], [11, 9], [9], [12, 13, 9], [14, 9], [15, 9], [10, 16, 9, 9], [17, 9], [9, 18]]))
 (.cond (.t 42) (.seq (.region [⟨(some 2), .mov (.c (.int .i64 2)), none⟩] none)
 (.ret))
 (.skip))))
 (.region [⟨(some 21), .mov (.t 3), none⟩,
  ⟨(some 22), .bin .add (.t 21) (.c (.int .i64 1)), none⟩,
  ⟨(some 3), .mov (.t 22), none⟩] none))
-- pneumatic/pneumaticref10.Check
def ic35 : IC := .seq (.region [⟨(some 1), .box (.t 0), none⟩,
  ⟨(some 2), .mov (.c (.int .i64 0)), none⟩] none)
 (.seq (.seq (.region [⟨(some 4), .faddr 0 (.t 1), none⟩,
  ⟨(some 5), .load none (.t 4), none⟩,
  ⟨(some 6), .bin .lss (.t 5) (.c (.int .i64 0)), none⟩,
  ⟨(some 7), .mov (.t 6), none⟩,
  ⟨(some 8), .faddr 0 (.t 1), some (7, false)⟩,
  ⟨(some 9), .load none (.t 8), some (7, false)⟩,
  ⟨(some 10), .bin .gtr (.t 9) (.c (.int .i64 256)), some (7, false)⟩,
  ⟨(some 11), .pick (.t 7) (.c (.bool true)) (.t 10), none⟩] none)
 (.cond (.t 11) (.seq (.region [⟨(some 2), .mov (.c (.int .i64 2)), none⟩] none)
 (.ret))
 (.skip)))
 (.seq (.seq (.region [⟨(some 12), .faddr 1 (.t 1), none⟩,
  ⟨(some 13), .load none (.t 12), none⟩,
  ⟨(some 14), .len false (.t 13), none⟩,
  ⟨(some 15), .bin .gtr (.t 14) (.c (.int .i64 4096)), none⟩] none)
 (.cond (.t 15) (.seq (.region [⟨(some 2), .mov (.c (.int .i64 5)), none⟩] none)
 (.ret))
 (.skip)))
 (.seq (.seq (.region [⟨(some 3), .mov (.c (.int .i64 0)), none⟩] none)
 (.block 0 (.loop b35_0)))
 (.seq (.region [⟨(some 2), .mov (.c (.int .i64 0)), none⟩] none)
 (.ret)))))
theorem fn35 : env0.fn 35 = some ⟨43, ic35, [.t 2]⟩ := by kernel_rfl
-- pneumatic/pneumaticref10.Few
def ic11 : IC := .seq (.region [⟨(some 1), .box (.t 0), none⟩,
  ⟨(some 2), .mov (.c (.bool false)), none⟩] none)
 (.seq (.region [⟨(some 3), .faddr 0 (.t 1), none⟩,
  ⟨(some 4), .load none (.t 3), none⟩,
  ⟨(some 5), .bin .leq (.t 4) (.c (.int .i64 8)), none⟩,
  ⟨(some 6), .mov (.t 5), none⟩,
  ⟨(some 7), .faddr 1 (.t 1), some (6, true)⟩,
  ⟨(some 8), .load none (.t 7), some (6, true)⟩,
  ⟨(some 9), .len false (.t 8), some (6, true)⟩,
  ⟨(some 10), .bin .leq (.t 9) (.c (.int .i64 16)), some (6, true)⟩,
  ⟨(some 11), .pick (.t 6) (.t 10) (.c (.bool false)), none⟩,
  ⟨(some 12), .mov (.t 11), none⟩,
  ⟨(some 13), .faddr 0 (.t 1), some (12, false)⟩,
  ⟨(some 14), .load none (.t 13), some (12, false)⟩,
  ⟨(some 15), .bin .gtr (.t 14) (.c (.int .i64 256)), some (12, false)⟩,
  ⟨(some 16), .mov (.t 15), some (12, false)⟩,
  ⟨(some 17), .faddr 1 (.t 1), some (16, false)⟩,
  ⟨(some 18), .load none (.t 17), some (16, false)⟩,
  ⟨(some 19), .len false (.t 18), some (16, false)⟩,
  ⟨(some 20), .bin .gtr (.t 19) (.c (.int .i64 4096)), some (16, false)⟩,
  ⟨(some 21), .pick (.t 16) (.c (.bool true)) (.t 20), some (12, false)⟩,
  ⟨(some 22), .mov (.t 21), some (12, false)⟩,
  ⟨(some 23), .faddr 1 (.t 1), some (22, true)⟩,
  ⟨(some 24), .load none (.t 23), some (22, true)⟩,
  ⟨(some 25), .len false (.t 24), some (22, true)⟩,
  ⟨(some 26), .bin .lss (.t 25) (.c (.int .i64 8192)), some (22, true)⟩,
  ⟨(some 27), .pick (.t 22) (.t 26) (.c (.bool false)), some (12, false)⟩,
  ⟨(some 28), .pick (.t 12) (.c (.bool true)) (.t 27), none⟩,
  ⟨(some 2), .mov (.t 28), none⟩] none)
 (.ret))
theorem fn11 : env0.fn 11 = some ⟨29, ic11, [.t 2]⟩ := by kernel_rfl
theorem zp7 (n : Int) (es : List (Int × Int)) (v : Int) : PF Try.prog 53 [cG n es, .int .i64 v] (.bool (!zg6 n v)) := by
 refine zav env0_ok fn53 [(0, .agg [.int .i64 n, .vs (cE es)]), (1, .int .i64 v)] (by show 2 ≤ 13; decide) rfl fun w0 N0 => ?_
 unfold ic53
 refine za5 (za0 rfl (zd3 rfl rfl (za1 rfl (za3 (za2 ?_)))))
 refine zbf [] [(0, 0, [.int .i64 n, .vs (cE es)])] [(1, .int .i64 v), (2, .vptr [.int .i64 n, .vs (cE es)])] rfl (.cons rfl rfl .nil) .nil (.cons rfl (.same rfl) (.cons rfl (.fptr rfl rfl) .nil)) ?_
 unfold zg6
 repeat (first | refine za5 ?_ | refine za0 rfl ?_ | refine za1 rfl ?_)
 refine zam rfl rfl rfl (fun h5 => ?_) fun h5 => ?_
 ·have h5 : v ≥ 0 := of_decide_eq_true h5
  repeat (first | refine zd4 rfl ?_ | refine za1 rfl ?_ | refine zaf rfl rfl ?_ | refine zac rfl rfl rfl ?_)
  refine zam rfl rfl rfl (fun h6 => ?_) fun h6 => ?_
  ·have h6 : v < n := of_decide_eq_true h6
   repeat (first | refine za3 ?_ | refine za2 ?_ | refine zat ?_ | refine za1 rfl ?_ | refine zal rfl rfl ?_)
   exact zao ⟨.inr rfl, _, rfl, by rw [decide_eq_false (by omega), decide_eq_false (by omega)]; rfl⟩
  ·have h6 : ¬ v < n := of_decide_eq_false h6
   repeat (first | refine za3 ?_ | refine za2 ?_ | refine zat ?_ | refine za1 rfl ?_ | refine zal rfl rfl ?_)
   exact zao ⟨.inr rfl, _, rfl, by rw [decide_eq_false (by omega), decide_eq_true (by omega)]; rfl⟩
 ·have h5 : ¬ v ≥ 0 := of_decide_eq_false h5
  repeat (first | refine za3 ?_ | refine za2 ?_ | refine zat ?_ | refine zik rfl rfl ?_ | refine za1 rfl ?_ | refine zax rfl rfl ?_)
  exact zao ⟨.inr rfl, _, rfl, by rw [decide_eq_true (by omega)]; rfl⟩
theorem zrq {n : Int} {es : List (Int × Int)} {i : Nat} (h : i < es.length) : zmn n (es.drop i) = if zg6 n es[i].1 = true then 2 else if zg6 n es[i].2 = true then 2 else zmn n (es.drop (i + 1)) := by
 rw [List.drop_eq_getElem_cons h, zlb]
 unfold zkr
 rw [List.any_cons, List.any_cons, List.any_nil, Bool.or_false]
 cases zg6 n es[i].1 <;> cases zg6 n es[i].2 <;> rfl
theorem ziv {f : FuncId} {args bs : List AV} {v w : AV} {l : List (FuncId × List AV × AV)} (h : bs ≠ args) (k : ze4 l f args = some w) : ze4 ((f, bs, v) :: l) f args = some w := by
 simp [ze4, h, k]
set_option maxHeartbeats 2000000 in
theorem zmj (n : Int) (es : List (Int × Int)) : PF Try.prog 35 [cG n es] (.int .i64 (zd7 n es)) := by
 have hcl := zc2 es
 refine zav env0_ok fn35 [(0, .agg [.int .i64 n, .vs (cE es)])] (by show 1 ≤ 43; decide) rfl fun w0 N0 => ?_
 unfold ic35
 refine za5 (za0 rfl (zd3 rfl rfl (za1 rfl (za3 (za2 ?_)))))
 refine zbf [] [(0, 0, [.int .i64 n, .vs (cE es)])] [(1, .vptr [.int .i64 n, .vs (cE es)])] rfl (.cons rfl rfl .nil) .nil (.cons rfl (.fptr rfl rfl) .nil) ?_
 repeat (first | refine za5 ?_ | refine za0 rfl ?_ | refine zaf rfl rfl ?_ | refine zac rfl rfl rfl ?_)
 refine zam rfl rfl rfl (fun h => ?_) fun h => ?_
 ·repeat (first | refine za5 ?_ | refine za0 rfl ?_ | refine za3 ?_ | refine za2 ?_ | refine zbt rfl ?_ | refine zat ?_ | refine zag ?_ | refine zik rfl rfl ?_ | refine za1 rfl ?_ | refine zal rfl rfl ?_)
  exact zao ⟨.inr rfl, _, rfl, by rw [zrd (of_decide_eq_true h)]; rfl⟩
 have h0 : ¬ n < 0 := of_decide_eq_false h
 repeat (first | refine zd4 rfl ?_ | refine za1 rfl ?_ | refine zaf rfl rfl ?_ | refine zac rfl rfl rfl ?_)
 refine zam rfl rfl rfl (fun h => ?_) fun h => ?_
 ·repeat (first | refine za5 ?_ | refine za0 rfl ?_ | refine za3 ?_ | refine za2 ?_ | refine zbt rfl ?_ | refine zat ?_ | refine zag ?_ | refine za1 rfl ?_ | refine zax rfl rfl ?_)
  exact zao ⟨.inr rfl, _, rfl, by rw [zrb (of_decide_eq_true h)]; rfl⟩
 have h1 : ¬ n > 256 := of_decide_eq_false h
 repeat (first | refine za5 ?_ | refine za0 rfl ?_ | refine za3 ?_ | refine za2 ?_ | refine zad ?_ | refine zbm rfl ?_ | refine zaf rfl rfl ?_ | refine zac rfl rfl rfl ?_ | refine zax rfl rfl ?_ | refine zbg rfl rfl ?_)
 refine zam rfl rfl rfl (fun h => ?_) fun h => ?_
 ·have h2 : (((cE es).length : Nat) : Int) > 4096 := of_decide_eq_true h
  repeat (first | refine za5 ?_ | refine za0 rfl ?_ | refine za3 ?_ | refine za2 ?_ | refine zbt rfl ?_ | refine zat ?_ | refine zag ?_ | refine za1 rfl ?_)
  exact zao ⟨.inr rfl, _, rfl, by rw [zo2 h0 h1 (by omega)]; rfl⟩
 have h2 : ¬ (((cE es).length : Nat) : Int) > 4096 := of_decide_eq_false h
 rw [zrc h0 h1 (by omega)]
 repeat (first | refine za5 ?_ | refine za0 rfl ?_ | refine za3 ?_ | refine za2 ?_ | refine zaa ?_ | refine zad ?_ | refine zbm rfl ?_ | refine za1 rfl ?_)
 refine zba (fun mm S => ∃ i, mm = es.length - i ∧ i ≤ es.length ∧ zmn n (es.drop i) = zmn n es ∧ S = st 43 [(1, .vptr [.int .i64 n, .vs (cE es)]), (3, .int .i64 (i : Nat))] [] 0 1) es.length
  (za7 (.cons rfl (.cons rfl .nil))) ⟨0, rfl, Nat.zero_le _, rfl, rfl⟩ ?_
 rintro mm S ⟨i, rfl, hi, hv, rfl⟩
 unfold b35_0
 repeat (first | refine za5 ?_ | refine za0 rfl ?_ | refine za1 rfl ?_ | refine zaf rfl rfl ?_ | refine zac rfl rfl rfl ?_ | refine zbg rfl rfl ?_)
 refine zam rfl rfl rfl (fun h3 => ?_) fun h3 => ?_
 ·have hlt : i < es.length := by
   have h4 : ((i : Nat) : Int) < (((cE es).length : Nat) : Int) := of_decide_eq_true h3
   omega
  have w1 : IntKind.wrap .i64 (((i : Nat) : Int) + 1) = ((i + 1 : Nat) : Int) := zak i (by omega)
  have hg := zr9 hlt
  have hs := zrq (n := n) hlt
  have pa := zp7 n es es[i].1
  have pb := zp7 n es es[i].2
  generalize es[i].1 = a at *
  generalize es[i].2 = b at *
  repeat (first | refine za5 ?_ | refine za3 ?_ | refine za2 ?_ | refine zaa ?_ | refine zad ?_ | refine zbt rfl ?_)
  refine zkw env0_ok [(53, [cG n es, .int .i64 a], .bool (!zg6 n a)), (53, [cG n es, .int .i64 b], .bool (!zg6 n b))] (fun x hx => by
   rcases List.mem_cons.1 hx with rfl | hx
   ·exact pa
   obtain rfl := List.mem_singleton.1 hx
   exact pb) (fun f => Nat.beq f 53) rfl rfl rfl ?_
  have lkb : ze4 [(53, [cG n es, .int .i64 a], .bool (!zg6 n a)), (53, [cG n es, .int .i64 b], .bool (!zg6 n b))] 53 [cG n es, .int .i64 b] = some (.bool (!zg6 n b)) := by
   by_cases hab : a = b
   ·subst hab
    exact zbv
   ·exact ziv (fun e => hab (by simpa using e)) zbv
  repeat (first | refine za1 rfl ?_ | refine zaf rfl rfl ?_ | refine zaq rfl rfl rfl rfl ?_ | refine zac rfl rfl rfl ?_ | refine zb1 rfl rfl (by omega) (by assumption) rfl ?_)
  refine zas rfl rfl zbv (fun h => Bool.noConfusion (show false = true from h)) ?_
  cases ea : zg6 n a with
  | true =>
   rw [ea, if_pos rfl, hv] at hs
   repeat (first | refine za5 ?_ | refine za0 rfl ?_ | refine za3 ?_ | refine za2 ?_ | refine zbt rfl ?_ | refine zat ?_ | refine zag ?_ | refine zb4 ?_ | refine zik rfl rfl ?_ | refine za1 rfl ?_ | refine zal rfl rfl ?_ | refine zpx rfl rfl ?_)
   exact zao ⟨.inr rfl, _, rfl, by rw [hs]; rfl⟩
  | false =>
   rw [ea, if_neg Bool.false_ne_true] at hs
   rw [ea] at lkb
   repeat (first | refine zd4 rfl ?_ | refine za1 rfl ?_ | refine zaf rfl rfl ?_ | refine zaq rfl rfl rfl rfl ?_ | refine zac rfl rfl rfl ?_ | refine zpx rfl rfl ?_ | refine zb1 rfl rfl (by omega) (by assumption) rfl ?_)
   refine zas rfl rfl lkb (fun h => Bool.noConfusion (show false = true from h)) ?_
   cases eb : zg6 n b with
   | true =>
    rw [eb, if_pos rfl, hv] at hs
    repeat (first | refine za5 ?_ | refine za0 rfl ?_ | refine za3 ?_ | refine za2 ?_ | refine zbt rfl ?_ | refine zat ?_ | refine zag ?_ | refine zb4 ?_ | refine zd4 rfl ?_ | refine za1 rfl ?_ | refine zax rfl rfl ?_ | refine zpx rfl rfl ?_)
    exact zao ⟨.inr rfl, _, rfl, by rw [hs]; rfl⟩
   | false =>
    rw [eb, if_neg Bool.false_ne_true, hv] at hs
    repeat (first | refine za0 rfl ?_ | refine za3 ?_ | refine za2 ?_ | refine zb7 ?_ | refine zad ?_ | refine zbm rfl ?_ | refine zd4 rfl ?_ | refine za1 rfl ?_ | refine zax rfl rfl ?_ | refine zpx rfl rfl ?_ | refine zaz (op := .add) rfl rfl rfl ?_)
    rw [w1]
    exact zaj (show es.length - (i + 1) < es.length - i by omega) (za7 (.cons rfl (.cons rfl .nil))) ⟨i + 1, rfl, hlt, hs.symm, rfl⟩
 ·have hie : i = es.length := by
   have h4 : ¬ ((i : Nat) : Int) < (((cE es).length : Nat) : Int) := of_decide_eq_false h3
   omega
  rw [hie, List.drop_length] at hv
  repeat (first | refine za3 ?_ | refine za2 ?_ | refine zbm rfl ?_ | refine zb9 ?_ | refine zab ?_)
  refine zc8 ?_
  repeat (first | refine za5 ?_ | refine za0 rfl ?_ | refine za3 ?_ | refine za2 ?_ | refine zat ?_ | refine zb8 ?_ | refine za1 rfl ?_)
  exact zao ⟨.inr rfl, _, rfl, by rw [← hv]; rfl⟩
def zqd (n : Int) (es : List (Int × Int)) (l : List Int) : Int := if zd7 n es = 0 then zkr n l else zd7 n es
def fewB (n : Int) (es : List (Int × Int)) : Bool := (decide (n ≤ 8) && decide (es.length ≤ 16)) || ((decide (n > 256) || decide (es.length > 4096)) && decide (es.length < 8192))
set_option maxRecDepth 100000 in
set_option maxHeartbeats 1000000 in
theorem few11 (n : Int) (es : List (Int × Int)) : PF Try.prog 11 [cG n es] (.bool (fewB n es)) := by
 have hcl := zc2 es
 refine zav env0_ok fn11 [(0, .agg [.int .i64 n, .vs (cE es)])] (by show 1 ≤ 29; decide) rfl fun w0 N0 => ?_
 unfold ic11
 refine za5 (za0 rfl (zd3 rfl rfl (za1 rfl (za3 (za2 ?_)))))
 refine zbf [] [(0, 0, [.int .i64 n, .vs (cE es)])] [(1, .vptr [.int .i64 n, .vs (cE es)])] rfl (.cons rfl rfl .nil) .nil (.cons rfl (.fptr rfl rfl) .nil) ?_
 unfold fewB
 rw [← hcl]
 have tail : ∀ b : Bool, (decide (n ≤ 8) && decide ((cE es).length ≤ 16)) = false → b = ((decide (n ≤ 8) && decide ((cE es).length ≤ 16)) || b) := fun b h => by rw [h, Bool.false_or]
 repeat (first | refine za5 ?_ | refine za0 rfl ?_ | refine zaf rfl rfl ?_ | refine zac rfl rfl rfl ?_)
 refine zam rfl rfl rfl (fun h1 => ?_) fun h1 => ?_
 ·have e1 : decide (n ≤ 8) = true := h1
  repeat (first | refine zd4 rfl ?_ | refine za1 rfl ?_ | refine zaf rfl rfl ?_ | refine zac rfl rfl rfl ?_ | refine zbg rfl rfl ?_)
  refine zam rfl rfl rfl (fun h2 => ?_) fun h2 => ?_
  ·have e2 : (((cE es).length : Nat) : Int) ≤ 16 := of_decide_eq_true h2
   repeat (first | refine za3 ?_ | refine za2 ?_ | refine zat ?_ | refine zik rfl rfl ?_ | refine o_gt rfl ?_ | refine za1 rfl ?_ | refine zal rfl rfl ?_)
   exact zao ⟨.inr rfl, _, rfl, by rw [e1, decide_eq_true (p := (cE es).length ≤ 16) (by omega)]; rfl⟩
  ·have e2 : ¬ (((cE es).length : Nat) : Int) ≤ 16 := of_decide_eq_false h2
   have e3 : ¬ n > 256 := by have := of_decide_eq_true e1; omega
   repeat (first | refine zd4 rfl ?_ | refine za1 rfl ?_ | refine zaf rfl rfl ?_ | refine zac rfl rfl rfl ?_ | refine zal rfl rfl ?_)
   refine zef rfl rfl (by show some (AV.bool (decide (n > 256))) = _; rw [decide_eq_false e3]) ?_
   repeat (first | refine zd4 rfl ?_ | refine za1 rfl ?_ | refine zaf rfl rfl ?_ | refine zac rfl rfl rfl ?_ | refine zbg rfl rfl ?_)
   refine zam rfl rfl rfl (fun h4 => ?_) fun h4 => ?_
   ·have e4 : (((cE es).length : Nat) : Int) > 4096 := of_decide_eq_true h4
    repeat (first | refine zd4 rfl ?_ | refine za1 rfl ?_ | refine zaf rfl rfl ?_ | refine zac rfl rfl rfl ?_ | refine zax rfl rfl ?_ | refine zbg rfl rfl ?_)
    refine zam rfl rfl rfl (fun h5 => ?_) fun h5 => ?_
    ·have e5 : (((cE es).length : Nat) : Int) < 8192 := of_decide_eq_true h5
     repeat (first | refine za3 ?_ | refine za2 ?_ | refine zat ?_ | refine zd4 rfl ?_ | refine za1 rfl ?_ | refine zal rfl rfl ?_ | refine zax rfl rfl ?_)
     exact zao ⟨.inr rfl, _, rfl, by rw [e1, decide_eq_false (p := (cE es).length ≤ 16) (by omega), decide_eq_true (p := (cE es).length > 4096) (by omega), decide_eq_true (p := (cE es).length < 8192) (by omega), Bool.or_true]; rfl⟩
    ·have e5 : ¬ (((cE es).length : Nat) : Int) < 8192 := of_decide_eq_false h5
     repeat (first | refine za3 ?_ | refine za2 ?_ | refine zat ?_ | refine zd4 rfl ?_ | refine za1 rfl ?_ | refine zal rfl rfl ?_ | refine zax rfl rfl ?_)
     exact zao ⟨.inr rfl, _, rfl, by rw [e1, decide_eq_false (p := (cE es).length ≤ 16) (by omega), decide_eq_false (p := (cE es).length < 8192) (by omega), Bool.and_false, Bool.and_false]; rfl⟩
   ·have e4 : ¬ (((cE es).length : Nat) : Int) > 4096 := of_decide_eq_false h4
    repeat (first | refine za3 ?_ | refine za2 ?_ | refine zat ?_ | refine zd4 rfl ?_ | refine zik rfl rfl ?_ | refine za1 rfl ?_ | refine zax rfl rfl ?_)
    exact zao ⟨.inr rfl, _, rfl, by rw [e1, decide_eq_false (p := (cE es).length ≤ 16) (by omega), decide_eq_false e3, decide_eq_false (p := (cE es).length > 4096) (by omega)]; rfl⟩
 ·have e1 : ¬ n ≤ 8 := of_decide_eq_false h1
  rw [decide_eq_false e1, Bool.false_and, Bool.false_or]
  repeat (first | refine zd4 rfl ?_ | refine zik rfl rfl ?_ | refine za1 rfl ?_ | refine zaf rfl rfl ?_ | refine zac rfl rfl rfl ?_ | refine zax rfl rfl ?_)
  refine zam rfl rfl rfl (fun h3 => ?_) fun h3 => ?_
  ·have e3 : n > 256 := of_decide_eq_true h3
   repeat (first | refine zd4 rfl ?_ | refine zik rfl rfl ?_ | refine za1 rfl ?_ | refine zaf rfl rfl ?_ | refine zac rfl rfl rfl ?_ | refine zal rfl rfl ?_ | refine zbg rfl rfl ?_)
   refine zam rfl rfl rfl (fun h5 => ?_) fun h5 => ?_
   ·have e5 : (((cE es).length : Nat) : Int) < 8192 := of_decide_eq_true h5
    repeat (first | refine za3 ?_ | refine za2 ?_ | refine zat ?_ | refine zd4 rfl ?_ | refine za1 rfl ?_ | refine zal rfl rfl ?_ | refine zax rfl rfl ?_)
    exact zao ⟨.inr rfl, _, rfl, by rw [decide_eq_true e3, decide_eq_true (p := (cE es).length < 8192) (by omega)]; rfl⟩
   ·have e5 : ¬ (((cE es).length : Nat) : Int) < 8192 := of_decide_eq_false h5
    repeat (first | refine za3 ?_ | refine za2 ?_ | refine zat ?_ | refine zd4 rfl ?_ | refine za1 rfl ?_ | refine zal rfl rfl ?_ | refine zax rfl rfl ?_)
    exact zao ⟨.inr rfl, _, rfl, by rw [decide_eq_false (p := (cE es).length < 8192) (by omega), Bool.and_false]; rfl⟩
  ·have e3 : ¬ n > 256 := of_decide_eq_false h3
   repeat (first | refine zd4 rfl ?_ | refine za1 rfl ?_ | refine zaf rfl rfl ?_ | refine zac rfl rfl rfl ?_ | refine zbg rfl rfl ?_)
   refine zam rfl rfl rfl (fun h4 => ?_) fun h4 => ?_
   ·have e4 : (((cE es).length : Nat) : Int) > 4096 := of_decide_eq_true h4
    repeat (first | refine zd4 rfl ?_ | refine za1 rfl ?_ | refine zaf rfl rfl ?_ | refine zac rfl rfl rfl ?_ | refine zax rfl rfl ?_ | refine zbg rfl rfl ?_)
    refine zam rfl rfl rfl (fun h5 => ?_) fun h5 => ?_
    ·have e5 : (((cE es).length : Nat) : Int) < 8192 := of_decide_eq_true h5
     repeat (first | refine za3 ?_ | refine za2 ?_ | refine zat ?_ | refine zd4 rfl ?_ | refine za1 rfl ?_ | refine zal rfl rfl ?_ | refine zax rfl rfl ?_)
     exact zao ⟨.inr rfl, _, rfl, by rw [decide_eq_true (p := (cE es).length > 4096) (by omega), decide_eq_true (p := (cE es).length < 8192) (by omega), Bool.or_true]; rfl⟩
    ·have e5 : ¬ (((cE es).length : Nat) : Int) < 8192 := of_decide_eq_false h5
     repeat (first | refine za3 ?_ | refine za2 ?_ | refine zat ?_ | refine zd4 rfl ?_ | refine za1 rfl ?_ | refine zal rfl rfl ?_ | refine zax rfl rfl ?_)
     exact zao ⟨.inr rfl, _, rfl, by rw [decide_eq_false (p := (cE es).length < 8192) (by omega), Bool.and_false]; rfl⟩
   ·have e4 : ¬ (((cE es).length : Nat) : Int) > 4096 := of_decide_eq_false h4
    repeat (first | refine za3 ?_ | refine za2 ?_ | refine zat ?_ | refine zd4 rfl ?_ | refine zik rfl rfl ?_ | refine za1 rfl ?_ | refine zax rfl rfl ?_)
    exact zao ⟨.inr rfl, _, rfl, by rw [decide_eq_false e3, decide_eq_false (p := (cE es).length > 4096) (by omega)]; rfl⟩
theorem zru {n : Int} {es : List (Int × Int)} (h : fewB n es = true) : es.length < 8192 ∧ (zd7 n es = 0 → n ≤ 8 ∧ es.length ≤ 16) := by
 unfold fewB at h
 rw [Bool.or_eq_true, Bool.and_eq_true, Bool.and_eq_true, Bool.or_eq_true, decide_eq_true_eq, decide_eq_true_eq, decide_eq_true_eq, decide_eq_true_eq, decide_eq_true_eq] at h
 rcases h with ⟨h1, h2⟩ | ⟨h1, h2⟩
 ·exact ⟨by omega, fun _ => ⟨h1, h2⟩⟩
 ·refine ⟨h2, fun hc => ?_⟩
  unfold zd7 at hc
  split at hc
  ·cases hc
  split at hc
  ·cases hc
  split at hc
  ·cases hc
  omega
end Go.Proofs.Ytoagikifehmlpaa
