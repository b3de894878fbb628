/-
  THE REFERENCE's CHECKS OF GRAPHS; small graphs.
-/
import Derived.Test.YtoagikifehmlpaaQF1
namespace Go.Proofs.Ytoagikifehmlpaa
open Go Go.Am
-- pneumatic/pneumaticref10.Vertex
def ic53 : IC := .seq (.region [⟨(some 2), .box (.t 0), none⟩,
  ⟨(some 4), .mov (.c (.bool false)), none⟩] none)
 (.seq (.region [⟨(some 5), .mov (.t 1), none⟩,
  ⟨(some 6), .bin .geq (.t 5) (.c (.int .i64 0)), none⟩,
  ⟨(some 7), .mov (.t 6), none⟩,
  ⟨(some 8), .mov (.t 1), some (7, true)⟩,
  ⟨(some 9), .faddr 0 (.t 2), some (7, true)⟩,
  ⟨(some 10), .load none (.t 9), some (7, true)⟩,
  ⟨(some 11), .bin .lss (.t 8) (.t 10), some (7, true)⟩,
  ⟨(some 12), .pick (.t 7) (.t 11) (.c (.bool false)), none⟩,
  ⟨(some 4), .mov (.t 12), none⟩] none)
 (.ret))
theorem fn53 : env0.fn 53 = some ⟨13, ic53, [.t 4]⟩ := by kernel_rfl
def b35_0 : IC := .seq (.seq (.region [⟨(some 16), .mov (.t 3), none⟩,
  ⟨(some 17), .faddr 1 (.t 1), none⟩,
  ⟨(some 18), .load none (.t 17), none⟩,
  ⟨(some 19), .len false (.t 18), none⟩,
  ⟨(some 20), .bin .lss (.t 16) (.t 19), none⟩] none)
 (.cond (.t 20) (.skip)
 (.exit 0)))
 (.seq (.block 1 (.seq (.region [⟨(some 23), .load (some 2) (.t 1), none⟩,
  ⟨(some 24), .faddr 1 (.t 1), none⟩,
  ⟨(some 25), .load none (.t 24), none⟩,
  ⟨(some 26), .mov (.t 3), none⟩,
  ⟨(some 27), .idxs 2 (.t 25) (.t 26), none⟩,
  ⟨(some 28), .faddr 0 (.t 27), none⟩,
  ⟨(some 29), .load none (.t 28), none⟩,
  ⟨(some 30), .call (.c (.fn 53 [] [])) [(.t 23), (.t 29)], none⟩,
  ⟨(some 31), .un .not (.t 30), none⟩,
  ⟨(some 32), .mov (.t 31), none⟩,
  ⟨(some 33), .load (some 2) (.t 1), some (32, false)⟩,
  ⟨(some 34), .faddr 1 (.t 1), some (32, false)⟩,
  ⟨(some 35), .load none (.t 34), some (32, false)⟩,
  ⟨(some 36), .mov (.t 3), some (32, false)⟩,
  ⟨(some 37), .idxs 2 (.t 35) (.t 36), some (32, false)⟩,
  ⟨(some 38), .faddr 1 (.t 37), some (32, false)⟩,
  ⟨(some 39), .load none (.t 38), some (32, false)⟩,
  ⟨(some 40), .call (.c (.fn 53 [] [])) [(.t 33), (.t 39)], some (32, false)⟩,
  ⟨(some 41), .un .not (.t 40), some (32, false)⟩,
  ⟨(some 42), .pick (.t 32) (.c (.bool true)) (.t 41), none⟩] (some [[], [], [1], [], [2, 3], [4], [5], [0, 6], [7], [8, 7], [9], [9], [11, 9], [9], [12, 13, 9], [14, 9], [15, 9], [10, 16, 9, 9], [17, 9], [9, 18]]))
 (.cond (.t 42) (.seq (.region [⟨(some 2), .mov (.c (.int .i64 2)), none⟩] none)
 (.ret))
 (.skip))))
 (.region [⟨(some 21), .mov (.t 3), none⟩,
  ⟨(some 22), .bin .add (.t 21) (.c (.int .i64 1)), none⟩,
  ⟨(some 3), .mov (.t 22), none⟩] none))
-- pneumatic/pneumaticref10.Check
def ic35 : IC := .seq (.region [⟨(some 1), .box (.t 0), none⟩,
  ⟨(some 2), .mov (.c (.int .i64 0)), none⟩] none)
 (.seq (.seq (.region [⟨(some 4), .faddr 0 (.t 1), none⟩,
  ⟨(some 5), .load none (.t 4), none⟩,
  ⟨(some 6), .bin .lss (.t 5) (.c (.int .i64 0)), none⟩,
  ⟨(some 7), .mov (.t 6), none⟩,
  ⟨(some 8), .faddr 0 (.t 1), some (7, false)⟩,
  ⟨(some 9), .load none (.t 8), some (7, false)⟩,
  ⟨(some 10), .bin .gtr (.t 9) (.c (.int .i64 256)), some (7, false)⟩,
  ⟨(some 11), .pick (.t 7) (.c (.bool true)) (.t 10), none⟩] none)
 (.cond (.t 11) (.seq (.region [⟨(some 2), .mov (.c (.int .i64 2)), none⟩] none)
 (.ret))
 (.skip)))
 (.seq (.seq (.region [⟨(some 12), .faddr 1 (.t 1), none⟩,
  ⟨(some 13), .load none (.t 12), none⟩,
  ⟨(some 14), .len false (.t 13), none⟩,
  ⟨(some 15), .bin .gtr (.t 14) (.c (.int .i64 4096)), none⟩] none)
 (.cond (.t 15) (.seq (.region [⟨(some 2), .mov (.c (.int .i64 5)), none⟩] none)
 (.ret))
 (.skip)))
 (.seq (.seq (.region [⟨(some 3), .mov (.c (.int .i64 0)), none⟩] none)
 (.block 0 (.loop b35_0)))
 (.seq (.region [⟨(some 2), .mov (.c (.int .i64 0)), none⟩] none)
 (.ret)))))
theorem fn35 : env0.fn 35 = some ⟨43, ic35, [.t 2]⟩ := by kernel_rfl
theorem zoy (n : Int) (es : List (Int × Int)) (v : Int) : PF Try.prog 53 [cG n es, .int .i64 v] (.bool (!zf5 n v)) := by
 refine zb4 env0_ok fn53 [(0, .agg [.int .i64 n, .vs (cE es)]), (1, .int .i64 v)] (by show 2 ≤ 13; decide) rfl fun w0 N0 => ?_
 unfold ic53
 refine za6 (za0 rfl (ze8 rfl rfl (za2 rfl (za5 (za3 ?_)))))
 refine zby [] [(0, 0, [.int .i64 n, .vs (cE es)])] [(1, .int .i64 v), (2, .vptr [.int .i64 n, .vs (cE es)])] rfl (.cons rfl rfl .nil) .nil (.cons rfl (.same rfl) (.cons rfl (.fptr rfl rfl) .nil)) ?_
 unfold zf5
 repeat (first | refine za6 ?_ | refine za0 rfl ?_ | refine za2 rfl ?_)
 refine zau rfl rfl rfl (fun h5 => ?_) fun h5 => ?_
 ·have h5 : v ≥ 0 := of_decide_eq_true h5
  repeat (first | refine zee rfl ?_ | refine za2 rfl ?_ | refine zaf rfl rfl ?_ | refine zan rfl rfl rfl ?_)
  refine zau rfl rfl rfl (fun h6 => ?_) fun h6 => ?_
  ·have h6 : v < n := of_decide_eq_true h6
   repeat (first | refine za5 ?_ | refine za3 ?_ | refine zaq ?_ | refine za2 rfl ?_ | refine zbg rfl rfl ?_)
   exact zao ⟨.inr rfl, _, rfl, by rw [decide_eq_false (by omega), decide_eq_false (by omega)]; rfl⟩
  ·have h6 : ¬ v < n := of_decide_eq_false h6
   repeat (first | refine za5 ?_ | refine za3 ?_ | refine zaq ?_ | refine za2 rfl ?_ | refine zbg rfl rfl ?_)
   exact zao ⟨.inr rfl, _, rfl, by rw [decide_eq_false (by omega), decide_eq_true (by omega)]; rfl⟩
 ·have h5 : ¬ v ≥ 0 := of_decide_eq_false h5
  repeat (first | refine za5 ?_ | refine za3 ?_ | refine zaq ?_ | refine zq7 rfl rfl ?_ | refine za2 rfl ?_ | refine zas rfl rfl ?_)
  exact zao ⟨.inr rfl, _, rfl, by rw [decide_eq_true (by omega)]; rfl⟩
theorem zri {n : Int} {es : List (Int × Int)} {i : Nat} (h : i < es.length) : zmg n (es.drop i) = if zf5 n es[i].1 = true then 2 else if zf5 n es[i].2 = true then 2 else zmg n (es.drop (i + 1)) := by
 rw [List.drop_eq_getElem_cons h, zl2]
 unfold zh3
 rw [List.any_cons, List.any_cons, List.any_nil, Bool.or_false]
 cases zf5 n es[i].1 <;> cases zf5 n es[i].2 <;> rfl
theorem ziw {f : FuncId} {args bs : List AV} {v w : AV} {l : List (FuncId × List AV × AV)} (h : bs ≠ args) (k : zeg l f args = some w) : zeg ((f, bs, v) :: l) f args = some w := by
 simp [zeg, h, k]
set_option maxHeartbeats 2000000 in
theorem check35 (n : Int) (es : List (Int × Int)) : PF Try.prog 35 [cG n es] (.int .i64 (zdx n es)) := by
 have hcl := zcg es
 refine zb4 env0_ok fn35 [(0, .agg [.int .i64 n, .vs (cE es)])] (by show 1 ≤ 43; decide) rfl fun w0 N0 => ?_
 unfold ic35
 refine za6 (za0 rfl (ze8 rfl rfl (za2 rfl (za5 (za3 ?_)))))
 refine zby [] [(0, 0, [.int .i64 n, .vs (cE es)])] [(1, .vptr [.int .i64 n, .vs (cE es)])] rfl (.cons rfl rfl .nil) .nil (.cons rfl (.fptr rfl rfl) .nil) ?_
 repeat (first | refine za6 ?_ | refine za0 rfl ?_ | refine zaf rfl rfl ?_ | refine zan rfl rfl rfl ?_)
 refine zau rfl rfl rfl (fun h => ?_) fun h => ?_
 ·repeat (first | refine za6 ?_ | refine za0 rfl ?_ | refine za5 ?_ | refine za3 ?_ | refine zcp rfl ?_ | refine zaq ?_ | refine zac ?_ | refine zq7 rfl rfl ?_ | refine za2 rfl ?_ | refine zbg rfl rfl ?_)
  exact zao ⟨.inr rfl, _, rfl, by rw [zr4 (of_decide_eq_true h)]; rfl⟩
 have h0 : ¬ n < 0 := of_decide_eq_false h
 repeat (first | refine zee rfl ?_ | refine za2 rfl ?_ | refine zaf rfl rfl ?_ | refine zan rfl rfl rfl ?_)
 refine zau rfl rfl rfl (fun h => ?_) fun h => ?_
 ·repeat (first | refine za6 ?_ | refine za0 rfl ?_ | refine za5 ?_ | refine za3 ?_ | refine zcp rfl ?_ | refine zaq ?_ | refine zac ?_ | refine za2 rfl ?_ | refine zas rfl rfl ?_)
  exact zao ⟨.inr rfl, _, rfl, by rw [zr2 (of_decide_eq_true h)]; rfl⟩
 have h1 : ¬ n > 256 := of_decide_eq_false h
 repeat (first | refine za6 ?_ | refine za0 rfl ?_ | refine za5 ?_ | refine za3 ?_ | refine zad ?_ | refine zce rfl ?_ | refine zaf rfl rfl ?_ | refine zan rfl rfl rfl ?_ | refine zas rfl rfl ?_ | refine zbf rfl rfl ?_)
 refine zau rfl rfl rfl (fun h => ?_) fun h => ?_
 ·have h2 : (((cE es).length : Nat) : Int) > 4096 := of_decide_eq_true h
  repeat (first | refine za6 ?_ | refine za0 rfl ?_ | refine za5 ?_ | refine za3 ?_ | refine zcp rfl ?_ | refine zaq ?_ | refine zac ?_ | refine za2 rfl ?_)
  exact zao ⟨.inr rfl, _, rfl, by rw [znw h0 h1 (by omega)]; rfl⟩
 have h2 : ¬ (((cE es).length : Nat) : Int) > 4096 := of_decide_eq_false h
 rw [zr3 h0 h1 (by omega)]
 repeat (first | refine za6 ?_ | refine za0 rfl ?_ | refine za5 ?_ | refine za3 ?_ | refine zae ?_ | refine zad ?_ | refine zce rfl ?_ | refine za2 rfl ?_)
 refine zbx (fun mm S => ∃ i, mm = es.length - i ∧ i ≤ es.length ∧ zmg n (es.drop i) = zmg n es ∧ S = st 43 [(1, .vptr [.int .i64 n, .vs (cE es)]), (3, .int .i64 (i : Nat))] [] 0 1) es.length
  (za9 (.cons rfl (.cons rfl .nil))) ⟨0, rfl, Nat.zero_le _, rfl, rfl⟩ ?_
 rintro mm S ⟨i, rfl, hi, hv, rfl⟩
 unfold b35_0
 repeat (first | refine za6 ?_ | refine za0 rfl ?_ | refine za2 rfl ?_ | refine zaf rfl rfl ?_ | refine zan rfl rfl rfl ?_ | refine zbf rfl rfl ?_)
 refine zau rfl rfl rfl (fun h3 => ?_) fun h3 => ?_
 ·have hlt : i < es.length := by
   have h4 : ((i : Nat) : Int) < (((cE es).length : Nat) : Int) := of_decide_eq_true h3
   omega
  have w1 : IntKind.wrap .i64 (((i : Nat) : Int) + 1) = ((i + 1 : Nat) : Int) := zar i (by omega)
  have hg := znt hlt
  have hs := zri (n := n) hlt
  have pa := zoy n es es[i].1
  have pb := zoy n es es[i].2
  generalize es[i].1 = a at *
  generalize es[i].2 = b at *
  repeat (first | refine za6 ?_ | refine za5 ?_ | refine za3 ?_ | refine zae ?_ | refine zad ?_ | refine zcp rfl ?_)
  refine zgh env0_ok [(53, [cG n es, .int .i64 a], .bool (!zf5 n a)), (53, [cG n es, .int .i64 b], .bool (!zf5 n b))] (fun x hx => by
   rcases List.mem_cons.1 hx with rfl | hx
   ·exact pa
   obtain rfl := List.mem_singleton.1 hx
   exact pb) (fun f => Nat.beq f 53) rfl rfl rfl ?_
  have lkb : zeg [(53, [cG n es, .int .i64 a], .bool (!zf5 n a)), (53, [cG n es, .int .i64 b], .bool (!zf5 n b))] 53 [cG n es, .int .i64 b] = some (.bool (!zf5 n b)) := by
   by_cases hab : a = b
   ·subst hab
    exact zbm
   ·exact ziw (fun e => hab (by simpa using e)) zbm
  repeat (first | refine za2 rfl ?_ | refine zaf rfl rfl ?_ | refine zax rfl rfl rfl rfl ?_ | refine zan rfl rfl rfl ?_ | refine zaw rfl rfl (by omega) (by assumption) rfl ?_)
  refine zak rfl rfl zbm (fun h => Bool.noConfusion (show false = true from h)) ?_
  cases ea : zf5 n a with
  | true =>
   rw [ea, if_pos rfl, hv] at hs
   repeat (first | refine za6 ?_ | refine za0 rfl ?_ | refine za5 ?_ | refine za3 ?_ | refine zcp rfl ?_ | refine zaq ?_ | refine zac ?_ | refine zba ?_ | refine zq7 rfl rfl ?_ | refine za2 rfl ?_ | refine zbg rfl rfl ?_ | refine zpr rfl rfl ?_)
   exact zao ⟨.inr rfl, _, rfl, by rw [hs]; rfl⟩
  | false =>
   rw [ea, if_neg Bool.false_ne_true] at hs
   rw [ea] at lkb
   repeat (first | refine zee rfl ?_ | refine za2 rfl ?_ | refine zaf rfl rfl ?_ | refine zax rfl rfl rfl rfl ?_ | refine zan rfl rfl rfl ?_ | refine zpr rfl rfl ?_ | refine zaw rfl rfl (by omega) (by assumption) rfl ?_)
   refine zak rfl rfl lkb (fun h => Bool.noConfusion (show false = true from h)) ?_
   cases eb : zf5 n b with
   | true =>
    rw [eb, if_pos rfl, hv] at hs
    repeat (first | refine za6 ?_ | refine za0 rfl ?_ | refine za5 ?_ | refine za3 ?_ | refine zcp rfl ?_ | refine zaq ?_ | refine zac ?_ | refine zba ?_ | refine zee rfl ?_ | refine za2 rfl ?_ | refine zas rfl rfl ?_ | refine zpr rfl rfl ?_)
    exact zao ⟨.inr rfl, _, rfl, by rw [hs]; rfl⟩
   | false =>
    rw [eb, if_neg Bool.false_ne_true, hv] at hs
    repeat (first | refine za0 rfl ?_ | refine za5 ?_ | refine za3 ?_ | refine zcb ?_ | refine zad ?_ | refine zce rfl ?_ | refine zee rfl ?_ | refine za2 rfl ?_ | refine zas rfl rfl ?_ | refine zpr rfl rfl ?_ | refine zbe (op := .add) rfl rfl rfl ?_)
    rw [w1]
    exact zay (show es.length - (i + 1) < es.length - i by omega) (za9 (.cons rfl (.cons rfl .nil))) ⟨i + 1, rfl, hlt, hs.symm, rfl⟩
 ·have hie : i = es.length := by
   have h4 : ¬ ((i : Nat) : Int) < (((cE es).length : Nat) : Int) := of_decide_eq_false h3
   omega
  rw [hie, List.drop_length] at hv
  repeat (first | refine za5 ?_ | refine za3 ?_ | refine zce rfl ?_ | refine zbw ?_ | refine zag ?_)
  refine zdb ?_
  repeat (first | refine za6 ?_ | refine za0 rfl ?_ | refine za5 ?_ | refine za3 ?_ | refine zaq ?_ | refine zbv ?_ | refine za2 rfl ?_)
  exact zao ⟨.inr rfl, _, rfl, by rw [← hv]; rfl⟩
def zel (n : Int) (es : List (Int × Int)) (l : List Int) : Int := if zdx n es = 0 then zh3 n l else zdx n es
end Go.Proofs.Ytoagikifehmlpaa
