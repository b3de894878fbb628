/-
  THE REFERENCE's CHECKS OF GRAPHS; small graphs.; THE LIBRARY's CONTRACTS of sort.Ints and slices.Compact, laid at this program; the same as told calls.; THE NEIGHBOURS OF ALL VERTICES: joined walked.; sort.Ints and slices.Compact of no list.; THE NEIGHBOURS OF ALL VERTICES: joined, the whole.; THE REFERENCE's DISTANCES: Far walked.; THE LAW's CALLEES: given, Distances.; PATHS: slices.IndexFunc wit
-/
import Derived.Test.YtoagikifehmlpaaYX1
import Derived.Shelf.Sort.Plain
import Derived.Shelf.Slices.CompactI
namespace Go.Proofs.Ytoagikifehmlpaa
open Go Go.Am
-- pneumatic/pneumaticref10.Vertex
def ic53 : IC := .seq (.region [⟨(some 2), .box (.t 0), none⟩,
  ⟨(some 4), .mov (.c (.bool false)), none⟩] none)
 (.seq (.region [⟨(some 5), .mov (.t 1), none⟩,
  ⟨(some 6), .bin .geq (.t 5) (.c (.int .i64 0)), none⟩,
  ⟨(some 7), .mov (.t 6), none⟩,
  ⟨(some 8), .mov (.t 1), some (7, true)⟩,
  ⟨(some 9), .faddr 0 (.t 2), some (7, true)⟩,
  ⟨(some 10), .load none (.t 9), some (7, true)⟩,
  ⟨(some 11), .bin .lss (.t 8) (.t 10), some (7, true)⟩,
  ⟨(some 12), .pick (.t 7) (.t 11) (.c (.bool false)), none⟩,
  ⟨(some 4), .mov (.t 12), none⟩] none)
 (.ret))
theorem fn53 : env0.fn 53 = some ⟨13, ic53, [.t 4]⟩ := by kernel_rfl
def b35_0 : IC := .seq (.seq (.region [⟨(some 16), .mov (.t 3), none⟩,
  ⟨(some 17), .faddr 1 (.t 1), none⟩,
  ⟨(some 18), .load none (.t 17), none⟩,
  ⟨(some 19), .len false (.t 18), none⟩,
  ⟨(some 20), .bin .lss (.t 16) (.t 19), none⟩] none)
 (.cond (.t 20) (.skip)
 (.exit 0)))
 (.seq (.block 1 (.seq (.region [⟨(some 23), .load (some 2) (.t 1), none⟩,
  ⟨(some 24), .faddr 1 (.t 1), none⟩,
  ⟨(some 25), .load none (.t 24), none⟩,
  ⟨(some 26), .mov (.t 3), none⟩,
  ⟨(some 27), .idxs 2 (.t 25) (.t 26), none⟩,
  ⟨(some 28), .faddr 0 (.t 27), none⟩,
  ⟨(some 29), .load none (.t 28), none⟩,
  ⟨(some 30), .call (.c (.fn 53 [] [])) [(.t 23), (.t 29)], none⟩,
  ⟨(some 31), .un .not (.t 30), none⟩,
  ⟨(some 32), .mov (.t 31), none⟩,
  ⟨(some 33), .load (some 2) (.t 1), some (32, false)⟩,
  ⟨(some 34), .faddr 1 (.t 1), some (32, false)⟩,
  ⟨(some 35), .load none (.t 34), some (32, false)⟩,
  ⟨(some 36), .mov (.t 3), some (32, false)⟩,
  ⟨(some 37), .idxs 2 (.t 35) (.t 36), some (32, false)⟩,
  ⟨(some 38), .faddr 1 (.t 37), some (32, false)⟩,
  ⟨(some 39), .load none (.t 38), some (32, false)⟩,
  ⟨(some 40), .call (.c (.fn 53 [] [])) [(.t 33), (.t 39)], some (32, false)⟩,
  ⟨(some 41), .un .not (.t 40), some (32, false)⟩,
  ⟨(some 42), .pick (.t 32) (.c (.bool true)) (.t 41), none⟩] (some [[], [], [1], [], [2, 3], [4], [5], [0, 6], [7], [8, 7], [9], [9], [11, 9], [9], [12, 13, 9], [14, 9], [15, 9], [10, 16, 9, 9], [17, 9], [9, 18]]))
 (.cond (.t 42) (.seq (.region [⟨(some 2), .mov (.c (.int .i64 2)), none⟩] none)
 (.ret))
 (.skip))))
 (.region [⟨(some 21), .mov (.t 3), none⟩,
  ⟨(some 22), .bin .add (.t 21) (.c (.int .i64 1)), none⟩,
  ⟨(some 3), .mov (.t 22), none⟩] none))
-- pneumatic/pneumaticref10.Check
def ic35 : IC := .seq (.region [⟨(some 1), .box (.t 0), none⟩,
  ⟨(some 2), .mov (.c (.int .i64 0)), none⟩] none)
 (.seq (.seq (.region [⟨(some 4), .faddr 0 (.t 1), none⟩,
  ⟨(some 5), .load none (.t 4), none⟩,
  ⟨(some 6), .bin .lss (.t 5) (.c (.int .i64 0)), none⟩,
  ⟨(some 7), .mov (.t 6), none⟩,
  ⟨(some 8), .faddr 0 (.t 1), some (7, false)⟩,
  ⟨(some 9), .load none (.t 8), some (7, false)⟩,
  ⟨(some 10), .bin .gtr (.t 9) (.c (.int .i64 256)), some (7, false)⟩,
  ⟨(some 11), .pick (.t 7) (.c (.bool true)) (.t 10), none⟩] none)
 (.cond (.t 11) (.seq (.region [⟨(some 2), .mov (.c (.int .i64 2)), none⟩] none)
 (.ret))
 (.skip)))
 (.seq (.seq (.region [⟨(some 12), .faddr 1 (.t 1), none⟩,
  ⟨(some 13), .load none (.t 12), none⟩,
  ⟨(some 14), .len false (.t 13), none⟩,
  ⟨(some 15), .bin .gtr (.t 14) (.c (.int .i64 4096)), none⟩] none)
 (.cond (.t 15) (.seq (.region [⟨(some 2), .mov (.c (.int .i64 5)), none⟩] none)
 (.ret))
 (.skip)))
 (.seq (.seq (.region [⟨(some 3), .mov (.c (.int .i64 0)), none⟩] none)
 (.block 0 (.loop b35_0)))
 (.seq (.region [⟨(some 2), .mov (.c (.int .i64 0)), none⟩] none)
 (.ret)))))
theorem fn35 : env0.fn 35 = some ⟨43, ic35, [.t 2]⟩ := by kernel_rfl
-- pneumatic/pneumaticref10.Few
def ic11 : IC := .seq (.region [⟨(some 1), .box (.t 0), none⟩,
  ⟨(some 2), .mov (.c (.bool false)), none⟩] none)
 (.seq (.region [⟨(some 3), .faddr 0 (.t 1), none⟩,
  ⟨(some 4), .load none (.t 3), none⟩,
  ⟨(some 5), .bin .leq (.t 4) (.c (.int .i64 8)), none⟩,
  ⟨(some 6), .mov (.t 5), none⟩,
  ⟨(some 7), .faddr 1 (.t 1), some (6, true)⟩,
  ⟨(some 8), .load none (.t 7), some (6, true)⟩,
  ⟨(some 9), .len false (.t 8), some (6, true)⟩,
  ⟨(some 10), .bin .leq (.t 9) (.c (.int .i64 16)), some (6, true)⟩,
  ⟨(some 11), .pick (.t 6) (.t 10) (.c (.bool false)), none⟩,
  ⟨(some 12), .mov (.t 11), none⟩,
  ⟨(some 13), .faddr 0 (.t 1), some (12, false)⟩,
  ⟨(some 14), .load none (.t 13), some (12, false)⟩,
  ⟨(some 15), .bin .gtr (.t 14) (.c (.int .i64 256)), some (12, false)⟩,
  ⟨(some 16), .mov (.t 15), some (12, false)⟩,
  ⟨(some 17), .faddr 1 (.t 1), some (16, false)⟩,
  ⟨(some 18), .load none (.t 17), some (16, false)⟩,
  ⟨(some 19), .len false (.t 18), some (16, false)⟩,
  ⟨(some 20), .bin .gtr (.t 19) (.c (.int .i64 4096)), some (16, false)⟩,
  ⟨(some 21), .pick (.t 16) (.c (.bool true)) (.t 20), some (12, false)⟩,
  ⟨(some 22), .mov (.t 21), some (12, false)⟩,
  ⟨(some 23), .faddr 1 (.t 1), some (22, true)⟩,
  ⟨(some 24), .load none (.t 23), some (22, true)⟩,
  ⟨(some 25), .len false (.t 24), some (22, true)⟩,
  ⟨(some 26), .bin .lss (.t 25) (.c (.int .i64 8192)), some (22, true)⟩,
  ⟨(some 27), .pick (.t 22) (.t 26) (.c (.bool false)), some (12, false)⟩,
  ⟨(some 28), .pick (.t 12) (.c (.bool true)) (.t 27), none⟩,
  ⟨(some 2), .mov (.t 28), none⟩] none)
 (.ret))
theorem fn11 : env0.fn 11 = some ⟨29, ic11, [.t 2]⟩ := by kernel_rfl
theorem zqf (n : Int) (es : List (Int × Int)) (v : Int) : PF Try.prog 53 [cG n es, .int .i64 v] (.bool (!zfv n v)) := by
 refine zb7 env0_ok fn53 [(0, .agg [.int .i64 n, .vs (cE es)]), (1, .int .i64 v)] (by show 2 ≤ 13; decide) rfl fun w0 N0 => ?_
 unfold ic53
 refine za6 (za0 rfl (zdh rfl rfl (za2 rfl (za3 (za1 ?_)))))
 refine zba [] [(0, 0, [.int .i64 n, .vs (cE es)])] [(1, .int .i64 v), (2, .vptr [.int .i64 n, .vs (cE es)])] rfl (.cons rfl rfl .nil) .nil (.cons rfl (.same rfl) (.cons rfl (.fptr rfl rfl) .nil)) ?_
 unfold zfv
 repeat (first | refine za6 ?_ | refine za0 rfl ?_ | refine za2 rfl ?_)
 refine zao rfl rfl rfl (fun h5 => ?_) fun h5 => ?_
 ·have h5 : v ≥ 0 := of_decide_eq_true h5
  repeat (first | refine zck rfl ?_ | refine za2 rfl ?_ | refine zaf rfl rfl ?_ | refine zae rfl rfl rfl ?_)
  refine zao rfl rfl rfl (fun h6 => ?_) fun h6 => ?_
  ·have h6 : v < n := of_decide_eq_true h6
   repeat (first | refine za3 ?_ | refine za1 ?_ | refine zax ?_ | refine za2 rfl ?_ | refine zat rfl rfl ?_)
   exact zav ⟨.inr rfl, _, rfl, by rw [decide_eq_false (by omega), decide_eq_false (by omega)]; rfl⟩
  ·have h6 : ¬ v < n := of_decide_eq_false h6
   repeat (first | refine za3 ?_ | refine za1 ?_ | refine zax ?_ | refine za2 rfl ?_ | refine zat rfl rfl ?_)
   exact zav ⟨.inr rfl, _, rfl, by rw [decide_eq_false (by omega), decide_eq_true (by omega)]; rfl⟩
 ·have h5 : ¬ v ≥ 0 := of_decide_eq_false h5
  repeat (first | refine za3 ?_ | refine za1 ?_ | refine zax ?_ | refine zj7 rfl rfl ?_ | refine za2 rfl ?_ | refine zas rfl rfl ?_)
  exact zav ⟨.inr rfl, _, rfl, by rw [decide_eq_true (by omega)]; rfl⟩
theorem zt1 {n : Int} {es : List (Int × Int)} {i : Nat} (h : i < es.length) : zn1 n (es.drop i) = if zfv n es[i].1 = true then 2 else if zfv n es[i].2 = true then 2 else zn1 n (es.drop (i + 1)) := by
 rw [List.drop_eq_getElem_cons h, zm2]
 unfold zlk
 rw [List.any_cons, List.any_cons, List.any_nil, Bool.or_false]
 cases zfv n es[i].1 <;> cases zfv n es[i].2 <;> rfl
theorem zr4 {f : FuncId} {args bs : List AV} {v w : AV} {l : List (FuncId × List AV × AV)} (h : bs ≠ args) (k : zfe l f args = some w) : zfe ((f, bs, v) :: l) f args = some w := by
 simp [zfe, h, k]
set_option maxHeartbeats 2000000 in
theorem zne (n : Int) (es : List (Int × Int)) : PF Try.prog 35 [cG n es] (.int .i64 (zcj n es)) := by
 have hcl := zbj es
 refine zb7 env0_ok fn35 [(0, .agg [.int .i64 n, .vs (cE es)])] (by show 1 ≤ 43; decide) rfl fun w0 N0 => ?_
 unfold ic35
 refine za6 (za0 rfl (zdh rfl rfl (za2 rfl (za3 (za1 ?_)))))
 refine zba [] [(0, 0, [.int .i64 n, .vs (cE es)])] [(1, .vptr [.int .i64 n, .vs (cE es)])] rfl (.cons rfl rfl .nil) .nil (.cons rfl (.fptr rfl rfl) .nil) ?_
 repeat (first | refine za6 ?_ | refine za0 rfl ?_ | refine zaf rfl rfl ?_ | refine zae rfl rfl rfl ?_)
 refine zao rfl rfl rfl (fun h => ?_) fun h => ?_
 ·repeat (first | refine za6 ?_ | refine za0 rfl ?_ | refine za3 ?_ | refine za1 ?_ | refine zc5 rfl ?_ | refine zax ?_ | refine zam ?_ | refine zj7 rfl rfl ?_ | refine za2 rfl ?_ | refine zat rfl rfl ?_)
  exact zav ⟨.inr rfl, _, rfl, by rw [zsl (of_decide_eq_true h)]; rfl⟩
 have h0 : ¬ n < 0 := of_decide_eq_false h
 repeat (first | refine zck rfl ?_ | refine za2 rfl ?_ | refine zaf rfl rfl ?_ | refine zae rfl rfl rfl ?_)
 refine zao rfl rfl rfl (fun h => ?_) fun h => ?_
 ·repeat (first | refine za6 ?_ | refine za0 rfl ?_ | refine za3 ?_ | refine za1 ?_ | refine zc5 rfl ?_ | refine zax ?_ | refine zam ?_ | refine za2 rfl ?_ | refine zas rfl rfl ?_)
  exact zav ⟨.inr rfl, _, rfl, by rw [zsj (of_decide_eq_true h)]; rfl⟩
 have h1 : ¬ n > 256 := of_decide_eq_false h
 repeat (first | refine za6 ?_ | refine za0 rfl ?_ | refine za3 ?_ | refine za1 ?_ | refine zad ?_ | refine zbp rfl ?_ | refine zaf rfl rfl ?_ | refine zae rfl rfl rfl ?_ | refine zas rfl rfl ?_ | refine zbh rfl rfl ?_)
 refine zao rfl rfl rfl (fun h => ?_) fun h => ?_
 ·have h2 : (((cE es).length : Nat) : Int) > 4096 := of_decide_eq_true h
  repeat (first | refine za6 ?_ | refine za0 rfl ?_ | refine za3 ?_ | refine za1 ?_ | refine zc5 rfl ?_ | refine zax ?_ | refine zam ?_ | refine za2 rfl ?_)
  exact zav ⟨.inr rfl, _, rfl, by rw [zp0 h0 h1 (by omega)]; rfl⟩
 have h2 : ¬ (((cE es).length : Nat) : Int) > 4096 := of_decide_eq_false h
 rw [zsk h0 h1 (by omega)]
 repeat (first | refine za6 ?_ | refine za0 rfl ?_ | refine za3 ?_ | refine za1 ?_ | refine zab ?_ | refine zad ?_ | refine zbp rfl ?_ | refine za2 rfl ?_)
 refine zb6 (fun mm S => ∃ i, mm = es.length - i ∧ i ≤ es.length ∧ zn1 n (es.drop i) = zn1 n es ∧ S = st 43 [(1, .vptr [.int .i64 n, .vs (cE es)]), (3, .int .i64 (i : Nat))] [] 0 1) es.length
  (za7 (.cons rfl (.cons rfl .nil))) ⟨0, rfl, Nat.zero_le _, rfl, rfl⟩ ?_
 rintro mm S ⟨i, rfl, hi, hv, rfl⟩
 unfold b35_0
 repeat (first | refine za6 ?_ | refine za0 rfl ?_ | refine za2 rfl ?_ | refine zaf rfl rfl ?_ | refine zae rfl rfl rfl ?_ | refine zbh rfl rfl ?_)
 refine zao rfl rfl rfl (fun h3 => ?_) fun h3 => ?_
 ·have hlt : i < es.length := by
   have h4 : ((i : Nat) : Int) < (((cE es).length : Nat) : Int) := of_decide_eq_true h3
   omega
  have w1 : IntKind.wrap .i64 (((i : Nat) : Int) + 1) = ((i + 1 : Nat) : Int) := zag i (by omega)
  have hg := zlw hlt
  have hs := zt1 (n := n) hlt
  have pa := zqf n es es[i].1
  have pb := zqf n es es[i].2
  generalize es[i].1 = a at *
  generalize es[i].2 = b at *
  repeat (first | refine za6 ?_ | refine za3 ?_ | refine za1 ?_ | refine zab ?_ | refine zad ?_ | refine zc5 rfl ?_)
  refine zof env0_ok [(53, [cG n es, .int .i64 a], .bool (!zfv n a)), (53, [cG n es, .int .i64 b], .bool (!zfv n b))] (fun x hx => by
   rcases List.mem_cons.1 hx with rfl | hx
   ·exact pa
   obtain rfl := List.mem_singleton.1 hx
   exact pb) (fun f => Nat.beq f 53) rfl rfl rfl ?_
  have lkb : zfe [(53, [cG n es, .int .i64 a], .bool (!zfv n a)), (53, [cG n es, .int .i64 b], .bool (!zfv n b))] 53 [cG n es, .int .i64 b] = some (.bool (!zfv n b)) := by
   by_cases hab : a = b
   ·subst hab
    exact zex
   ·exact zr4 (fun e => hab (by simpa using e)) zex
  repeat (first | refine za2 rfl ?_ | refine zaf rfl rfl ?_ | refine zap rfl rfl rfl rfl ?_ | refine zae rfl rfl rfl ?_ | refine zb0 rfl rfl (by omega) (by assumption) rfl ?_)
  refine zau rfl rfl zex (fun h => Bool.noConfusion (show false = true from h)) ?_
  cases ea : zfv n a with
  | true =>
   rw [ea, if_pos rfl, hv] at hs
   repeat (first | refine za6 ?_ | refine za0 rfl ?_ | refine za3 ?_ | refine za1 ?_ | refine zc5 rfl ?_ | refine zax ?_ | refine zam ?_ | refine zcg ?_ | refine zj7 rfl rfl ?_ | refine za2 rfl ?_ | refine zat rfl rfl ?_ | refine zml rfl rfl ?_)
   exact zav ⟨.inr rfl, _, rfl, by rw [hs]; rfl⟩
  | false =>
   rw [ea, if_neg Bool.false_ne_true] at hs
   rw [ea] at lkb
   repeat (first | refine zck rfl ?_ | refine za2 rfl ?_ | refine zaf rfl rfl ?_ | refine zap rfl rfl rfl rfl ?_ | refine zae rfl rfl rfl ?_ | refine zml rfl rfl ?_ | refine zb0 rfl rfl (by omega) (by assumption) rfl ?_)
   refine zau rfl rfl lkb (fun h => Bool.noConfusion (show false = true from h)) ?_
   cases eb : zfv n b with
   | true =>
    rw [eb, if_pos rfl, hv] at hs
    repeat (first | refine za6 ?_ | refine za0 rfl ?_ | refine za3 ?_ | refine za1 ?_ | refine zc5 rfl ?_ | refine zax ?_ | refine zam ?_ | refine zcg ?_ | refine zck rfl ?_ | refine za2 rfl ?_ | refine zas rfl rfl ?_ | refine zml rfl rfl ?_)
    exact zav ⟨.inr rfl, _, rfl, by rw [hs]; rfl⟩
   | false =>
    rw [eb, if_neg Bool.false_ne_true, hv] at hs
    repeat (first | refine za0 rfl ?_ | refine za3 ?_ | refine za1 ?_ | refine zb2 ?_ | refine zad ?_ | refine zbp rfl ?_ | refine zck rfl ?_ | refine za2 rfl ?_ | refine zas rfl rfl ?_ | refine zml rfl rfl ?_ | refine zay (op := .add) rfl rfl rfl ?_)
    rw [w1]
    exact zah (show es.length - (i + 1) < es.length - i by omega) (za7 (.cons rfl (.cons rfl .nil))) ⟨i + 1, rfl, hlt, hs.symm, rfl⟩
 ·have hie : i = es.length := by
   have h4 : ¬ ((i : Nat) : Int) < (((cE es).length : Nat) : Int) := of_decide_eq_false h3
   omega
  rw [hie, List.drop_length] at hv
  repeat (first | refine za3 ?_ | refine za1 ?_ | refine zbp rfl ?_ | refine zb4 ?_ | refine zac ?_)
  refine zbx ?_
  repeat (first | refine za6 ?_ | refine za0 rfl ?_ | refine za3 ?_ | refine za1 ?_ | refine zax ?_ | refine zb3 ?_ | refine za2 rfl ?_)
  exact zav ⟨.inr rfl, _, rfl, by rw [← hv]; rfl⟩
def givG (n : Int) (es : List (Int × Int)) (l : List Int) : Int := if zcj n es = 0 then zlk n l else zcj n es
def fewB (n : Int) (es : List (Int × Int)) : Bool := (decide (n ≤ 8) && decide (es.length ≤ 16)) || ((decide (n > 256) || decide (es.length > 4096)) && decide (es.length < 8192))
set_option maxRecDepth 100000 in
set_option maxHeartbeats 1000000 in
theorem few11 (n : Int) (es : List (Int × Int)) : PF Try.prog 11 [cG n es] (.bool (fewB n es)) := by
 have hcl := zbj es
 refine zb7 env0_ok fn11 [(0, .agg [.int .i64 n, .vs (cE es)])] (by show 1 ≤ 29; decide) rfl fun w0 N0 => ?_
 unfold ic11
 refine za6 (za0 rfl (zdh rfl rfl (za2 rfl (za3 (za1 ?_)))))
 refine zba [] [(0, 0, [.int .i64 n, .vs (cE es)])] [(1, .vptr [.int .i64 n, .vs (cE es)])] rfl (.cons rfl rfl .nil) .nil (.cons rfl (.fptr rfl rfl) .nil) ?_
 unfold fewB
 rw [← hcl]
 have tail : ∀ b : Bool, (decide (n ≤ 8) && decide ((cE es).length ≤ 16)) = false → b = ((decide (n ≤ 8) && decide ((cE es).length ≤ 16)) || b) := fun b h => by rw [h, Bool.false_or]
 repeat (first | refine za6 ?_ | refine za0 rfl ?_ | refine zaf rfl rfl ?_ | refine zae rfl rfl rfl ?_)
 refine zao rfl rfl rfl (fun h1 => ?_) fun h1 => ?_
 ·have e1 : decide (n ≤ 8) = true := h1
  repeat (first | refine zck rfl ?_ | refine za2 rfl ?_ | refine zaf rfl rfl ?_ | refine zae rfl rfl rfl ?_ | refine zbh rfl rfl ?_)
  refine zao rfl rfl rfl (fun h2 => ?_) fun h2 => ?_
  ·have e2 : (((cE es).length : Nat) : Int) ≤ 16 := of_decide_eq_true h2
   repeat (first | refine za3 ?_ | refine za1 ?_ | refine zax ?_ | refine zj7 rfl rfl ?_ | refine o_gt rfl ?_ | refine za2 rfl ?_ | refine zat rfl rfl ?_)
   exact zav ⟨.inr rfl, _, rfl, by rw [e1, decide_eq_true (p := (cE es).length ≤ 16) (by omega)]; rfl⟩
  ·have e2 : ¬ (((cE es).length : Nat) : Int) ≤ 16 := of_decide_eq_false h2
   have e3 : ¬ n > 256 := by have := of_decide_eq_true e1; omega
   repeat (first | refine zck rfl ?_ | refine za2 rfl ?_ | refine zaf rfl rfl ?_ | refine zae rfl rfl rfl ?_ | refine zat rfl rfl ?_)
   refine zcv rfl rfl (by show some (AV.bool (decide (n > 256))) = _; rw [decide_eq_false e3]) ?_
   repeat (first | refine zck rfl ?_ | refine za2 rfl ?_ | refine zaf rfl rfl ?_ | refine zae rfl rfl rfl ?_ | refine zbh rfl rfl ?_)
   refine zao rfl rfl rfl (fun h4 => ?_) fun h4 => ?_
   ·have e4 : (((cE es).length : Nat) : Int) > 4096 := of_decide_eq_true h4
    repeat (first | refine zck rfl ?_ | refine za2 rfl ?_ | refine zaf rfl rfl ?_ | refine zae rfl rfl rfl ?_ | refine zas rfl rfl ?_ | refine zbh rfl rfl ?_)
    refine zao rfl rfl rfl (fun h5 => ?_) fun h5 => ?_
    ·have e5 : (((cE es).length : Nat) : Int) < 8192 := of_decide_eq_true h5
     repeat (first | refine za3 ?_ | refine za1 ?_ | refine zax ?_ | refine zck rfl ?_ | refine za2 rfl ?_ | refine zat rfl rfl ?_ | refine zas rfl rfl ?_)
     exact zav ⟨.inr rfl, _, rfl, by rw [e1, decide_eq_false (p := (cE es).length ≤ 16) (by omega), decide_eq_true (p := (cE es).length > 4096) (by omega), decide_eq_true (p := (cE es).length < 8192) (by omega), Bool.or_true]; rfl⟩
    ·have e5 : ¬ (((cE es).length : Nat) : Int) < 8192 := of_decide_eq_false h5
     repeat (first | refine za3 ?_ | refine za1 ?_ | refine zax ?_ | refine zck rfl ?_ | refine za2 rfl ?_ | refine zat rfl rfl ?_ | refine zas rfl rfl ?_)
     exact zav ⟨.inr rfl, _, rfl, by rw [e1, decide_eq_false (p := (cE es).length ≤ 16) (by omega), decide_eq_false (p := (cE es).length < 8192) (by omega), Bool.and_false, Bool.and_false]; rfl⟩
   ·have e4 : ¬ (((cE es).length : Nat) : Int) > 4096 := of_decide_eq_false h4
    repeat (first | refine za3 ?_ | refine za1 ?_ | refine zax ?_ | refine zck rfl ?_ | refine zj7 rfl rfl ?_ | refine za2 rfl ?_ | refine zas rfl rfl ?_)
    exact zav ⟨.inr rfl, _, rfl, by rw [e1, decide_eq_false (p := (cE es).length ≤ 16) (by omega), decide_eq_false e3, decide_eq_false (p := (cE es).length > 4096) (by omega)]; rfl⟩
 ·have e1 : ¬ n ≤ 8 := of_decide_eq_false h1
  rw [decide_eq_false e1, Bool.false_and, Bool.false_or]
  repeat (first | refine zck rfl ?_ | refine zj7 rfl rfl ?_ | refine za2 rfl ?_ | refine zaf rfl rfl ?_ | refine zae rfl rfl rfl ?_ | refine zas rfl rfl ?_)
  refine zao rfl rfl rfl (fun h3 => ?_) fun h3 => ?_
  ·have e3 : n > 256 := of_decide_eq_true h3
   repeat (first | refine zck rfl ?_ | refine zj7 rfl rfl ?_ | refine za2 rfl ?_ | refine zaf rfl rfl ?_ | refine zae rfl rfl rfl ?_ | refine zat rfl rfl ?_ | refine zbh rfl rfl ?_)
   refine zao rfl rfl rfl (fun h5 => ?_) fun h5 => ?_
   ·have e5 : (((cE es).length : Nat) : Int) < 8192 := of_decide_eq_true h5
    repeat (first | refine za3 ?_ | refine za1 ?_ | refine zax ?_ | refine zck rfl ?_ | refine za2 rfl ?_ | refine zat rfl rfl ?_ | refine zas rfl rfl ?_)
    exact zav ⟨.inr rfl, _, rfl, by rw [decide_eq_true e3, decide_eq_true (p := (cE es).length < 8192) (by omega)]; rfl⟩
   ·have e5 : ¬ (((cE es).length : Nat) : Int) < 8192 := of_decide_eq_false h5
    repeat (first | refine za3 ?_ | refine za1 ?_ | refine zax ?_ | refine zck rfl ?_ | refine za2 rfl ?_ | refine zat rfl rfl ?_ | refine zas rfl rfl ?_)
    exact zav ⟨.inr rfl, _, rfl, by rw [decide_eq_false (p := (cE es).length < 8192) (by omega), Bool.and_false]; rfl⟩
  ·have e3 : ¬ n > 256 := of_decide_eq_false h3
   repeat (first | refine zck rfl ?_ | refine za2 rfl ?_ | refine zaf rfl rfl ?_ | refine zae rfl rfl rfl ?_ | refine zbh rfl rfl ?_)
   refine zao rfl rfl rfl (fun h4 => ?_) fun h4 => ?_
   ·have e4 : (((cE es).length : Nat) : Int) > 4096 := of_decide_eq_true h4
    repeat (first | refine zck rfl ?_ | refine za2 rfl ?_ | refine zaf rfl rfl ?_ | refine zae rfl rfl rfl ?_ | refine zas rfl rfl ?_ | refine zbh rfl rfl ?_)
    refine zao rfl rfl rfl (fun h5 => ?_) fun h5 => ?_
    ·have e5 : (((cE es).length : Nat) : Int) < 8192 := of_decide_eq_true h5
     repeat (first | refine za3 ?_ | refine za1 ?_ | refine zax ?_ | refine zck rfl ?_ | refine za2 rfl ?_ | refine zat rfl rfl ?_ | refine zas rfl rfl ?_)
     exact zav ⟨.inr rfl, _, rfl, by rw [decide_eq_true (p := (cE es).length > 4096) (by omega), decide_eq_true (p := (cE es).length < 8192) (by omega), Bool.or_true]; rfl⟩
    ·have e5 : ¬ (((cE es).length : Nat) : Int) < 8192 := of_decide_eq_false h5
     repeat (first | refine za3 ?_ | refine za1 ?_ | refine zax ?_ | refine zck rfl ?_ | refine za2 rfl ?_ | refine zat rfl rfl ?_ | refine zas rfl rfl ?_)
     exact zav ⟨.inr rfl, _, rfl, by rw [decide_eq_false (p := (cE es).length < 8192) (by omega), Bool.and_false]; rfl⟩
   ·have e4 : ¬ (((cE es).length : Nat) : Int) > 4096 := of_decide_eq_false h4
    repeat (first | refine za3 ?_ | refine za1 ?_ | refine zax ?_ | refine zck rfl ?_ | refine zj7 rfl rfl ?_ | refine za2 rfl ?_ | refine zas rfl rfl ?_)
    exact zav ⟨.inr rfl, _, rfl, by rw [decide_eq_false e3, decide_eq_false (p := (cE es).length > 4096) (by omega)]; rfl⟩
theorem zt4 {n : Int} {es : List (Int × Int)} (h : fewB n es = true) : es.length < 8192 ∧ (zcj n es = 0 → n ≤ 8 ∧ es.length ≤ 16) := by
 unfold fewB at h
 rw [Bool.or_eq_true, Bool.and_eq_true, Bool.and_eq_true, Bool.or_eq_true, decide_eq_true_eq, decide_eq_true_eq, decide_eq_true_eq, decide_eq_true_eq, decide_eq_true_eq] at h
 rcases h with ⟨h1, h2⟩ | ⟨h1, h2⟩
 ·exact ⟨by omega, fun _ => ⟨h1, h2⟩⟩
 ·refine ⟨h2, fun hc => ?_⟩
  unfold zcj at hc
  split at hc
  ·cases hc
  split at hc
  ·cases hc
  split at hc
  ·cases hc
  omega
end Go.Proofs.Ytoagikifehmlpaa
namespace Go.Proofs
open Go.Shelf
def Try.lays191_ren : Go.Shelf.Ren := ⟨fun | 191 => 64 | 189 => 73 | 125 => 78 | 257 => 77 | 128 => 88 | 129 => 89 | 294 => 79 | 295 => 80 | 296 => 81 | 297 => 82 | 298 => 83 | 299 => 84 | 216 => 85 | 300 => 86 | 301 => 87 | 328 => 90 | 329 => 91 | 330 => 92 | 331 => 93 | 332 => 94 | 215 => 95 | 343 => 96 | n => n, fun | 28 => 33 | 0 => 0 | 3 => 3 | 46 => 95 | 51 => 99 | 53 => 102 | 4 => 4 | 183 => 109 | 182 => 108 | 131 => 89 | 5 => 5 | 9 => 9 | 218 => 116 | 222 => 120 | 228 => 122 | 229 => 123 | n => n, fun | n => n⟩
theorem Try.lays191 : Go.Proofs.Lays.n191 Try.prog Try.lays191_ren := {
 mixed := by kernel_rfl
 f125 := Try.func78.trans (congrArg some (by kernel_rfl))
 f128 := Try.func88.trans (congrArg some (by kernel_rfl))
 f129 := Try.func89.trans (congrArg some (by kernel_rfl))
 f189 := Try.func73.trans (congrArg some (by kernel_rfl))
 f191 := Try.func64.trans (congrArg some (by kernel_rfl))
 f215 := Try.func95.trans (congrArg some (by kernel_rfl))
 f216 := Try.func85.trans (congrArg some (by kernel_rfl))
 f257 := Try.func77.trans (congrArg some (by kernel_rfl))
 f294 := Try.func79.trans (congrArg some (by kernel_rfl))
 f295 := Try.func80.trans (congrArg some (by kernel_rfl))
 f296 := Try.func81.trans (congrArg some (by kernel_rfl))
 f297 := Try.func82.trans (congrArg some (by kernel_rfl))
 f298 := Try.func83.trans (congrArg some (by kernel_rfl))
 f299 := Try.func84.trans (congrArg some (by kernel_rfl))
 f300 := Try.func86.trans (congrArg some (by kernel_rfl))
 f301 := Try.func87.trans (congrArg some (by kernel_rfl))
 f328 := Try.func90.trans (congrArg some (by kernel_rfl))
 f329 := Try.func91.trans (congrArg some (by kernel_rfl))
 f330 := Try.func92.trans (congrArg some (by kernel_rfl))
 f331 := Try.func93.trans (congrArg some (by kernel_rfl))
 f332 := Try.func94.trans (congrArg some (by kernel_rfl))
 f343 := Try.func96.trans (congrArg some (by kernel_rfl))
 t0 := Try.underlying0
 a0 := Try.isAgg0
 z0 := Try.sizeOf0
 v0 := Try.zeroValue0
 t3 := Try.underlying3
 a3 := Try.isAgg3
 z3 := Try.sizeOf3
 v3 := Try.zeroValue3
 t4 := Try.underlying4
 a4 := Try.isAgg4
 z4 := Try.sizeOf4
 v4 := Try.zeroValue4
 t5 := Try.underlying5
 a5 := Try.isAgg5
 z5 := Try.sizeOf5
 v5 := Try.zeroValue5
 t9 := Try.underlying9
 a9 := Try.isAgg9
 z9 := Try.sizeOf9
 v9 := Try.zeroValue9
 t28 := Try.underlying33
 a28 := Try.isAgg33
 z28 := Try.sizeOf33
 v28 := Try.zeroValue33
 t46 := Try.underlying95
 a46 := Try.isAgg95
 z46 := Try.sizeOf95
 v46 := Try.zeroValue95
 t51 := Try.underlying99
 a51 := Try.isAgg99
 z51 := Try.sizeOf99
 v51 := Try.zeroValue99
 t53 := Try.underlying102
 a53 := Try.isAgg102
 z53 := Try.sizeOf102
 v53 := Try.zeroValue102
 t131 := Try.underlying89
 a131 := Try.isAgg89
 z131 := Try.sizeOf89
 v131 := Try.zeroValue89
 t182 := Try.underlying108
 a182 := Try.isAgg108
 z182 := Try.sizeOf108
 v182 := Try.zeroValue108
 t183 := Try.underlying109
 a183 := Try.isAgg109
 z183 := Try.sizeOf109
 v183 := Try.zeroValue109
 t218 := Try.underlying116
 a218 := Try.isAgg116
 z218 := Try.sizeOf116
 v218 := Try.zeroValue116
 t222 := Try.underlying120
 a222 := Try.isAgg120
 z222 := Try.sizeOf120
 v222 := Try.zeroValue120
 t228 := Try.underlying122
 a228 := Try.isAgg122
 z228 := Try.sizeOf122
 v228 := Try.zeroValue122
 t229 := Try.underlying123
 a229 := Try.isAgg123
 z229 := Try.sizeOf123
 v229 := Try.zeroValue123 }
open Go.Sort Go.RowKit in
theorem Try.sort_Ints (blk off cap : Nat) (zs : List Int) (w : World) (hH : Holds (Value.int .i64) w blk off zs.toArray) (hblk : blk < w.heap.size) (hsz : zs.length < 4611686018427387904) :
  Calls Try.prog 64 #[.slice (some ⟨blk, off, none⟩) zs.length cap] w fun e w' =>
   e = .returned (.tuple #[]) ∧ ∃ n os, w' = grow (putRow (Value.int .i64) (Sort.ahead w n) blk off (zs.mergeSort fun x y => decide (x ≤ y)).toArray) os := Any.sort_Ints Try.lays191 blk off cap zs w hH hblk hsz
def Try.laysNm220_ren : Go.Shelf.Ren := ⟨fun | 20 => 65 | n => n, fun | 22 => 33 | 3 => 3 | 4 => 4 | 0 => 0 | n => n, fun | n => n⟩
theorem Try.laysNm220 : Go.Proofs.Lays2.n20 Try.prog Try.laysNm220_ren := {
 mixed := by kernel_rfl
 f20 := Try.func65.trans (congrArg some (by kernel_rfl))
 t0 := Try.underlying0
 a0 := Try.isAgg0
 z0 := Try.sizeOf0
 v0 := Try.zeroValue0
 t3 := Try.underlying3
 a3 := Try.isAgg3
 z3 := Try.sizeOf3
 v3 := Try.zeroValue3
 t4 := Try.underlying4
 a4 := Try.isAgg4
 z4 := Try.sizeOf4
 v4 := Try.zeroValue4
 t22 := Try.underlying33
 a22 := Try.isAgg33
 z22 := Try.sizeOf33
 v22 := Try.zeroValue33
 i3 := by kernel_rfl }
open Go.RowKit Go.Lib Go.Sort in
theorem Try.slices_Compact_int (blk off cap : Nat) (zs : List Int) (w : World) (hH : Holds (Value.int .i64) w blk off zs.toArray) (hsz : zs.length ≤ 9223372036854775807) (hcap : zs.length ≤ cap) :
  Calls Try.prog 65 #[.slice (some ⟨blk, off, none⟩) zs.length cap] w fun e w' => e = .returned (.slice (some ⟨blk, off, none⟩) (Lib.compact zs).length cap) ∧ ∃ q, w' = putRow (Value.int .i64) (Sort.ahead w q) blk off (Lib.compact zs ++ List.replicate (zs.length - (Lib.compact zs).length) 0).toArray := Any.slices_Compact_int Try.laysNm220 blk off cap zs w hH hsz hcap
namespace Ytoagikifehmlpaa
open Go Go.Am Go.RowKit
theorem ent64 : Ent Try.prog 64 := zt2 Try.func64 rfl (by kernel_rfl)
theorem ent65 : Ent Try.prog 65 := zt2 Try.func65 rfl (by kernel_rfl)
theorem sorts64 : Sorts Try.prog 64 := fun blk off cap zs w hH hb hz => Try.sort_Ints blk off cap zs w hH hb hz
theorem cpts65 : Cpts Try.prog 65 := fun blk off cap zs w hH hz hc => Try.slices_Compact_int blk off cap zs w hH hz hc
end Ytoagikifehmlpaa
end Go.Proofs
namespace Go.Proofs.Ytoagikifehmlpaa
open Go Go.Am
def b45_0 : IC := .seq (.region [⟨(some 14), .bin .lss (.t 13) (.t 12), none⟩] none)
 (.seq (.cond (.t 14) (.skip)
 (.exit 0))
 (.seq (.block 1 (.seq (.region [⟨(some 15), .idxs 2 (.t 11) (.t 13), none⟩,
  ⟨(some 16), .load (some 2) (.t 15), none⟩,
  ⟨(some 5), .alloc [.int .i64 0, .int .i64 0], none⟩,
  ⟨none, .store 2 (.t 5) (.t 16), none⟩] none)
 (.region [⟨(some 17), .mov (.t 3), none⟩,
  ⟨(some 18), .faddr 0 (.t 5), none⟩,
  ⟨(some 19), .load none (.t 18), none⟩,
  ⟨(some 20), .mov (.t 3), none⟩,
  ⟨(some 21), .faddr 0 (.t 5), none⟩,
  ⟨(some 22), .load none (.t 21), none⟩,
  ⟨(some 23), .idxs 1 (.t 20) (.t 22), none⟩,
  ⟨(some 24), .load none (.t 23), none⟩,
  ⟨(some 25), .faddr 1 (.t 5), none⟩,
  ⟨(some 26), .load none (.t 25), none⟩,
  ⟨(some 27), .bslice 1 1 [.int .i64 0] [(0, 1, (.t 26))], none⟩,
  ⟨(some 28), .append 1 8 [.int .i64 0] (.t 24) (.t 27), none⟩,
  ⟨(some 29), .idxs 1 (.t 17) (.t 19), none⟩,
  ⟨none, .store 1 (.t 29) (.t 28), none⟩] (some [[], [], [1], [], [], [4], [3, 5], [6], [], [8], [9], [7, 10], [0, 2, 0, 1, 2, 3, 4, 5, 6, 7, 8, 9, 10, 11], [12, 11, 11, 0, 1, 2, 3, 4, 5, 6, 7, 8, 9, 10, 11]]))))
 (.region [⟨(some 30), .bin .add (.t 13) (.c (.int .i64 1)), none⟩,
  ⟨(some 13), .mov (.t 30), none⟩] none)))
def b45_2 : IC := .seq (.region [⟨(some 34), .bin .lss (.t 33) (.t 32), none⟩] none)
 (.seq (.cond (.t 34) (.skip)
 (.exit 2))
 (.seq (.block 3 (.seq (.region [⟨(some 35), .mov (.t 33), none⟩,
  ⟨(some 6), .mov (.t 35), none⟩] none)
 (.seq (.region [⟨(some 36), .mov (.t 3), none⟩,
  ⟨(some 37), .mov (.t 6), none⟩,
  ⟨(some 38), .idxs 1 (.t 36) (.t 37), none⟩,
  ⟨(some 39), .load none (.t 38), none⟩,
  ⟨(some 40), .call (.c (.fn 64 [] [])) [(.t 39)], none⟩] none)
 (.region [⟨(some 41), .mov (.t 3), none⟩,
  ⟨(some 42), .mov (.t 6), none⟩,
  ⟨(some 43), .mov (.t 3), none⟩,
  ⟨(some 44), .mov (.t 6), none⟩,
  ⟨(some 45), .idxs 1 (.t 43) (.t 44), none⟩,
  ⟨(some 46), .load none (.t 45), none⟩,
  ⟨(some 47), .call (.c (.fn 65 [] [])) [(.t 46)], none⟩,
  ⟨(some 48), .idxs 1 (.t 41) (.t 42), none⟩,
  ⟨none, .store 1 (.t 48) (.t 47), none⟩] none))))
 (.region [⟨(some 49), .bin .add (.t 33) (.c (.int .i64 1)), none⟩,
  ⟨(some 33), .mov (.t 49), none⟩] none)))
-- pneumatic/digraph.joined
def ic45 : IC := .seq (.region [⟨(some 1), .box (.t 0), none⟩,
  ⟨(some 2), .mov (.c (.nils)), none⟩] none)
 (.seq (.region [⟨(some 7), .faddr 0 (.t 1), none⟩,
  ⟨(some 8), .load none (.t 7), none⟩,
  ⟨(some 9), .mkslice 1 24 [.nils] (.t 8) (.t 8), none⟩,
  ⟨(some 3), .mov (.t 9), none⟩] none)
 (.seq (.seq (.region [⟨(some 10), .faddr 1 (.t 1), none⟩,
  ⟨(some 11), .load none (.t 10), none⟩,
  ⟨(some 12), .len false (.t 11), none⟩,
  ⟨(some 13), .mov (.c (.int .i64 0)), none⟩] none)
 (.block 0 (.loop b45_0)))
 (.seq (.seq (.region [⟨(some 31), .mov (.t 3), none⟩,
  ⟨(some 32), .len false (.t 31), none⟩,
  ⟨(some 33), .mov (.c (.int .i64 0)), none⟩] none)
 (.block 2 (.loop b45_2)))
 (.seq (.region [⟨(some 50), .mov (.t 3), none⟩,
  ⟨(some 2), .mov (.t 50), none⟩] none)
 (.ret)))))
theorem fn45 : env0.fn 45 = some ⟨51, ic45, [.t 2]⟩ := by kernel_rfl
def reg45i : List Opr := [⟨(some 17), .mov (.t 3), none⟩, ⟨(some 18), .faddr 0 (.t 5), none⟩, ⟨(some 19), .load none (.t 18), none⟩, ⟨(some 20), .mov (.t 3), none⟩, ⟨(some 21), .faddr 0 (.t 5), none⟩, ⟨(some 22), .load none (.t 21), none⟩, ⟨(some 23), .idxs 1 (.t 20) (.t 22), none⟩, ⟨(some 24), .load none (.t 23), none⟩, ⟨(some 25), .faddr 1 (.t 5), none⟩, ⟨(some 26), .load none (.t 25), none⟩, ⟨(some 27), .bslice 1 1 [.int .i64 0] [(0, 1, (.t 26))], none⟩, ⟨(some 28), .append 1 8 [.int .i64 0] (.t 24) (.t 27), none⟩, ⟨(some 29), .idxs 1 (.t 17) (.t 19), none⟩, ⟨none, .store 1 (.t 29) (.t 28), none⟩]
def reg45p : List (List Nat) := [[], [], [1], [], [], [4], [3, 5], [6], [], [8], [9], [7, 10], [0, 2, 0, 1, 2, 3, 4, 5, 6, 7, 8, 9, 10, 11], [12, 11, 11, 0, 1, 2, 3, 4, 5, 6, 7, 8, 9, 10, 11]]
structure Rw (m : Nat) (L : Nat → List Int) (nz : Nat → Bool) (cv : Nat → AV) (C : Nat → List Int) (ids sps : Nat → Nat) : Prop where
 some : ∀ v, v < m → nz v = true → L v ≠ [] ∧ C v = L v ∧ cv v = .ms (ids v) (sps v) 1 0 (L v).length none
 none : ∀ v, v < m → nz v = false → L v = [] ∧ cv v = .nils
theorem zji {d : Nat} {v : AV} {l l' : List (Nat × AV)} (h : KeepA l l') (hd : ∀ x ∈ l', x.1 ≠ d) : KeepA ((d, v) :: l) l' := by
 induction h with
 | nil => exact .nil
 | @cons e u l2 h _ ih =>
  refine .cons ?_ (ih fun x hx => hd x (List.mem_cons_of_mem _ hx))
  have := hd (e, u) (List.mem_cons_self ..)
  rw [zbu]
  cases hb : Nat.beq d e with
  | true => exact absurd (Nat.eq_of_beq_eq_true hb).symm this
  | false => exact h
set_option maxHeartbeats 2000000 in
theorem reg45 {w0 : World} {N0 : Nat} {k : List Fr} {Q : Exit → AS → Prop} {y : IC} {m : Nat} {L : Nat → List Int} {nz : Nat → Bool} {cv : Nat → AV} {C : Nat → List Int} {ids sps : Nat → Nat} {hp : List (Nat × Nat × AObj)} {nx ck j s5 a b : Nat} {l : List (Nat × AV)}
  (hJ : Jn m nz cv C ids sps hp nx) (hR : Rw m L nz cv C ids sps) (k5 : Am.look j hp = some (s5, .cells [.int .i64 (a : Nat), .int .i64 (b : Nat)])) (hjn : j < nx) (hjd : ∀ v, v < m → nz v = true → ids v ≠ j) (ha : a < m) (hL : (L a).length ≤ 100000)
  (h3 : zbu 3 l = some (.ms 0 1 1 0 m (some m))) (h5 : zbu 5 l = some (.mptr j s5 0)) {l' : List (Nat × AV)} (hk : KeepA l l') (hd : ∀ x ∈ l', x.1 < 17)
  (fin : ∀ hp' nx' ck' nz' cv' C' ids' sps', Jn m nz' cv' C' ids' sps' hp' nx' → Rw m (upd L a (L a ++ [((b : Nat) : Int)])) nz' cv' C' ids' sps' → Zm Try.prog w0 N0 none y (st 51 l' hp' nx' ck') k Q) :
  Zm Try.prog w0 N0 none (.region reg45i (some reg45p)) (st 51 l hp nx ck) (.blk 1 :: .seq y :: k) Q := by
 have ez : ∀ o : Nat, 0 + ((o : Nat) : Int).toNat * 1 = o := fun o => by simp
 have hld0 : (fun i => Nat.beq i 0 || Nat.beq i j) 0 = true := rfl
 have hldj : (fun i => Nat.beq i 0 || Nat.beq i j) j = true := by show (Nat.beq j 0 || Nat.beq j j) = true; rw [Nat.beq_refl, Bool.or_true]
 refine z_cut env0_ok 12 [] (fun x hx => by cases hx) (fun _ => false) (fun i => Nat.beq i 0 || Nat.beq i j) (fun i => !(Nat.beq i 0 || Nat.beq i j)) (fun i h1 h2 => by rw [h1] at h2; cases h2) rfl rfl rfl rfl ?_
 show Om _ _ _ _ _ [_, _, _, _, _, _, _, _, _, _, _, _] _ _ _
 refine za2 h3 ?_
 refine zaw h5 ?_
 refine zak (id := j) (sp := s5) (off := 0) rfl k5 hjn rfl ?_ (ldOk rfl hldj)
 refine za2 h3 ?_
 refine zaw h5 ?_
 refine zak (id := j) (sp := s5) (off := 0) rfl k5 hjn rfl ?_ (ldOk rfl hldj)
 refine zaz rfl rfl (Int.natCast_nonneg a) (Int.ofNat_lt.2 ha) ?_
 rw [ez]
 refine zak (id := 0) (sp := 1) (off := a) rfl hJ.top hJ.nx0 (hJ.get ha) ?_ (ldOk rfl hld0)
 refine zaw h5 ?_
 refine zak (id := j) (sp := s5) (off := 0 + 1) rfl k5 hjn rfl ?_ (ldOk rfl hldj)
 refine zch rfl rfl ?_ rfl
 have J1 := hJ.fresh ck (.cells [.int .i64 (b : Nat)])
 have hel : ∀ l : List (Nat × AV), (st 51 l ((nx, ck, AObj.cells [.int .i64 (b : Nat)]) :: hp) (nx + 1) (ck + 1) []).elems 1 (.ms nx ck 1 0 1 (some 1)) = some [[.int .i64 (b : Nat)]] := fun l => zdd (xs := [[.int .i64 (b : Nat)]]) (ys := []) zbe rfl fun x hx => by obtain rfl := List.mem_singleton.1 hx; rfl
 cases hz : nz a with
 | false =>
  obtain ⟨e1, e2⟩ := hR.none a ha hz
  have J2 := (J1.add a (ck + 1) [((b : Nat) : Int)]).cset a (.ms (nx + 1) (ck + 1) 1 0 1 none)
  refine zpp (v := .ms (nx + 1) (ck + 1) 1 0 1 none) (hp' := (nx + 1, ck + 1, .cells [.int .i64 (b : Nat)]) :: (nx, ck, .cells [.int .i64 (b : Nat)]) :: hp) (nx' := nx + 1 + 1) (ck' := ck + 1 + 1) (congrArg some e2) rfl (hel []) rfl ?_ (napOk (congrArg some e2))
  refine za3 (zav ⟨rfl, fun rd => ?_⟩)
  refine AnyF.one 12 rfl (zql (i := 12) rfl rfl (znk rfl rfl (Int.natCast_nonneg a) (Int.ofNat_lt.2 ha)) ?_)
  rw [ez]
  refine AnyF.one 13 rfl (zom (i := 13) rfl (zi8 (id := 0) (sp := 1) (off := a) rfl rfl rfl rfl (J1.add a (ck + 1) [((b : Nat) : Int)]).top (Nat.ble_eq_true_of_le (by simp; omega)) rfl) ?_)
  rw [ziz (by simp; exact ha)]
  refine AnyF.fin rfl (Um.ok (zb2 (za1 (zog (za7 (l' := l') ?_) (fin _ _ _ _ _ _ _ _ J2 ?_)))))
  ·repeat (refine zji ?_ (fun x hx => by have := hd x hx; omega))
   exact hk
  ·constructor
   ·intro v hv hz'
    by_cases e : v = a
    ·subst e
     rw [zal, zal, zal, zal, zal, e1]
     exact ⟨List.cons_ne_nil _ _, rfl, rfl⟩
    ·rw [zaa _ _ e] at hz'
     rw [zaa _ _ e, zaa _ _ e, zaa _ _ e, zaa _ _ e, zaa _ _ e]
     exact hR.some v hv hz'
   ·intro v hv hz'
    by_cases e : v = a
    ·subst e
     rw [zal] at hz'
     cases hz'
    ·rw [zaa _ _ e] at hz'
     rw [zaa _ _ e, zaa _ _ e]
     exact hR.none v hv hz'
 | true =>
  obtain ⟨_, e1, e2⟩ := hR.some a ha hz
  have hp9 := hJ.pos a ha hz
  have hja := hjd a ha hz
  have J2 := (J1.block ha hz (ck + 1) (L a ++ [((b : Nat) : Int)])).cset a (.ms (ids a) (ck + 1) 1 0 ((L a).length + 1) none)
  have hsd : (fun i => !(Nat.beq i 0 || Nat.beq i j)) (ids a) = true := by
   have h1 : Nat.beq (ids a) 0 = false := by
    cases hb : Nat.beq (ids a) 0 with
    | false => rfl
    | true => have := Nat.eq_of_beq_eq_true hb; omega
   have h2 : Nat.beq (ids a) j = false := by
    cases hb : Nat.beq (ids a) j with
    | false => rfl
    | true => exact absurd (Nat.eq_of_beq_eq_true hb) hja
   show (!(Nat.beq (ids a) 0 || Nat.beq (ids a) j)) = true
   rw [h1, h2]
   rfl
  have hc := J1.cell a ha hz
  rw [e1] at hc
  have ap := zi7 (n := 51) (l := (27, .ms nx ck 1 0 1 (some 1)) :: (26, .int .i64 (b : Nat)) :: (25, .mptr j s5 (0 + 1)) :: (24, cv a) :: (23, .mptr 0 1 a) :: (22, .int .i64 (a : Nat)) :: (21, .mptr j s5 (0 + 0)) :: (20, .ms 0 1 1 0 m (some m)) :: (19, .int .i64 (a : Nat)) :: (18, .mptr j s5 (0 + 0)) :: (17, .ms 0 1 1 0 m (some m)) :: l) (hp := (nx, ck, .cells [.int .i64 (b : Nat)]) :: hp) (nx := nx + 1) (ck := ck + 1) (mk := []) (sz := 1) (bytes := 8) (z := [.int .i64 0]) (s := .t 24) (x := .t 27) [[.int .i64 (b : Nat)]] (id := ids a) (sp := sps a) (len := (L a).length) (congrArg some e2) rfl (hel _) (Nat.succ_ne_zero 0) rfl (by decide) hc (by rw [List.length_map, Nat.mul_one]) (by show (L a).length + 1 ≤ 1048576; omega)
  have e0 : (L a).map (AV.int .i64) ++ [[AV.int .i64 (b : Nat)]].flatten = (L a ++ [((b : Nat) : Int)]).map (AV.int .i64) := by rw [List.map_append]; rfl
  rw [e0] at ap
  refine zez ap ?_ (apOk (congrArg some e2) hsd)
  refine za3 (zav ⟨rfl, fun rd => ?_⟩)
  refine AnyF.one 12 rfl (zql (i := 12) rfl rfl (znk rfl rfl (Int.natCast_nonneg a) (Int.ofNat_lt.2 ha)) ?_)
  rw [ez]
  refine AnyF.one 13 rfl (zom (i := 13) rfl (zi8 (id := 0) (sp := 1) (off := a) rfl rfl rfl rfl (J1.block ha hz (ck + 1) (L a ++ [((b : Nat) : Int)])).top (Nat.ble_eq_true_of_le (by simp; omega)) rfl) ?_)
  rw [ziz (by simp; exact ha)]
  refine AnyF.fin rfl (Um.ok (zb2 (za1 (zog (za7 (l' := l') ?_) (fin _ _ _ _ _ _ _ _ J2 ?_)))))
  ·repeat (refine zji ?_ (fun x hx => by have := hd x hx; omega))
   exact hk
  ·constructor
   ·intro v hv hz'
    by_cases e : v = a
    ·subst e
     rw [zal, zal, zal, zal, List.length_append]
     exact ⟨by simp, rfl, rfl⟩
    ·rw [zaa _ _ e, zaa _ _ e, zaa _ _ e, zaa _ _ e]
     exact hR.some v hv hz'
   ·intro v hv hz'
    by_cases e : v = a
    ·subst e
     rw [hz] at hz'
     cases hz'
    ·rw [zaa _ _ e, zaa _ _ e]
     exact hR.none v hv hz'
end Go.Proofs.Ytoagikifehmlpaa
namespace Go.Proofs.Ytoagikifehmlpaa
open Go Go.Am
def tabS : Tab := [(64, [([.vs []], .tup [])]), (65, [([.vs []], .vs [])])]
theorem zvp : TabOk Try.prog tabS := TabOk.of_run (env0_ok.tab TabOk.nil (pure := [])) (n := 60) (by kernel_rfl)
theorem ints64 : PF Try.prog 64 [.vs []] (.tup []) := zvp _ (List.mem_cons_self ..) _ (List.mem_cons_self ..)
theorem zss : PF Try.prog 65 [.vs []] (.vs []) := zvp _ (List.mem_cons_of_mem _ (List.mem_cons_self ..)) _ (List.mem_cons_self ..)
end Go.Proofs.Ytoagikifehmlpaa
namespace Go.Proofs.Ytoagikifehmlpaa
open Go Go.Am
def srtc (l : List Int) : List Int := cps (srt l) ++ List.replicate ((srt l).length - (cps (srt l)).length) 0
structure Rs (m : Nat) (L : Nat → List Int) (i : Nat) (nz : Nat → Bool) (cv : Nat → AV) (C : Nat → List Int) (ids sps : Nat → Nat) : Prop where
 some : ∀ v, v < m → nz v = true → L v ≠ [] ∧ C v = (if v < i then srtc (L v) else L v) ∧ cv v = .ms (ids v) (sps v) 1 0 (if v < i then (cps (srt (L v))).length else (L v).length) none
 none : ∀ v, v < m → nz v = false → L v = [] ∧ cv v = (if v < i then .vs [] else .nils)
theorem Rs.start {m : Nat} {L : Nat → List Int} {nz : Nat → Bool} {cv : Nat → AV} {C : Nat → List Int} {ids sps : Nat → Nat} (h : Rw m L nz cv C ids sps) : Rs m L 0 nz cv C ids sps :=
 ⟨fun v hv hz => by rw [if_neg (Nat.not_lt_zero v), if_neg (Nat.not_lt_zero v)]; exact h.some v hv hz, fun v hv hz => by rw [if_neg (Nat.not_lt_zero v)]; exact h.none v hv hz⟩
theorem zo0 {α : Type} {v i : Nat} (h : v ≠ i) (a b : α) : (if v < i + 1 then a else b) = if v < i then a else b := by
 by_cases e : v < i
 ·rw [if_pos e, if_pos (by omega)]
 ·rw [if_neg e, if_neg (by omega)]
def t45 (m : Nat) (i : Nat) : List (Nat × AV) := [(3, .ms 0 1 1 0 m (some m)), (32, .int .i64 (m : Nat)), (33, .int .i64 (i : Nat))]
set_option maxHeartbeats 2000000 in
theorem sort45 {w0 : World} {N0 : Nat} {m : Nat} {L : Nat → List Int} {i : Nat} {nz : Nat → Bool} {cv : Nat → AV} {C : Nat → List Int} {ids sps : Nat → Nat} {hp : List (Nat × Nat × AObj)} {nx ck : Nat} {Q : Exit → AS → Prop} (hm : m ≤ 256)
  (hJ : Jn m nz cv C ids sps hp nx) (hR : Rs m L i nz cv C ids sps) (hi : i < m) (hL : (L i).length ≤ 100000)
  (fin : ∀ l' hp' cv' C' sps', KeepA l' (t45 m (i + 1)) → Jn m nz cv' C' ids sps' hp' nx → Rs m L (i + 1) nz cv' C' ids sps' → Um Try.prog w0 N0 none .normal (st 51 l' hp' nx ck) [] Q) :
  Zm Try.prog w0 N0 none b45_2 (st 51 (t45 m i) hp nx ck) [] Q := by
 have ez : ∀ o : Nat, 0 + ((o : Nat) : Int).toNat * 1 = o := fun o => by simp
 have w1 : IntKind.wrap .i64 (((i : Nat) : Int) + 1) = ((i + 1 : Nat) : Int) := zag i (by omega)
 have hidx : ((i : Nat) : Int) < ((m : Nat) : Int) := Int.ofNat_lt.2 hi
 unfold b45_2 t45
 repeat (first | refine za6 ?_ | refine za0 rfl ?_)
 refine ziq rfl rfl (by show some (AV.bool (decide (((i : Nat) : Int) < ((m : Nat) : Int)))) = _; rw [decide_eq_true hidx]) ?_
 repeat (first | refine za6 ?_ | refine za0 rfl ?_ | refine za3 ?_ | refine za1 ?_ | refine zab ?_ | refine zad ?_ | refine zc5 rfl ?_ | refine za2 rfl ?_ | refine zaz rfl rfl (by omega) (by omega) ?_)
 rw [ez]
 refine zak (id := 0) (sp := 1) (off := i) rfl hJ.top hJ.nx0 (hJ.get hi) ?_
 cases hz : nz i with
 | true =>
  obtain ⟨e0, e1, e2⟩ := hR.some i hi hz
  rw [if_neg (Nat.lt_irrefl i)] at e1 e2
  have hc := hJ.cell i hi hz
  rw [e1] at hc
  have hne2 : srt (L i) ≠ [] := fun e => e0 (by have := zlf (L i); rw [e] at this; exact List.length_eq_zero_iff.1 this.symm)
  have J1 := hJ.block hi hz (sps i) (srt (L i))
  have hc2 := J1.cell i hi hz
  rw [zal, zal] at hc2
  have J2 := J1.block hi hz (sps i) (srtc (L i))
  have J3 := J2.cset i (.ms (ids i) (sps i) 1 0 (cps (srt (L i))).length none)
  refine o_ct _ rfl (congrArg (fun v => some [v]) e2) (zfq (FT_sort (cap := none) (zs := L i) ent64 sorts64 e0 (by omega) hc)) (fun v H hF => fun _ h => absurd h List.not_mem_nil) fun v H hF => ?_
  obtain ⟨rfl, rfl⟩ := hF
  repeat (first | refine za0 rfl ?_ | refine za3 ?_ | refine za1 ?_ | refine za2 rfl ?_ | refine zaz rfl rfl (by omega) (by omega) ?_)
  rw [ez]
  refine zak (id := 0) (sp := 1) (off := i) rfl J1.top J1.nx0 (J1.get hi) ?_
  refine o_ct _ rfl (congrArg (fun v => some [v]) (e2.trans (by rw [← zlf (L i)]))) (zfq (zqj (cap := none) (zs := srt (L i)) ent65 cpts65 hne2 (by rw [zlf]; omega) hc2)) (fun v H hF => fun _ h => absurd h List.not_mem_nil) fun v H hF => ?_
  obtain ⟨rfl, rfl⟩ := hF
  repeat (first | refine zaz rfl rfl (by omega) (by omega) ?_)
  rw [ez]
  refine zbd (id := 0) (sp := 1) (off := i) rfl rfl rfl J2.top (by simp; exact hi) rfl ?_
  repeat (first | refine za0 rfl ?_ | refine za3 ?_ | refine za1 ?_ | refine zb2 ?_ | refine za2 rfl ?_ | refine zay (op := .add) rfl rfl rfl ?_)
  rw [w1]
  refine fin _ _ _ _ _ ?_ J3 ?_
  ·exact .cons rfl (.cons rfl (.cons rfl .nil))
  ·constructor
   ·intro v hv hzv
    by_cases e : v = i
    ·subst e
     rw [zal, zal, zal, if_pos (Nat.lt_succ_self v), if_pos (Nat.lt_succ_self v)]
     exact ⟨e0, rfl, rfl⟩
    ·rw [zaa _ _ e, zaa _ _ e, zaa _ _ e, zaa _ _ e, zaa _ _ e]
     rw [zo0 e, zo0 e]
     exact hR.some v hv hzv
   ·intro v hv hzv
    have e : v ≠ i := fun e => by rw [e, hz] at hzv; cases hzv
    rw [zaa _ _ e, zo0 e]
    exact hR.none v hv hzv
 | false =>
  obtain ⟨e0, e2⟩ := hR.none i hi hz
  rw [if_neg (Nat.lt_irrefl i)] at e2
  have J3 := hJ.cset i (.vs [])
  refine zau (vs := [.nils]) (congrArg (fun v => some [v]) e2) rfl ints64 (fun h => Bool.noConfusion (show false = true from h)) ?_
  repeat (first | refine za0 rfl ?_ | refine za3 ?_ | refine za1 ?_ | refine za2 rfl ?_ | refine zaz rfl rfl (by omega) (by omega) ?_)
  rw [ez]
  refine zak (id := 0) (sp := 1) (off := i) rfl hJ.top hJ.nx0 (hJ.get hi) ?_
  refine zau (vs := [.nils]) (congrArg (fun v => some [v]) e2) rfl zss (fun h => Bool.noConfusion (show false = true from h)) ?_
  repeat (first | refine zaz rfl rfl (by omega) (by omega) ?_)
  rw [ez]
  refine zbd (id := 0) (sp := 1) (off := i) rfl rfl rfl hJ.top (by simp; exact hi) rfl ?_
  repeat (first | refine za0 rfl ?_ | refine za3 ?_ | refine za1 ?_ | refine zb2 ?_ | refine za2 rfl ?_ | refine zay (op := .add) rfl rfl rfl ?_)
  rw [w1]
  refine fin _ _ _ _ _ ?_ J3 ?_
  ·exact .cons rfl (.cons rfl (.cons rfl .nil))
  ·constructor
   ·intro v hv hzv
    have e : v ≠ i := fun e => by rw [e, hz] at hzv; cases hzv
    rw [zaa _ _ e, zo0 e, zo0 e]
    exact hR.some v hv hzv
   ·intro v hv hzv
    by_cases e : v = i
    ·subst e
     rw [zal, if_pos (Nat.lt_succ_self v)]
     exact ⟨e0, rfl⟩
    ·rw [zaa _ _ e, zo0 e]
     exact hR.none v hv hzv
theorem zia {f : Nat → AV} (h : ∀ v, hasM (f v) = false) : ∀ l : List Nat, hasM.hasML (l.map f) = false
 | [] => rfl
 | v :: l => by
  rw [List.map_cons]
  show (hasM (f v) || hasM.hasML (l.map f)) = false
  rw [h v, zia h l]
  rfl
theorem zux (E : List (Nat × Nat)) (v : Nat) : (raw E v).length ≤ E.length := by
 unfold raw
 rw [List.length_map]
 exact List.length_filter_le ..
set_option maxHeartbeats 2000000 in
theorem zds (m : Nat) (hm : m ≤ 256) (E : List (Nat × Nat)) (hE : E.length ≤ 5000) (hb : ∀ u v, (u, v) ∈ E → u < m ∧ v < m) : PF Try.prog 45 [cG (m : Nat) (zaj E)] (cN E m) := by
 have hcl : (cE (zaj E)).length = E.length := by rw [zbj]; exact List.length_map ..
 refine zb7 env0_ok fn45 [(0, .agg [.int .i64 (m : Nat), .vs (cE (zaj E))])] (by show 1 ≤ 51; decide) rfl fun w0 N0 => ?_
 unfold ic45
 refine za6 (za0 rfl (zdh rfl rfl (za2 rfl (za3 (za1 ?_)))))
 refine zba [] [(0, 0, [.int .i64 (m : Nat), .vs (cE (zaj E))])] [(1, .vptr [.int .i64 (m : Nat), .vs (cE (zaj E))])] rfl (.cons rfl rfl .nil) .nil (.cons rfl (.fptr rfl rfl) .nil) ?_
 repeat (first | refine za6 ?_ | refine za0 rfl ?_ | refine zaf rfl rfl ?_ | refine zae rfl rfl rfl ?_)
 refine zo4 rfl rfl ⟨Int.natCast_nonneg m, Int.le_refl _, by omega, by decide⟩ ?_
 repeat (first | refine za6 ?_ | refine za0 rfl ?_ | refine za3 ?_ | refine za1 ?_ | refine zab ?_ | refine za2 rfl ?_ | refine zaf rfl rfl ?_ | refine zae rfl rfl rfl ?_ | refine zbh rfl rfl ?_)
 have J0 : Jn m (fun _ => false) (fun _ => .nils) (fun _ => []) (fun _ => 0) (fun _ => 0) [(0, 1, AObj.cells (zei ((m : Nat) : Int).toNat [.nils]))] 1 := by
  refine ⟨?_, fun _ _ h => (by cases h), fun _ _ h => (by cases h), fun _ _ _ _ h => (by cases h), Nat.zero_lt_one⟩
  rw [← zf1]
  rfl
 refine zb6 (fun mm S => ∃ i hp nx ck nz cv C ids sps, mm = E.length - i ∧ i ≤ E.length ∧ Jn m nz cv C ids sps hp nx ∧ Rw m (raw (E.take i)) nz cv C ids sps ∧ S = st 51 [(1, .vptr [.int .i64 (m : Nat), .vs (cE (zaj E))]), (3, .ms 0 1 1 0 m (some m)), (11, .vs (cE (zaj E))), (12, .int .i64 ((cE (zaj E)).length : Nat)), (13, .int .i64 (i : Nat))] hp nx ck) E.length
  (za7 (.cons rfl (.cons rfl (.cons rfl (.cons rfl (.cons rfl .nil)))))) ⟨0, _, _, _, _, _, _, _, _, rfl, Nat.zero_le _, J0, ⟨fun _ _ h => (by cases h), fun _ _ _ => ⟨rfl, rfl⟩⟩, rfl⟩ ?_
 rintro mm S ⟨i, hp, nx, ck, nz, cv, C, ids, sps, rfl, hi, hJ, hR, rfl⟩
 unfold b45_0
 repeat (first | refine za6 ?_ | refine za0 rfl ?_)
 refine zao rfl rfl rfl (fun h3 => ?_) fun h3 => ?_
 ·have hlt : i < E.length := by
   have h4 : ((i : Nat) : Int) < (((cE (zaj E)).length : Nat) : Int) := of_decide_eq_true h3
   omega
  have w1 : IntKind.wrap .i64 (((i : Nat) : Int) + 1) = ((i + 1 : Nat) : Int) := zag i (by omega)
  have hg := zel hlt
  obtain ⟨ha, _⟩ := hb _ _ (List.getElem_mem hlt : (E[i].1, E[i].2) ∈ E)
  have hrs := fun v => raw_step hlt v
  repeat (first | refine za6 ?_ | refine za0 rfl ?_ | refine za3 ?_ | refine za1 ?_ | refine zab ?_ | refine zad ?_ | refine zc5 rfl ?_ | refine zap rfl rfl rfl rfl ?_ | refine zbm ?_ | refine zb0 rfl rfl (by omega) (by assumption) rfl ?_)
  refine zbf (id := nx) (sp := ck) (off := 0) rfl rfl rfl rfl zbe rfl rfl ?_
  refine za3 (za1 ?_)
  have hpn := hJ.nx0
  refine reg45 (j := nx) (s5 := ck) (a := E[i].1) (b := E[i].2) (l' := [(1, .vptr [.int .i64 (m : Nat), .vs (cE (zaj E))]), (3, .ms 0 1 1 0 m (some m)), (11, .vs (cE (zaj E))), (12, .int .i64 ((cE (zaj E)).length : Nat)), (13, .int .i64 (i : Nat))])
   ((hJ.fresh ck _).junk (j := nx) (by omega) (fun v hv hz => by have := hJ.pos v hv hz; omega) _) hR (by rw [za4, if_pos rfl]; rfl) (Nat.lt_succ_self _) (fun v hv hz => by have := hJ.pos v hv hz; omega) ha (by have := zux (E.take i) E[i].1; rw [List.length_take] at this; omega) rfl rfl (.cons rfl (.cons rfl (.cons rfl (.cons rfl (.cons rfl .nil))))) (fun x hx => by
    simp only [List.mem_cons, List.not_mem_nil, or_false] at hx
    rcases hx with rfl | rfl | rfl | rfl | rfl <;> simp) fun hp' nx' ck' nz' cv' C' ids' sps' hJ' hR' => ?_
  repeat (first | refine za0 rfl ?_ | refine za3 ?_ | refine za2 rfl ?_ | refine zay (op := .add) rfl rfl rfl ?_)
  rw [w1]
  refine zah (show E.length - (i + 1) < E.length - i by omega) (za7 (.cons rfl (.cons rfl (.cons rfl (.cons rfl (.cons rfl .nil)))))) ⟨i + 1, _, _, _, _, _, _, _, _, rfl, hlt, hJ', ?_, rfl⟩
  have : raw (E.take (i + 1)) = upd (raw (E.take i)) E[i].1 (raw (E.take i) E[i].1 ++ [((E[i].2 : Nat) : Int)]) := by
   funext v
   rw [hrs v]
   unfold upd
   by_cases e : v = E[i].1
   ·rw [if_pos e.symm, if_pos e, e]
   ·rw [if_neg fun h => e h.symm, if_neg e]
  rw [this]
  exact hR'
 ·have hie : i = E.length := by
   have h4 : ¬ ((i : Nat) : Int) < (((cE (zaj E)).length : Nat) : Int) := of_decide_eq_false h3
   omega
  subst hie
  rw [List.take_length] at hR
  repeat (first | refine za6 ?_ | refine za3 ?_ | refine za1 ?_ | refine zbp rfl ?_ | refine zb4 ?_ | refine zac ?_)
  refine zbx ?_
  repeat (first | refine za6 ?_ | refine za0 rfl ?_ | refine za3 ?_ | refine za1 ?_ | refine zab ?_ | refine zb3 ?_ | refine za2 rfl ?_ | refine zbh rfl rfl ?_)
  refine zb6 (fun mm S => ∃ i hp ck cv C sps, mm = m - i ∧ i ≤ m ∧ Jn m nz cv C ids sps hp nx ∧ Rs m (raw E) i nz cv C ids sps ∧ S = st 51 (t45 m i) hp nx ck) m
   (za7 (.cons rfl (.cons rfl (.cons rfl .nil)))) ⟨0, _, _, _, _, _, rfl, Nat.zero_le _, hJ, Rs.start hR, rfl⟩ ?_
  rintro mm S ⟨i, hp, ck, cv, C, sps, rfl, hi, hJ, hR, rfl⟩
  by_cases hlt : i < m
  ·exact sort45 hm hJ hR hlt (by have := zux E i; omega) fun l' hp' cv' C' sps' hk hJ' hR' => zah (show m - (i + 1) < m - i by omega) (za7 hk) ⟨i + 1, _, _, _, _, _, rfl, hlt, hJ', hR', rfl⟩
  ·have hie : i = m := by omega
   subst hie
   unfold b45_2 t45
   repeat (first | refine za6 ?_ | refine za0 rfl ?_)
   refine zcv rfl rfl (by show some (AV.bool (decide (((i : Nat) : Int) < ((i : Nat) : Int)))) = _; rw [decide_eq_false (Int.lt_irrefl _)]) ?_
   repeat (first | refine za6 ?_ | refine za3 ?_ | refine za1 ?_ | refine zbp rfl ?_ | refine zb4 ?_ | refine zac ?_)
   refine zbx ?_
   refine zb3 (za1 ?_)
   refine zba [(some (0, 1), (List.range i).map fun v => vN (nbr E i v))] (fzJ i nz C ids sps) [(3, .ms 0 0 1 0 i (some i))] (hJ.ok _) hJ.rnF (.cons hJ.top (zv6 fun v hv => ?_) .nil) (.cons rfl (.ms rfl) .nil) ?_
   ·have hv := List.mem_range.1 hv
    cases hz : nz v with
    | true =>
     obtain ⟨e0, e1, e2⟩ := hR.some v hv hz
     rw [if_pos hv] at e1 e2
     rw [e2]
     have hc := zsu (es := E) (N := i) (v := v) fun u w h => (hb u w h).2
     have hfz := hJ.fzl hv hz
     rw [e1] at hfz
     refine .fms hfz (by rw [List.length_map, hc, List.length_map]) (fun x hx => by obtain ⟨s, _, rfl⟩ := List.mem_map.1 hx; rfl) ⟨(List.replicate ((srt (raw E v)).length - (cps (srt (raw E v))).length) 0).map (AV.int .i64), ?_⟩
     unfold srtc
     rw [List.drop_zero, List.map_append, hc, ze1, List.map_map]
     rfl
    | false =>
     obtain ⟨e0, e2⟩ := hR.none v hv hz
     rw [if_pos hv] at e2
     rw [e2]
     have hc := zsu (es := E) (N := i) (v := v) fun u w h => (hb u w h).2
     rw [e0] at hc
     have h0 : cps (srt []) = [] := by rw [cps_eq, show srt [] = [] from by unfold srt; simp]; rfl
     have : nbr E i v = [] := List.map_eq_nil_iff.1 (hc.symm.trans h0)
     unfold vN
     rw [this]
     exact .same rfl
   refine zba [] [(0, 0, (List.range i).map fun v => vN (nbr E i v))] [(3, cN E i)] rfl (.cons rfl ?_ .nil) .nil (.cons rfl ?_ .nil) ?_
   ·exact zia (fun v => rfl) _
   ·have := RenW.fms1 (live := []) (fz := [(0, 0, (List.range i).map fun v => vN (nbr E i v))]) (id := 0) (sp := 0) (len := i) (cap := some i) (vs := (List.range i).map fun v => vN (nbr E i v)) rfl (by rw [List.length_map, List.length_range])
    rw [List.map_map] at this
    exact this
   repeat (first | refine za6 ?_ | refine za0 rfl ?_ | refine za3 ?_ | refine za1 ?_ | refine zax ?_ | refine za2 rfl ?_)
   exact zav ⟨.inr rfl, _, rfl, rfl⟩
end Go.Proofs.Ytoagikifehmlpaa
namespace Go.Proofs.Ytoagikifehmlpaa
open Go Go.Am
def b54_0 : IC := .seq (.seq (.region [⟨(some 13), .mov (.t 6), none⟩,
  ⟨(some 14), .faddr 0 (.t 2), none⟩,
  ⟨(some 15), .load none (.t 14), none⟩,
  ⟨(some 16), .bin .lss (.t 13) (.t 15), none⟩] none)
 (.cond (.t 16) (.skip)
 (.exit 0)))
 (.seq (.block 1 (.region [⟨(some 19), .mov (.t 5), none⟩,
  ⟨(some 20), .mov (.t 6), none⟩,
  ⟨(some 21), .idxs 1 (.t 19) (.t 20), none⟩,
  ⟨none, .store 1 (.t 21) (.c (.int .i64 (-1))), none⟩] none))
 (.region [⟨(some 17), .mov (.t 6), none⟩,
  ⟨(some 18), .bin .add (.t 17) (.c (.int .i64 1)), none⟩,
  ⟨(some 6), .mov (.t 18), none⟩] none))
def b54_4 : IC := .seq (.seq (.region [⟨(some 31), .mov (.t 8), none⟩,
  ⟨(some 32), .faddr 1 (.t 2), none⟩,
  ⟨(some 33), .load none (.t 32), none⟩,
  ⟨(some 34), .len false (.t 33), none⟩,
  ⟨(some 35), .bin .lss (.t 31) (.t 34), none⟩] none)
 (.cond (.t 35) (.skip)
 (.exit 4)))
 (.seq (.block 5 (.seq (.region [⟨(some 38), .faddr 1 (.t 2), none⟩,
  ⟨(some 39), .load none (.t 38), none⟩,
  ⟨(some 40), .mov (.t 8), none⟩,
  ⟨(some 41), .idxs 2 (.t 39) (.t 40), none⟩,
  ⟨(some 42), .load (some 2) (.t 41), none⟩,
  ⟨(some 9), .alloc [.int .i64 0, .int .i64 0], none⟩,
  ⟨none, .store 2 (.t 9) (.t 42), none⟩] none)
 (.seq (.region [⟨(some 43), .mov (.t 5), none⟩,
  ⟨(some 44), .faddr 0 (.t 9), none⟩,
  ⟨(some 45), .load none (.t 44), none⟩,
  ⟨(some 46), .idxs 1 (.t 43) (.t 45), none⟩,
  ⟨(some 47), .load none (.t 46), none⟩,
  ⟨(some 48), .mov (.t 7), none⟩,
  ⟨(some 49), .bin .eql (.t 47) (.t 48), none⟩,
  ⟨(some 50), .mov (.t 49), none⟩,
  ⟨(some 51), .mov (.t 5), some (50, true)⟩,
  ⟨(some 52), .faddr 1 (.t 9), some (50, true)⟩,
  ⟨(some 53), .load none (.t 52), some (50, true)⟩,
  ⟨(some 54), .idxs 1 (.t 51) (.t 53), some (50, true)⟩,
  ⟨(some 55), .load none (.t 54), some (50, true)⟩,
  ⟨(some 56), .bin .lss (.t 55) (.c (.int .i64 0)), some (50, true)⟩,
  ⟨(some 57), .pick (.t 50) (.t 56) (.c (.bool false)), none⟩] none)
 (.cond (.t 57) (.region [⟨(some 58), .mov (.t 5), none⟩,
  ⟨(some 59), .faddr 1 (.t 9), none⟩,
  ⟨(some 60), .load none (.t 59), none⟩,
  ⟨(some 61), .mov (.t 7), none⟩,
  ⟨(some 62), .bin .add (.t 61) (.c (.int .i64 1)), none⟩,
  ⟨(some 63), .idxs 1 (.t 58) (.t 60), none⟩,
  ⟨none, .store 1 (.t 63) (.t 62), none⟩] none)
 (.skip)))))
 (.region [⟨(some 36), .mov (.t 8), none⟩,
  ⟨(some 37), .bin .add (.t 36) (.c (.int .i64 1)), none⟩,
  ⟨(some 8), .mov (.t 37), none⟩] none))
def b54_2 : IC := .seq (.seq (.region [⟨(some 25), .mov (.t 7), none⟩,
  ⟨(some 26), .faddr 0 (.t 2), none⟩,
  ⟨(some 27), .load none (.t 26), none⟩,
  ⟨(some 28), .bin .lss (.t 25) (.t 27), none⟩] none)
 (.cond (.t 28) (.skip)
 (.exit 2)))
 (.seq (.block 3 (.seq (.region [⟨(some 8), .mov (.c (.int .i64 0)), none⟩] none)
 (.block 4 (.loop b54_4))))
 (.region [⟨(some 29), .mov (.t 7), none⟩,
  ⟨(some 30), .bin .add (.t 29) (.c (.int .i64 1)), none⟩,
  ⟨(some 7), .mov (.t 30), none⟩] none))
-- pneumatic/pneumaticref10.Far
def ic54 : IC := .seq (.region [⟨(some 2), .box (.t 0), none⟩,
  ⟨(some 4), .mov (.c (.nils)), none⟩] none)
 (.seq (.region [⟨(some 10), .faddr 0 (.t 2), none⟩,
  ⟨(some 11), .load none (.t 10), none⟩,
  ⟨(some 12), .mkslice 1 8 [.int .i64 0] (.t 11) (.t 11), none⟩,
  ⟨(some 5), .mov (.t 12), none⟩] none)
 (.seq (.seq (.region [⟨(some 6), .mov (.c (.int .i64 0)), none⟩] none)
 (.block 0 (.loop b54_0)))
 (.seq (.region [⟨(some 22), .mov (.t 5), none⟩,
  ⟨(some 23), .mov (.t 1), none⟩,
  ⟨(some 24), .idxs 1 (.t 22) (.t 23), none⟩,
  ⟨none, .store 1 (.t 24) (.c (.int .i64 0)), none⟩] none)
 (.seq (.seq (.region [⟨(some 7), .mov (.c (.int .i64 0)), none⟩] none)
 (.block 2 (.loop b54_2)))
 (.seq (.region [⟨(some 64), .mov (.t 5), none⟩,
  ⟨(some 4), .mov (.t 64), none⟩] none)
 (.ret))))))
theorem fn54 : env0.fn 54 = some ⟨65, ic54, [.t 4]⟩ := by kernel_rfl
theorem zuc (m : Nat) : ((List.range m).map fun v => if v < m then AV.int .i64 (-1) else AV.int .i64 0) = (List.replicate m (-1 : Int)).map (AV.int .i64) := by
 refine List.ext_getElem (by simp) fun i h1 h2 => ?_
 simp only [List.length_map, List.length_range] at h1
 simp [h1]
theorem zm4 (E : List (Nat × Nat)) (m f r : Nat) : zfp E m f (r + 1) = E.foldl (zix (r : Int)) (zfp E m f r) := by
 unfold zfp
 rw [List.range_succ, List.foldl_append]
 rfl
theorem zkh (E : List (Nat × Nat)) (m f : Nat) : ∀ r, (zfp E m f r).length = m := by
 have h1 : ∀ (r : Int) (E : List (Nat × Nat)) (o : List Int), (E.foldl (zix r) o).length = o.length := by
  intro r E
  induction E with
  | nil => intro o; rfl
  | cons e E ih =>
   intro o
   rw [List.foldl_cons, ih]
   unfold zix
   split
   ·rw [List.length_set]
   ·rfl
 intro r
 induction r with
 | zero => show ((List.replicate m (-1 : Int)).set f 0).length = m; rw [List.length_set, List.length_replicate]
 | succ r ih => rw [zm4, h1, ih]
theorem zv7 (r : Int) : ∀ (E : List (Nat × Nat)) (o : List Int), (E.foldl (zix r) o).length = o.length
 | [], _ => rfl
 | e :: E, o => by
  rw [List.foldl_cons, zv7 r E]
  unfold zix
  split
  ·rw [List.length_set]
  ·rfl
set_option maxHeartbeats 4000000 in
theorem far54 (m : Nat) (hm : m ≤ 256) (E : List (Nat × Nat)) (hE : E.length ≤ 5000) (hb : ∀ u v, (u, v) ∈ E → u < m ∧ v < m) (f : Nat) (hf : f < m) : PF Try.prog 54 [cG (m : Nat) (zaj E), .int .i64 (f : Nat)] (vsI (zfp E m f m)) := by
 have ez : ∀ o : Nat, 0 + ((o : Nat) : Int).toNat * 1 = o := fun o => by simp
 have hcl : (cE (zaj E)).length = E.length := by rw [zbj]; exact List.length_map ..
 refine zb7 env0_ok fn54 [(0, .agg [.int .i64 (m : Nat), .vs (cE (zaj E))]), (1, .int .i64 (f : Nat))] (by show 2 ≤ 65; decide) rfl fun w0 N0 => ?_
 unfold ic54
 refine za6 (za0 rfl (zdh rfl rfl (za2 rfl (za3 (za1 ?_)))))
 refine zba [] [(0, 0, [.int .i64 (m : Nat), .vs (cE (zaj E))])] [(1, .int .i64 (f : Nat)), (2, .vptr [.int .i64 (m : Nat), .vs (cE (zaj E))])] rfl (.cons rfl rfl .nil) .nil (.cons rfl (.same rfl) (.cons rfl (.fptr rfl rfl) .nil)) ?_
 repeat (first | refine za6 ?_ | refine za0 rfl ?_ | refine zaf rfl rfl ?_ | refine zae rfl rfl rfl ?_)
 refine zo4 rfl rfl ⟨Int.natCast_nonneg m, Int.le_refl _, by omega, by decide⟩ ?_
 repeat (first | refine za6 ?_ | refine za0 rfl ?_ | refine za3 ?_ | refine za1 ?_ | refine zab ?_ | refine za2 rfl ?_)
 refine zb6 (fun mm S => ∃ i hp, mm = m - i ∧ i ≤ m ∧ Am.look 0 hp = some (1, .cells ((List.range m).map fun v => if v < i then AV.int .i64 (-1) else AV.int .i64 0)) ∧ S = st 65 [(1, .int .i64 (f : Nat)), (2, .vptr [.int .i64 (m : Nat), .vs (cE (zaj E))]), (5, .ms 0 1 1 0 m (some m)), (6, .int .i64 (i : Nat))] hp 1 2) m
  (za7 (.cons rfl (.cons rfl (.cons rfl (.cons rfl .nil))))) ⟨0, _, rfl, Nat.zero_le _, by
   show some (1, AObj.cells (zei m [.int .i64 0])) = _
   rw [zf1]
   simp, rfl⟩ ?_
 rintro mm S ⟨i, hp, rfl, hi, hk, rfl⟩
 unfold b54_0
 repeat (first | refine za6 ?_ | refine za0 rfl ?_ | refine za2 rfl ?_ | refine zaf rfl rfl ?_ | refine zae rfl rfl rfl ?_)
 refine zao rfl rfl rfl (fun h3 => ?_) fun h3 => ?_
 ·have hlt : i < m := Int.ofNat_lt.1 (of_decide_eq_true h3)
  have w1 : IntKind.wrap .i64 (((i : Nat) : Int) + 1) = ((i + 1 : Nat) : Int) := zag i (by omega)
  repeat (first | refine za6 ?_ | refine za0 rfl ?_ | refine za3 ?_ | refine za1 ?_ | refine zab ?_ | refine zad ?_ | refine zc5 rfl ?_ | refine za2 rfl ?_ | refine zaz rfl rfl (by omega) (by omega) ?_)
  rw [ez]
  refine zbd (id := 0) (sp := 1) (off := i) rfl rfl rfl hk (by simp; exact hlt) rfl ?_
  repeat (first | refine za0 rfl ?_ | refine za3 ?_ | refine za1 ?_ | refine zb2 ?_ | refine za2 rfl ?_ | refine zay (op := .add) rfl rfl rfl ?_)
  rw [w1]
  refine zah (show m - (i + 1) < m - i by omega) (za7 (.cons rfl (.cons rfl (.cons rfl (.cons rfl .nil))))) ⟨i + 1, _, rfl, hlt, ?_, rfl⟩
  rw [za4, if_pos rfl, map_set]
  congr 4
  funext v
  unfold upd
  by_cases e : v = i
  ·rw [if_pos e, if_pos (by omega)]
  ·rw [if_neg e, zo0 e]
 have hie : i = m := by
  have h4 : ¬ ((i : Nat) : Int) < ((m : Nat) : Int) := of_decide_eq_false h3
  omega
 subst hie
 rw [zuc] at hk
 repeat (first | refine za3 ?_ | refine za1 ?_ | refine zbp rfl ?_ | refine zb4 ?_ | refine zac ?_)
 refine zbx ?_
 repeat (first | refine za6 ?_ | refine za0 rfl ?_ | refine za1 ?_ | refine zb3 ?_ | refine za2 rfl ?_ | refine zaz rfl rfl (by omega) (by omega) ?_)
 rw [ez]
 refine zbd (id := 0) (sp := 1) (off := f) rfl rfl rfl hk (by simp; exact hf) rfl ?_
 repeat (first | refine za6 ?_ | refine za0 rfl ?_ | refine za3 ?_ | refine za1 ?_ | refine zab ?_ | refine za2 rfl ?_)
 refine zb6 (fun mm S => ∃ r hp nx ck, mm = i - r ∧ r ≤ i ∧ 0 < nx ∧ Am.look 0 hp = some (1, .cells ((zfp E i f r).map (AV.int .i64))) ∧ S = st 65 [(2, .vptr [.int .i64 (i : Nat), .vs (cE (zaj E))]), (5, .ms 0 1 1 0 i (some i)), (7, .int .i64 (r : Nat))] hp nx ck) i
  (za7 (.cons rfl (.cons rfl (.cons rfl .nil)))) ⟨0, _, _, _, rfl, Nat.zero_le _, Nat.zero_lt_one, by rw [za4, if_pos rfl, ← List.map_set]; rfl, rfl⟩ ?_
 rintro mm S ⟨r, hp, nx, ck, rfl, hr, hnx, hk, rfl⟩
 unfold b54_2
 repeat (first | refine za6 ?_ | refine za0 rfl ?_ | refine za2 rfl ?_ | refine zaf rfl rfl ?_ | refine zae rfl rfl rfl ?_)
 refine zao rfl rfl rfl (fun h3 => ?_) fun h3 => ?_
 ·have hlt : r < i := Int.ofNat_lt.1 (of_decide_eq_true h3)
  have wr : IntKind.wrap .i64 (((r : Nat) : Int) + 1) = ((r + 1 : Nat) : Int) := zag r (by omega)
  repeat (first | refine za6 ?_ | refine za0 rfl ?_ | refine za3 ?_ | refine za1 ?_ | refine zab ?_ | refine zad ?_ | refine zc5 rfl ?_ | refine za2 rfl ?_)
  refine zb6 (fun mm S => ∃ j hp nx ck, mm = E.length - j ∧ j ≤ E.length ∧ 0 < nx ∧ Am.look 0 hp = some (1, .cells (((E.take j).foldl (zix (r : Int)) (zfp E i f r)).map (AV.int .i64))) ∧ S = st 65 [(2, .vptr [.int .i64 (i : Nat), .vs (cE (zaj E))]), (5, .ms 0 1 1 0 i (some i)), (7, .int .i64 (r : Nat)), (8, .int .i64 (j : Nat))] hp nx ck) E.length
   (za7 (.cons rfl (.cons rfl (.cons rfl (.cons rfl .nil))))) ⟨0, _, _, _, rfl, Nat.zero_le _, hnx, hk, rfl⟩ ?_
  rintro mm S ⟨j, hp, nx, ck, rfl, hj, hnx, hk, rfl⟩
  have hol : ((E.take j).foldl (zix (r : Int)) (zfp E i f r)).length = i := by rw [zv7, zkh]
  unfold b54_4
  repeat (first | refine za6 ?_ | refine za0 rfl ?_ | refine za2 rfl ?_ | refine zaf rfl rfl ?_ | refine zae rfl rfl rfl ?_ | refine zbh rfl rfl ?_)
  refine zao rfl rfl rfl (fun h4 => ?_) fun h4 => ?_
  ·have hlt2 : j < E.length := by
    have h5 : ((j : Nat) : Int) < (((cE (zaj E)).length : Nat) : Int) := of_decide_eq_true h4
    omega
   have w1 : IntKind.wrap .i64 (((j : Nat) : Int) + 1) = ((j + 1 : Nat) : Int) := zag j (by omega)
   have hg := zel hlt2
   obtain ⟨ha, hb3⟩ := hb _ _ (List.getElem_mem hlt2 : (E[j].1, E[j].2) ∈ E)
   have hst : (E.take (j + 1)).foldl (zix (r : Int)) (zfp E i f r) = zix (r : Int) ((E.take j).foldl (zix (r : Int)) (zfp E i f r)) (E[j].1, E[j].2) := by
    rw [List.take_add_one, List.getElem?_eq_getElem hlt2]
    show (E.take j ++ [E[j]]).foldl _ _ = _
    rw [List.foldl_append]
    rfl
   generalize (E.take j).foldl (zix (r : Int)) (zfp E i f r) = o at *
   generalize E[j].1 = a at *
   generalize E[j].2 = b at *
   repeat (first | refine za6 ?_ | refine za0 rfl ?_ | refine za3 ?_ | refine za1 ?_ | refine zab ?_ | refine zad ?_ | refine zc5 rfl ?_ | refine za2 rfl ?_ | refine zaf rfl rfl ?_ | refine zap rfl rfl rfl rfl ?_ | refine zae rfl rfl rfl ?_ | refine zbm ?_ | refine zb0 rfl rfl (by omega) (by assumption) rfl ?_)
   refine zbf (id := nx) (sp := ck) (off := 0) rfl rfl rfl rfl zbe rfl rfl ?_
   have k0 : Am.look 0 (zbo nx (ck, AObj.cells [.int .i64 (a : Nat), .int .i64 (b : Nat)]) ((nx, ck, AObj.cells [.int .i64 0, .int .i64 0]) :: hp)) = some (1, .cells (o.map (AV.int .i64))) := by
    rw [za4, if_neg (by omega), za9, if_neg (by omega)]
    exact hk
   have k5 : Am.look nx (zbo nx (ck, AObj.cells [.int .i64 (a : Nat), .int .i64 (b : Nat)]) ((nx, ck, AObj.cells [.int .i64 0, .int .i64 0]) :: hp)) = some (ck, .cells [.int .i64 (a : Nat), .int .i64 (b : Nat)]) := by
    rw [za4, if_pos rfl]
   repeat (first | refine za6 ?_ | refine za0 rfl ?_ | refine za3 ?_ | refine za1 ?_ | refine za2 rfl ?_ | refine zaw rfl ?_)
   refine zak (id := nx) (sp := ck) (off := 0) rfl k5 (Nat.lt_succ_self _) rfl ?_
   repeat (first | refine zaz rfl rfl (by omega) (by omega) ?_)
   rw [ez]
   refine zak (id := 0) (sp := 1) (off := a) rfl k0 (Nat.succ_pos _) (zpc (by omega)) ?_
   repeat (first | refine za2 rfl ?_)
   refine zao rfl rfl rfl (fun h5 => ?_) fun h5 => ?_
   ·have h5 : gI o a = (r : Int) := by simpa using h5
    repeat (first | refine zck rfl ?_ | refine za2 rfl ?_ | refine zaw rfl ?_)
    refine zak (id := nx) (sp := ck) (off := 0 + 1) rfl k5 (Nat.lt_succ_self _) rfl ?_
    repeat (first | refine zck rfl ?_ | refine zaz rfl rfl (by omega) (by omega) ?_)
    rw [ez]
    refine zak (id := 0) (sp := 1) (off := b) rfl k0 (Nat.succ_pos _) (zpc (by omega)) ?_
    refine zck rfl ?_
    refine zao rfl rfl rfl (fun h6 => ?_) fun h6 => ?_
    ·have h6 : gI o b < 0 := of_decide_eq_true h6
     have hv1 : zix (r : Int) o (a, b) = o.set b ((r + 1 : Nat) : Int) := by unfold zix; rw [if_pos ⟨h5, h6⟩]; rfl
     repeat (first | refine za0 rfl ?_ | refine za3 ?_ | refine za1 ?_ | refine zc5 rfl ?_ | refine za2 rfl ?_ | refine zaw rfl ?_ | refine zat rfl rfl ?_)
     refine zak (id := nx) (sp := ck) (off := 0 + 1) rfl k5 (Nat.lt_succ_self _) rfl ?_
     repeat (first | refine za2 rfl ?_ | refine zay (op := .add) rfl rfl rfl ?_ | refine zaz rfl rfl (by omega) (by omega) ?_)
     rw [ez, wr]
     refine zbd (id := 0) (sp := 1) (off := b) rfl rfl rfl k0 (by simp; omega) rfl ?_
     repeat (first | refine za0 rfl ?_ | refine za3 ?_ | refine za1 ?_ | refine zb2 ?_ | refine za2 rfl ?_ | refine zay (op := .add) rfl rfl rfl ?_)
     rw [w1]
     exact zah (show E.length - (j + 1) < E.length - j by omega) (za7 (.cons rfl (.cons rfl (.cons rfl (.cons rfl .nil))))) ⟨j + 1, _, _, _, rfl, hlt2, Nat.succ_pos _, by rw [za4, if_pos rfl, ← List.map_set, hst, hv1], rfl⟩
    ·have h6 : ¬ gI o b < 0 := of_decide_eq_false h6
     have hv1 : zix (r : Int) o (a, b) = o := by unfold zix; rw [if_neg fun e => h6 e.2]
     repeat (first | refine za0 rfl ?_ | refine za3 ?_ | refine za1 ?_ | refine zb2 ?_ | refine zad ?_ | refine zbp rfl ?_ | refine za2 rfl ?_ | refine zat rfl rfl ?_ | refine zay (op := .add) rfl rfl rfl ?_)
     rw [w1]
     exact zah (show E.length - (j + 1) < E.length - j by omega) (za7 (.cons rfl (.cons rfl (.cons rfl (.cons rfl .nil))))) ⟨j + 1, _, _, _, rfl, hlt2, Nat.succ_pos _, by rw [hst, hv1]; exact k0, rfl⟩
   ·have h5 : ¬ gI o a = (r : Int) := by simpa using h5
    have hv1 : zix (r : Int) o (a, b) = o := by unfold zix; rw [if_neg fun e => h5 e.1]
    repeat (first | refine za0 rfl ?_ | refine za3 ?_ | refine za1 ?_ | refine zb2 ?_ | refine zad ?_ | refine zbp rfl ?_ | refine zj7 rfl rfl ?_ | refine za2 rfl ?_ | refine zas rfl rfl ?_ | refine zay (op := .add) rfl rfl rfl ?_)
    rw [w1]
    exact zah (show E.length - (j + 1) < E.length - j by omega) (za7 (.cons rfl (.cons rfl (.cons rfl (.cons rfl .nil))))) ⟨j + 1, _, _, _, rfl, hlt2, Nat.succ_pos _, by rw [hst, hv1]; exact k0, rfl⟩
  ·have hje : j = E.length := by
    have h5 : ¬ ((j : Nat) : Int) < (((cE (zaj E)).length : Nat) : Int) := of_decide_eq_false h4
    omega
   subst hje
   rw [List.take_length, ← zm4] at hk
   repeat (first | refine za3 ?_ | refine za1 ?_ | refine zbp rfl ?_ | refine zb4 ?_ | refine zac ?_)
   refine zbx ?_
   repeat (first | refine za0 rfl ?_ | refine za3 ?_ | refine za1 ?_ | refine zb2 ?_ | refine zb3 ?_ | refine za2 rfl ?_ | refine zay (op := .add) rfl rfl rfl ?_)
   rw [wr]
   exact zah (show i - (r + 1) < i - r by omega) (za7 (.cons rfl (.cons rfl (.cons rfl .nil)))) ⟨r + 1, _, _, _, rfl, hlt, hnx, hk, rfl⟩
 ·have hre : r = i := by
   have h4 : ¬ ((r : Nat) : Int) < ((i : Nat) : Int) := of_decide_eq_false h3
   omega
  subst hre
  repeat (first | refine za3 ?_ | refine za1 ?_ | refine zbp rfl ?_ | refine zb4 ?_ | refine zac ?_)
  refine zbx ?_
  repeat (first | refine za6 ?_ | refine za0 rfl ?_ | refine za3 ?_ | refine za1 ?_ | refine zax ?_ | refine zb3 ?_ | refine za2 rfl ?_)
  exact zav ⟨.inr rfl, _, rfl, zct _ (zkh E r f r) hk⟩
end Go.Proofs.Ytoagikifehmlpaa
namespace Go.Proofs.Ytoagikifehmlpaa
open Go Go.Am
theorem zs9 {n v : Int} (h : zfv n v = false) : 0 ≤ v ∧ v < n := by
 unfold zfv at h
 rw [Bool.or_eq_false_iff, decide_eq_false_iff_not, decide_eq_false_iff_not] at h
 omega
theorem edgE_ok {n : Int} {es : List (Int × Int)} (h : zn1 n es = 0) : ∀ e ∈ es, (0 ≤ e.1 ∧ e.1 < n) ∧ 0 ≤ e.2 ∧ e.2 < n := by
 unfold zn1 at h
 split at h
 ·cases h
 ·rename_i ha
  intro e he
  have : (zfv n e.1 || zfv n e.2) = false := by
   cases hb : (zfv n e.1 || zfv n e.2) with
   | false => rfl
   | true => exact absurd (List.any_eq_true.2 ⟨e, he, hb⟩) ha
  rw [Bool.or_eq_false_iff] at this
  exact ⟨zs9 this.1, zs9 this.2⟩
theorem zf7 {n : Int} {es : List (Int × Int)} (h : zcj n es = 0) : ∃ (m : Nat) (E : List (Nat × Nat)), n = (m : Int) ∧ es = zaj E ∧ m ≤ 256 ∧ E.length = es.length ∧ E.length ≤ 4096 ∧ ∀ u v, (u, v) ∈ E → u < m ∧ v < m := by
 unfold zcj at h
 split at h
 ·cases h
 split at h
 ·cases h
 split at h
 ·cases h
 rename_i h0 h1 h2
 have hb := edgE_ok h
 refine ⟨n.toNat, es.map fun e => (e.1.toNat, e.2.toNat), by omega, ?_, by omega, List.length_map .., by rw [List.length_map]; omega, fun u v hm => ?_⟩
 ·unfold zaj
  rw [List.map_map]
  refine (List.map_id _).symm.trans (List.map_congr_left fun e he => ?_)
  obtain ⟨⟨a, b⟩, c, d⟩ := hb e he
  show e = (((e.1.toNat : Nat) : Int), ((e.2.toNat : Nat) : Int))
  rw [Int.toNat_of_nonneg a, Int.toNat_of_nonneg c]
 ·obtain ⟨e, he, h3⟩ := List.mem_map.1 hm
  obtain ⟨⟨a, b⟩, c, d⟩ := hb e he
  injection h3 with h3 h4
  subst h3 h4
  omega
def givV (n : Int) (es : List (Int × Int)) (l : List Int) : AV := if givG n es l = 0 then .tup [cN (es.map fun e => (e.1.toNat, e.2.toNat)) n.toNat, .int .i64 0] else .tup [.vs [], .int .i64 (givG n es l)]
theorem zfy (E : List (Nat × Nat)) : ((zaj E).map fun e => (e.1.toNat, e.2.toNat)) = E := by
 unfold zaj
 rw [List.map_map]
 exact (List.map_congr_left fun e _ => rfl).trans (List.map_id _)
theorem zti {m : Nat} {E : List (Nat × Nat)} {l : List Int} (h : givG m (zaj E) l = 0) : givV m (zaj E) l = .tup [cN E m, .int .i64 0] := by
 unfold givV
 rw [if_pos h, zfy]
 rfl
theorem zkl {n : Int} {es : List (Int × Int)} {l : List Int} (h : givG n es l ≠ 0) : givV n es l = .tup [.vs [], .int .i64 (givG n es l)] := if_neg h
-- pneumatic/digraph.given
def ic46 : IC := .seq (.region [⟨(some 2), .box (.t 0), none⟩,
  ⟨(some 4), .mov (.c (.nils)), none⟩,
  ⟨(some 5), .mov (.c (.int .i64 0)), none⟩] none)
 (.seq (.seq (.region [⟨(some 8), .load (some 2) (.t 2), none⟩,
  ⟨(some 9), .call (.c (.fn 34 [] [])) [(.t 8)], none⟩,
  ⟨(some 6), .mov (.t 9), none⟩] none)
 (.seq (.region [⟨(some 10), .mov (.t 6), none⟩,
  ⟨(some 11), .bin .neq (.t 10) (.c (.int .i64 0)), none⟩] none)
 (.cond (.t 11) (.seq (.region [⟨(some 12), .mov (.t 6), none⟩,
  ⟨(some 4), .mov (.c (.nils)), none⟩,
  ⟨(some 5), .mov (.t 12), none⟩] none)
 (.ret))
 (.skip))))
 (.seq (.seq (.region [⟨(some 13), .load (some 2) (.t 2), none⟩,
  ⟨(some 14), .mov (.t 1), none⟩,
  ⟨(some 15), .call (.c (.fn 56 [] [])) [(.t 13), (.t 14)], none⟩,
  ⟨(some 7), .mov (.t 15), none⟩] none)
 (.seq (.region [⟨(some 16), .mov (.t 7), none⟩,
  ⟨(some 17), .bin .neq (.t 16) (.c (.int .i64 0)), none⟩] none)
 (.cond (.t 17) (.seq (.region [⟨(some 18), .mov (.t 7), none⟩,
  ⟨(some 4), .mov (.c (.nils)), none⟩,
  ⟨(some 5), .mov (.t 18), none⟩] none)
 (.ret))
 (.skip))))
 (.seq (.region [⟨(some 19), .load (some 2) (.t 2), none⟩,
  ⟨(some 20), .call (.c (.fn 45 [] [])) [(.t 19)], none⟩,
  ⟨(some 4), .mov (.t 20), none⟩,
  ⟨(some 5), .mov (.c (.int .i64 0)), none⟩] none)
 (.ret))))
theorem fn46 : env0.fn 46 = some ⟨21, ic46, [.t 4, .t 5]⟩ := by kernel_rfl
set_option maxHeartbeats 1000000 in
theorem given46 (n : Int) (es : List (Int × Int)) (l : List Int) (hl : l.length ≤ 1000000) : PF Try.prog 46 [cG n es, vsI l] (givV n es l) := by
 have p34 := zk8 n es
 have p56 := zqg n es l hl
 refine zb7 env0_ok fn46 [(0, .agg [.int .i64 n, .vs (cE es)]), (1, vsI l)] (by show 2 ≤ 21; decide) rfl fun w0 N0 => ?_
 unfold ic46
 refine za6 (za0 rfl (zdh rfl rfl (za2 rfl (za2 rfl (za3 (za1 ?_))))))
 refine zba [] [(0, 0, [.int .i64 n, .vs (cE es)])] [(1, vsI l), (2, .vptr [.int .i64 n, .vs (cE es)])] rfl (.cons rfl rfl .nil) .nil (.cons rfl (.same rfl) (.cons rfl (.fptr rfl rfl) .nil)) ?_
 repeat (first | refine za6 ?_ | refine za0 rfl ?_ | refine zap rfl rfl rfl rfl ?_)
 refine zau rfl rfl p34 (fun h => Bool.noConfusion (show false = true from h)) ?_
 repeat (first | refine za6 ?_ | refine za0 rfl ?_ | refine za3 ?_ | refine za1 ?_ | refine za2 rfl ?_)
 refine zao rfl rfl rfl (fun h => ?_) fun h => ?_
 ·have h : ¬ zcj n es = 0 := by simpa using h
  have hg : givG n es l = zcj n es := if_neg h
  rw [zkl (by rw [hg]; exact h), hg]
  repeat (first | refine za6 ?_ | refine za0 rfl ?_ | refine za3 ?_ | refine za1 ?_ | refine zc5 rfl ?_ | refine zax ?_ | refine zam ?_ | refine za2 rfl ?_)
  exact zav ⟨.inr rfl, _, rfl, rfl⟩
 have h : zcj n es = 0 := by simpa using h
 have hg : givG n es l = zlk n l := if_pos h
 repeat (first | refine za6 ?_ | refine za0 rfl ?_ | refine za3 ?_ | refine za1 ?_ | refine zad ?_ | refine zbp rfl ?_ | refine za2 rfl ?_ | refine zap rfl rfl rfl rfl ?_)
 refine zau rfl rfl p56 (fun h => Bool.noConfusion (show false = true from h)) ?_
 repeat (first | refine za6 ?_ | refine za0 rfl ?_ | refine za3 ?_ | refine za1 ?_ | refine za2 rfl ?_)
 refine zao rfl rfl rfl (fun h1 => ?_) fun h1 => ?_
 ·have h1 : ¬ zlk n l = 0 := by simpa using h1
  rw [zkl (by rw [hg]; exact h1), hg]
  repeat (first | refine za6 ?_ | refine za0 rfl ?_ | refine za3 ?_ | refine za1 ?_ | refine zc5 rfl ?_ | refine zax ?_ | refine zam ?_ | refine za2 rfl ?_)
  exact zav ⟨.inr rfl, _, rfl, rfl⟩
 have h1 : zlk n l = 0 := by simpa using h1
 obtain ⟨m, E, rfl, rfl, hm, _, hE, hb⟩ := zf7 h
 rw [zti (hg.trans h1)]
 have p45 := zds m hm E (by omega) hb
 repeat (first | refine za6 ?_ | refine za0 rfl ?_ | refine za3 ?_ | refine za1 ?_ | refine zad ?_ | refine zbp rfl ?_ | refine zap rfl rfl rfl rfl ?_)
 refine zau rfl rfl p45 (fun h => Bool.noConfusion (show false = true from h)) ?_
 repeat (first | refine za3 ?_ | refine za1 ?_ | refine zax ?_ | refine za2 rfl ?_)
 exact zav ⟨.inr rfl, _, rfl, rfl⟩
end Go.Proofs.Ytoagikifehmlpaa
namespace Go.Proofs.Ytoagikifehmlpaa
open Go Go.Am
-- (pneumatic/digraph.net).led$1
-- slices.IndexFunc[[]int,int]
theorem zk1 {l : List Nat} {i : Nat} (h : i < l.length) : (l.map fun w => ([.int .i64 (w : Nat)] : List AV))[((i : Nat) : Int).toNat]? = some [.int .i64 (l[i] : Nat)] := by
 rw [Int.toNat_natCast, List.getElem?_map, List.getElem?_eq_getElem h]
 rfl
end Go.Proofs.Ytoagikifehmlpaa
namespace Go.Proofs.Ytoagikifehmlpaa
open Go Go.Am
inductive Wq (hp : List (Nat × Nat × AObj)) (nx : Nat) (q : List Int) : AV → Prop
 | lit {id sp : Nat} (a : Int) (hq : q = [a]) (hl : Am.look id hp = some (sp, .cells [.int .i64 a])) (hn : id < nx) : Wq hp nx q (.ms id sp 1 0 1 (some 1))
 | gen {id sp len : Nat} (hlen : len = q.length) (hl : Am.look id hp = some (sp, .cells (q.map (AV.int .i64)))) (hn : id < nx) : Wq hp nx q (.ms id sp 1 0 len none)
theorem Wq.fresh {nx : Nat} {hp : List (Nat × Nat × AObj)} {q : List Int} {qv : AV} (h : Wq hp nx q qv) (ck : Nat) (x : AObj) : Wq ((nx, ck, x) :: hp) (nx + 1) q qv := by
 cases h with
 | lit a hq hl hn => exact .lit a hq (by rw [za9, if_neg (by omega)]; exact hl) (by omega)
 | gen hlen hl hn => exact .gen hlen (by rw [za9, if_neg (by omega)]; exact hl) (by omega)
theorem Wq.view {nx d : Nat} {S : AS} {q : List Int} {qv : AV} (h : Wq S.heap nx q qv) : S.view (d + 1) qv = vsI q := by
 cases h with
 | lit a hq hl hn => subst hq; exact zct [a] rfl hl
 | gen hlen hl hn => subst hlen; exact zct q rfl hl
def dnx (P : Nat → Bool) (m i : Nat) : Int := match ((List.range m).drop i).find? P with
 | some u => (u : Nat)
 | none => -1
theorem dnx_step {P : Nat → Bool} {m i : Nat} (h : i < m) : dnx P m i = if P i = true then ((i : Nat) : Int) else dnx P m (i + 1) := by
 unfold dnx
 rw [List.drop_eq_getElem_cons (by rw [List.length_range]; exact h), List.getElem_range, List.find?_cons]
 cases P i <;> rfl
theorem dnx_end (P : Nat → Bool) (m : Nat) : dnx P m m = -1 := by
 unfold dnx
 rw [List.drop_of_length_le (by rw [List.length_range]; exact Nat.le_refl _)]
 rfl
end Go.Proofs.Ytoagikifehmlpaa
namespace Go.Proofs.Ytoagikifehmlpaa
open Go Go.Am
def Gv (b : Nat) (q : List Int) (w : AV) (hp : List (Nat × Nat × AObj)) (nx : Nat) : Prop :=
 (q = [] ∧ w = .nils) ∨ ∃ id sp, w = .ms id sp 1 0 q.length none ∧ Am.look id hp = some (sp, .cells (q.map (AV.int .i64))) ∧ b < id ∧ id < nx
section
variable {b nx : Nat} {q : List Int} {w : AV} {hp : List (Nat × Nat × AObj)}
theorem Gv.fresh (h : Gv b q w hp nx) (ck : Nat) (x : AObj) : Gv b q w ((nx, ck, x) :: hp) (nx + 1) := by
 rcases h with h | ⟨id, sp, e, hl, h1, h2⟩
 ·exact .inl h
 ·exact .inr ⟨id, sp, e, by rw [za9, if_neg (by omega)]; exact hl, h1, by omega⟩
theorem Gv.put (h : Gv b q w hp nx) {i : Nat} (hi : i ≤ b) (x : Nat × AObj) : Gv b q w (zbo i x hp) nx := by
 rcases h with h | ⟨id, sp, e, hl, h1, h2⟩
 ·exact .inl h
 ·exact .inr ⟨id, sp, e, by rw [za4, if_neg (by omega)]; exact hl, h1, h2⟩
theorem Gv.view {S : AS} {d : Nat} (h : Gv b q w S.heap nx) : S.view (d + 1) w = vsI q := by
 rcases h with ⟨rfl, rfl⟩ | ⟨id, sp, rfl, hl, _, _⟩
 ·rfl
 ·exact zct q rfl hl
theorem o_glen {w0 : World} {N0 n d ck : Nat} {md : Md} {k : List Fr} {Q : Exit → AS → Prop} {l : List (Nat × AV)} {ios : List Opr} {x : Arg} (hF : Gv b q w hp nx) (hx : zbg x l = some w) (go : Om Try.prog w0 N0 md (KnP Try.prog w0 N0) ios (st n ((d, .int .i64 (q.length : Nat)) :: l) hp nx ck) k Q) : Om Try.prog w0 N0 md (KnP Try.prog w0 N0) (⟨some d, .len false x, none⟩ :: ios) (st n l hp nx ck) k Q := by
 rcases hF with ⟨rfl, rfl⟩ | ⟨id, sp, rfl, _, _, _⟩
 ·exact zbh hx rfl go
 ·exact zbh hx rfl go
theorem o_gapp {w0 : World} {N0 n d ck : Nat} {md : Md} {k : List Fr} {Q : Exit → AS → Prop} {l : List (Nat × AV)} {ios : List Opr} {bytes j sj : Nat} {x0 : Int} {z : List AV} {s x : Arg} (hF : Gv b q w hp nx) (hbn : b < nx) (hlen : q.length ≤ 1000000) (hs : zbg s l = some w) (hx : zbg x l = some (.ms j sj 1 0 1 (some 1))) (hj : Am.look j hp = some (sj, .cells [.int .i64 x0])) (hb : bytes ≤ 16777216)
  (go : ∀ w' hp' nx' ck', Gv b (q ++ [x0]) w' hp' nx' → b < nx' → (∀ i, i ≤ b → Am.look i hp' = Am.look i hp) → Om Try.prog w0 N0 md (KnP Try.prog w0 N0) ios (st n ((d, w') :: l) hp' nx' ck') k Q) :
  Om Try.prog w0 N0 md (KnP Try.prog w0 N0) (⟨some d, .append 1 bytes z s x, none⟩ :: ios) (st n l hp nx ck) k Q := by
 have hel : ∀ l, (st n l hp nx ck []).elems 1 (.ms j sj 1 0 1 (some 1)) = some [[.int .i64 x0]] := fun l => zdd (xs := [[.int .i64 x0]]) (ys := []) hj rfl fun x hx => by obtain rfl := List.mem_singleton.1 hx; rfl
 rcases hF with ⟨rfl, rfl⟩ | ⟨id, sp, rfl, hl, h1, h2⟩
 ·have hi : iop (st n l hp nx ck) (.append 1 bytes z s x) = some (.ms nx ck 1 0 1 none, st n l ((nx, ck, .cells [.int .i64 x0]) :: hp) (nx + 1) (ck + 1)) := by
   simp only [iop, zb5, hs, hx, hel]
   unfold zbq
   rw [if_neg (show ¬ [[AV.int .i64 x0]].length = 0 from Nat.succ_ne_zero 0), if_pos (show [[AV.int .i64 x0]].flatten.all AV.isCell = true ∧ bytes ≤ 16777216 from ⟨rfl, hb⟩)]
   rfl
  exact zez hi (go _ _ _ _ (.inr ⟨nx, ck, rfl, zbe, hbn, Nat.lt_succ_self _⟩) (by omega) fun i hi => by rw [za9, if_neg (by omega)]) (fun _ _ _ _ _ _ _ => rfl)
 ·refine zdn [[.int .i64 x0]] hs hx (hel _) (fun h => Nat.noConfusion h) rfl hb hl (by rw [List.length_map, Nat.mul_one]) (by show _ + 1 ≤ _; omega) ?_ (fun _ _ _ _ _ _ _ => rfl)
  refine go _ _ _ _ (.inr ⟨id, ck, by rw [List.length_append]; rfl, by rw [za4, if_pos rfl, List.map_append]; rfl, h1, h2⟩) hbn fun i hi => by rw [za4, if_neg (by omega)]
end
theorem zpd {o : List Int} {v : Nat} (h : v < o.length) : (o.map (AV.int .i64))[v]? = some (.int .i64 (gZ o v)) := by
 unfold gZ
 rw [List.getElem?_map, List.getD_eq_getElem?_getD, List.getElem?_eq_getElem h]
 rfl
theorem gZ_at {o : List Int} {i : Nat} (h : i < o.length) : o[i] = gZ o i := by
 unfold gZ
 rw [List.getD_eq_getElem?_getD, List.getElem?_eq_getElem h]
 rfl
def b26_0 : IC := .seq (.region [⟨(some 9), .bin .lss (.t 8) (.t 7), none⟩] none)
 (.seq (.cond (.t 9) (.skip)
 (.exit 0))
 (.seq (.block 1 (.seq (.region [⟨(some 10), .mov (.t 8), none⟩,
  ⟨(some 5), .mov (.t 10), none⟩] none)
 (.seq (.region [⟨(some 11), .mov (.t 1), none⟩,
  ⟨(some 12), .mov (.t 0), none⟩,
  ⟨(some 13), .mov (.t 5), none⟩,
  ⟨(some 14), .idxs 1 (.t 12) (.t 13), none⟩,
  ⟨(some 15), .load none (.t 14), none⟩,
  ⟨(some 16), .bin .eql (.t 11) (.t 15), none⟩] none)
 (.cond (.t 16) (.seq (.region [⟨(some 17), .mov (.t 5), none⟩,
  ⟨(some 4), .mov (.t 17), none⟩] none)
 (.ret))
 (.skip)))))
 (.region [⟨(some 18), .bin .add (.t 8) (.c (.int .i64 1)), none⟩,
  ⟨(some 8), .mov (.t 18), none⟩] none)))
-- slices.Index[[]int,int]
def ic26 : IC := .seq (.region [⟨(some 4), .mov (.c (.int .i64 0)), none⟩] none)
 (.seq (.seq (.region [⟨(some 6), .mov (.t 0), none⟩,
  ⟨(some 7), .len false (.t 6), none⟩,
  ⟨(some 8), .mov (.c (.int .i64 0)), none⟩] none)
 (.block 0 (.loop b26_0)))
 (.seq (.region [⟨(some 4), .mov (.c (.int .i64 (-1))), none⟩] none)
 (.ret)))
theorem fn26 : env0.fn 26 = some ⟨19, ic26, [.t 4]⟩ := by kernel_rfl
set_option maxHeartbeats 1000000 in
theorem index26 (a : List Int) (x : Int) (ha : a.length ≤ 1000000) : PF Try.prog 26 [vsI a, .int .i64 x] (.int .i64 (dnx (fun i => gZ a i == x) a.length 0)) := by
 have hva : (a.map fun z => ([.int .i64 z] : List AV)).length = a.length := List.length_map ..
 refine zb7 env0_ok fn26 [(0, vsI a), (1, .int .i64 x)] (by show 2 ≤ 19; decide) rfl fun w0 N0 => ?_
 unfold ic26
 repeat (first | refine za6 ?_ | refine za0 rfl ?_ | refine za3 ?_ | refine za1 ?_ | refine zab ?_ | refine za2 rfl ?_ | refine zbh rfl rfl ?_)
 refine zb6 (fun mm S => ∃ i, mm = a.length - i ∧ i ≤ a.length ∧ dnx (fun i => gZ a i == x) a.length i = dnx (fun i => gZ a i == x) a.length 0 ∧ S = st 19 [(0, vsI a), (1, .int .i64 x), (7, .int .i64 (a.length : Nat)), (8, .int .i64 (i : Nat))] [] 0 0) a.length
  (za7 (.cons rfl (.cons rfl (.cons (by rw [← hva]; rfl) (.cons rfl .nil))))) ⟨0, rfl, Nat.zero_le _, rfl, rfl⟩ ?_
 rintro mm S ⟨i, rfl, hi, hd, rfl⟩
 unfold b26_0
 repeat (first | refine za6 ?_ | refine za0 rfl ?_)
 refine zao rfl rfl rfl (fun h3 => ?_) fun h3 => ?_
 ·have hlt : i < a.length := Int.ofNat_lt.1 (of_decide_eq_true h3)
  have w1 : IntKind.wrap .i64 (((i : Nat) : Int) + 1) = ((i + 1 : Nat) : Int) := zag i (by omega)
  have hg : (a.map fun z => ([.int .i64 z] : List AV))[((i : Nat) : Int).toNat]? = some [.int .i64 (gZ a i)] := by rw [zew hlt, gZ_at]
  rw [dnx_step hlt] at hd
  repeat (first | refine za6 ?_ | refine za0 rfl ?_ | refine za3 ?_ | refine za1 ?_ | refine zab ?_ | refine zad ?_ | refine zc5 rfl ?_ | refine za2 rfl ?_ | refine zaf rfl rfl ?_ | refine zb0 rfl rfl (by omega) (by assumption) rfl ?_)
  refine zao rfl rfl rfl (fun h4 => ?_) fun h4 => ?_
  ·have h4 : x = gZ a i := by simpa using h4
   rw [if_pos (by simp [h4])] at hd
   rw [← hd]
   repeat (first | refine za6 ?_ | refine za0 rfl ?_ | refine za3 ?_ | refine za1 ?_ | refine zc5 rfl ?_ | refine zax ?_ | refine zam ?_ | refine zcg ?_ | refine za2 rfl ?_)
   exact zav ⟨.inr rfl, _, rfl, rfl⟩
  ·have h4 : ¬ x = gZ a i := by simpa using h4
   rw [if_neg (by simp; exact fun e => h4 e.symm)] at hd
   repeat (first | refine za0 rfl ?_ | refine za3 ?_ | refine za1 ?_ | refine zb2 ?_ | refine zad ?_ | refine zbp rfl ?_ | refine za2 rfl ?_ | refine zay (op := .add) rfl rfl rfl ?_)
   rw [w1]
   exact zah (show a.length - (i + 1) < a.length - i by omega) (za7 (.cons rfl (.cons rfl (.cons rfl (.cons rfl .nil))))) ⟨i + 1, rfl, hlt, hd, rfl⟩
 ·have hi2 : i = a.length := by
   have : ¬ i < a.length := fun h => of_decide_eq_false h3 (Int.ofNat_lt.2 h)
   omega
  subst hi2
  rw [dnx_end] at hd
  rw [← hd]
  repeat (first | refine za6 ?_ | refine za3 ?_ | refine za1 ?_ | refine zbp rfl ?_ | refine zb4 ?_ | refine zac ?_)
  refine zbx ?_
  repeat (first | refine za6 ?_ | refine za0 rfl ?_ | refine za3 ?_ | refine za1 ?_ | refine zax ?_ | refine zb3 ?_ | refine za2 rfl ?_)
  exact zav ⟨.inr rfl, _, rfl, rfl⟩
end Go.Proofs.Ytoagikifehmlpaa
namespace Go.Proofs.Ytoagikifehmlpaa
open Go Go.Am
-- (pneumatic/digraph.net).led
inductive Lq (b : Nat) (hp : List (Nat × Nat × AObj)) (nx : Nat) (q : List Int) : AV → Prop
 | lit {id sp : Nat} (a : Int) (hq : q = [a]) (hl : Am.look id hp = some (sp, .cells [.int .i64 a])) (hne : id ≠ b) (hn : id < nx) : Lq b hp nx q (.ms id sp 1 0 1 (some 1))
 | gen {id sp : Nat} (hl : Am.look id hp = some (sp, .cells (q.map (AV.int .i64)))) (hne : id ≠ b) (hn : id < nx) : Lq b hp nx q (.ms id sp 1 0 q.length none)
structure Vq (v : Int) (b sb : Nat) (q : List Int) (qv : AV) (hp : List (Nat × Nat × AObj)) (nx : Nat) : Prop where
 var : Am.look b hp = some (sb, .cells [.int .i64 v])
 bn : b < nx
 lst : Lq b hp nx q qv
theorem Lq.fresh {b nx : Nat} {hp : List (Nat × Nat × AObj)} {q : List Int} {qv : AV} (h : Lq b hp nx q qv) (ck : Nat) (x : AObj) : Lq b ((nx, ck, x) :: hp) (nx + 1) q qv := by
 cases h with
 | lit a hq hl hne hn => exact .lit a hq (by rw [za9, if_neg (by omega)]; exact hl) hne (by omega)
 | gen hl hne hn => exact .gen (by rw [za9, if_neg (by omega)]; exact hl) hne (by omega)
theorem Lq.other {b b' nx : Nat} {hp : List (Nat × Nat × AObj)} {q : List Int} {qv : AV} (h : Lq b hp nx q qv) (hb : nx ≤ b') : Lq b' hp nx q qv := by
 cases h with
 | lit a hq hl hne hn => exact .lit a hq hl (by omega) hn
 | gen hl hne hn => exact .gen hl (by omega) hn
theorem Lq.put {b nx : Nat} {hp : List (Nat × Nat × AObj)} {q : List Int} {qv : AV} (h : Lq b hp nx q qv) (x : Nat × AObj) : Lq b (zbo b x hp) nx q qv := by
 cases h with
 | lit a hq hl hne hn => exact .lit a hq (by rw [za4, if_neg (fun e => hne e.symm)]; exact hl) hne hn
 | gen hl hne hn => exact .gen (by rw [za4, if_neg (fun e => hne e.symm)]; exact hl) hne hn
theorem Vq.fresh {v : Int} {b sb nx : Nat} {hp : List (Nat × Nat × AObj)} {q : List Int} {qv : AV} (h : Vq v b sb q qv hp nx) (ck : Nat) (x : AObj) : Vq v b sb q qv ((nx, ck, x) :: hp) (nx + 1) :=
 ⟨by rw [za9, if_neg (by have := h.bn; omega)]; exact h.var, by have := h.bn; omega, h.lst.fresh ck x⟩
theorem Vq.set {v : Int} {b sb nx : Nat} {hp : List (Nat × Nat × AObj)} {q : List Int} {qv : AV} (h : Vq v b sb q qv hp nx) (w : Int) : Vq w b sb q qv (zbo b (sb, .cells [.int .i64 w]) hp) nx :=
 ⟨by rw [za4, if_pos rfl], h.bn, h.lst.put _⟩
theorem Lq.view {b nx d : Nat} {S : AS} {q : List Int} {qv : AV} (h : Lq b S.heap nx q qv) : S.view (d + 1) qv = vsI q := by
 cases h with
 | lit a hq hl hne hn => subst hq; exact zct [a] rfl hl
 | gen hl hne hn => exact zct q rfl hl
def iL (l : List Nat) : List Int := l.map fun w => ((w : Nat) : Int)
end Go.Proofs.Ytoagikifehmlpaa
