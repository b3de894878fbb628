/-
  GRAPHS AS VALUES; their checks.
-/
import Derived.Test.YtoagikifehmlpaaQU1
namespace Go.Proofs.Ytoagikifehmlpaa
open Go Go.Am
def cE (es : List (Int × Int)) : List (List AV) := es.map fun e => [.int .i64 e.1, .int .i64 e.2]
theorem zcg (es : List (Int × Int)) : (cE es).length = es.length := List.length_map ..
theorem znt {es : List (Int × Int)} {i : Nat} (h : i < es.length) : (cE es)[((i : Nat) : Int).toNat]? = some [.int .i64 es[i].1, .int .i64 es[i].2] := by
 rw [Int.toNat_natCast, cE, List.getElem?_map, List.getElem?_eq_getElem h]
 rfl
def cG (n : Int) (es : List (Int × Int)) : AV := .agg [.int .i64 n, .vs (cE es)]
def zf5 (n v : Int) : Bool := decide (v < 0) || decide (v ≥ n)
def zh3 (n : Int) (l : List Int) : Int := if l.any (zf5 n) = true then 2 else 0
theorem ztq (n x : Int) (l : List Int) : zh3 n (x :: l) = if zf5 n x = true then 2 else zh3 n l := by
 unfold zh3
 rw [List.any_cons]
 cases zf5 n x <;> rfl
def zmg (n : Int) (es : List (Int × Int)) : Int := if es.any (fun e => zf5 n e.1 || zf5 n e.2) = true then 2 else 0
theorem zl2 (n : Int) (e : Int × Int) (es : List (Int × Int)) : zmg n (e :: es) = if zh3 n [e.1, e.2] = 0 then zmg n es else 2 := by
 unfold zmg zh3
 rw [List.any_cons, List.any_cons, List.any_cons, List.any_nil, Bool.or_false]
 cases (zf5 n e.1 || zf5 n e.2) <;> rfl
theorem verE_two (n a b : Int) : zh3 n [a, b] = 0 ∨ zh3 n [a, b] = 2 := by
 unfold zh3
 split
 ·exact .inr rfl
 ·exact .inl rfl
def zdx (n : Int) (es : List (Int × Int)) : Int := if n < 0 then 2 else if n > 256 then 2 else if es.length > 4096 then 5 else zmg n es
theorem zr4 {n : Int} {es : List (Int × Int)} (h : n < 0) : zdx n es = 2 := by unfold zdx; rw [if_pos h]
theorem zr2 {n : Int} {es : List (Int × Int)} (h : n > 256) : zdx n es = 2 := by unfold zdx; rw [if_neg (by omega), if_pos h]
theorem znw {n : Int} {es : List (Int × Int)} (h0 : ¬ n < 0) (h1 : ¬ n > 256) (h : es.length > 4096) : zdx n es = 5 := by unfold zdx; rw [if_neg h0, if_neg h1, if_pos h]
theorem zr3 {n : Int} {es : List (Int × Int)} (h0 : ¬ n < 0) (h1 : ¬ n > 256) (h : ¬ es.length > 4096) : zdx n es = zmg n es := by unfold zdx; rw [if_neg h0, if_neg h1, if_neg h]
def b56_0 : IC := .seq (.region [⟨(some 10), .bin .lss (.t 9) (.t 8), none⟩] none)
 (.seq (.cond (.t 10) (.skip)
 (.exit 0))
 (.seq (.block 1 (.seq (.region [⟨(some 11), .idxs 1 (.t 7) (.t 9), none⟩,
  ⟨(some 12), .load none (.t 11), none⟩,
  ⟨(some 6), .mov (.t 12), none⟩] none)
 (.seq (.region [⟨(some 13), .mov (.t 6), none⟩,
  ⟨(some 14), .bin .lss (.t 13) (.c (.int .i64 0)), none⟩,
  ⟨(some 15), .mov (.t 14), none⟩,
  ⟨(some 16), .mov (.t 6), some (15, false)⟩,
  ⟨(some 17), .faddr 0 (.t 2), some (15, false)⟩,
  ⟨(some 18), .load none (.t 17), some (15, false)⟩,
  ⟨(some 19), .bin .geq (.t 16) (.t 18), some (15, false)⟩,
  ⟨(some 20), .pick (.t 15) (.c (.bool true)) (.t 19), none⟩] none)
 (.cond (.t 20) (.seq (.region [⟨(some 4), .mov (.c (.int .i64 2)), none⟩] none)
 (.ret))
 (.skip)))))
 (.region [⟨(some 21), .bin .add (.t 9) (.c (.int .i64 1)), none⟩,
  ⟨(some 9), .mov (.t 21), none⟩] none)))
-- pneumatic/digraph.vertex
def ic56 : IC := .seq (.region [⟨(some 2), .box (.t 0), none⟩,
  ⟨(some 4), .mov (.c (.int .i64 0)), none⟩] none)
 (.seq (.seq (.region [⟨(some 7), .mov (.t 1), none⟩,
  ⟨(some 8), .len false (.t 7), none⟩,
  ⟨(some 9), .mov (.c (.int .i64 0)), none⟩] none)
 (.block 0 (.loop b56_0)))
 (.seq (.region [⟨(some 4), .mov (.c (.int .i64 0)), none⟩] none)
 (.ret)))
theorem fn56 : env0.fn 56 = some ⟨22, ic56, [.t 4]⟩ := by kernel_rfl
set_option maxHeartbeats 1000000 in
theorem zoz (n : Int) (es : List (Int × Int)) (l : List Int) (hl : l.length ≤ 1000000) : PF Try.prog 56 [cG n es, vsI l] (.int .i64 (zh3 n l)) := by
 refine zb4 env0_ok fn56 [(0, .agg [.int .i64 n, .vs (cE es)]), (1, vsI l)] (by show 2 ≤ 22; decide) rfl fun w0 N0 => ?_
 unfold ic56
 refine za6 (za0 rfl (ze8 rfl rfl (za2 rfl (za5 (za3 ?_)))))
 refine zby [] [(0, 0, [.int .i64 n, .vs (cE es)])] [(1, vsI l), (2, .vptr [.int .i64 n, .vs (cE es)])] rfl (.cons rfl rfl .nil) .nil (.cons rfl (.same rfl) (.cons rfl (.fptr rfl rfl) .nil)) ?_
 have hlen : (l.map fun z => ([.int .i64 z] : List AV)).length = l.length := List.length_map ..
 repeat (first | refine za6 ?_ | refine za0 rfl ?_ | refine za5 ?_ | refine za3 ?_ | refine zae ?_ | refine za2 rfl ?_ | refine zbf rfl rfl ?_)
 refine zbx (fun mm S => ∃ i, mm = l.length - i ∧ i ≤ l.length ∧ zh3 n (l.drop i) = zh3 n l ∧ S = st 22 [(2, .vptr [.int .i64 n, .vs (cE es)]), (7, vsI l), (8, .int .i64 ((l.map fun z => ([.int .i64 z] : List AV)).length : Nat)), (9, .int .i64 (i : Nat))] [] 0 1) l.length
  (za9 (.cons rfl (.cons rfl (.cons rfl (.cons rfl .nil))))) ⟨0, rfl, Nat.zero_le _, rfl, rfl⟩ ?_
 rintro mm S ⟨i, rfl, hi, hv, rfl⟩
 unfold b56_0
 repeat (first | refine za6 ?_ | refine za0 rfl ?_)
 refine zau rfl rfl rfl (fun h3 => ?_) fun h3 => ?_
 ·have hlt : i < l.length := by
   have h4 : ((i : Nat) : Int) < (((l.map fun z => ([.int .i64 z] : List AV)).length : Nat) : Int) := of_decide_eq_true h3
   omega
  have w1 : IntKind.wrap .i64 (((i : Nat) : Int) + 1) = ((i + 1 : Nat) : Int) := zar i (by omega)
  have hg := zdn hlt
  have hs : zh3 n (l.drop i) = if zf5 n l[i] = true then 2 else zh3 n (l.drop (i + 1)) := by rw [List.drop_eq_getElem_cons hlt, ztq]
  unfold zf5 at hs
  generalize l[i] = x at *
  repeat (first | refine za6 ?_ | refine za0 rfl ?_ | refine za5 ?_ | refine za3 ?_ | refine zae ?_ | refine zad ?_ | refine zcp rfl ?_ | refine za2 rfl ?_ | refine zaf rfl rfl ?_ | refine zaw rfl rfl (by omega) (by assumption) rfl ?_)
  refine zau rfl rfl rfl (fun h5 => ?_) fun h5 => ?_
  ·have h5 : decide (x < 0) = true := h5
   rw [h5, Bool.true_or, if_pos rfl, hv] at hs
   repeat (first | refine za6 ?_ | refine za0 rfl ?_ | refine za5 ?_ | refine za3 ?_ | refine zcp rfl ?_ | refine zaq ?_ | refine zac ?_ | refine zba ?_ | refine zq7 rfl rfl ?_ | refine za2 rfl ?_ | refine zbg rfl rfl ?_)
   exact zao ⟨.inr rfl, _, rfl, by rw [hs]; rfl⟩
  ·have h5 : decide (x < 0) = false := h5
   repeat (first | refine zee rfl ?_ | refine za2 rfl ?_ | refine zaf rfl rfl ?_ | refine zan rfl rfl rfl ?_)
   refine zau rfl rfl rfl (fun h6 => ?_) fun h6 => ?_
   ·have h6 : decide (x ≥ n) = true := h6
    rw [h5, h6, Bool.false_or, if_pos rfl, hv] at hs
    repeat (first | refine za6 ?_ | refine za0 rfl ?_ | refine za5 ?_ | refine za3 ?_ | refine zcp rfl ?_ | refine zaq ?_ | refine zac ?_ | refine zba ?_ | refine za2 rfl ?_ | refine zas rfl rfl ?_)
    exact zao ⟨.inr rfl, _, rfl, by rw [hs]; rfl⟩
   ·have h6 : decide (x ≥ n) = false := h6
    rw [h5, h6, if_neg (by decide), hv] at hs
    repeat (first | refine za0 rfl ?_ | refine za5 ?_ | refine za3 ?_ | refine zcb ?_ | refine zad ?_ | refine zce rfl ?_ | refine za2 rfl ?_ | refine zas rfl rfl ?_ | refine zbe (op := .add) rfl rfl rfl ?_)
    rw [w1]
    exact zay (show l.length - (i + 1) < l.length - i by omega) (za9 (.cons rfl (.cons rfl (.cons rfl (.cons rfl .nil))))) ⟨i + 1, rfl, hlt, hs.symm, rfl⟩
 ·have hie : i = l.length := by
   have h4 : ¬ ((i : Nat) : Int) < (((l.map fun z => ([.int .i64 z] : List AV)).length : Nat) : Int) := of_decide_eq_false h3
   omega
  rw [hie, List.drop_length] at hv
  repeat (first | refine za6 ?_ | refine za5 ?_ | refine za3 ?_ | refine zce rfl ?_ | refine zbw ?_ | refine zag ?_)
  refine zdb ?_
  repeat (first | refine za6 ?_ | refine za0 rfl ?_ | refine za5 ?_ | refine za3 ?_ | refine zaq ?_ | refine zbv ?_ | refine za2 rfl ?_)
  exact zao ⟨.inr rfl, _, rfl, by rw [← hv]; rfl⟩
def b34_1 : IC := .seq (.region [⟨(some 24), .bin .lss (.t 23) (.t 22), none⟩] none)
 (.seq (.cond (.t 24) (.skip)
 (.exit 1))
 (.seq (.block 2 (.seq (.region [⟨(some 25), .idxs 2 (.t 21) (.t 23), none⟩,
  ⟨(some 26), .load (some 2) (.t 25), none⟩,
  ⟨(some 4), .alloc [.int .i64 0, .int .i64 0], none⟩,
  ⟨none, .store 2 (.t 4) (.t 26), none⟩] none)
 (.seq (.region [⟨(some 27), .load (some 2) (.t 1), none⟩,
  ⟨(some 28), .faddr 0 (.t 4), none⟩,
  ⟨(some 29), .load none (.t 28), none⟩,
  ⟨(some 30), .faddr 1 (.t 4), none⟩,
  ⟨(some 31), .load none (.t 30), none⟩,
  ⟨(some 32), .bslice 1 2 [.int .i64 0, .int .i64 0] [(0, 1, (.t 29)), (1, 1, (.t 31))], none⟩,
  ⟨(some 33), .call (.c (.fn 56 [] [])) [(.t 27), (.t 32)], none⟩,
  ⟨(some 5), .mov (.t 33), none⟩] none)
 (.seq (.region [⟨(some 34), .mov (.t 5), none⟩,
  ⟨(some 35), .bin .neq (.t 34) (.c (.int .i64 0)), none⟩] none)
 (.cond (.t 35) (.seq (.region [⟨(some 36), .mov (.t 5), none⟩,
  ⟨(some 2), .mov (.t 36), none⟩] none)
 (.ret))
 (.skip))))))
 (.region [⟨(some 37), .bin .add (.t 23) (.c (.int .i64 1)), none⟩,
  ⟨(some 23), .mov (.t 37), none⟩] none)))
-- pneumatic/digraph.Check
def ic34 : IC := .seq (.region [⟨(some 1), .box (.t 0), none⟩,
  ⟨(some 2), .mov (.c (.int .i64 0)), none⟩] none)
 (.seq (.block 0 (.seq (.region [⟨(some 7), .faddr 0 (.t 1), none⟩,
  ⟨(some 8), .load none (.t 7), none⟩,
  ⟨(some 9), .bin .lss (.t 8) (.c (.int .i64 0)), none⟩,
  ⟨(some 10), .mov (.t 9), none⟩,
  ⟨(some 11), .faddr 0 (.t 1), some (10, false)⟩,
  ⟨(some 12), .load none (.t 11), some (10, false)⟩,
  ⟨(some 13), .bin .gtr (.t 12) (.c (.int .i64 256)), some (10, false)⟩,
  ⟨(some 14), .pick (.t 10) (.c (.bool true)) (.t 13), none⟩,
  ⟨(some 6), .mov (.t 14), none⟩] none)
 (.cond (.t 6) (.seq (.region [⟨(some 2), .mov (.c (.int .i64 2)), none⟩] none)
 (.ret))
 (.seq (.region [⟨(some 16), .faddr 1 (.t 1), none⟩,
  ⟨(some 17), .load none (.t 16), none⟩,
  ⟨(some 18), .len false (.t 17), none⟩,
  ⟨(some 19), .bin .gtr (.t 18) (.c (.int .i64 4096)), none⟩,
  ⟨(some 15), .mov (.t 19), none⟩] none)
 (.cond (.t 15) (.seq (.region [⟨(some 2), .mov (.c (.int .i64 5)), none⟩] none)
 (.ret))
 (.skip))))))
 (.seq (.seq (.region [⟨(some 20), .faddr 1 (.t 1), none⟩,
  ⟨(some 21), .load none (.t 20), none⟩,
  ⟨(some 22), .len false (.t 21), none⟩,
  ⟨(some 23), .mov (.c (.int .i64 0)), none⟩] none)
 (.block 1 (.loop b34_1)))
 (.seq (.region [⟨(some 2), .mov (.c (.int .i64 0)), none⟩] none)
 (.ret))))
theorem fn34 : env0.fn 34 = some ⟨38, ic34, [.t 2]⟩ := by kernel_rfl
set_option maxHeartbeats 2000000 in
theorem check34 (n : Int) (es : List (Int × Int)) : PF Try.prog 34 [cG n es] (.int .i64 (zdx n es)) := by
 have hcl := zcg es
 refine zb4 env0_ok fn34 [(0, .agg [.int .i64 n, .vs (cE es)])] (by show 1 ≤ 38; decide) rfl fun w0 N0 => ?_
 unfold ic34
 refine za6 (za0 rfl (ze8 rfl rfl (za2 rfl (za5 (za3 ?_)))))
 refine zby [] [(0, 0, [.int .i64 n, .vs (cE es)])] [(1, .vptr [.int .i64 n, .vs (cE es)])] rfl (.cons rfl rfl .nil) .nil (.cons rfl (.fptr rfl rfl) .nil) ?_
 repeat (first | refine za6 ?_ | refine za0 rfl ?_ | refine zae ?_ | refine zaf rfl rfl ?_ | refine zan rfl rfl rfl ?_)
 refine zau rfl rfl rfl (fun h => ?_) fun h => ?_
 ·repeat (first | refine za6 ?_ | refine za0 rfl ?_ | refine za5 ?_ | refine za3 ?_ | refine zcp rfl ?_ | refine zaq ?_ | refine zac ?_ | refine zba ?_ | refine zq7 rfl rfl ?_ | refine za2 rfl ?_ | refine zbg rfl rfl ?_)
  exact zao ⟨.inr rfl, _, rfl, by rw [zr4 (of_decide_eq_true h)]; rfl⟩
 have h0 : ¬ n < 0 := of_decide_eq_false h
 repeat (first | refine zee rfl ?_ | refine za2 rfl ?_ | refine zaf rfl rfl ?_ | refine zan rfl rfl rfl ?_)
 refine zau rfl rfl rfl (fun h => ?_) fun h => ?_
 ·repeat (first | refine za6 ?_ | refine za0 rfl ?_ | refine za5 ?_ | refine za3 ?_ | refine zcp rfl ?_ | refine zaq ?_ | refine zac ?_ | refine zba ?_ | refine za2 rfl ?_ | refine zas rfl rfl ?_)
  exact zao ⟨.inr rfl, _, rfl, by rw [zr2 (of_decide_eq_true h)]; rfl⟩
 have h1 : ¬ n > 256 := of_decide_eq_false h
 repeat (first | refine za6 ?_ | refine za0 rfl ?_ | refine za5 ?_ | refine za3 ?_ | refine zce rfl ?_ | refine za2 rfl ?_ | refine zaf rfl rfl ?_ | refine zan rfl rfl rfl ?_ | refine zas rfl rfl ?_ | refine zbf rfl rfl ?_)
 refine zau rfl rfl rfl (fun h => ?_) fun h => ?_
 ·have h2 : (((cE es).length : Nat) : Int) > 4096 := of_decide_eq_true h
  repeat (first | refine za6 ?_ | refine za0 rfl ?_ | refine za5 ?_ | refine za3 ?_ | refine zcp rfl ?_ | refine zaq ?_ | refine zac ?_ | refine zba ?_ | refine za2 rfl ?_)
  exact zao ⟨.inr rfl, _, rfl, by rw [znw h0 h1 (by omega)]; rfl⟩
 have h2 : ¬ (((cE es).length : Nat) : Int) > 4096 := of_decide_eq_false h
 rw [zr3 h0 h1 (by omega)]
 repeat (first | refine za6 ?_ | refine za0 rfl ?_ | refine za5 ?_ | refine za3 ?_ | refine zcb ?_ | refine zae ?_ | refine zad ?_ | refine zce rfl ?_ | refine za2 rfl ?_ | refine zaf rfl rfl ?_ | refine zan rfl rfl rfl ?_ | refine zbf rfl rfl ?_)
 refine zbx (fun mm S => ∃ i, mm = es.length - i ∧ i ≤ es.length ∧ zmg n (es.drop i) = zmg n es ∧ S = st 38 [(1, .vptr [.int .i64 n, .vs (cE es)]), (21, .vs (cE es)), (22, .int .i64 ((cE es).length : Nat)), (23, .int .i64 (i : Nat))] [] 0 1) es.length
  (za9 (.cons rfl (.cons rfl (.cons rfl (.cons rfl .nil))))) ⟨0, rfl, Nat.zero_le _, rfl, rfl⟩ ?_
 rintro mm S ⟨i, rfl, hi, hv, rfl⟩
 unfold b34_1
 repeat (first | refine za6 ?_ | refine za0 rfl ?_)
 refine zau rfl rfl rfl (fun h3 => ?_) fun h3 => ?_
 ·have hlt : i < es.length := by
   have h4 : ((i : Nat) : Int) < (((cE es).length : Nat) : Int) := of_decide_eq_true h3
   omega
  have w1 : IntKind.wrap .i64 (((i : Nat) : Int) + 1) = ((i + 1 : Nat) : Int) := zar i (by omega)
  have hg := znt hlt
  have hs : zmg n (es.drop i) = if zh3 n [es[i].1, es[i].2] = 0 then zmg n (es.drop (i + 1)) else 2 := by rw [List.drop_eq_getElem_cons hlt, zl2]
  generalize es[i].1 = a at *
  generalize es[i].2 = b at *
  have p56 := zoz n es [a, b] (by simp)
  repeat (first | refine za6 ?_ | refine za0 rfl ?_ | refine za5 ?_ | refine za3 ?_ | refine zae ?_ | refine zad ?_ | refine zcp rfl ?_ | refine zaf rfl rfl ?_ | refine zax rfl rfl rfl rfl ?_ | refine zdm rfl rfl rfl rfl rfl rfl rfl ?_ | refine zbq rfl ?_ | refine ze6 ?_ | refine zcl rfl rfl ?_ | refine zaw rfl rfl (by omega) (by assumption) rfl ?_)
  refine zak rfl rfl p56 (fun _ => rfl) ?_
  rcases verE_two n a b with e | e
  ·rw [e] at hs
   rw [if_pos rfl, hv] at hs
   rw [e]
   repeat (first | refine za6 ?_ | refine za0 rfl ?_ | refine za5 ?_ | refine za3 ?_ | refine zcb ?_ | refine zad ?_ | refine zce rfl ?_ | refine za2 rfl ?_ | refine zbe (op := .add) rfl rfl rfl ?_ | refine zc0 rfl rfl rfl ?_)
   rw [w1]
   refine zay (show es.length - (i + 1) < es.length - i by omega) ?_ ⟨i + 1, rfl, hlt, hs.symm, rfl⟩
   exact zh2 [] [] rfl rfl rfl .nil .nil (.cons rfl (.same rfl) (.cons rfl (.same rfl) (.cons rfl (.same rfl) (.cons rfl (.same rfl) .nil))))
  ·rw [e] at hs
   rw [if_neg (by decide), hv] at hs
   rw [e]
   repeat (first | refine za6 ?_ | refine za0 rfl ?_ | refine za5 ?_ | refine za3 ?_ | refine zcp rfl ?_ | refine zaq ?_ | refine zac ?_ | refine zba ?_ | refine za2 rfl ?_ | refine zlm rfl rfl rfl ?_)
   exact zao ⟨.inr rfl, _, rfl, by rw [hs]; rfl⟩
 ·have hie : i = es.length := by
   have h4 : ¬ ((i : Nat) : Int) < (((cE es).length : Nat) : Int) := of_decide_eq_false h3
   omega
  rw [hie, List.drop_length] at hv
  repeat (first | refine za6 ?_ | refine za5 ?_ | refine za3 ?_ | refine zce rfl ?_ | refine zbw ?_ | refine zag ?_)
  refine zdb ?_
  repeat (first | refine za6 ?_ | refine za0 rfl ?_ | refine za5 ?_ | refine za3 ?_ | refine zaq ?_ | refine zbv ?_ | refine za2 rfl ?_)
  exact zao ⟨.inr rfl, _, rfl, by rw [← hv]; rfl⟩
end Go.Proofs.Ytoagikifehmlpaa
