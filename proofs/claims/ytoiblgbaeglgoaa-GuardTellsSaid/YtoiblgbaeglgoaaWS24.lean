/-
  MEMBERS OF LISTS OF POSITIONS, AND THEIR ORDER: the closures of GuardTells.
-/
import Derived.Test.YtoiblgbaeglgoaaWP3
namespace Go.Proofs.Ytoiblgbaeglgoaa
open Go Go.Am
-- pneumatic/pneumaticlaw49.GuardTells$1
def ic29 : IC := .seq (.region [⟨(some 3), .mov (.c (.bool false)), none⟩] none)
 (.seq (.region [⟨(some 4), .mov (.t 0), none⟩,
  ⟨(some 5), .load none (.t 1), none⟩,
  ⟨(some 6), .call (.c (.fn 20 [] [])) [(.t 4), (.t 5)], none⟩,
  ⟨(some 3), .mov (.t 6), none⟩] none)
 (.ret))
theorem fn29 : env0.fn 29 = some ⟨7, ic29, [.t 3]⟩ := by kernel_rfl
theorem has29 (x e : List Int) (hx : x.length ≤ 100000) : PF Try.prog 29 [vsI x, .vptr [vsI e]] (.bool (decide (x = e))) := by
 have h := equal16 x e hx
 refine zb1 env0_ok fn29 [(0, vsI x), (1, .vptr [vsI e])] (by show 2 ≤ 7; decide) rfl fun w0 N0 => ?_
 unfold ic29
 repeat (first | refine za5 ?_ | refine za0 rfl ?_ | refine za4 ?_ | refine za2 ?_ | refine za3 rfl ?_ | refine zag rfl rfl ?_)
 refine zas rfl rfl h (fun h => Bool.noConfusion (show false = true from h)) ?_
 repeat (first | refine za4 ?_ | refine za2 ?_ | refine zaf ?_ | refine za3 rfl ?_)
 exact zad ⟨.inr rfl, _, rfl, rfl⟩
def ixP (e : List Int) : Nat → List (List Int) → Int
 | _, [] => -1
 | i, y :: ys => if decide (y = e) = true then (i : Int) else ixP e (i + 1) ys
theorem zuj (e : List Int) : ∀ (i : Nat) (l : List (List Int)), decide (ixP e i l ≥ 0) = l.any fun y => decide (y = e)
 | _, [] => rfl
 | i, y :: ys => by
  rw [ixP, List.any_cons]
  cases h : decide (y = e) with
  | true => rw [if_pos rfl, decide_eq_true (by omega), Bool.true_or]
  | false => rw [if_neg (fun h => Bool.noConfusion h), zuj e (i + 1) ys, Bool.false_or]
def b90_0 : IC := .seq (.region [⟨(some 9), .bin .lss (.t 8) (.t 7), none⟩] none)
 (.seq (.cond (.t 9) (.skip)
 (.exit 0))
 (.seq (.block 1 (.seq (.region [⟨(some 10), .mov (.t 8), none⟩,
  ⟨(some 5), .mov (.t 10), none⟩] none)
 (.seq (.region [⟨(some 11), .mov (.t 1), none⟩,
  ⟨(some 12), .mov (.t 0), none⟩,
  ⟨(some 13), .mov (.t 5), none⟩,
  ⟨(some 14), .idxs 1 (.t 12) (.t 13), none⟩,
  ⟨(some 15), .load none (.t 14), none⟩,
  ⟨(some 16), .call (.t 11) [(.t 15)], none⟩] none)
 (.cond (.t 16) (.seq (.region [⟨(some 17), .mov (.t 5), none⟩,
  ⟨(some 4), .mov (.t 17), none⟩] none)
 (.ret))
 (.skip)))))
 (.region [⟨(some 18), .bin .add (.t 8) (.c (.int .i64 1)), none⟩,
  ⟨(some 8), .mov (.t 18), none⟩] none)))
-- slices.IndexFunc[[][]int,[]int]
def ic90 : IC := .seq (.region [⟨(some 4), .mov (.c (.int .i64 0)), none⟩] none)
 (.seq (.seq (.region [⟨(some 6), .mov (.t 0), none⟩,
  ⟨(some 7), .len false (.t 6), none⟩,
  ⟨(some 8), .mov (.c (.int .i64 0)), none⟩] none)
 (.block 0 (.loop b90_0)))
 (.seq (.region [⟨(some 4), .mov (.c (.int .i64 (-1))), none⟩] none)
 (.ret)))
theorem fn90 : env0.fn 90 = some ⟨19, ic90, [.t 4]⟩ := by kernel_rfl
theorem index90 (l : List (List Int)) (hl : l.length ≤ 100000) (hr : ∀ p ∈ l, p.length ≤ 100000) (e : List Int) : PF Try.prog 90 [css l, .fn 29 [] [.vptr [vsI e]]] (.int .i64 (ixP e 0 l)) := by
 have hcl : (l.map fun c => ([vsI c] : List AV)).length = l.length := List.length_map ..
 refine zb1 env0_ok fn90 [(0, css l), (1, .fn 29 [] [.vptr [vsI e]])] (by show 2 ≤ 19; decide) rfl fun w0 N0 => ?_
 unfold ic90
 repeat (first | refine za5 ?_ | refine za0 rfl ?_ | refine za4 ?_ | refine za2 ?_ | refine zae ?_ | refine za3 rfl ?_ | refine zbk rfl rfl ?_)
 refine zcj (fun mm S => ∃ i, mm = l.length - i ∧ i ≤ l.length ∧ ixP e 0 l = ixP e i (l.drop i) ∧
   S = st 19 [(0, css l), (1, .fn 29 [] [.vptr [vsI e]]), (7, .int .i64 (l.map fun c => ([vsI c] : List AV)).length), (8, .int .i64 (i : Nat))] [] 0 1) l.length
  (zeb (.cons rfl (.same rfl) (.cons rfl (.same rfl) (.cons rfl (.same rfl) (.cons rfl (.same rfl) .nil))))) ⟨0, rfl, Nat.zero_le _, rfl, rfl⟩ ?_
 rintro mm S ⟨i, rfl, hi, hall, rfl⟩
 unfold b90_0
 repeat (first | refine za5 ?_ | refine za0 rfl ?_)
 refine zak rfl rfl rfl (fun h3 => ?_) fun h3 => ?_
 ·have hlt : i < l.length := by
   have := of_decide_eq_true h3
   rw [hcl] at this
   omega
  rw [List.drop_eq_getElem_cons hlt, ixP] at hall
  have hg := ziz hlt
  have h29 := has29 l[i] e (hr _ (List.getElem_mem hlt))
  generalize l[i] = y at hall hg h29
  repeat (first | refine za5 ?_ | refine za0 rfl ?_ | refine za4 ?_ | refine za2 ?_ | refine zae ?_ | refine zab ?_ | refine zb6 rfl ?_ | refine za3 rfl ?_ | refine zag rfl rfl ?_ | refine zc2 rfl rfl (by omega) (by assumption) rfl ?_)
  refine zhl rfl rfl rfl h29 (fun h => Bool.noConfusion (show false = true from h)) ?_
  cases hd : decide (y = e) with
  | true =>
   rw [hd, if_pos rfl] at hall
   rw [hall]
   repeat (first | refine za5 ?_ | refine za0 rfl ?_ | refine za4 ?_ | refine za2 ?_ | refine zb6 rfl ?_ | refine zaf ?_ | refine za6 ?_ | refine zah ?_ | refine za3 rfl ?_)
   refine zbq ?_
   repeat (first | refine za6 ?_ | refine zah ?_)
   exact zad ⟨.inr rfl, _, rfl, rfl⟩
  | false =>
   rw [hd, if_neg (fun h => Bool.noConfusion h)] at hall
   repeat (first | refine za0 rfl ?_ | refine za4 ?_ | refine za2 ?_ | refine zbe ?_ | refine zab ?_ | refine zbi rfl ?_ | refine za3 rfl ?_ | refine zao (op := .add) rfl rfl rfl ?_)
   rw [zb2 i (by omega)]
   exact zaz (show l.length - (i + 1) < l.length - i by omega) (zam (.cons rfl (.cons rfl (.cons rfl (.cons rfl .nil))))) ⟨i + 1, rfl, hlt, hall, rfl⟩
 ·have hi2 : i = l.length := by
   have := of_decide_eq_false h3
   rw [hcl] at this
   omega
  rw [hi2, List.drop_length, ixP] at hall
  rw [hall]
  repeat (first | refine za5 ?_ | refine za4 ?_ | refine za2 ?_ | refine zbi rfl ?_ | refine zc0 ?_ | refine zan ?_)
  refine zdk ?_
  repeat (first | refine za5 ?_ | refine za0 rfl ?_ | refine za4 ?_ | refine za2 ?_ | refine zaf ?_ | refine zby ?_ | refine za3 rfl ?_)
  exact zad ⟨.inr rfl, _, rfl, rfl⟩
-- slices.ContainsFunc[[][]int,[]int]
def ic30 : IC := .seq (.region [⟨(some 4), .mov (.c (.bool false)), none⟩] none)
 (.seq (.region [⟨(some 5), .mov (.t 0), none⟩,
  ⟨(some 6), .mov (.t 1), none⟩,
  ⟨(some 7), .call (.c (.fn 90 [] [])) [(.t 5), (.t 6)], none⟩,
  ⟨(some 8), .bin .geq (.t 7) (.c (.int .i64 0)), none⟩,
  ⟨(some 4), .mov (.t 8), none⟩] none)
 (.ret))
theorem fn30 : env0.fn 30 = some ⟨9, ic30, [.t 4]⟩ := by kernel_rfl
theorem zk6 (l : List (List Int)) (hl : l.length ≤ 100000) (hr : ∀ p ∈ l, p.length ≤ 100000) (e : List Int) : PF Try.prog 30 [css l, .fn 29 [] [.vptr [vsI e]]] (.bool (l.any fun y => decide (y = e))) := by
 have h := index90 l hl hr e
 have ha := zuj e 0 l
 refine zb1 env0_ok fn30 [(0, css l), (1, .fn 29 [] [.vptr [vsI e]])] (by show 2 ≤ 9; decide) rfl fun w0 N0 => ?_
 unfold ic30
 rw [← ha]
 repeat (first | refine za5 ?_ | refine za0 rfl ?_ | refine za4 ?_ | refine za2 ?_ | refine za3 rfl ?_)
 refine zas rfl rfl h (fun h => Bool.noConfusion (show false = true from h)) ?_
 refine zak rfl rfl rfl (fun h => ?_) fun h => ?_
 all_goals
  rw [h]
  repeat (first | refine za4 ?_ | refine za2 ?_ | refine zaf ?_ | refine za3 rfl ?_)
  exact zad ⟨.inr rfl, _, rfl, rfl⟩
-- cmp.isNaN[int]
def ic138 : IC := .seq (.region [⟨(some 2), .mov (.c (.bool false)), none⟩] none)
 (.seq (.region [⟨(some 3), .mov (.t 0), none⟩,
  ⟨(some 4), .mov (.t 0), none⟩,
  ⟨(some 5), .bin .neq (.t 3) (.t 4), none⟩,
  ⟨(some 2), .mov (.t 5), none⟩] none)
 (.ret))
theorem fn138 : env0.fn 138 = some ⟨6, ic138, [.t 2]⟩ := by kernel_rfl
theorem nan138 (a : Int) : PF Try.prog 138 [.int .i64 a] (.bool false) := by
 refine zb1 env0_ok fn138 [(0, .int .i64 a)] (by show 1 ≤ 6; decide) rfl fun w0 N0 => ?_
 unfold ic138
 repeat (first | refine za5 ?_ | refine za0 rfl ?_ | refine za4 ?_ | refine za2 ?_ | refine za3 rfl ?_)
 refine zak rfl rfl rfl (fun h => absurd h (by simp)) fun _ => ?_
 repeat (first | refine za4 ?_ | refine za2 ?_ | refine zaf ?_ | refine za3 rfl ?_)
 exact zad ⟨.inr rfl, _, rfl, rfl⟩
def cmpI (a b : Int) : Int := if a < b then -1 else if a > b then 1 else 0
-- cmp.Compare[int]
def ic91 : IC := .seq (.region [⟨(some 4), .mov (.c (.int .i64 0)), none⟩] none)
 (.seq (.region [⟨(some 7), .mov (.t 0), none⟩,
  ⟨(some 8), .call (.c (.fn 138 [] [])) [(.t 7)], none⟩,
  ⟨(some 5), .mov (.t 8), none⟩] none)
 (.seq (.region [⟨(some 9), .mov (.t 1), none⟩,
  ⟨(some 10), .call (.c (.fn 138 [] [])) [(.t 9)], none⟩,
  ⟨(some 6), .mov (.t 10), none⟩] none)
 (.seq (.seq (.region [⟨(some 11), .mov (.t 5), none⟩] none)
 (.cond (.t 11) (.seq (.seq (.region [⟨(some 12), .mov (.t 6), none⟩] none)
 (.cond (.t 12) (.seq (.region [⟨(some 4), .mov (.c (.int .i64 0)), none⟩] none)
 (.ret))
 (.skip)))
 (.seq (.region [⟨(some 4), .mov (.c (.int .i64 (-1))), none⟩] none)
 (.ret)))
 (.skip)))
 (.seq (.seq (.region [⟨(some 13), .mov (.t 6), none⟩] none)
 (.cond (.t 13) (.seq (.region [⟨(some 4), .mov (.c (.int .i64 1)), none⟩] none)
 (.ret))
 (.skip)))
 (.seq (.seq (.region [⟨(some 14), .mov (.t 0), none⟩,
  ⟨(some 15), .mov (.t 1), none⟩,
  ⟨(some 16), .bin .lss (.t 14) (.t 15), none⟩] none)
 (.cond (.t 16) (.seq (.region [⟨(some 4), .mov (.c (.int .i64 (-1))), none⟩] none)
 (.ret))
 (.skip)))
 (.seq (.seq (.region [⟨(some 17), .mov (.t 0), none⟩,
  ⟨(some 18), .mov (.t 1), none⟩,
  ⟨(some 19), .bin .gtr (.t 17) (.t 18), none⟩] none)
 (.cond (.t 19) (.seq (.region [⟨(some 4), .mov (.c (.int .i64 1)), none⟩] none)
 (.ret))
 (.skip)))
 (.seq (.region [⟨(some 4), .mov (.c (.int .i64 0)), none⟩] none)
 (.ret))))))))
theorem fn91 : env0.fn 91 = some ⟨20, ic91, [.t 4]⟩ := by kernel_rfl
theorem zti (a b : Int) : PF Try.prog 91 [.int .i64 a, .int .i64 b] (.int .i64 (cmpI a b)) := by
 have h1 := nan138 a
 have h2 := nan138 b
 refine zb1 env0_ok fn91 [(0, .int .i64 a), (1, .int .i64 b)] (by show 2 ≤ 20; decide) rfl fun w0 N0 => ?_
 unfold ic91 cmpI
 repeat (first | refine za5 ?_ | refine za0 rfl ?_ | refine za4 ?_ | refine za2 ?_ | refine za3 rfl ?_)
 refine zas rfl rfl h1 (fun h => Bool.noConfusion (show false = true from h)) ?_
 repeat (first | refine za5 ?_ | refine za0 rfl ?_ | refine za4 ?_ | refine za2 ?_ | refine za3 rfl ?_)
 refine zas rfl rfl h2 (fun h => Bool.noConfusion (show false = true from h)) ?_
 repeat (first | refine za5 ?_ | refine za0 rfl ?_ | refine za4 ?_ | refine za2 ?_ | refine zab ?_ | refine zbi rfl ?_ | refine za3 rfl ?_)
 refine zak rfl rfl rfl (fun h => ?_) fun h => ?_
 ·rw [if_pos (of_decide_eq_true h)]
  repeat (first | refine za5 ?_ | refine za0 rfl ?_ | refine za4 ?_ | refine za2 ?_ | refine zb6 rfl ?_ | refine zaf ?_ | refine za6 ?_ | refine za3 rfl ?_)
  exact zad ⟨.inr rfl, _, rfl, rfl⟩
 rw [if_neg (of_decide_eq_false h)]
 repeat (first | refine za5 ?_ | refine za0 rfl ?_ | refine za4 ?_ | refine za2 ?_ | refine zab ?_ | refine zbi rfl ?_ | refine za3 rfl ?_)
 refine zak rfl rfl rfl (fun h => ?_) fun h => ?_
 ·rw [if_pos (of_decide_eq_true h)]
  repeat (first | refine za5 ?_ | refine za0 rfl ?_ | refine za4 ?_ | refine za2 ?_ | refine zb6 rfl ?_ | refine zaf ?_ | refine za6 ?_ | refine za3 rfl ?_)
  exact zad ⟨.inr rfl, _, rfl, rfl⟩
 rw [if_neg (of_decide_eq_false h)]
 repeat (first | refine za5 ?_ | refine za0 rfl ?_ | refine za4 ?_ | refine za2 ?_ | refine zab ?_ | refine zbi rfl ?_ | refine zaf ?_ | refine za3 rfl ?_)
 exact zad ⟨.inr rfl, _, rfl, rfl⟩
def zri : List Int → List Int → Int
 | [], b => if b.length = 0 then 0 else -1
 | _ :: _, [] => 1
 | x :: a, y :: b => if cmpI x y ≠ 0 then cmpI x y else zri a b
def b33_0 : IC := .seq (.region [⟨(some 12), .bin .lss (.t 11) (.t 10), none⟩] none)
 (.seq (.cond (.t 12) (.skip)
 (.exit 0))
 (.seq (.block 1 (.seq (.region [⟨(some 13), .mov (.t 11), none⟩,
  ⟨(some 14), .idxs 1 (.t 9) (.t 11), none⟩,
  ⟨(some 15), .load none (.t 14), none⟩,
  ⟨(some 5), .mov (.t 13), none⟩,
  ⟨(some 6), .mov (.t 15), none⟩] none)
 (.seq (.seq (.region [⟨(some 16), .mov (.t 5), none⟩,
  ⟨(some 17), .mov (.t 1), none⟩,
  ⟨(some 18), .len false (.t 17), none⟩,
  ⟨(some 19), .bin .geq (.t 16) (.t 18), none⟩] none)
 (.cond (.t 19) (.seq (.region [⟨(some 4), .mov (.c (.int .i64 1)), none⟩] none)
 (.ret))
 (.skip)))
 (.seq (.region [⟨(some 20), .mov (.t 1), none⟩,
  ⟨(some 21), .mov (.t 5), none⟩,
  ⟨(some 22), .idxs 1 (.t 20) (.t 21), none⟩,
  ⟨(some 23), .load none (.t 22), none⟩,
  ⟨(some 7), .mov (.t 23), none⟩] none)
 (.seq (.region [⟨(some 24), .mov (.t 6), none⟩,
  ⟨(some 25), .mov (.t 7), none⟩,
  ⟨(some 26), .call (.c (.fn 91 [] [])) [(.t 24), (.t 25)], none⟩,
  ⟨(some 8), .mov (.t 26), none⟩] none)
 (.seq (.region [⟨(some 27), .mov (.t 8), none⟩,
  ⟨(some 28), .bin .neq (.t 27) (.c (.int .i64 0)), none⟩] none)
 (.cond (.t 28) (.seq (.region [⟨(some 29), .mov (.t 8), none⟩,
  ⟨(some 4), .mov (.t 29), none⟩] none)
 (.ret))
 (.skip))))))))
 (.region [⟨(some 30), .bin .add (.t 11) (.c (.int .i64 1)), none⟩,
  ⟨(some 11), .mov (.t 30), none⟩] none)))
-- slices.Compare[[]int,int]
def ic33 : IC := .seq (.region [⟨(some 4), .mov (.c (.int .i64 0)), none⟩] none)
 (.seq (.seq (.region [⟨(some 9), .mov (.t 0), none⟩,
  ⟨(some 10), .len false (.t 9), none⟩,
  ⟨(some 11), .mov (.c (.int .i64 0)), none⟩] none)
 (.block 0 (.loop b33_0)))
 (.seq (.seq (.region [⟨(some 31), .mov (.t 0), none⟩,
  ⟨(some 32), .len false (.t 31), none⟩,
  ⟨(some 33), .mov (.t 1), none⟩,
  ⟨(some 34), .len false (.t 33), none⟩,
  ⟨(some 35), .bin .lss (.t 32) (.t 34), none⟩] none)
 (.cond (.t 35) (.seq (.region [⟨(some 4), .mov (.c (.int .i64 (-1))), none⟩] none)
 (.ret))
 (.skip)))
 (.seq (.region [⟨(some 4), .mov (.c (.int .i64 0)), none⟩] none)
 (.ret))))
theorem fn33 : env0.fn 33 = some ⟨36, ic33, [.t 4]⟩ := by kernel_rfl
set_option maxHeartbeats 1000000 in
theorem zth (a b : List Int) (hl : a.length ≤ 100000) : PF Try.prog 33 [vsI a, vsI b] (.int .i64 (zri a b)) := by
 have hca : (a.map fun z => ([.int .i64 z] : List AV)).length = a.length := List.length_map ..
 have hcb : (b.map fun z => ([.int .i64 z] : List AV)).length = b.length := List.length_map ..
 refine zb1 env0_ok fn33 [(0, vsI a), (1, vsI b)] (by show 2 ≤ 36; decide) rfl fun w0 N0 => ?_
 unfold ic33
 repeat (first | refine za5 ?_ | refine za0 rfl ?_ | refine za4 ?_ | refine za2 ?_ | refine zae ?_ | refine za3 rfl ?_ | refine zbk rfl rfl ?_)
 refine zcj (fun mm S => ∃ i, mm = a.length - i ∧ i ≤ a.length ∧ i ≤ b.length ∧ zri a b = zri (a.drop i) (b.drop i) ∧
   S = st 36 [(0, vsI a), (1, vsI b), (9, vsI a), (10, .int .i64 (a.map fun z => ([.int .i64 z] : List AV)).length), (11, .int .i64 (i : Nat))] [] 0 1) a.length
  (zeb (.cons rfl (.same rfl) (.cons rfl (.same rfl) (.cons rfl (.same rfl) (.cons rfl (.same rfl) (.cons rfl (.same rfl) .nil)))))) ⟨0, rfl, Nat.zero_le _, Nat.zero_le _, rfl, rfl⟩ ?_
 rintro mm S ⟨i, rfl, hi, hib, hall, rfl⟩
 unfold b33_0
 repeat (first | refine za5 ?_ | refine za0 rfl ?_)
 refine zak rfl rfl rfl (fun h3 => ?_) fun h3 => ?_
 ·have hlt : i < a.length := by
   have := of_decide_eq_true h3
   rw [hca] at this
   omega
  have hga := zfl a i hlt
  rw [List.drop_eq_getElem_cons hlt] at hall
  generalize a[i] = x at hga hall
  repeat (first | refine za5 ?_ | refine za0 rfl ?_ | refine za4 ?_ | refine za2 ?_ | refine zae ?_ | refine zab ?_ | refine zb6 rfl ?_ | refine za3 rfl ?_ | refine zag rfl rfl ?_ | refine zbk rfl rfl ?_ | refine zc2 rfl rfl (by omega) (by assumption) rfl ?_)
  refine zak rfl rfl rfl (fun h4 => ?_) fun h4 => ?_
  ·have h4 : b.length ≤ i := by
    have := of_decide_eq_true h4
    rw [hcb] at this
    omega
   rw [List.drop_eq_nil_of_le h4, zri] at hall
   rw [hall]
   repeat (first | refine za5 ?_ | refine za0 rfl ?_ | refine za4 ?_ | refine za2 ?_ | refine zb6 rfl ?_ | refine zaf ?_ | refine za6 ?_ | refine zah ?_ | refine za3 rfl ?_)
   refine zbq ?_
   repeat (first | refine za6 ?_ | refine zah ?_)
   exact zad ⟨.inr rfl, _, rfl, rfl⟩
  ·have hlb : i < b.length := by
    have := of_decide_eq_false h4
    rw [hcb] at this
    omega
   have hgb := zfl b i hlb
   rw [List.drop_eq_getElem_cons hlb, zri] at hall
   generalize b[i] = y at hgb hall
   have h91 := zti x y
   repeat (first | refine za5 ?_ | refine za0 rfl ?_ | refine za4 ?_ | refine za2 ?_ | refine zab ?_ | refine zbi rfl ?_ | refine za3 rfl ?_ | refine zag rfl rfl ?_ | refine zc2 rfl rfl (by omega) (by assumption) rfl ?_)
   refine zas rfl rfl h91 (fun h => Bool.noConfusion (show false = true from h)) ?_
   repeat (first | refine za5 ?_ | refine za0 rfl ?_ | refine za4 ?_ | refine za2 ?_ | refine za3 rfl ?_)
   refine zak rfl rfl rfl (fun h5 => ?_) fun h5 => ?_
   ·rw [if_pos (bne_iff_ne.1 h5)] at hall
    rw [hall]
    repeat (first | refine za5 ?_ | refine za0 rfl ?_ | refine za4 ?_ | refine za2 ?_ | refine zb6 rfl ?_ | refine zaf ?_ | refine za6 ?_ | refine zah ?_ | refine za3 rfl ?_)
    refine zbq ?_
    repeat (first | refine za6 ?_ | refine zah ?_)
    exact zad ⟨.inr rfl, _, rfl, rfl⟩
   ·rw [if_neg (by simpa using h5)] at hall
    repeat (first | refine za0 rfl ?_ | refine za4 ?_ | refine za2 ?_ | refine zbe ?_ | refine zab ?_ | refine zbi rfl ?_ | refine za3 rfl ?_ | refine zao (op := .add) rfl rfl rfl ?_)
    rw [zb2 i (by omega)]
    exact zaz (show a.length - (i + 1) < a.length - i by omega) (zam (.cons rfl (.cons rfl (.cons rfl (.cons rfl (.cons rfl .nil)))))) ⟨i + 1, rfl, hlt, hlb, hall, rfl⟩
 ·have hi2 : i = a.length := by
   have := of_decide_eq_false h3
   rw [hca] at this
   omega
  rw [hi2, List.drop_length, zri, List.length_drop] at hall
  rw [hall]
  repeat (first | refine za5 ?_ | refine za4 ?_ | refine za2 ?_ | refine zbi rfl ?_ | refine zc0 ?_ | refine zan ?_)
  refine zdk ?_
  repeat (first | refine za5 ?_ | refine za0 rfl ?_ | refine za2 ?_ | refine zby ?_ | refine za3 rfl ?_ | refine zbk rfl rfl ?_)
  rw [hca, hcb]
  refine zak rfl rfl rfl (fun h6 => ?_) fun h6 => ?_
  ·have h6 : ((a.length : Nat) : Int) < (b.length : Nat) := of_decide_eq_true h6
   rw [if_neg (by omega)]
   repeat (first | refine za5 ?_ | refine za0 rfl ?_ | refine za4 ?_ | refine za2 ?_ | refine zb6 rfl ?_ | refine zaf ?_ | refine za6 ?_ | refine za3 rfl ?_)
   exact zad ⟨.inr rfl, _, rfl, rfl⟩
  ·have h6 : ¬ ((a.length : Nat) : Int) < (b.length : Nat) := of_decide_eq_false h6
   rw [if_pos (by omega)]
   repeat (first | refine za5 ?_ | refine za0 rfl ?_ | refine za4 ?_ | refine za2 ?_ | refine zab ?_ | refine zbi rfl ?_ | refine zaf ?_ | refine za3 rfl ?_)
   exact zad ⟨.inr rfl, _, rfl, rfl⟩
-- pneumatic/pneumaticlaw49.GuardTells$2
def ic32 : IC := .seq (.region [⟨(some 4), .mov (.c (.int .i64 0)), none⟩] none)
 (.seq (.region [⟨(some 5), .mov (.t 0), none⟩,
  ⟨(some 6), .mov (.t 1), none⟩,
  ⟨(some 7), .call (.c (.fn 33 [] [])) [(.t 5), (.t 6)], none⟩,
  ⟨(some 4), .mov (.t 7), none⟩] none)
 (.ret))
theorem fn32 : env0.fn 32 = some ⟨8, ic32, [.t 4]⟩ := by kernel_rfl
theorem order32 (a b : List Int) (hl : a.length ≤ 100000) : PF Try.prog 32 [vsI a, vsI b] (.int .i64 (zri a b)) := by
 have h := zth a b hl
 refine zb1 env0_ok fn32 [(0, vsI a), (1, vsI b)] (by show 2 ≤ 8; decide) rfl fun w0 N0 => ?_
 unfold ic32
 repeat (first | refine za5 ?_ | refine za0 rfl ?_ | refine za4 ?_ | refine za2 ?_ | refine za3 rfl ?_)
 refine zas rfl rfl h (fun h => Bool.noConfusion (show false = true from h)) ?_
 repeat (first | refine za4 ?_ | refine za2 ?_ | refine zaf ?_ | refine za3 rfl ?_)
 exact zad ⟨.inr rfl, _, rfl, rfl⟩
def b31_0 : IC := .seq (.seq (.region [⟨(some 9), .mov (.t 5), none⟩,
  ⟨(some 10), .bin .gtr (.t 9) (.c (.int .i64 0)), none⟩] none)
 (.cond (.t 10) (.skip)
 (.exit 0)))
 (.seq (.block 1 (.seq (.region [⟨(some 13), .mov (.t 1), none⟩,
  ⟨(some 14), .mov (.t 0), none⟩,
  ⟨(some 15), .mov (.t 5), none⟩,
  ⟨(some 16), .idxs 1 (.t 14) (.t 15), none⟩,
  ⟨(some 17), .load none (.t 16), none⟩,
  ⟨(some 18), .mov (.t 0), none⟩,
  ⟨(some 19), .mov (.t 5), none⟩,
  ⟨(some 20), .bin .sub (.t 19) (.c (.int .i64 1)), none⟩,
  ⟨(some 21), .idxs 1 (.t 18) (.t 20), none⟩,
  ⟨(some 22), .load none (.t 21), none⟩,
  ⟨(some 23), .call (.t 13) [(.t 17), (.t 22)], none⟩,
  ⟨(some 24), .bin .lss (.t 23) (.c (.int .i64 0)), none⟩] (some [[], [], [], [1, 2], [3], [], [], [6], [5, 7], [8], [0, 4, 9], [10]]))
 (.cond (.t 24) (.seq (.region [⟨(some 4), .mov (.c (.bool false)), none⟩] none)
 (.ret))
 (.skip))))
 (.region [⟨(some 11), .mov (.t 5), none⟩,
  ⟨(some 12), .bin .sub (.t 11) (.c (.int .i64 1)), none⟩,
  ⟨(some 5), .mov (.t 12), none⟩] none))
-- slices.IsSortedFunc[[][]int,[]int]
def ic31 : IC := .seq (.region [⟨(some 4), .mov (.c (.bool false)), none⟩] none)
 (.seq (.seq (.region [⟨(some 6), .mov (.t 0), none⟩,
  ⟨(some 7), .len false (.t 6), none⟩,
  ⟨(some 8), .bin .sub (.t 7) (.c (.int .i64 1)), none⟩,
  ⟨(some 5), .mov (.t 8), none⟩] none)
 (.block 0 (.loop b31_0)))
 (.seq (.region [⟨(some 4), .mov (.c (.bool true)), none⟩] none)
 (.ret)))
theorem fn31 : env0.fn 31 = some ⟨25, ic31, [.t 4]⟩ := by kernel_rfl
set_option maxHeartbeats 1000000 in
theorem sorted31 (l : List (List Int)) (hl : l.length ≤ 100000) (hr : ∀ p ∈ l, p.length ≤ 100000) (hs : ∀ i (h : i + 1 < l.length), 0 ≤ zri l[i + 1] l[i]) : PF Try.prog 31 [css l, .fn 32 [] []] (.bool true) := by
 have hcl : (l.map fun c => ([vsI c] : List AV)).length = l.length := List.length_map ..
 refine zb1 env0_ok fn31 [(0, css l), (1, .fn 32 [] [])] (by show 2 ≤ 25; decide) rfl fun w0 N0 => ?_
 unfold ic31
 repeat (first | refine za5 ?_ | refine za0 rfl ?_ | refine za4 ?_ | refine za2 ?_ | refine zae ?_ | refine za3 rfl ?_ | refine zbk rfl rfl ?_ | refine zao (op := .sub) rfl rfl rfl ?_)
 rw [hcl, show IntKind.i64.wrap (((l.length : Nat) : Int) - 1) = ((l.length : Nat) : Int) - 1 from zmg _ (by omega) (by omega)]
 refine zcj (fun mm S => ∃ i : Int, mm = (i + 1).toNat ∧ -1 ≤ i ∧ i < l.length ∧
   S = st 25 [(0, css l), (1, .fn 32 [] []), (5, .int .i64 i)] [] 0 1) l.length
  (zeb (.cons rfl (.same rfl) (.cons rfl (.same rfl) (.cons rfl (.same rfl) .nil)))) ⟨((l.length : Nat) : Int) - 1, by omega, by omega, by omega, rfl⟩ ?_
 rintro mm S ⟨i, rfl, hi0, hi, rfl⟩
 unfold b31_0
 repeat (first | refine za5 ?_ | refine za0 rfl ?_ | refine za3 rfl ?_)
 refine zak rfl rfl rfl (fun h3 => ?_) fun h3 => ?_
 ·have h3 : i > 0 := of_decide_eq_true h3
  obtain ⟨j, rfl⟩ : ∃ j : Nat, i = ((j + 1 : Nat) : Int) := ⟨(i - 1).toNat, by omega⟩
  have hj : j + 1 < l.length := by omega
  have hg1 := ziz hj
  have hg2 := ziz (cs := l) (i := j) (by omega)
  have h32 := order32 l[j + 1] l[j] (hr _ (List.getElem_mem hj))
  have hsj := hs j hj
  generalize l[j + 1] = x at *
  generalize l[j]'(by omega) = y at *
  have e1 : IntKind.i64.wrap (((j + 1 : Nat) : Int) - 1) = ((j : Nat) : Int) := by rw [zmg _ (by omega) (by omega)]; omega
  repeat (first | refine za5 ?_ | refine za4 ?_ | refine za2 ?_ | refine zae ?_ | refine zab ?_ | refine zb6 rfl ?_)
  refine zhv env0_ok [(32, [vsI x, vsI y], .int .i64 (zri x y))] (fun u hu => by obtain rfl := List.mem_singleton.1 hu; exact h32) (fun f => Nat.beq f 32) rfl rfl rfl ?_
  repeat (first | refine za3 rfl ?_ | refine zag rfl rfl ?_ | refine zao (op := .sub) rfl rfl rfl ?_ | refine zc2 rfl rfl (by omega) (by assumption) rfl ?_)
  rw [e1]
  repeat (first | refine zag rfl rfl ?_ | refine zc2 rfl rfl (by omega) (by assumption) rfl ?_)
  refine zhl rfl rfl rfl zcx (fun h => Bool.noConfusion (show false = true from h)) ?_
  refine zak rfl rfl rfl (fun h => absurd (of_decide_eq_true h) (by omega)) fun _ => ?_
  repeat (first | refine za0 rfl ?_ | refine za4 ?_ | refine za2 ?_ | refine zbe ?_ | refine zab ?_ | refine zbi rfl ?_ | refine za3 rfl ?_ | refine zao (op := .sub) rfl rfl rfl ?_)
  rw [e1]
  exact zaz (show ((j : Int) + 1).toNat < (((j + 1 : Nat) : Int) + 1).toNat by omega) (zam (.cons rfl (.cons rfl (.cons rfl .nil)))) ⟨(j : Int), rfl, by omega, by omega, rfl⟩
 ·repeat (first | refine za4 ?_ | refine za2 ?_ | refine zbi rfl ?_ | refine zc0 ?_ | refine zan ?_)
  refine zdk ?_
  repeat (first | refine za5 ?_ | refine za0 rfl ?_ | refine za4 ?_ | refine za2 ?_ | refine zaf ?_ | refine zby ?_ | refine za3 rfl ?_)
  exact zad ⟨.inr rfl, _, rfl, rfl⟩
end Go.Proofs.Ytoiblgbaeglgoaa
