/-
  SEQUENCES THAT CAN BE CARRIED OUT, IN THE REFERENCE: ref14.steps, ref14.Check, ref14.Behind.
-/
import Derived.Test.YtoiblgbaeglgoaaXD2
import Derived.Test.YtoiblgbaeglgoaaXS0
namespace Go.Proofs.Ytoiblgbaeglgoaa
open Go Go.Am
def b86_2 : IC := .seq (.seq (.region [⟨(some 29), .mov (.t 7), none⟩,
  ⟨(some 30), .faddr 0 (.t 5), none⟩,
  ⟨(some 31), .load none (.t 30), none⟩,
  ⟨(some 32), .len false (.t 31), none⟩,
  ⟨(some 33), .bin .lss (.t 29) (.t 32), none⟩] none)
 (.cond (.t 33) (.skip)
 (.exit 2)))
 (.seq (.block 3 (.seq (.region [⟨(some 36), .faddr 0 (.t 5), none⟩,
  ⟨(some 37), .load none (.t 36), none⟩,
  ⟨(some 38), .mov (.t 7), none⟩,
  ⟨(some 39), .idxs 2 (.t 37) (.t 38), none⟩,
  ⟨(some 40), .faddr 0 (.t 39), none⟩,
  ⟨(some 41), .load none (.t 40), none⟩,
  ⟨(some 42), .faddr 0 (.t 1), none⟩,
  ⟨(some 43), .load none (.t 42), none⟩,
  ⟨(some 44), .bin .geq (.t 41) (.t 43), none⟩] (some [[], [0], [], [1, 2], [3], [4], [], [6], [5, 7]]))
 (.cond (.t 44) (.seq (.region [⟨(some 2), .mov (.c (.int .i64 6)), none⟩] none)
 (.ret))
 (.skip))))
 (.region [⟨(some 34), .mov (.t 7), none⟩,
  ⟨(some 35), .bin .add (.t 34) (.c (.int .i64 1)), none⟩,
  ⟨(some 7), .mov (.t 35), none⟩] none))
def b86_0 : IC := .seq (.seq (.region [⟨(some 12), .mov (.t 4), none⟩,
  ⟨(some 13), .faddr 1 (.t 1), none⟩,
  ⟨(some 14), .load none (.t 13), none⟩,
  ⟨(some 15), .len false (.t 14), none⟩,
  ⟨(some 16), .bin .lss (.t 12) (.t 15), none⟩] none)
 (.cond (.t 16) (.skip)
 (.exit 0)))
 (.seq (.block 1 (.seq (.region [⟨(some 19), .faddr 1 (.t 1), none⟩,
  ⟨(some 20), .load none (.t 19), none⟩,
  ⟨(some 21), .mov (.t 4), none⟩,
  ⟨(some 22), .idxs 2 (.t 20) (.t 21), none⟩,
  ⟨(some 23), .load (some 2) (.t 22), none⟩,
  ⟨(some 5), .alloc [.nils, .int .i64 0], none⟩,
  ⟨none, .store 2 (.t 5) (.t 23), none⟩] none)
 (.seq (.seq (.region [⟨(some 24), .load (some 2) (.t 5), none⟩,
  ⟨(some 25), .call (.c (.fn 136 [] [])) [(.t 24)], none⟩,
  ⟨(some 6), .mov (.t 25), none⟩] none)
 (.seq (.region [⟨(some 26), .mov (.t 6), none⟩,
  ⟨(some 27), .bin .neq (.t 26) (.c (.int .i64 0)), none⟩] none)
 (.cond (.t 27) (.seq (.region [⟨(some 28), .mov (.t 6), none⟩,
  ⟨(some 2), .mov (.t 28), none⟩] none)
 (.ret))
 (.skip))))
 (.seq (.seq (.region [⟨(some 7), .mov (.c (.int .i64 0)), none⟩] none)
 (.block 2 (.loop b86_2)))
 (.seq (.seq (.region [⟨(some 45), .load (some 2) (.t 5), none⟩,
  ⟨(some 46), .mov (.t 3), none⟩,
  ⟨(some 47), .call (.c (.fn 137 [] [])) [(.t 45), (.t 46)], none⟩,
  ⟨(some 48), .un .not (.t 47), none⟩] none)
 (.cond (.t 48) (.seq (.region [⟨(some 2), .mov (.c (.int .i64 14)), none⟩] none)
 (.ret))
 (.skip)))
 (.region [⟨(some 49), .load (some 2) (.t 5), none⟩,
  ⟨(some 50), .mov (.t 3), none⟩,
  ⟨(some 51), .call (.c (.fn 88 [] [])) [(.t 49), (.t 50)], none⟩,
  ⟨(some 3), .mov (.t 51), none⟩] none))))))
 (.region [⟨(some 17), .mov (.t 4), none⟩,
  ⟨(some 18), .bin .add (.t 17) (.c (.int .i64 1)), none⟩,
  ⟨(some 4), .mov (.t 18), none⟩] none))
def b86_4 : IC := .seq (.seq (.region [⟨(some 52), .mov (.t 8), none⟩,
  ⟨(some 53), .faddr 0 (.t 1), none⟩,
  ⟨(some 54), .load none (.t 53), none⟩,
  ⟨(some 55), .bin .lss (.t 52) (.t 54), none⟩] none)
 (.cond (.t 55) (.skip)
 (.exit 4)))
 (.seq (.block 5 (.seq (.region [⟨(some 58), .mov (.t 3), none⟩,
  ⟨(some 59), .mov (.t 8), none⟩,
  ⟨(some 60), .idxs 1 (.t 58) (.t 59), none⟩,
  ⟨(some 61), .load none (.t 60), none⟩] none)
 (.cond (.t 61) (.seq (.region [⟨(some 2), .mov (.c (.int .i64 9)), none⟩] none)
 (.ret))
 (.skip))))
 (.region [⟨(some 56), .mov (.t 8), none⟩,
  ⟨(some 57), .bin .add (.t 56) (.c (.int .i64 1)), none⟩,
  ⟨(some 8), .mov (.t 57), none⟩] none))
-- pneumatic/pneumaticref14.steps
def ic86 : IC := .seq (.region [⟨(some 1), .box (.t 0), none⟩,
  ⟨(some 2), .mov (.c (.int .i64 0)), none⟩] none)
 (.seq (.region [⟨(some 9), .faddr 0 (.t 1), none⟩,
  ⟨(some 10), .load none (.t 9), none⟩,
  ⟨(some 11), .mkslice 1 1 [.bool false] (.t 10) (.t 10), none⟩,
  ⟨(some 3), .mov (.t 11), none⟩] none)
 (.seq (.seq (.region [⟨(some 4), .mov (.c (.int .i64 0)), none⟩] none)
 (.block 0 (.loop b86_0)))
 (.seq (.seq (.region [⟨(some 8), .mov (.c (.int .i64 0)), none⟩] none)
 (.block 4 (.loop b86_4)))
 (.seq (.region [⟨(some 2), .mov (.c (.int .i64 0)), none⟩] none)
 (.ret)))))
theorem fn86 : env0.fn 86 = some ⟨62, ic86, [.t 2]⟩ := by kernel_rfl
section
variable {w0 : World} {N0 : Nat} {k : List Fr} {Q : Exit → AS → Prop}
set_option maxHeartbeats 4000000 in
theorem stp86 (n : Nat) (h1 : 1 ≤ n) (h6 : n ≤ 6) (l : List Sp) (hl : l.length ≤ 64) (hs : ∀ p ∈ l, p.l.length ≤ 1000000) : PF Try.prog 86 [.agg (cQ n l)] (.int .i64 (zno n l (List.replicate n false))) := by
 have hcl : (cPs l).length = l.length := zdb l
 refine zbc env0_ok fn86 [(0, .agg [.int .i64 (n : Nat), .vs (cPs l)])] (by show 1 ≤ 62; decide) rfl fun w0 N0 => ?_
 unfold ic86
 repeat (first | refine za6 ?_ | refine za0 rfl ?_ | refine za3 ?_ | refine za2 ?_ | refine za4 rfl ?_ | refine za8 rfl rfl ?_ | refine zac rfl ?_ | refine zby rfl rfl ?_)
 refine o_mks rfl rfl (by omega) ?_
 rw [Int.toNat_natCast, zot]
 repeat (first | refine za6 ?_ | refine za0 rfl ?_ | refine za3 ?_ | refine za2 ?_ | refine zad ?_ | refine za4 rfl ?_)
 refine zbq (fun mm S => ∃ i E, mm = l.length - i ∧ i ≤ l.length ∧ E.length = n ∧ zno n l (List.replicate n false) = zno n (l.drop i) E ∧
   S = st 62 [(1, .vptr [.int .i64 (n : Nat), .vs (cPs l)]), (3, vsB E), (4, .int .i64 (i : Nat))] [] 0 1) l.length
  (zbk [] [(0, 0, [.int .i64 (n : Nat), .vs (cPs l)]), (1, 1, (List.replicate n false).map AV.bool)] rfl rfl rfl (.cons rfl rfl (.cons rfl (zbm _) .nil)) .nil (l' := [(1, .vptr [.int .i64 (n : Nat), .vs (cPs l)]), (3, vsB (List.replicate n false)), (4, .int .i64 ((0 : Nat) : Int))]) (.cons rfl (.fptr rfl rfl) (.cons rfl (.fms0 rfl (by rw [List.length_map, List.length_replicate]) (fun y hy => by obtain ⟨z, _, rfl⟩ := List.mem_map.1 hy; rfl) (zgn _)) (.cons rfl (.same rfl) .nil)))) ⟨0, _, rfl, Nat.zero_le _, List.length_replicate .., rfl, rfl⟩ ?_
 rintro mm S ⟨i, E, rfl, hi, hE, hall, rfl⟩
 rw [hall]
 clear hall
 unfold b86_0
 repeat (first | refine za6 ?_ | refine za0 rfl ?_ | refine za4 rfl ?_ | refine za8 rfl rfl ?_ | refine zah rfl rfl rfl ?_ | refine zb9 rfl rfl ?_)
 refine zar rfl rfl rfl (fun h4 => ?_) fun h4 => ?_
 ·have hlt : i < l.length := by
   have : ((i : Nat) : Int) < ((cPs l).length : Nat) := of_decide_eq_true h4
   rw [hcl] at this
   omega
  rw [List.drop_eq_getElem_cons hlt, zno]
  have hg := zh4 hlt
  have hql := hs _ (List.getElem_mem hlt)
  have p1 := step90 l[i]
  have p2 : (∀ s ∈ l[i].l, 0 ≤ s.a ∧ s.a < E.length) → _ := fun ha => suits91 l[i] E hql (by omega) ha
  have p3 : (∀ s ∈ l[i].l, 0 ≤ s.a ∧ s.a < E.length) → _ := fun ha => ztl l[i] E hql (by omega) (by omega) ha
  have hok : spC l[i] = 0 → _ := zm2
  generalize l[i] = p at hg hql p1 p2 p3 hok ⊢
  obtain ⟨q, w⟩ := p
  have hg : (cPs l)[((i : Nat) : Int).toNat]? = some [.vs (cSs q), .int .i64 w] := hg
  have p1 : PF Try.prog 136 [.agg [.vs (cSs q), .int .i64 w]] (.int .i64 (spC ⟨q, w⟩)) := p1
  have hcq : (cSs q).length = q.length := zc7 q
  repeat (first | refine za6 ?_ | refine za0 rfl ?_ | refine za3 ?_ | refine za2 ?_ | refine zad ?_ | refine zab ?_ | refine zb0 rfl ?_ | refine za4 rfl ?_ | refine za8 rfl rfl ?_ | refine zas rfl rfl rfl rfl ?_ | refine zal rfl rfl rfl rfl rfl rfl rfl ?_ | refine zah rfl rfl rfl ?_ | refine zax ?_ | refine zb1 rfl rfl (by omega) (by assumption) rfl ?_)
  refine zau rfl rfl p1 (fun h => Bool.noConfusion (show false = true from h)) ?_
  repeat (first | refine za6 ?_ | refine za0 rfl ?_ | refine za3 ?_ | refine za2 ?_ | refine za4 rfl ?_)
  refine zar rfl rfl rfl (fun h5 => ?_) fun h5 => ?_
  ·have h5 : spC ⟨q, w⟩ ≠ 0 := bne_iff_ne.1 h5
   rw [if_pos h5]
   repeat (first | refine za6 ?_ | refine za0 rfl ?_ | refine za3 ?_ | refine za2 ?_ | refine zb0 rfl ?_ | refine zam ?_ | refine za5 ?_ | refine zaa ?_ | refine za4 rfl ?_)
   refine zb2 ?_
   repeat (first | refine za5 ?_ | refine zaa ?_)
   exact zak ⟨.inr rfl, _, rfl, rfl⟩
  have h5 : spC ⟨q, w⟩ = 0 := by simpa using h5
  obtain ⟨hq6, ha⟩ := hok h5
  have hq6 : q.length ≤ 6 := hq6
  have ha : ∀ s ∈ q, 0 ≤ s.a ∧ s.a < 6 := ha
  rw [h5, if_neg (fun h => h rfl)]
  repeat (first | refine za6 ?_ | refine za0 rfl ?_ | refine za3 ?_ | refine za2 ?_ | refine zad ?_ | refine zab ?_ | refine zb8 rfl ?_ | refine za4 rfl ?_)
  refine zbq (fun mm S => ∃ j, mm = q.length - j ∧ j ≤ q.length ∧ zg1 n q = zg1 n (q.drop j) ∧
    S = st 62 [(1, .vptr [.int .i64 (n : Nat), .vs (cPs l)]), (3, vsB E), (4, .int .i64 (i : Nat)), (5, .vptr [.vs (cSs q), .int .i64 w]), (7, .int .i64 (j : Nat))] [] 0 1) q.length
   (zbk [] [(0, 1, [.vs (cSs q), .int .i64 w])] rfl rfl rfl (.cons rfl rfl .nil) .nil (l' := [(1, .vptr [.int .i64 (n : Nat), .vs (cPs l)]), (3, vsB E), (4, .int .i64 (i : Nat)), (5, .vptr [.vs (cSs q), .int .i64 w]), (7, .int .i64 ((0 : Nat) : Int))]) (.cons rfl (.same rfl) (.cons rfl (.same rfl) (.cons rfl (.same rfl) (.cons rfl (.fptr rfl rfl) (.cons rfl (.same rfl) .nil)))))) ⟨0, rfl, Nat.zero_le _, rfl, rfl⟩ ?_
  rintro mm S ⟨j, rfl, hj, hall, rfl⟩
  unfold b86_2
  repeat (first | refine za6 ?_ | refine za0 rfl ?_ | refine za4 rfl ?_ | refine za8 rfl rfl ?_ | refine zah rfl rfl rfl ?_ | refine zb9 rfl rfl ?_)
  refine zar rfl rfl rfl (fun h6 => ?_) fun h6 => ?_
  ·have hlj : j < q.length := by
    have : ((j : Nat) : Int) < ((cSs q).length : Nat) := of_decide_eq_true h6
    rw [hcq] at this
    omega
   have hd : q.drop j = q[j] :: q.drop (j + 1) := List.drop_eq_getElem_cons hlj
   rw [hd] at hall
   have hgq := zdm hlj
   generalize q[j] = s at hall hgq
   obtain ⟨a, o⟩ := s
   have hgq : (cSs q)[((j : Nat) : Int).toNat]? = some [.int .i64 a, .bool o] := hgq
   have hall : zg1 n q = (decide (a ≥ (n : Int)) || zg1 n (q.drop (j + 1))) := hall
   repeat (first | refine za6 ?_ | refine za3 ?_ | refine za2 ?_ | refine zad ?_ | refine zab ?_ | refine zb0 rfl ?_ | refine za4 rfl ?_ | refine za8 rfl rfl ?_ | refine zah rfl rfl rfl ?_ | refine zbu env0_ok rfl rfl rfl ?_ | refine zb1 rfl rfl (by omega) (by assumption) rfl ?_)
   refine zar rfl rfl rfl (fun h7 => ?_) fun h7 => ?_
   ·rw [h7, Bool.true_or] at hall
    rw [show (Sp.l ⟨q, w⟩) = q from rfl, hall, if_pos rfl]
    repeat (first | refine za6 ?_ | refine za0 rfl ?_ | refine za3 ?_ | refine za2 ?_ | refine zb0 rfl ?_ | refine zam ?_ | refine za5 ?_ | refine zaa ?_ | refine za4 rfl ?_)
    refine zb2 ?_
    repeat (first | refine za5 ?_ | refine zaa ?_)
    refine zb2 ?_
    repeat (first | refine za5 ?_ | refine zaa ?_)
    exact zak ⟨.inr rfl, _, rfl, rfl⟩
   ·rw [h7, Bool.false_or] at hall
    repeat (first | refine za0 rfl ?_ | refine za3 ?_ | refine za2 ?_ | refine zb6 ?_ | refine zab ?_ | refine zb8 rfl ?_ | refine za4 rfl ?_ | refine zay (op := .add) rfl rfl rfl ?_)
    rw [zaq j (by omega)]
    exact zat (show q.length - (j + 1) < q.length - j by omega) (zao (.cons rfl (.cons rfl (.cons rfl (.cons rfl (.cons rfl .nil)))))) ⟨j + 1, rfl, hlj, hall, rfl⟩
  have hj2 : j = q.length := by
   have : ¬ ((j : Nat) : Int) < ((cSs q).length : Nat) := of_decide_eq_false h6
   rw [hcq] at this
   omega
  rw [hj2, List.drop_length] at hall
  have hall : zg1 n q = false := hall
  have hlt2 := zmt hall
  have haE : ∀ s ∈ q, 0 ≤ s.a ∧ s.a < E.length := fun s hs => ⟨(ha s hs).1, by have := hlt2 s hs; omega⟩
  have p2 : PF Try.prog 137 [.agg [.vs (cSs q), .int .i64 w], vsB E] (.bool (zd2 E q)) := p2 haE
  have p3 : PF Try.prog 88 [.agg [.vs (cSs q), .int .i64 w], vsB E] (vsB (aft E q)) := p3 haE
  have hal := zc6 q E
  rw [show (Sp.l ⟨q, w⟩) = q from rfl, hall, if_neg (fun h => Bool.noConfusion h)]
  repeat (first | refine za3 ?_ | refine za2 ?_ | refine zb8 rfl ?_ | refine zbb ?_ | refine zaj ?_)
  refine zcl ?_
  repeat (first | refine za6 ?_ | refine za0 rfl ?_ | refine za2 ?_ | refine zba ?_ | refine za4 rfl ?_ | refine zas rfl rfl rfl rfl ?_)
  refine zau rfl rfl p2 (fun h => Bool.noConfusion (show false = true from h)) ?_
  cases hsu : zd2 E q with
  | false =>
   rw [if_neg (fun h => Bool.noConfusion h)]
   repeat (first | refine za6 ?_ | refine za0 rfl ?_ | refine za3 ?_ | refine za2 ?_ | refine zb0 rfl ?_ | refine zam ?_ | refine za5 ?_ | refine zaa ?_ | refine za4 rfl ?_ | refine zem rfl rfl ?_)
   refine zb2 ?_
   repeat (first | refine za5 ?_ | refine zaa ?_)
   exact zak ⟨.inr rfl, _, rfl, rfl⟩
  | true =>
   rw [if_pos rfl]
   repeat (first | refine za0 rfl ?_ | refine za3 ?_ | refine za2 ?_ | refine zab ?_ | refine zb8 rfl ?_ | refine za4 rfl ?_ | refine zas rfl rfl rfl rfl ?_ | refine zem rfl rfl ?_)
   refine zau rfl rfl p3 (fun h => Bool.noConfusion (show false = true from h)) ?_
   repeat (first | refine za0 rfl ?_ | refine za3 ?_ | refine za2 ?_ | refine zb6 ?_ | refine za4 rfl ?_ | refine zay (op := .add) rfl rfl rfl ?_)
   rw [zaq i (by omega)]
   exact zat (show l.length - (i + 1) < l.length - i by omega) (zao (.cons rfl (.cons rfl (.cons rfl .nil)))) ⟨i + 1, aft E q, rfl, hlt, by rw [hal]; exact hE, rfl, rfl⟩
 ·have hi2 : i = l.length := by
   have : ¬ ((i : Nat) : Int) < ((cPs l).length : Nat) := of_decide_eq_false h4
   rw [hcl] at this
   omega
  subst hi2
  rw [List.drop_length, zno]
  have hcE : (E.map fun b => ([.bool b] : List AV)).length = E.length := List.length_map ..
  repeat (first | refine za3 ?_ | refine za2 ?_ | refine zb8 rfl ?_ | refine zbb ?_ | refine zaj ?_)
  refine zcl ?_
  repeat (first | refine za6 ?_ | refine za0 rfl ?_ | refine za3 ?_ | refine za2 ?_ | refine zad ?_ | refine zba ?_ | refine za4 rfl ?_)
  refine zbq (fun mm S => ∃ j, mm = n - j ∧ j ≤ n ∧ E.any id = (E.drop j).any id ∧
    S = st 62 [(1, .vptr [.int .i64 (n : Nat), .vs (cPs l)]), (3, vsB E), (8, .int .i64 (j : Nat))] [] 0 1) n
   (zao (.cons rfl (.cons rfl (.cons rfl .nil)))) ⟨0, rfl, Nat.zero_le _, rfl, rfl⟩ ?_
  rintro mm S ⟨j, rfl, hj, hall, rfl⟩
  unfold b86_4
  repeat (first | refine za6 ?_ | refine za0 rfl ?_ | refine za4 rfl ?_ | refine za8 rfl rfl ?_ | refine zah rfl rfl rfl ?_)
  refine zar rfl rfl rfl (fun h6 => ?_) fun h6 => ?_
  ·have hlj : j < n := by
    have : ((j : Nat) : Int) < (n : Nat) := of_decide_eq_true h6
    omega
   have hd : E.drop j = E[j] :: E.drop (j + 1) := List.drop_eq_getElem_cons (by omega)
   rw [hd, List.any_cons] at hall
   have hgq := zs3 (l := E) (i := j) (by omega)
   generalize E[j] = b at hall hgq
   repeat (first | refine za6 ?_ | refine za0 rfl ?_ | refine za3 ?_ | refine za2 ?_ | refine zad ?_ | refine zab ?_ | refine zb0 rfl ?_ | refine za4 rfl ?_ | refine za8 rfl rfl ?_ | refine zb1 rfl rfl (by omega) (by assumption) rfl ?_)
   cases b
   ·have hall : E.any id = (E.drop (j + 1)).any id := hall
    repeat (first | refine za0 rfl ?_ | refine za3 ?_ | refine za2 ?_ | refine zb6 ?_ | refine zab ?_ | refine zb8 rfl ?_ | refine za4 rfl ?_ | refine zay (op := .add) rfl rfl rfl ?_)
    rw [zaq j (by omega)]
    exact zat (show n - (j + 1) < n - j by omega) (zao (.cons rfl (.cons rfl (.cons rfl .nil)))) ⟨j + 1, rfl, hlj, hall, rfl⟩
   ·have hall : E.any id = true := hall
    rw [hall, if_pos rfl]
    repeat (first | refine za6 ?_ | refine za0 rfl ?_ | refine za3 ?_ | refine za2 ?_ | refine zb0 rfl ?_ | refine zam ?_ | refine za5 ?_ | refine zaa ?_ | refine za4 rfl ?_)
    refine zb2 ?_
    repeat (first | refine za5 ?_ | refine zaa ?_)
    exact zak ⟨.inr rfl, _, rfl, rfl⟩
  ·have hj2 : j = E.length := by
    have : ¬ ((j : Nat) : Int) < (n : Nat) := of_decide_eq_false h6
    omega
   rw [hj2, List.drop_length] at hall
   have hall : E.any id = false := hall
   rw [hall, if_neg (fun h => Bool.noConfusion h)]
   repeat (first | refine za3 ?_ | refine za2 ?_ | refine zb8 rfl ?_ | refine zbb ?_ | refine zaj ?_)
   refine zcl ?_
   repeat (first | refine za6 ?_ | refine za0 rfl ?_ | refine za3 ?_ | refine za2 ?_ | refine zam ?_ | refine zba ?_ | refine za4 rfl ?_)
   exact zak ⟨.inr rfl, _, rfl, rfl⟩
def b21_0 : IC := .seq (.seq (.region [⟨(some 26), .mov (.t 4), none⟩,
  ⟨(some 27), .faddr 0 (.t 1), none⟩,
  ⟨(some 28), .load none (.t 27), none⟩,
  ⟨(some 29), .bin .lss (.t 26) (.t 28), none⟩] none)
 (.cond (.t 29) (.skip)
 (.exit 0)))
 (.seq (.block 1 (.seq (.region [⟨(some 32), .load (some 2) (.t 1), none⟩,
  ⟨(some 33), .mov (.t 4), none⟩,
  ⟨(some 34), .call (.c (.fn 87 [] [])) [(.t 32), (.t 33)], none⟩,
  ⟨(some 35), .un .not (.t 34), none⟩] none)
 (.cond (.t 35) (.seq (.region [⟨(some 2), .mov (.c (.int .i64 13)), none⟩] none)
 (.ret))
 (.skip))))
 (.region [⟨(some 30), .mov (.t 4), none⟩,
  ⟨(some 31), .bin .add (.t 30) (.c (.int .i64 1)), none⟩,
  ⟨(some 4), .mov (.t 31), none⟩] none))
-- pneumatic/pneumaticref14.Check
def ic21 : IC := .seq (.region [⟨(some 1), .box (.t 0), none⟩,
  ⟨(some 2), .mov (.c (.int .i64 0)), none⟩] none)
 (.seq (.seq (.region [⟨(some 5), .faddr 0 (.t 1), none⟩,
  ⟨(some 6), .load none (.t 5), none⟩,
  ⟨(some 7), .bin .lss (.t 6) (.c (.int .i64 1)), none⟩,
  ⟨(some 8), .mov (.t 7), none⟩,
  ⟨(some 9), .faddr 0 (.t 1), some (8, false)⟩,
  ⟨(some 10), .load none (.t 9), some (8, false)⟩,
  ⟨(some 11), .bin .gtr (.t 10) (.c (.int .i64 6)), some (8, false)⟩,
  ⟨(some 12), .pick (.t 8) (.c (.bool true)) (.t 11), none⟩] none)
 (.cond (.t 12) (.seq (.region [⟨(some 2), .mov (.c (.int .i64 2)), none⟩] none)
 (.ret))
 (.skip)))
 (.seq (.seq (.region [⟨(some 13), .faddr 1 (.t 1), none⟩,
  ⟨(some 14), .load none (.t 13), none⟩,
  ⟨(some 15), .len false (.t 14), none⟩,
  ⟨(some 16), .bin .eql (.t 15) (.c (.int .i64 0)), none⟩] none)
 (.cond (.t 16) (.seq (.region [⟨(some 2), .mov (.c (.int .i64 13)), none⟩] none)
 (.ret))
 (.skip)))
 (.seq (.seq (.region [⟨(some 17), .faddr 1 (.t 1), none⟩,
  ⟨(some 18), .load none (.t 17), none⟩,
  ⟨(some 19), .len false (.t 18), none⟩,
  ⟨(some 20), .bin .gtr (.t 19) (.c (.int .i64 64)), none⟩] none)
 (.cond (.t 20) (.seq (.region [⟨(some 2), .mov (.c (.int .i64 5)), none⟩] none)
 (.ret))
 (.skip)))
 (.seq (.seq (.region [⟨(some 21), .load (some 2) (.t 1), none⟩,
  ⟨(some 22), .call (.c (.fn 86 [] [])) [(.t 21)], none⟩,
  ⟨(some 3), .mov (.t 22), none⟩] none)
 (.seq (.region [⟨(some 23), .mov (.t 3), none⟩,
  ⟨(some 24), .bin .neq (.t 23) (.c (.int .i64 0)), none⟩] none)
 (.cond (.t 24) (.seq (.region [⟨(some 25), .mov (.t 3), none⟩,
  ⟨(some 2), .mov (.t 25), none⟩] none)
 (.ret))
 (.skip))))
 (.seq (.seq (.region [⟨(some 4), .mov (.c (.int .i64 0)), none⟩] none)
 (.block 0 (.loop b21_0)))
 (.seq (.region [⟨(some 2), .mov (.c (.int .i64 0)), none⟩] none)
 (.ret)))))))
theorem fn21 : env0.fn 21 = some ⟨36, ic21, [.t 2]⟩ := by kernel_rfl
set_option maxHeartbeats 4000000 in
theorem check21 (n : Int) (l : List Sp) (hl : l.length ≤ 1000000) (hs : ∀ p ∈ l, p.l.length ≤ 1000000) : PF Try.prog 21 [.agg (cQ n l)] (.int .i64 (zp4 n l)) := by
 have hcl : (cPs l).length = l.length := zdb l
 refine zbc env0_ok fn21 [(0, .agg [.int .i64 n, .vs (cPs l)])] (by show 1 ≤ 36; decide) rfl fun w0 N0 => ?_
 unfold ic21 zp4
 repeat (first | refine za6 ?_ | refine za0 rfl ?_ | refine za3 ?_ | refine za2 ?_ | refine za4 rfl ?_ | refine za8 rfl rfl ?_ | refine zac rfl ?_ | refine zby rfl rfl ?_)
 refine zar rfl rfl rfl (fun h => ?_) fun h => ?_
 ·have h : n < 1 := of_decide_eq_true h
  rw [if_pos (.inl h)]
  repeat (first | refine za6 ?_ | refine za0 rfl ?_ | refine za3 ?_ | refine za2 ?_ | refine zb0 rfl ?_ | refine zam ?_ | refine za5 ?_ | refine zda rfl rfl ?_ | refine za4 rfl ?_ | refine zap rfl rfl ?_)
  exact zak ⟨.inr rfl, _, rfl, rfl⟩
 have h : ¬ n < 1 := of_decide_eq_false h
 repeat (first | refine zc5 rfl ?_ | refine za4 rfl ?_ | refine za8 rfl rfl ?_ | refine zac rfl ?_)
 refine zar rfl rfl rfl (fun h6 => ?_) fun h6 => ?_
 ·have h6 : n > 6 := of_decide_eq_true h6
  rw [if_pos (.inr h6)]
  repeat (first | refine za6 ?_ | refine za0 rfl ?_ | refine za3 ?_ | refine za2 ?_ | refine zb0 rfl ?_ | refine zam ?_ | refine za5 ?_ | refine za4 rfl ?_ | refine zag rfl rfl ?_)
  exact zak ⟨.inr rfl, _, rfl, rfl⟩
 have h6 : ¬ n > 6 := of_decide_eq_false h6
 rw [if_neg (by omega)]
 repeat (first | refine za6 ?_ | refine za0 rfl ?_ | refine za3 ?_ | refine za2 ?_ | refine zab ?_ | refine zb8 rfl ?_ | refine za8 rfl rfl ?_ | refine zac rfl ?_ | refine zag rfl rfl ?_ | refine zb9 rfl rfl ?_)
 refine zar rfl rfl rfl (fun h2 => ?_) fun h2 => ?_
 ·have h2 : (((cPs l).length : Nat) : Int) = 0 := by simpa using h2
  rw [if_pos (by omega)]
  repeat (first | refine za6 ?_ | refine za0 rfl ?_ | refine za3 ?_ | refine za2 ?_ | refine zb0 rfl ?_ | refine zam ?_ | refine za5 ?_ | refine za4 rfl ?_)
  exact zak ⟨.inr rfl, _, rfl, rfl⟩
 have h2 : ¬ (((cPs l).length : Nat) : Int) = 0 := by simpa using h2
 rw [if_neg (by omega)]
 repeat (first | refine za6 ?_ | refine za0 rfl ?_ | refine za3 ?_ | refine za2 ?_ | refine zab ?_ | refine zb8 rfl ?_ | refine za8 rfl rfl ?_ | refine zac rfl ?_ | refine zb9 rfl rfl ?_)
 refine zar rfl rfl rfl (fun h3 => ?_) fun h3 => ?_
 ·have h3 : (((cPs l).length : Nat) : Int) > 64 := of_decide_eq_true h3
  rw [if_pos (by omega)]
  repeat (first | refine za6 ?_ | refine za0 rfl ?_ | refine za3 ?_ | refine za2 ?_ | refine zb0 rfl ?_ | refine zam ?_ | refine za5 ?_ | refine za4 rfl ?_)
  exact zak ⟨.inr rfl, _, rfl, rfl⟩
 have h3 : ¬ (((cPs l).length : Nat) : Int) > 64 := of_decide_eq_false h3
 rw [if_neg (by omega)]
 obtain ⟨m, rfl⟩ : ∃ m : Nat, n = (m : Int) := ⟨n.toNat, by omega⟩
 have p1 : PF Try.prog 86 [.agg [.int .i64 (m : Nat), .vs (cPs l)]] _ := stp86 m (by omega) (by omega) l (by omega) hs
 rw [Int.toNat_natCast]
 generalize zno (m : Int) l (List.replicate m false) = z at p1 ⊢
 repeat (first | refine za6 ?_ | refine za0 rfl ?_ | refine za3 ?_ | refine za2 ?_ | refine zab ?_ | refine zb8 rfl ?_ | refine zas rfl rfl rfl rfl ?_)
 refine zau rfl rfl p1 (fun h => Bool.noConfusion (show false = true from h)) ?_
 repeat (first | refine za6 ?_ | refine za0 rfl ?_ | refine za3 ?_ | refine za2 ?_ | refine za4 rfl ?_)
 refine zar rfl rfl rfl (fun h5 => ?_) fun h5 => ?_
 ·have h5 : z ≠ 0 := bne_iff_ne.1 h5
  rw [if_pos h5]
  repeat (first | refine za6 ?_ | refine za0 rfl ?_ | refine za3 ?_ | refine za2 ?_ | refine zb0 rfl ?_ | refine zam ?_ | refine za5 ?_ | refine za4 rfl ?_)
  exact zak ⟨.inr rfl, _, rfl, rfl⟩
 have h5 : z = 0 := by simpa using h5
 rw [if_neg (fun h => h h5)]
 repeat (first | refine za6 ?_ | refine za0 rfl ?_ | refine za3 ?_ | refine za2 ?_ | refine zad ?_ | refine zab ?_ | refine zb8 rfl ?_ | refine za4 rfl ?_)
 refine zbq (fun mm S => ∃ j, mm = m - j ∧ j ≤ m ∧ (∀ i < j, zna (i : Nat) l = true) ∧
   S = st 36 [(1, .vptr [.int .i64 (m : Nat), .vs (cPs l)]), (4, .int .i64 (j : Nat))] [] 0 1) m
  (zbk [] [(0, 0, [.int .i64 (m : Nat), .vs (cPs l)])] rfl rfl rfl (.cons rfl rfl .nil) .nil (l' := [(1, .vptr [.int .i64 (m : Nat), .vs (cPs l)]), (4, .int .i64 ((0 : Nat) : Int))]) (.cons rfl (.fptr rfl rfl) (.cons rfl (.same rfl) .nil))) ⟨0, rfl, Nat.zero_le _, fun i h => absurd h (Nat.not_lt_zero i), rfl⟩ ?_
 rintro mm S ⟨j, rfl, hj, hall, rfl⟩
 unfold b21_0
 repeat (first | refine za6 ?_ | refine za0 rfl ?_ | refine za4 rfl ?_ | refine za8 rfl rfl ?_ | refine zah rfl rfl rfl ?_)
 refine zar rfl rfl rfl (fun h6 => ?_) fun h6 => ?_
 ·have hlj : j < m := by
   have : ((j : Nat) : Int) < (m : Nat) := of_decide_eq_true h6
   omega
  have p2 : PF Try.prog 87 [.agg [.int .i64 (m : Nat), .vs (cPs l)], .int .i64 (j : Nat)] _ := moves62 m l hl hs (j : Nat)
  repeat (first | refine za6 ?_ | refine za0 rfl ?_ | refine za3 ?_ | refine za2 ?_ | refine zad ?_ | refine zab ?_ | refine zb0 rfl ?_ | refine za4 rfl ?_ | refine zas rfl rfl rfl rfl ?_)
  refine zau rfl rfl p2 (fun h => Bool.noConfusion (show false = true from h)) ?_
  cases hm : zna ((j : Nat) : Int) l with
  | false =>
   rw [if_neg (fun h => by have := List.all_eq_true.1 h j (List.mem_range.2 hlj); rw [hm] at this; exact Bool.noConfusion this)]
   repeat (first | refine za6 ?_ | refine za0 rfl ?_ | refine za3 ?_ | refine za2 ?_ | refine zb0 rfl ?_ | refine zam ?_ | refine za5 ?_ | refine zaa ?_ | refine za4 rfl ?_ | refine zem rfl rfl ?_)
   refine zb2 ?_
   repeat (first | refine za5 ?_ | refine zaa ?_)
   exact zak ⟨.inr rfl, _, rfl, rfl⟩
  | true =>
   repeat (first | refine za0 rfl ?_ | refine za3 ?_ | refine za2 ?_ | refine zb6 ?_ | refine zab ?_ | refine zb8 rfl ?_ | refine za4 rfl ?_ | refine zem rfl rfl ?_ | refine zay (op := .add) rfl rfl rfl ?_)
   rw [zaq j (by omega)]
   exact zat (show m - (j + 1) < m - j by omega) (zao (.cons rfl (.cons rfl .nil))) ⟨j + 1, rfl, hlj, fun i hi => by
    by_cases e : i = j
    ·subst e; exact hm
    ·exact hall i (by omega), rfl⟩
 ·have hj2 : j = m := by
   have : ¬ ((j : Nat) : Int) < (m : Nat) := of_decide_eq_false h6
   omega
  subst hj2
  rw [if_pos (List.all_eq_true.2 fun i hi => hall i (List.mem_range.1 hi))]
  repeat (first | refine za3 ?_ | refine za2 ?_ | refine zb8 rfl ?_ | refine zbb ?_ | refine zaj ?_)
  refine zcl ?_
  repeat (first | refine za6 ?_ | refine za0 rfl ?_ | refine za3 ?_ | refine za2 ?_ | refine zam ?_ | refine zba ?_ | refine za4 rfl ?_)
  exact zak ⟨.inr rfl, _, rfl, rfl⟩
end
end Go.Proofs.Ytoiblgbaeglgoaa
