/-
  ENDS BEHIND A STEP: ref13.After.
-/
import Derived.Test.YtoiblgbaeglgoaaXS4
import Derived.Test.YtoiblgbaeglgoaaXA9
namespace Go.Proofs.Ytoiblgbaeglgoaa
open Go Go.Am
def aft (x : List Bool) (l : List Sk) : List Bool := l.foldl (fun x s => x.set s.a.toNat s.o) x
theorem zc6 (l : List Sk) : ∀ x : List Bool, (aft x l).length = x.length := by
 induction l with
 | nil => exact fun _ => rfl
 | cons s l ih =>
  intro x
  show (aft (x.set s.a.toNat s.o) l).length = _
  rw [ih, List.length_set]
theorem zql {x : List Bool} {l : List Sk} {i : Nat} (h : i < l.length) : aft x (l.take (i + 1)) = (aft x (l.take i)).set l[i].a.toNat l[i].o := by
 unfold aft
 rw [List.take_add_one, List.getElem?_eq_getElem h, List.foldl_append]
 rfl
theorem zl7 : ∀ l : List Bool, (l.map AV.bool).all AV.isCell = true
 | [] => rfl
 | b :: l => by
  have := zl7 l
  rw [List.map_cons, List.all_cons, this]
  rfl
def b88_0 : IC := .seq (.seq (.region [⟨(some 10), .mov (.t 6), none⟩,
  ⟨(some 11), .faddr 0 (.t 2), none⟩,
  ⟨(some 12), .load none (.t 11), none⟩,
  ⟨(some 13), .len false (.t 12), none⟩,
  ⟨(some 14), .bin .lss (.t 10) (.t 13), none⟩] none)
 (.cond (.t 14) (.skip)
 (.exit 0)))
 (.seq (.block 1 (.region [⟨(some 17), .mov (.t 5), none⟩,
  ⟨(some 18), .faddr 0 (.t 2), none⟩,
  ⟨(some 19), .load none (.t 18), none⟩,
  ⟨(some 20), .mov (.t 6), none⟩,
  ⟨(some 21), .idxs 2 (.t 19) (.t 20), none⟩,
  ⟨(some 22), .faddr 0 (.t 21), none⟩,
  ⟨(some 23), .load none (.t 22), none⟩,
  ⟨(some 24), .faddr 0 (.t 2), none⟩,
  ⟨(some 25), .load none (.t 24), none⟩,
  ⟨(some 26), .mov (.t 6), none⟩,
  ⟨(some 27), .idxs 2 (.t 25) (.t 26), none⟩,
  ⟨(some 28), .faddr 1 (.t 27), none⟩,
  ⟨(some 29), .load none (.t 28), none⟩,
  ⟨(some 30), .idxs 1 (.t 17) (.t 23), none⟩,
  ⟨none, .store 1 (.t 30) (.t 29), none⟩] (some [[], [], [1], [], [2, 3], [4], [5], [], [7], [], [8, 9], [10], [11], [0, 6, 0, 1, 2, 3, 4, 5, 6, 7, 8, 9, 10, 11, 12], [13, 12, 0, 1, 2, 3, 4, 5, 6, 7, 8, 9, 10, 11, 12]])))
 (.region [⟨(some 15), .mov (.t 6), none⟩,
  ⟨(some 16), .bin .add (.t 15) (.c (.int .i64 1)), none⟩,
  ⟨(some 6), .mov (.t 16), none⟩] none))
-- pneumatic/pneumaticref13.After
def ic88 : IC := .seq (.region [⟨(some 2), .box (.t 0), none⟩,
  ⟨(some 4), .mov (.c (.nils)), none⟩] none)
 (.seq (.region [⟨(some 7), .bslice 1 0 [] [], none⟩,
  ⟨(some 8), .mov (.t 1), none⟩,
  ⟨(some 9), .append 1 1 [.bool false] (.t 7) (.t 8), none⟩,
  ⟨(some 5), .mov (.t 9), none⟩] none)
 (.seq (.seq (.region [⟨(some 6), .mov (.c (.int .i64 0)), none⟩] none)
 (.block 0 (.loop b88_0)))
 (.seq (.region [⟨(some 31), .mov (.t 5), none⟩,
  ⟨(some 4), .mov (.t 31), none⟩] none)
 (.ret))))
theorem fn88 : env0.fn 88 = some ⟨32, ic88, [.t 4]⟩ := by kernel_rfl
set_option maxHeartbeats 1000000 in
theorem ztl (p : Sp) (x : List Bool) (hl : p.l.length ≤ 1000000) (hx0 : 0 < x.length) (hx : x.length ≤ 100) (ha : ∀ s ∈ p.l, 0 ≤ s.a ∧ s.a < x.length) : PF Try.prog 88 [.agg (cP p), vsB x] (vsB (aft x p.l)) := by
 obtain ⟨l, w⟩ := p
 have hl : l.length ≤ 1000000 := hl
 have ha : ∀ s ∈ l, 0 ≤ s.a ∧ s.a < x.length := ha
 have hcl : (cSs l).length = l.length := zc7 l
 have hcx : (x.map fun b => ([.bool b] : List AV)).length = x.length := List.length_map ..
 have hfx : (x.map fun b => ([.bool b] : List AV)).flatten = x.map AV.bool := (zgn x).symm
 refine zbc env0_ok fn88 [(0, .agg [.vs (cSs l), .int .i64 w]), (1, vsB x)] (by show 2 ≤ 32; decide) rfl fun w0 N0 => ?_
 unfold ic88
 repeat (first | refine za6 ?_ | refine za0 rfl ?_ | refine za3 ?_ | refine za2 ?_ | refine za4 rfl ?_ | refine zbf rfl rfl ?_ | refine zby rfl rfl ?_)
 refine zok (x.map fun b => ([.bool b] : List AV)) rfl rfl (elems_vs fun y hy => by obtain ⟨z, _, rfl⟩ := List.mem_map.1 hy; rfl) (by rw [hcx]; omega) (by rw [hfx]; exact zl7 x) (by decide) rfl (by omega) ?_
 rw [hfx, hcx]
 repeat (first | refine za6 ?_ | refine za0 rfl ?_ | refine za3 ?_ | refine za2 ?_ | refine zad ?_ | refine za4 rfl ?_)
 refine zbq (fun mm S => ∃ i, mm = l.length - i ∧ i ≤ l.length ∧
   S = st 32 [(2, .vptr [.vs (cSs l), .int .i64 w]), (5, .ms 0 0 1 0 x.length none), (6, .int .i64 (i : Nat))] [(0, 0, .cells ((aft x (l.take i)).map AV.bool))] 1 1) l.length
  (zbk [(some (2, 2), x.map AV.bool)] [(0, 0, [.vs (cSs l), .int .i64 w])] rfl rfl rfl (.cons rfl rfl .nil) (.cons rfl (.keep (zbm _)) .nil) (l' := [(2, .vptr [.vs (cSs l), .int .i64 w]), (5, .ms 0 0 1 0 x.length none), (6, .int .i64 ((0 : Nat) : Int))]) (.cons rfl (.fptr rfl rfl) (.cons rfl (.ms rfl) (.cons rfl (.same rfl) .nil)))) ⟨0, rfl, Nat.zero_le _, rfl⟩ ?_
 rintro mm S ⟨i, rfl, hi, rfl⟩
 unfold b88_0
 repeat (first | refine za6 ?_ | refine za0 rfl ?_ | refine za4 rfl ?_ | refine za8 rfl rfl ?_ | refine zah rfl rfl rfl ?_ | refine zb9 rfl rfl ?_)
 refine zar rfl rfl rfl (fun h3 => ?_) fun h3 => ?_
 ·have hlt : i < l.length := by
   have : ((i : Nat) : Int) < ((cSs l).length : Nat) := of_decide_eq_true h3
   rw [hcl] at this
   omega
  have hg := zdm hlt
  have htk := zql (x := x) hlt
  have hal := zc6 (l.take i) x
  obtain ⟨ha0, ha1⟩ := ha _ (List.getElem_mem hlt)
  generalize l[i] = s at hg htk ha0 ha1
  obtain ⟨a, o⟩ := s
  have ha0 : 0 ≤ a := ha0
  have ha1 : a < x.length := ha1
  have hg : (cSs l)[((i : Nat) : Int).toNat]? = some [.int .i64 a, .bool o] := hg
  have htk : aft x (l.take (i + 1)) = (aft x (l.take i)).set a.toNat o := htk
  generalize aft x (l.take i) = X at hal htk
  have hset : (X.map AV.bool).set (0 + a.toNat * 1) (.bool o) = (X.set a.toNat o).map AV.bool := by rw [List.map_set, Nat.mul_one, Nat.zero_add]
  repeat (first | refine za6 ?_ | refine za3 ?_ | refine za2 ?_ | refine zad ?_ | refine zab ?_ | refine zb0 rfl ?_ | refine za4 rfl ?_ | refine za8 rfl rfl ?_ | refine zah rfl rfl rfl ?_ | refine zbu env0_ok rfl rfl rfl ?_ | refine zb1 rfl rfl (by omega) (by assumption) rfl ?_ | refine zaw rfl rfl (by omega) (by omega) ?_)
  refine zhv rfl rfl rfl rfl (by rw [List.length_map]; omega) rfl ?_
  rw [hset]
  repeat (first | refine za0 rfl ?_ | refine za3 ?_ | refine za2 ?_ | refine zb6 ?_ | refine za4 rfl ?_ | refine zay (op := .add) rfl rfl rfl ?_)
  rw [zaq i (by omega)]
  exact zat (show l.length - (i + 1) < l.length - i by omega) (zbk [(some (0, 0), (X.set a.toNat o).map AV.bool)] [] rfl rfl rfl .nil (.cons rfl (.keep (zbm _)) .nil) (.cons rfl (.same rfl) (.cons rfl (.ms rfl) (.cons rfl (.same rfl) .nil)))) ⟨i + 1, rfl, hlt, by rw [htk]; rfl⟩
 ·have hi2 : i = l.length := by
   have : ¬ ((i : Nat) : Int) < ((cSs l).length : Nat) := of_decide_eq_false h3
   rw [hcl] at this
   omega
  subst hi2
  rw [List.take_length]
  repeat (first | refine za3 ?_ | refine za2 ?_ | refine zb8 rfl ?_ | refine zbb ?_ | refine zaj ?_)
  refine zcl ?_
  repeat (first | refine za6 ?_ | refine za0 rfl ?_ | refine za3 ?_ | refine za2 ?_ | refine zam ?_ | refine zba ?_ | refine za4 rfl ?_)
  have hal := zc6 l x
  refine zak ⟨.inr rfl, _, rfl, ?_⟩
  rw [← hal]
  exact zfl (d := 2) (aft x l) rfl
end Go.Proofs.Ytoiblgbaeglgoaa
