/-
  PATHS: slices.IndexFunc with the closure of led.
-/
import Derived.Test.YtoagikifehmlpaaQP1
import Derived.Test.YtoagikifehmlpaaQF7
import Derived.Test.YtoagikifehmlpaaQG1
namespace Go.Proofs.Ytoagikifehmlpaa
open Go Go.Am
-- (pneumatic/digraph.net).led$1
def ic67 : IC := .seq (.region [⟨(some 4), .mov (.c (.bool false)), none⟩] none)
 (.seq (.region [⟨(some 5), .load none (.t 1), none⟩,
  ⟨(some 6), .mov (.t 0), none⟩,
  ⟨(some 7), .idxs 1 (.t 5) (.t 6), none⟩,
  ⟨(some 8), .load none (.t 7), none⟩,
  ⟨(some 9), .bin .geq (.t 8) (.c (.int .i64 0)), none⟩,
  ⟨(some 10), .mov (.t 9), none⟩,
  ⟨(some 11), .load none (.t 1), some (10, true)⟩,
  ⟨(some 12), .mov (.t 0), some (10, true)⟩,
  ⟨(some 13), .idxs 1 (.t 11) (.t 12), some (10, true)⟩,
  ⟨(some 14), .load none (.t 13), some (10, true)⟩,
  ⟨(some 15), .load none (.t 1), some (10, true)⟩,
  ⟨(some 16), .load none (.t 2), some (10, true)⟩,
  ⟨(some 17), .idxs 1 (.t 15) (.t 16), some (10, true)⟩,
  ⟨(some 18), .load none (.t 17), some (10, true)⟩,
  ⟨(some 19), .bin .sub (.t 18) (.c (.int .i64 1)), some (10, true)⟩,
  ⟨(some 20), .bin .eql (.t 14) (.t 19), some (10, true)⟩,
  ⟨(some 21), .pick (.t 10) (.t 20) (.c (.bool false)), none⟩,
  ⟨(some 4), .mov (.t 21), none⟩] (some [[], [], [0, 1], [2], [3], [4], [5], [5], [6, 7, 5], [8, 5], [5], [5], [10, 11, 5], [12, 5], [13, 5], [9, 14, 5], [5, 15], [16, 5, 0, 1, 2, 3, 4, 5, 6, 7, 8, 9, 10, 11, 12, 13, 14, 15, 16]]))
 (.ret))
theorem fn67 : env0.fn 67 = some ⟨22, ic67, [.t 4]⟩ := by kernel_rfl
set_option maxRecDepth 100000 in
set_option maxHeartbeats 1000000 in
theorem pred67 (back : List Int) (w v : Nat) (hw : w < back.length) (hv : v < back.length) (lo : -1 ≤ gI back v) (hi : gI back v ≤ 1000000) : PF Try.prog 67 [.int .i64 (w : Nat), .vptr [vsI back], .vptr [.int .i64 (v : Nat)]] (.bool (prB back v w)) := by
 have hgw : (back.map fun z => ([.int .i64 z] : List AV))[((w : Nat) : Int).toNat]? = some [.int .i64 (gI back w)] := by rw [zdn hw]; unfold gI; rw [List.getD_eq_getElem?_getD, List.getElem?_eq_getElem hw]; rfl
 have hgv : (back.map fun z => ([.int .i64 z] : List AV))[((v : Nat) : Int).toNat]? = some [.int .i64 (gI back v)] := by rw [zdn hv]; unfold gI; rw [List.getD_eq_getElem?_getD, List.getElem?_eq_getElem hv]; rfl
 refine zb4 env0_ok fn67 [(0, .int .i64 (w : Nat)), (1, .vptr [vsI back]), (2, .vptr [.int .i64 (v : Nat)])] (by show 3 ≤ 22; decide) rfl fun w0 N0 => ?_
 unfold ic67 prB
 have w1 : IntKind.wrap .i64 (gI back v - 1) = gI back v - 1 := zda _ (by omega) (by omega)
 repeat (first | refine za6 ?_ | refine za0 rfl ?_ | refine za5 ?_ | refine za3 ?_ | refine za2 rfl ?_ | refine zaf rfl rfl ?_ | refine zg0 env0_ok rfl rfl rfl ?_ | refine zaw rfl rfl (by omega) (by assumption) rfl ?_)
 refine zau rfl rfl rfl (fun h1 => ?_) fun h1 => ?_
 ·have h1 : decide (gI back w ≥ 0) = true := h1
  rw [h1]
  repeat (first | refine zee rfl ?_ | refine za2 rfl ?_ | refine zaf rfl rfl ?_ | refine zbe (op := .sub) rfl rfl rfl ?_ | refine zaw rfl rfl (by omega) (by assumption) rfl ?_)
  rw [w1]
  refine zau rfl rfl rfl (fun h2 => ?_) fun h2 => ?_
  ·have h2 : (gI back w == gI back v - 1) = true := h2
   rw [h2]
   repeat (first | refine za5 ?_ | refine za3 ?_ | refine zaq ?_ | refine za2 rfl ?_ | refine zbg rfl rfl ?_)
   exact zao ⟨.inr rfl, _, rfl, rfl⟩
  ·have h2 : (gI back w == gI back v - 1) = false := h2
   rw [h2]
   repeat (first | refine za5 ?_ | refine za3 ?_ | refine zaq ?_ | refine za2 rfl ?_ | refine zbg rfl rfl ?_)
   exact zao ⟨.inr rfl, _, rfl, rfl⟩
 ·have h1 : decide (gI back w ≥ 0) = false := h1
  rw [h1]
  repeat (first | refine za5 ?_ | refine za3 ?_ | refine zaq ?_ | refine zq7 rfl rfl ?_ | refine za2 rfl ?_ | refine zas rfl rfl ?_)
  exact zao ⟨.inr rfl, _, rfl, rfl⟩
def b66_0 : IC := .seq (.region [⟨(some 9), .bin .lss (.t 8) (.t 7), none⟩] none)
 (.seq (.cond (.t 9) (.skip)
 (.exit 0))
 (.seq (.block 1 (.seq (.region [⟨(some 10), .mov (.t 8), none⟩,
  ⟨(some 5), .mov (.t 10), none⟩] none)
 (.seq (.region [⟨(some 11), .mov (.t 1), none⟩,
  ⟨(some 12), .mov (.t 0), none⟩,
  ⟨(some 13), .mov (.t 5), none⟩,
  ⟨(some 14), .idxs 1 (.t 12) (.t 13), none⟩,
  ⟨(some 15), .load none (.t 14), none⟩,
  ⟨(some 16), .call (.t 11) [(.t 15)], none⟩] none)
 (.cond (.t 16) (.seq (.region [⟨(some 17), .mov (.t 5), none⟩,
  ⟨(some 4), .mov (.t 17), none⟩] none)
 (.ret))
 (.skip)))))
 (.region [⟨(some 18), .bin .add (.t 8) (.c (.int .i64 1)), none⟩,
  ⟨(some 8), .mov (.t 18), none⟩] none)))
-- slices.IndexFunc[[]int,int]
def ic66 : IC := .seq (.region [⟨(some 4), .mov (.c (.int .i64 0)), none⟩] none)
 (.seq (.seq (.region [⟨(some 6), .mov (.t 0), none⟩,
  ⟨(some 7), .len false (.t 6), none⟩,
  ⟨(some 8), .mov (.c (.int .i64 0)), none⟩] none)
 (.block 0 (.loop b66_0)))
 (.seq (.region [⟨(some 4), .mov (.c (.int .i64 (-1))), none⟩] none)
 (.ret)))
theorem fn66 : env0.fn 66 = some ⟨19, ic66, [.t 4]⟩ := by kernel_rfl
theorem zlw {l : List Nat} {i : Nat} (h : i < l.length) : (l.map fun w => ([.int .i64 (w : Nat)] : List AV))[((i : Nat) : Int).toNat]? = some [.int .i64 (l[i] : Nat)] := by
 rw [Int.toNat_natCast, List.getElem?_map, List.getElem?_eq_getElem h]
 rfl
set_option maxHeartbeats 1000000 in
theorem index66 (back : List Int) (l : List Nat) (v : Nat) (hl : l.length ≤ 1000000) (hin : ∀ w ∈ l, w < back.length) (hv : v < back.length) (lo : -1 ≤ gI back v) (hi : gI back v ≤ 1000000) (k : Nat) (hk : k < l.length) (hp : prB back v l[k] = true) (hn : ∀ i (h2 : i < k), prB back v (l[i]'(Nat.lt_trans h2 hk)) = false) :
  PF Try.prog 66 [vN l, .fn 67 [] [.vptr [vsI back], .vptr [.int .i64 (v : Nat)]]] (.int .i64 (k : Nat)) := by
 have hvl : (l.map fun w => ([.int .i64 (w : Nat)] : List AV)).length = l.length := List.length_map ..
 refine zb4 env0_ok fn66 [(0, vN l), (1, .fn 67 [] [.vptr [vsI back], .vptr [.int .i64 (v : Nat)]])] (by show 2 ≤ 19; decide) rfl fun w0 N0 => ?_
 unfold ic66
 repeat (first | refine za6 ?_ | refine za0 rfl ?_ | refine za5 ?_ | refine za3 ?_ | refine zae ?_ | refine za2 rfl ?_ | refine zbf rfl rfl ?_)
 refine zbx (fun mm S => ∃ i, mm = l.length - i ∧ i ≤ k ∧ S = st 19 [(0, vN l), (1, .fn 67 [] [.vptr [vsI back], .vptr [.int .i64 (v : Nat)]]), (7, .int .i64 (l.length : Nat)), (8, .int .i64 (i : Nat))] [] 0 0) l.length
  (za9 (.cons rfl (.cons rfl (.cons (by rw [← hvl]; rfl) (.cons rfl .nil))))) ⟨0, rfl, Nat.zero_le _, rfl⟩ ?_
 rintro mm S ⟨i, rfl, hi2, rfl⟩
 have hlt : i < l.length := by omega
 have hg := zlw hlt
 have p67 := pred67 back l[i] v (hin _ (List.getElem_mem hlt)) hv lo hi
 have w1 : IntKind.wrap .i64 (((i : Nat) : Int) + 1) = ((i + 1 : Nat) : Int) := zar i (by omega)
 unfold b66_0
 repeat (first | refine za6 ?_ | refine za0 rfl ?_)
 refine zau rfl rfl rfl (fun h3 => ?_) fun h3 => ?_
 ·repeat (first | refine za6 ?_ | refine za0 rfl ?_ | refine za5 ?_ | refine za3 ?_ | refine zae ?_ | refine zad ?_ | refine zcp rfl ?_ | refine za2 rfl ?_ | refine zaf rfl rfl ?_ | refine zaw rfl rfl (by omega) (by assumption) rfl ?_)
  refine o_callv rfl rfl rfl p67 (fun h => Bool.noConfusion (show false = true from h)) ?_
  by_cases hik : i = k
  ·subst hik
   rw [hp]
   repeat (first | refine za6 ?_ | refine za0 rfl ?_ | refine za5 ?_ | refine za3 ?_ | refine zcp rfl ?_ | refine zaq ?_ | refine zac ?_ | refine zba ?_ | refine za2 rfl ?_)
   exact zao ⟨.inr rfl, _, rfl, rfl⟩
  ·rw [hn i (by omega)]
   repeat (first | refine za0 rfl ?_ | refine za5 ?_ | refine za3 ?_ | refine zcb ?_ | refine zad ?_ | refine zce rfl ?_ | refine za2 rfl ?_ | refine zbe (op := .add) rfl rfl rfl ?_)
   rw [w1]
   exact zay (show l.length - (i + 1) < l.length - i by omega) (za9 (.cons rfl (.cons rfl (.cons rfl (.cons rfl .nil))))) ⟨i + 1, rfl, by omega, rfl⟩
 ·have h4 : ¬ ((i : Nat) : Int) < ((l.length : Nat) : Int) := of_decide_eq_false h3
  omega
end Go.Proofs.Ytoagikifehmlpaa
