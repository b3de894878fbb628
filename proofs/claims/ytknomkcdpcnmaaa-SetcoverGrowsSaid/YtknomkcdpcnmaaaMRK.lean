/-
  LISTS OF NUMBERS: slices.Index, Contains, Equal.
-/
import Derived.Test.YtknomkcdpcnmaaaMS0
import Derived.Test.YtknomkcdpcnmaaaMU1
namespace Go.Proofs.Ytknomkcdpcnmaaa
open Go Go.Am
def b58_0 : IC := .seq (.region [⟨(some 9), .bin .lss (.t 8) (.t 7), none⟩] none)
 (.seq (.cond (.t 9) (.skip)
 (.exit 0))
 (.seq (.block 1 (.seq (.region [⟨(some 10), .mov (.t 8), none⟩,
  ⟨(some 5), .mov (.t 10), none⟩] none)
 (.seq (.region [⟨(some 11), .mov (.t 1), none⟩,
  ⟨(some 12), .mov (.t 0), none⟩,
  ⟨(some 13), .mov (.t 5), none⟩,
  ⟨(some 14), .idxs 1 (.t 12) (.t 13), none⟩,
  ⟨(some 15), .load none (.t 14), none⟩,
  ⟨(some 16), .bin .eql (.t 11) (.t 15), none⟩] none)
 (.cond (.t 16) (.seq (.region [⟨(some 17), .mov (.t 5), none⟩,
  ⟨(some 4), .mov (.t 17), none⟩] none)
 (.ret))
 (.skip)))))
 (.region [⟨(some 18), .bin .add (.t 8) (.c (.int .i64 1)), none⟩,
  ⟨(some 8), .mov (.t 18), none⟩] none)))
-- slices.Index[[]int,int]
def ic58 : IC := .seq (.region [⟨(some 4), .mov (.c (.int .i64 0)), none⟩] none)
 (.seq (.seq (.region [⟨(some 6), .mov (.t 0), none⟩,
  ⟨(some 7), .len false (.t 6), none⟩,
  ⟨(some 8), .mov (.c (.int .i64 0)), none⟩] none)
 (.block 0 (.loop b58_0)))
 (.seq (.region [⟨(some 4), .mov (.c (.int .i64 (-1))), none⟩] none)
 (.ret)))
theorem fn58 : env0.fn 58 = some ⟨19, ic58, [.t 4]⟩ := by kernel_rfl
set_option maxHeartbeats 2000000 in
theorem index58 (c : List Int) (hl : c.length ≤ 1000000) (z : Int) : ∃ k : Int, PF Try.prog 58 [vsI c, .int .i64 z] (.int .i64 k) ∧ decide (k ≥ 0) = c.contains z := by
 refine ⟨if c.contains z = true then ((c.idxOf z : Nat) : Int) else -1, ?_, ?_⟩
 ·have hva : (c.map fun z => ([.int .i64 z] : List AV)).length = c.length := List.length_map ..
  refine zb9 env0_ok fn58 [(0, vsI c), (1, .int .i64 z)] (by show 2 ≤ 19; decide) rfl fun w0 N0 => ?_
  unfold ic58
  repeat (first | refine za5 ?_ | refine za0 rfl ?_ | refine za3 ?_ | refine za4 ?_ | refine zaf ?_ | refine za1 rfl ?_ | refine zb8 rfl rfl ?_)
  refine zcm (fun mm S => ∃ i, mm = c.length - i ∧ i ≤ c.length ∧ z ∉ c.take i ∧ S = st 19 [(0, vsI c), (1, .int .i64 z), (7, .int .i64 (c.length : Nat)), (8, .int .i64 (i : Nat))] [] 0 0) c.length
   (zaa (.cons rfl (.cons rfl (.cons (by rw [← hva]; rfl) (.cons rfl .nil))))) ⟨0, rfl, Nat.zero_le _, by simp, rfl⟩ ?_
  rintro mm S ⟨i, rfl, hi, hno, rfl⟩
  unfold b58_0
  repeat (first | refine za5 ?_ | refine za0 rfl ?_)
  refine zax rfl rfl rfl (fun h3 => ?_) fun h3 => ?_
  ·have hlt : i < c.length := Int.ofNat_lt.1 (of_decide_eq_true h3)
   have hg := zdd hlt
   have w1 : IntKind.wrap .i64 (((i : Nat) : Int) + 1) = ((i + 1 : Nat) : Int) := zaz i (by omega)
   have hts : c.take (i + 1) = c.take i ++ [c[i]] := by rw [List.take_add_one, List.getElem?_eq_getElem hlt]; rfl
   repeat (first | refine za5 ?_ | refine za0 rfl ?_ | refine za3 ?_ | refine za4 ?_ | refine zaf ?_ | refine zac ?_ | refine zbv rfl ?_ | refine za1 rfl ?_ | refine zah rfl rfl ?_ | refine zbe rfl rfl (by omega) (by assumption) rfl ?_)
   refine zax rfl rfl rfl (fun h4 => ?_) fun h4 => ?_
   ·have h4 : z = c[i] := eq_of_beq h4
    have hm : c.contains z = true := by rw [List.contains_iff_mem, h4]; exact List.getElem_mem hlt
    have hix : c.idxOf z = i := by
     have hd : c = c.take i ++ c.drop i := (List.take_append_drop i c).symm
     rw [hd, List.idxOf_append, if_neg hno, List.drop_eq_getElem_cons hlt, ← h4, List.idxOf_cons_self, List.length_take]
     omega
    rw [if_pos hm, hix]
    repeat (first | refine za5 ?_ | refine za0 rfl ?_ | refine za3 ?_ | refine za4 ?_ | refine zbv rfl ?_ | refine zao ?_ | refine za8 ?_ | refine za9 ?_ | refine za1 rfl ?_)
    exact zaj ⟨.inr rfl, _, rfl, rfl⟩
   ·have h4 : ¬ z = c[i] := fun e => by
     have h5 : (z == c[i]) = false := h4
     rw [beq_eq_false_iff_ne] at h5
     exact h5 e
    repeat (first | refine za0 rfl ?_ | refine za3 ?_ | refine za4 ?_ | refine zbg ?_ | refine zac ?_ | refine zbk rfl ?_ | refine za1 rfl ?_ | refine zae (op := .add) rfl rfl rfl ?_)
    rw [w1]
    exact zb5 (show c.length - (i + 1) < c.length - i by omega) (zaa (.cons rfl (.cons rfl (.cons rfl (.cons rfl .nil))))) ⟨i + 1, rfl, hlt, by
     rw [hts, List.mem_append, List.mem_singleton]
     exact fun h => h.elim hno h4, rfl⟩
  ·have hi3 : i = c.length := by
    have : ¬ i < c.length := fun h => of_decide_eq_false h3 (Int.ofNat_lt.2 h)
    omega
   rw [hi3, List.take_length] at hno
   rw [if_neg (fun h => hno (List.contains_iff_mem.1 h))]
   repeat (first | refine za5 ?_ | refine za3 ?_ | refine za4 ?_ | refine zbk rfl ?_ | refine zbc ?_ | refine zad ?_)
   refine zdw ?_
   repeat (first | refine za5 ?_ | refine za0 rfl ?_ | refine za3 ?_ | refine za4 ?_ | refine zao ?_ | refine zbb ?_ | refine za1 rfl ?_)
   exact zaj ⟨.inr rfl, _, rfl, rfl⟩
 ·cases h : c.contains z with
  | true => rw [if_pos rfl, decide_eq_true (by omega)]
  | false => rw [if_neg Bool.false_ne_true]; rfl
-- slices.Contains[[]int,int]
def ic28 : IC := .seq (.region [⟨(some 4), .mov (.c (.bool false)), none⟩] none)
 (.seq (.region [⟨(some 5), .mov (.t 0), none⟩,
  ⟨(some 6), .mov (.t 1), none⟩,
  ⟨(some 7), .call (.c (.fn 58 [] [])) [(.t 5), (.t 6)], none⟩,
  ⟨(some 8), .bin .geq (.t 7) (.c (.int .i64 0)), none⟩,
  ⟨(some 4), .mov (.t 8), none⟩] none)
 (.ret))
theorem fn28 : env0.fn 28 = some ⟨9, ic28, [.t 4]⟩ := by kernel_rfl
theorem zqu (c : List Int) (hl : c.length ≤ 1000000) (z : Int) : PF Try.prog 28 [vsI c, .int .i64 z] (.bool (c.contains z)) := by
 obtain ⟨k, pI, hk⟩ := index58 c hl z
 refine zb9 env0_ok fn28 [(0, vsI c), (1, .int .i64 z)] (by show 2 ≤ 9; decide) rfl fun w0 N0 => ?_
 unfold ic28
 repeat (first | refine za5 ?_ | refine za0 rfl ?_ | refine za3 ?_ | refine za4 ?_ | refine za1 rfl ?_)
 refine zaq rfl rfl pI (fun h => Bool.noConfusion (show false = true from h)) ?_
 refine zae rfl rfl (show _ = some (AV.bool (c.contains z)) from congrArg (fun b => some (AV.bool b)) hk) ?_
 repeat (first | refine za3 ?_ | refine za4 ?_ | refine zao ?_ | refine za1 rfl ?_)
 exact zaj ⟨.inr rfl, _, rfl, rfl⟩
def b29_0 : IC := .seq (.region [⟨(some 14), .bin .lss (.t 13) (.t 12), none⟩] none)
 (.seq (.cond (.t 14) (.skip)
 (.exit 0))
 (.seq (.block 1 (.seq (.region [⟨(some 15), .mov (.t 13), none⟩,
  ⟨(some 5), .mov (.t 15), none⟩] none)
 (.seq (.region [⟨(some 16), .mov (.t 0), none⟩,
  ⟨(some 17), .mov (.t 5), none⟩,
  ⟨(some 18), .idxs 1 (.t 16) (.t 17), none⟩,
  ⟨(some 19), .load none (.t 18), none⟩,
  ⟨(some 20), .mov (.t 1), none⟩,
  ⟨(some 21), .mov (.t 5), none⟩,
  ⟨(some 22), .idxs 1 (.t 20) (.t 21), none⟩,
  ⟨(some 23), .load none (.t 22), none⟩,
  ⟨(some 24), .bin .neq (.t 19) (.t 23), none⟩] (some [[], [], [0, 1], [2], [], [], [4, 5], [6], [3, 7]]))
 (.cond (.t 24) (.seq (.region [⟨(some 4), .mov (.c (.bool false)), none⟩] none)
 (.ret))
 (.skip)))))
 (.region [⟨(some 25), .bin .add (.t 13) (.c (.int .i64 1)), none⟩,
  ⟨(some 13), .mov (.t 25), none⟩] none)))
-- slices.Equal[[]int,int]
def ic29 : IC := .seq (.region [⟨(some 4), .mov (.c (.bool false)), none⟩] none)
 (.seq (.seq (.region [⟨(some 6), .mov (.t 0), none⟩,
  ⟨(some 7), .len false (.t 6), none⟩,
  ⟨(some 8), .mov (.t 1), none⟩,
  ⟨(some 9), .len false (.t 8), none⟩,
  ⟨(some 10), .bin .neq (.t 7) (.t 9), none⟩] none)
 (.cond (.t 10) (.seq (.region [⟨(some 4), .mov (.c (.bool false)), none⟩] none)
 (.ret))
 (.skip)))
 (.seq (.seq (.region [⟨(some 11), .mov (.t 0), none⟩,
  ⟨(some 12), .len false (.t 11), none⟩,
  ⟨(some 13), .mov (.c (.int .i64 0)), none⟩] none)
 (.block 0 (.loop b29_0)))
 (.seq (.region [⟨(some 4), .mov (.c (.bool true)), none⟩] none)
 (.ret))))
theorem fn29 : env0.fn 29 = some ⟨26, ic29, [.t 4]⟩ := by kernel_rfl
set_option maxHeartbeats 2000000 in
theorem equal29 (c d : List Int) (hl : c.length ≤ 1000000) : PF Try.prog 29 [vsI c, vsI d] (.bool (c == d)) := by
 have hva : (c.map fun z => ([.int .i64 z] : List AV)).length = c.length := List.length_map ..
 have hvd : (d.map fun z => ([.int .i64 z] : List AV)).length = d.length := List.length_map ..
 refine zb9 env0_ok fn29 [(0, vsI c), (1, vsI d)] (by show 2 ≤ 26; decide) rfl fun w0 N0 => ?_
 unfold ic29
 repeat (first | refine za5 ?_ | refine za0 rfl ?_ | refine za3 ?_ | refine za4 ?_ | refine za1 rfl ?_ | refine zb8 rfl rfl ?_)
 by_cases hlen : c.length = d.length
 ·refine zb7 rfl rfl (show some (AV.bool ((((c.map fun z => ([.int .i64 z] : List AV)).length : Nat) : Int) != ((d.map fun z => ([.int .i64 z] : List AV)).length : Nat))) = _ by rw [hva, hvd, hlen]; simp) ?_
  repeat (first | refine za5 ?_ | refine za0 rfl ?_ | refine za3 ?_ | refine za4 ?_ | refine zaf ?_ | refine zac ?_ | refine zbk rfl ?_ | refine za1 rfl ?_ | refine zb8 rfl rfl ?_)
  refine zcm (fun mm S => ∃ i, mm = c.length - i ∧ i ≤ c.length ∧ c.take i = d.take i ∧ S = st 26 [(0, vsI c), (1, vsI d), (12, .int .i64 (c.length : Nat)), (13, .int .i64 (i : Nat))] [] 0 0) c.length
   (zaa (.cons rfl (.cons rfl (.cons (by rw [← hva]; rfl) (.cons rfl .nil))))) ⟨0, rfl, Nat.zero_le _, rfl, rfl⟩ ?_
  rintro mm S ⟨i, rfl, hi, heq, rfl⟩
  unfold b29_0
  repeat (first | refine za5 ?_ | refine za0 rfl ?_)
  refine zax rfl rfl rfl (fun h3 => ?_) fun h3 => ?_
  ·have hlt : i < c.length := Int.ofNat_lt.1 (of_decide_eq_true h3)
   have hltd : i < d.length := by omega
   have hg := zdd hlt
   have hg2 := zdd hltd
   have w1 : IntKind.wrap .i64 (((i : Nat) : Int) + 1) = ((i + 1 : Nat) : Int) := zaz i (by omega)
   have hts : c.take (i + 1) = c.take i ++ [c[i]] := by rw [List.take_add_one, List.getElem?_eq_getElem hlt]; rfl
   have htd : d.take (i + 1) = d.take i ++ [d[i]] := by rw [List.take_add_one, List.getElem?_eq_getElem hltd]; rfl
   repeat (first | refine za5 ?_ | refine za0 rfl ?_ | refine za3 ?_ | refine za4 ?_ | refine zaf ?_ | refine zac ?_ | refine zbv rfl ?_ | refine za1 rfl ?_ | refine zah rfl rfl ?_ | refine zc1 env0_ok rfl rfl rfl ?_ | refine zbe rfl rfl (by omega) (by assumption) rfl ?_)
   refine zax rfl rfl rfl (fun h4 => ?_) fun h4 => ?_
   ·have h4 : c[i] ≠ d[i] := bne_iff_ne.1 h4
    rw [show (c == d) = false from beq_eq_false_iff_ne.2 fun e => h4 (by subst e; rfl)]
    repeat (first | refine za5 ?_ | refine za0 rfl ?_ | refine za3 ?_ | refine za4 ?_ | refine zbv rfl ?_ | refine zao ?_ | refine za8 ?_ | refine za9 ?_ | refine za1 rfl ?_)
    exact zaj ⟨.inr rfl, _, rfl, rfl⟩
   ·have h4 : c[i] = d[i] := by simpa using h4
    repeat (first | refine za0 rfl ?_ | refine za3 ?_ | refine za4 ?_ | refine zbg ?_ | refine zac ?_ | refine zbk rfl ?_ | refine za1 rfl ?_ | refine zae (op := .add) rfl rfl rfl ?_)
    rw [w1]
    exact zb5 (show c.length - (i + 1) < c.length - i by omega) (zaa (.cons rfl (.cons rfl (.cons rfl (.cons rfl .nil))))) ⟨i + 1, rfl, hlt, by rw [hts, htd, heq, h4], rfl⟩
  ·have hi3 : i = c.length := by
    have : ¬ i < c.length := fun h => of_decide_eq_false h3 (Int.ofNat_lt.2 h)
    omega
   rw [hi3, List.take_length, hlen, List.take_length] at heq
   rw [heq, beq_self_eq_true]
   repeat (first | refine za5 ?_ | refine za3 ?_ | refine za4 ?_ | refine zbk rfl ?_ | refine zbc ?_ | refine zad ?_)
   refine zdw ?_
   repeat (first | refine za5 ?_ | refine za0 rfl ?_ | refine za3 ?_ | refine za4 ?_ | refine zao ?_ | refine zbb ?_ | refine za1 rfl ?_)
   exact zaj ⟨.inr rfl, _, rfl, rfl⟩
 ·refine zbw rfl rfl (show some (AV.bool ((((c.map fun z => ([.int .i64 z] : List AV)).length : Nat) : Int) != ((d.map fun z => ([.int .i64 z] : List AV)).length : Nat))) = _ by rw [hva, hvd, show (((c.length : Nat) : Int) != ((d.length : Nat) : Int)) = true from bne_iff_ne.2 (by omega)]) ?_
  rw [show (c == d) = false from beq_eq_false_iff_ne.2 fun e => hlen (by rw [e])]
  repeat (first | refine za5 ?_ | refine za0 rfl ?_ | refine za3 ?_ | refine za4 ?_ | refine zbv rfl ?_ | refine zao ?_ | refine za8 ?_ | refine za1 rfl ?_)
  exact zaj ⟨.inr rfl, _, rfl, rfl⟩
end Go.Proofs.Ytknomkcdpcnmaaa
