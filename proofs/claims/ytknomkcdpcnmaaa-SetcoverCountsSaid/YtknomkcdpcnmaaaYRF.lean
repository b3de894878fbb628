/-
  THE EXACT COVERS OF THE REFERENCE: Exact.
-/
import Derived.Test.YtknomkcdpcnmaaaYRE
import Derived.Test.YtknomkcdpcnmaaaYVB
namespace Go.Proofs.Ytknomkcdpcnmaaa
open Go Go.Am
theorem zsd (N m : Nat) : znm N 0 (m + 1) = znm N 0 m ++ asc N m 0 := by
 unfold znm
 rw [List.range'_1_concat, List.flatMap_append, List.flatMap_singleton, Nat.zero_add]
def exL (n : Int) (s : List (BitVec 64)) : List (List Int) := (znm s.length 0 (s.length + 1)).filter (exR n s)
def hdV : List (List Int) → AV
 | [] => .nils
 | c :: _ => vsI c
def exaW (n : Int) (s : List (BitVec 64)) : AV := if zep n s = 0 then (match exL n s with | [] => .tup [.vs [], .int .i64 0, .int .i64 6] | c :: E => .tup [vsI c, .int .i64 ((c :: E).length : Nat), .int .i64 0]) else .tup [.vs [], .int .i64 0, .int .i64 (zep n s)]
def b15_2 : IC := .seq (.region [⟨(some 30), .bin .lss (.t 29) (.t 28), none⟩] none)
 (.seq (.cond (.t 30) (.skip)
 (.exit 2))
 (.seq (.block 3 (.seq (.region [⟨(some 31), .idxs 1 (.t 27) (.t 29), none⟩,
  ⟨(some 32), .load none (.t 31), none⟩,
  ⟨(some 10), .mov (.t 32), none⟩] none)
 (.seq (.region [⟨(some 33), .load (some 2) (.t 1), none⟩,
  ⟨(some 34), .mov (.t 10), none⟩,
  ⟨(some 35), .call (.c (.fn 47 [] [])) [(.t 33), (.t 34)], none⟩] none)
 (.cond (.t 35) (.seq (.seq (.region [⟨(some 36), .mov (.t 7), none⟩,
  ⟨(some 37), .bin .eql (.t 36) (.c (.int .i64 0)), none⟩] none)
 (.cond (.t 37) (.region [⟨(some 38), .mov (.t 10), none⟩,
  ⟨(some 6), .mov (.t 38), none⟩] none)
 (.skip)))
 (.region [⟨(some 39), .mov (.t 7), none⟩,
  ⟨(some 40), .bin .add (.t 39) (.c (.int .i64 1)), none⟩,
  ⟨(some 7), .mov (.t 40), none⟩] none))
 (.skip)))))
 (.region [⟨(some 41), .bin .add (.t 29) (.c (.int .i64 1)), none⟩,
  ⟨(some 29), .mov (.t 41), none⟩] none)))
def b15_0 : IC := .seq (.seq (.region [⟨(some 16), .mov (.t 8), none⟩,
  ⟨(some 17), .faddr 1 (.t 1), none⟩,
  ⟨(some 18), .load none (.t 17), none⟩,
  ⟨(some 19), .len false (.t 18), none⟩,
  ⟨(some 20), .bin .leq (.t 16) (.t 19), none⟩] none)
 (.cond (.t 20) (.skip)
 (.exit 0)))
 (.seq (.block 1 (.seq (.region [⟨(some 23), .faddr 1 (.t 1), none⟩,
  ⟨(some 24), .load none (.t 23), none⟩,
  ⟨(some 25), .len false (.t 24), none⟩,
  ⟨(some 26), .mov (.t 8), none⟩,
  ⟨(some 27), .call (.c (.fn 46 [] [])) [(.t 25), (.t 26)], none⟩,
  ⟨(some 28), .len false (.t 27), none⟩,
  ⟨(some 29), .mov (.c (.int .i64 0)), none⟩] none)
 (.block 2 (.loop b15_2))))
 (.region [⟨(some 21), .mov (.t 8), none⟩,
  ⟨(some 22), .bin .add (.t 21) (.c (.int .i64 1)), none⟩,
  ⟨(some 8), .mov (.t 22), none⟩] none))
-- pneumatic/pneumaticref09.Exact
def ic15 : IC := .seq (.region [⟨(some 1), .box (.t 0), none⟩,
  ⟨(some 2), .mov (.c (.nils)), none⟩,
  ⟨(some 3), .mov (.c (.int .i64 0)), none⟩,
  ⟨(some 4), .mov (.c (.int .i64 0)), none⟩] none)
 (.seq (.seq (.region [⟨(some 11), .load (some 2) (.t 1), none⟩,
  ⟨(some 12), .call (.c (.fn 38 [] [])) [(.t 11)], none⟩,
  ⟨(some 5), .mov (.t 12), none⟩] none)
 (.seq (.region [⟨(some 13), .mov (.t 5), none⟩,
  ⟨(some 14), .bin .neq (.t 13) (.c (.int .i64 0)), none⟩] none)
 (.cond (.t 14) (.seq (.region [⟨(some 15), .mov (.t 5), none⟩,
  ⟨(some 2), .mov (.c (.nils)), none⟩,
  ⟨(some 3), .mov (.c (.int .i64 0)), none⟩,
  ⟨(some 4), .mov (.t 15), none⟩] none)
 (.ret))
 (.skip))))
 (.seq (.region [⟨(some 6), .mov (.c (.nils)), none⟩] none)
 (.seq (.region [⟨(some 7), .mov (.c (.int .i64 0)), none⟩] none)
 (.seq (.seq (.region [⟨(some 8), .mov (.c (.int .i64 0)), none⟩] none)
 (.block 0 (.loop b15_0)))
 (.seq (.seq (.region [⟨(some 42), .mov (.t 7), none⟩,
  ⟨(some 43), .bin .eql (.t 42) (.c (.int .i64 0)), none⟩] none)
 (.cond (.t 43) (.seq (.region [⟨(some 2), .mov (.c (.nils)), none⟩,
  ⟨(some 3), .mov (.c (.int .i64 0)), none⟩,
  ⟨(some 4), .mov (.c (.int .i64 6)), none⟩] none)
 (.ret))
 (.skip)))
 (.seq (.region [⟨(some 44), .mov (.t 6), none⟩,
  ⟨(some 45), .mov (.t 7), none⟩,
  ⟨(some 2), .mov (.t 44), none⟩,
  ⟨(some 3), .mov (.t 45), none⟩,
  ⟨(some 4), .mov (.c (.int .i64 0)), none⟩] none)
 (.ret)))))))
theorem fn15 : env0.fn 15 = some ⟨46, ic15, [.t 2, .t 3, .t 4]⟩ := by kernel_rfl
set_option maxRecDepth 100000 in
set_option maxHeartbeats 4000000 in
theorem exact15 (n : Int) (s : List (BitVec 64)) (hs : zep n s = 0 → s.length ≤ 12) : PF Try.prog 15 [cF n s] (exaW n s) := by
 have pC := zsu n s
 have hcl := zcl s
 refine zc2 env0_ok fn15 [(0, cF n s)] (by show 1 ≤ 46; decide) rfl fun w0 N0 => ?_
 unfold ic15 exaW
 refine zal (za0 rfl (zbg (cs := [.int .i64 n, .vs (cUs s)]) rfl rfl (zab rfl (zab rfl (zab rfl (zac (zae ?_)))))))
 refine zdp [] [(0, 0, [.int .i64 n, .vs (cUs s)])] [(1, .vptr [.int .i64 n, .vs (cUs s)])] rfl (.cons rfl rfl .nil) .nil (.cons rfl (.fptr rfl rfl) .nil) ?_
 repeat (first | refine zal ?_ | refine za0 rfl ?_ | refine zac ?_ | refine zae ?_ | refine zbf ?_ | refine zah ?_ | refine zas ?_ | refine zbm rfl ?_ | refine zbl rfl ?_ | refine zb3 ?_ | refine zbc ?_ | refine zb2 ?_ | refine za4 ?_ | refine za2 rfl ?_ | refine za3 ?_ | refine za5 ?_ | refine zbp rfl ?_ | refine zbx rfl rfl ?_ | refine zby rfl ?_ | refine zab rfl ?_ | refine zau rfl rfl ?_ | refine zaq rfl rfl rfl rfl ?_ | refine zar rfl rfl rfl rfl rfl rfl rfl ?_ | refine zag rfl ?_ | refine za6 rfl rfl rfl ?_ | refine za1 rfl rfl rfl ?_ | refine za9 rfl rfl rfl rfl ?_ | refine zat ?_ | refine zap rfl rfl ?_ | refine zao rfl rfl ?_ | refine zbz rfl rfl ?_ | refine zbe rfl rfl ?_ | refine zaw rfl rfl ?_ | refine zad rfl rfl ?_ | refine zbg rfl rfl ?_ | refine zaa rfl rfl rfl ?_ | refine zax rfl rfl ?_ | refine zan rfl rfl rfl rfl ?_ | refine za8 rfl rfl rfl rfl ?_ | refine zaj rfl rfl rfl rfl ?_ | refine zb6 rfl rfl ?_ | refine zb5 rfl rfl ?_ | refine za7 rfl rfl ?_ | refine zb9 ?_ | refine zak env0_ok rfl rfl rfl ?_ | refine zaf (op := .add) rfl rfl rfl ?_ | refine zaf (op := .sub) rfl rfl rfl ?_ | refine zb8 rfl rfl rfl ?_ | refine zb7 rfl rfl rfl ?_ | refine zb4 rfl rfl rfl ?_ | refine zb0 rfl rfl rfl ?_ | refine zb1 rfl rfl (by omega) (by assumption) rfl ?_ | refine za1 rfl rfl (decide_eq_true ⟨by omega, by omega⟩) ?_ | refine zav rfl rfl (by omega) (by omega) ?_ | refine zai rfl rfl rfl ?_ | refine zbb rfl ?_ | refine zba rfl ?_)
 refine zc3 rfl rfl pC (fun h => Bool.noConfusion (show false = true from h)) ?_
 by_cases hc : zep n s = 0
 ·rw [if_pos hc, hc]
  have hs := hs hc
  obtain ⟨n0, n1, s1, _⟩ := zfs hc
  repeat (first | refine zal ?_ | refine za0 rfl ?_ | refine zac ?_ | refine zae ?_ | refine zbf ?_ | refine zah ?_ | refine zas ?_ | refine zbm rfl ?_ | refine zbl rfl ?_ | refine zb3 ?_ | refine zbc ?_ | refine zb2 ?_ | refine za4 ?_ | refine za2 rfl ?_ | refine za3 ?_ | refine za5 ?_ | refine zbp rfl ?_ | refine zbx rfl rfl ?_ | refine zby rfl ?_ | refine zab rfl ?_ | refine zau rfl rfl ?_ | refine zaq rfl rfl rfl rfl ?_ | refine zar rfl rfl rfl rfl rfl rfl rfl ?_ | refine zag rfl ?_ | refine za6 rfl rfl rfl ?_ | refine za1 rfl rfl rfl ?_ | refine za9 rfl rfl rfl rfl ?_ | refine zat ?_ | refine zap rfl rfl ?_ | refine zao rfl rfl ?_ | refine zbz rfl rfl ?_ | refine zbe rfl rfl ?_ | refine zaw rfl rfl ?_ | refine zad rfl rfl ?_ | refine zbg rfl rfl ?_ | refine zaa rfl rfl rfl ?_ | refine zax rfl rfl ?_ | refine zan rfl rfl rfl rfl ?_ | refine za8 rfl rfl rfl rfl ?_ | refine zaj rfl rfl rfl rfl ?_ | refine zb6 rfl rfl ?_ | refine zb5 rfl rfl ?_ | refine za7 rfl rfl ?_ | refine zb9 ?_ | refine zak env0_ok rfl rfl rfl ?_ | refine zaf (op := .add) rfl rfl rfl ?_ | refine zaf (op := .sub) rfl rfl rfl ?_ | refine zb8 rfl rfl rfl ?_ | refine zb7 rfl rfl rfl ?_ | refine zb4 rfl rfl rfl ?_ | refine zb0 rfl rfl rfl ?_ | refine zb1 rfl rfl (by omega) (by assumption) rfl ?_ | refine za1 rfl rfl (decide_eq_true ⟨by omega, by omega⟩) ?_ | refine zav rfl rfl (by omega) (by omega) ?_ | refine zai rfl rfl rfl ?_ | refine zbb rfl ?_ | refine zba rfl ?_)
  refine zcf (fun mm S => ∃ (j : Nat) (D : List (List Int)), mm = s.length + 1 - j ∧ j ≤ s.length + 1 ∧ D = (znm s.length 0 j).filter (exR n s) ∧ D.length ≤ j * 4096 ∧ S = st 46 [(1, .vptr [.int .i64 n, .vs (cUs s)]), (6, hdV D), (7, .int .i64 (D.length : Nat)), (8, .int .i64 (j : Nat))] [] 0 1) (s.length + 1)
   (zbd (.cons rfl (.cons rfl (.cons rfl (.cons rfl .nil))))) ⟨0, [], rfl, Nat.zero_le _, rfl, Nat.zero_le _, rfl⟩ ?_
  rintro mm S ⟨j, D, rfl, hj, hD, hDl, rfl⟩
  unfold b15_0
  repeat (first | refine zal ?_ | refine za0 rfl ?_ | refine zac ?_ | refine zae ?_ | refine zbf ?_ | refine zah ?_ | refine zas ?_ | refine zbm rfl ?_ | refine zbl rfl ?_ | refine zb3 ?_ | refine zbc ?_ | refine zb2 ?_ | refine za4 ?_ | refine za2 rfl ?_ | refine za3 ?_ | refine za5 ?_ | refine zbp rfl ?_ | refine zbx rfl rfl ?_ | refine zby rfl ?_ | refine zab rfl ?_ | refine zau rfl rfl ?_ | refine zaq rfl rfl rfl rfl ?_ | refine zar rfl rfl rfl rfl rfl rfl rfl ?_ | refine zag rfl ?_ | refine za6 rfl rfl rfl ?_ | refine za1 rfl rfl rfl ?_ | refine za9 rfl rfl rfl rfl ?_ | refine zat ?_ | refine zap rfl rfl ?_ | refine zao rfl rfl ?_ | refine zbz rfl rfl ?_ | refine zbe rfl rfl ?_ | refine zaw rfl rfl ?_ | refine zad rfl rfl ?_ | refine zbg rfl rfl ?_ | refine zaa rfl rfl rfl ?_ | refine zax rfl rfl ?_ | refine zan rfl rfl rfl rfl ?_ | refine za8 rfl rfl rfl rfl ?_ | refine zaj rfl rfl rfl rfl ?_ | refine zb6 rfl rfl ?_ | refine zb5 rfl rfl ?_ | refine za7 rfl rfl ?_ | refine zb9 ?_ | refine zak env0_ok rfl rfl rfl ?_ | refine zaf (op := .add) rfl rfl rfl ?_ | refine zaf (op := .sub) rfl rfl rfl ?_ | refine zb8 rfl rfl rfl ?_ | refine zb7 rfl rfl rfl ?_ | refine zb4 rfl rfl rfl ?_ | refine zb0 rfl rfl rfl ?_ | refine zb1 rfl rfl (by omega) (by assumption) rfl ?_ | refine za1 rfl rfl (decide_eq_true ⟨by omega, by omega⟩) ?_ | refine zav rfl rfl (by omega) (by omega) ?_ | refine zai rfl rfl rfl ?_ | refine zbb rfl ?_ | refine zba rfl ?_)
  refine zbv rfl rfl rfl (fun h3 => ?_) fun h3 => ?_
  ·have hlt : j ≤ s.length := by
    have : ((j : Nat) : Int) ≤ ((cUs s).length : Nat) := of_decide_eq_true h3
    omega
   have pL := zu8 (cUs s).length (by omega) j (by omega)
   have hsn := zsd s.length j
   have hmem : ∀ c ∈ asc (cUs s).length j 0, c.length = j ∧ ∀ z ∈ c, ((0 : Nat) : Int) ≤ z ∧ z < (cUs s).length := fun c hc => zh1 hc
   have hcnt := zi8 (cUs s).length j 0
   have h2N : 2 ^ ((cUs s).length - 0) ≤ 2 ^ 12 := Nat.pow_le_pow_right (by decide) (by omega)
   rw [← hcl] at hsn
   generalize asc (cUs s).length j 0 = L at *
   rw [hcl] at hsn
   have hcs := zt3 L
   have w2 : IntKind.wrap .i64 (((j : Nat) : Int) + 1) = ((j + 1 : Nat) : Int) := zbn j (by omega)
   repeat (first | refine zal ?_ | refine za0 rfl ?_ | refine zac ?_ | refine zae ?_ | refine zbf ?_ | refine zah ?_ | refine zas ?_ | refine zbm rfl ?_ | refine zbl rfl ?_ | refine zb3 ?_ | refine zbc ?_ | refine zb2 ?_ | refine za4 ?_ | refine za2 rfl ?_ | refine za3 ?_ | refine za5 ?_ | refine zbp rfl ?_ | refine zbx rfl rfl ?_ | refine zby rfl ?_ | refine zab rfl ?_ | refine zau rfl rfl ?_ | refine zaq rfl rfl rfl rfl ?_ | refine zar rfl rfl rfl rfl rfl rfl rfl ?_ | refine zag rfl ?_ | refine za6 rfl rfl rfl ?_ | refine za1 rfl rfl rfl ?_ | refine za9 rfl rfl rfl rfl ?_ | refine zat ?_ | refine zap rfl rfl ?_ | refine zao rfl rfl ?_ | refine zbz rfl rfl ?_ | refine zbe rfl rfl ?_ | refine zaw rfl rfl ?_ | refine zad rfl rfl ?_ | refine zbg rfl rfl ?_ | refine zaa rfl rfl rfl ?_ | refine zax rfl rfl ?_ | refine zan rfl rfl rfl rfl ?_ | refine za8 rfl rfl rfl rfl ?_ | refine zaj rfl rfl rfl rfl ?_ | refine zb6 rfl rfl ?_ | refine zb5 rfl rfl ?_ | refine za7 rfl rfl ?_ | refine zb9 ?_ | refine zak env0_ok rfl rfl rfl ?_ | refine zaf (op := .add) rfl rfl rfl ?_ | refine zaf (op := .sub) rfl rfl rfl ?_ | refine zb8 rfl rfl rfl ?_ | refine zb7 rfl rfl rfl ?_ | refine zb4 rfl rfl rfl ?_ | refine zb0 rfl rfl rfl ?_ | refine zb1 rfl rfl (by omega) (by assumption) rfl ?_ | refine za1 rfl rfl (decide_eq_true ⟨by omega, by omega⟩) ?_ | refine zav rfl rfl (by omega) (by omega) ?_ | refine zai rfl rfl rfl ?_ | refine zbb rfl ?_ | refine zba rfl ?_)
   refine zc3 rfl rfl pL (fun h => Bool.noConfusion (show false = true from h)) ?_
   unfold css
   repeat (first | refine zal ?_ | refine za0 rfl ?_ | refine zac ?_ | refine zae ?_ | refine zbf ?_ | refine zah ?_ | refine zas ?_ | refine zbm rfl ?_ | refine zbl rfl ?_ | refine zb3 ?_ | refine zbc ?_ | refine zb2 ?_ | refine za4 ?_ | refine za2 rfl ?_ | refine za3 ?_ | refine za5 ?_ | refine zbp rfl ?_ | refine zbx rfl rfl ?_ | refine zby rfl ?_ | refine zab rfl ?_ | refine zau rfl rfl ?_ | refine zaq rfl rfl rfl rfl ?_ | refine zar rfl rfl rfl rfl rfl rfl rfl ?_ | refine zag rfl ?_ | refine za6 rfl rfl rfl ?_ | refine za1 rfl rfl rfl ?_ | refine za9 rfl rfl rfl rfl ?_ | refine zat ?_ | refine zap rfl rfl ?_ | refine zao rfl rfl ?_ | refine zbz rfl rfl ?_ | refine zbe rfl rfl ?_ | refine zaw rfl rfl ?_ | refine zad rfl rfl ?_ | refine zbg rfl rfl ?_ | refine zaa rfl rfl rfl ?_ | refine zax rfl rfl ?_ | refine zan rfl rfl rfl rfl ?_ | refine za8 rfl rfl rfl rfl ?_ | refine zaj rfl rfl rfl rfl ?_ | refine zb6 rfl rfl ?_ | refine zb5 rfl rfl ?_ | refine za7 rfl rfl ?_ | refine zb9 ?_ | refine zak env0_ok rfl rfl rfl ?_ | refine zaf (op := .add) rfl rfl rfl ?_ | refine zaf (op := .sub) rfl rfl rfl ?_ | refine zb8 rfl rfl rfl ?_ | refine zb7 rfl rfl rfl ?_ | refine zb4 rfl rfl rfl ?_ | refine zb0 rfl rfl rfl ?_ | refine zb1 rfl rfl (by omega) (by assumption) rfl ?_ | refine za1 rfl rfl (decide_eq_true ⟨by omega, by omega⟩) ?_ | refine zav rfl rfl (by omega) (by omega) ?_ | refine zai rfl rfl rfl ?_ | refine zbb rfl ?_ | refine zba rfl ?_)
   refine zcf (fun mm S => ∃ (i : Nat) (D : List (List Int)), mm = L.length - i ∧ i ≤ L.length ∧ D = (znm s.length 0 j ++ L.take i).filter (exR n s) ∧ D.length ≤ j * 4096 + i ∧ S = st 46 [(1, .vptr [.int .i64 n, .vs (cUs s)]), (6, hdV D), (7, .int .i64 (D.length : Nat)), (8, .int .i64 (j : Nat)), (27, css L), (28, .int .i64 (L.length : Nat)), (29, .int .i64 (i : Nat))] [] 0 1) L.length
    (zbd (.cons rfl (.cons rfl (.cons rfl (.cons rfl (.cons rfl (.cons (by rw [← hcs]; rfl) (.cons rfl .nil)))))))) ⟨0, D, rfl, Nat.zero_le _, by rw [List.take_zero, List.append_nil]; exact hD, by omega, rfl⟩ ?_
   clear hD hDl
   rintro mm S ⟨i, D, rfl, hi, hD, hDl, rfl⟩
   unfold b15_2
   repeat (first | refine zal ?_ | refine za0 rfl ?_ | refine zac ?_ | refine zae ?_ | refine zbf ?_ | refine zah ?_ | refine zas ?_ | refine zbm rfl ?_ | refine zbl rfl ?_ | refine zb3 ?_ | refine zbc ?_ | refine zb2 ?_ | refine za4 ?_ | refine za2 rfl ?_ | refine za3 ?_ | refine za5 ?_ | refine zbp rfl ?_ | refine zbx rfl rfl ?_ | refine zby rfl ?_ | refine zab rfl ?_ | refine zau rfl rfl ?_ | refine zaq rfl rfl rfl rfl ?_ | refine zar rfl rfl rfl rfl rfl rfl rfl ?_ | refine zag rfl ?_ | refine za6 rfl rfl rfl ?_ | refine za1 rfl rfl rfl ?_ | refine za9 rfl rfl rfl rfl ?_ | refine zat ?_ | refine zap rfl rfl ?_ | refine zao rfl rfl ?_ | refine zbz rfl rfl ?_ | refine zbe rfl rfl ?_ | refine zaw rfl rfl ?_ | refine zad rfl rfl ?_ | refine zbg rfl rfl ?_ | refine zaa rfl rfl rfl ?_ | refine zax rfl rfl ?_ | refine zan rfl rfl rfl rfl ?_ | refine za8 rfl rfl rfl rfl ?_ | refine zaj rfl rfl rfl rfl ?_ | refine zb6 rfl rfl ?_ | refine zb5 rfl rfl ?_ | refine za7 rfl rfl ?_ | refine zb9 ?_ | refine zak env0_ok rfl rfl rfl ?_ | refine zaf (op := .add) rfl rfl rfl ?_ | refine zaf (op := .sub) rfl rfl rfl ?_ | refine zb8 rfl rfl rfl ?_ | refine zb7 rfl rfl rfl ?_ | refine zb4 rfl rfl rfl ?_ | refine zb0 rfl rfl rfl ?_ | refine zb1 rfl rfl (by omega) (by assumption) rfl ?_ | refine za1 rfl rfl (decide_eq_true ⟨by omega, by omega⟩) ?_ | refine zav rfl rfl (by omega) (by omega) ?_ | refine zai rfl rfl rfl ?_ | refine zbb rfl ?_ | refine zba rfl ?_)
   refine zbv rfl rfl rfl (fun h4 => ?_) fun h4 => ?_
   ·have hlt2 : i < L.length := Int.ofNat_lt.1 (of_decide_eq_true h4)
    have hg := zt2 hlt2
    have hm := hmem _ (List.getElem_mem hlt2)
    have w1 : IntKind.wrap .i64 (((i : Nat) : Int) + 1) = ((i + 1 : Nat) : Int) := zbn i (by omega)
    have w3 : IntKind.wrap .i64 (((D.length : Nat) : Int) + 1) = ((D.length + 1 : Nat) : Int) := zbn D.length (by omega)
    have hts : L.take (i + 1) = L.take i ++ [L[i]] := by rw [List.take_add_one, List.getElem?_eq_getElem hlt2]; rfl
    have hD2 : (znm s.length 0 j ++ L.take (i + 1)).filter (exR n s) = D ++ (if exR n s L[i] = true then [L[i]] else []) := by
     rw [hts, ← List.append_assoc, List.filter_append, ← hD, List.filter_cons]
     rfl
    have pE := zt8 n n0 s L[i] (by rw [hm.1]; omega) (fun z hz => by have := hm.2 z hz; omega)
    generalize L[i] = c at *
    repeat (first | refine zal ?_ | refine za0 rfl ?_ | refine zac ?_ | refine zae ?_ | refine zbf ?_ | refine zah ?_ | refine zas ?_ | refine zbm rfl ?_ | refine zbl rfl ?_ | refine zb3 ?_ | refine zbc ?_ | refine zb2 ?_ | refine za4 ?_ | refine za2 rfl ?_ | refine za3 ?_ | refine za5 ?_ | refine zbp rfl ?_ | refine zbx rfl rfl ?_ | refine zby rfl ?_ | refine zab rfl ?_ | refine zau rfl rfl ?_ | refine zaq rfl rfl rfl rfl ?_ | refine zar rfl rfl rfl rfl rfl rfl rfl ?_ | refine zag rfl ?_ | refine za6 rfl rfl rfl ?_ | refine za1 rfl rfl rfl ?_ | refine za9 rfl rfl rfl rfl ?_ | refine zat ?_ | refine zap rfl rfl ?_ | refine zao rfl rfl ?_ | refine zbz rfl rfl ?_ | refine zbe rfl rfl ?_ | refine zaw rfl rfl ?_ | refine zad rfl rfl ?_ | refine zbg rfl rfl ?_ | refine zaa rfl rfl rfl ?_ | refine zax rfl rfl ?_ | refine zan rfl rfl rfl rfl ?_ | refine za8 rfl rfl rfl rfl ?_ | refine zaj rfl rfl rfl rfl ?_ | refine zb6 rfl rfl ?_ | refine zb5 rfl rfl ?_ | refine za7 rfl rfl ?_ | refine zb9 ?_ | refine zak env0_ok rfl rfl rfl ?_ | refine zaf (op := .add) rfl rfl rfl ?_ | refine zaf (op := .sub) rfl rfl rfl ?_ | refine zb8 rfl rfl rfl ?_ | refine zb7 rfl rfl rfl ?_ | refine zb4 rfl rfl rfl ?_ | refine zb0 rfl rfl rfl ?_ | refine zb1 rfl rfl (by omega) (by assumption) rfl ?_ | refine za1 rfl rfl (decide_eq_true ⟨by omega, by omega⟩) ?_ | refine zav rfl rfl (by omega) (by omega) ?_ | refine zai rfl rfl rfl ?_ | refine zbb rfl ?_ | refine zba rfl ?_)
    refine zc3 rfl rfl pE (fun h => Bool.noConfusion (show false = true from h)) ?_
    cases hE : exR n s c with
    | false =>
     rw [hE, if_neg Bool.false_ne_true, List.append_nil] at hD2
     repeat (first | refine zal ?_ | refine za0 rfl ?_ | refine zac ?_ | refine zae ?_ | refine zbf ?_ | refine zah ?_ | refine zas ?_ | refine zbm rfl ?_ | refine zbl rfl ?_ | refine zb3 ?_ | refine zbc ?_ | refine zb2 ?_ | refine za4 ?_ | refine za2 rfl ?_ | refine za3 ?_ | refine za5 ?_ | refine zbp rfl ?_ | refine zbx rfl rfl ?_ | refine zby rfl ?_ | refine zab rfl ?_ | refine zau rfl rfl ?_ | refine zaq rfl rfl rfl rfl ?_ | refine zar rfl rfl rfl rfl rfl rfl rfl ?_ | refine zag rfl ?_ | refine za6 rfl rfl rfl ?_ | refine za1 rfl rfl rfl ?_ | refine za9 rfl rfl rfl rfl ?_ | refine zat ?_ | refine zap rfl rfl ?_ | refine zao rfl rfl ?_ | refine zbz rfl rfl ?_ | refine zbe rfl rfl ?_ | refine zaw rfl rfl ?_ | refine zad rfl rfl ?_ | refine zbg rfl rfl ?_ | refine zaa rfl rfl rfl ?_ | refine zax rfl rfl ?_ | refine zan rfl rfl rfl rfl ?_ | refine za8 rfl rfl rfl rfl ?_ | refine zaj rfl rfl rfl rfl ?_ | refine zb6 rfl rfl ?_ | refine zb5 rfl rfl ?_ | refine za7 rfl rfl ?_ | refine zb9 ?_ | refine zak env0_ok rfl rfl rfl ?_ | refine zaf (op := .add) rfl rfl rfl ?_ | refine zaf (op := .sub) rfl rfl rfl ?_ | refine zb8 rfl rfl rfl ?_ | refine zb7 rfl rfl rfl ?_ | refine zb4 rfl rfl rfl ?_ | refine zb0 rfl rfl rfl ?_ | refine zb1 rfl rfl (by omega) (by assumption) rfl ?_ | refine za1 rfl rfl (decide_eq_true ⟨by omega, by omega⟩) ?_ | refine zav rfl rfl (by omega) (by omega) ?_ | refine zai rfl rfl rfl ?_ | refine zbb rfl ?_ | refine zba rfl ?_)
     rw [w1]
     exact zbw (show L.length - (i + 1) < L.length - i by omega) (zbd (.cons rfl (.cons rfl (.cons rfl (.cons rfl (.cons rfl (.cons rfl (.cons rfl .nil)))))))) ⟨i + 1, D, rfl, hlt2, hD2.symm, by omega, rfl⟩
    | true =>
     rw [hE, if_pos rfl] at hD2
     repeat (first | refine zal ?_ | refine za0 rfl ?_ | refine zac ?_ | refine zae ?_ | refine zbf ?_ | refine zah ?_ | refine zas ?_ | refine zbm rfl ?_ | refine zbl rfl ?_ | refine zb3 ?_ | refine zbc ?_ | refine zb2 ?_ | refine za4 ?_ | refine za2 rfl ?_ | refine za3 ?_ | refine za5 ?_ | refine zbp rfl ?_ | refine zbx rfl rfl ?_ | refine zby rfl ?_ | refine zab rfl ?_ | refine zau rfl rfl ?_ | refine zaq rfl rfl rfl rfl ?_ | refine zar rfl rfl rfl rfl rfl rfl rfl ?_ | refine zag rfl ?_ | refine za6 rfl rfl rfl ?_ | refine za1 rfl rfl rfl ?_ | refine za9 rfl rfl rfl rfl ?_ | refine zat ?_ | refine zap rfl rfl ?_ | refine zao rfl rfl ?_ | refine zbz rfl rfl ?_ | refine zbe rfl rfl ?_ | refine zaw rfl rfl ?_ | refine zad rfl rfl ?_ | refine zbg rfl rfl ?_ | refine zaa rfl rfl rfl ?_ | refine zax rfl rfl ?_ | refine zan rfl rfl rfl rfl ?_ | refine za8 rfl rfl rfl rfl ?_ | refine zaj rfl rfl rfl rfl ?_ | refine zb6 rfl rfl ?_ | refine zb5 rfl rfl ?_ | refine za7 rfl rfl ?_ | refine zb9 ?_ | refine zak env0_ok rfl rfl rfl ?_ | refine zaf (op := .add) rfl rfl rfl ?_ | refine zaf (op := .sub) rfl rfl rfl ?_ | refine zb8 rfl rfl rfl ?_ | refine zb7 rfl rfl rfl ?_ | refine zb4 rfl rfl rfl ?_ | refine zb0 rfl rfl rfl ?_ | refine zb1 rfl rfl (by omega) (by assumption) rfl ?_ | refine za1 rfl rfl (decide_eq_true ⟨by omega, by omega⟩) ?_ | refine zav rfl rfl (by omega) (by omega) ?_ | refine zai rfl rfl rfl ?_ | refine zbb rfl ?_ | refine zba rfl ?_)
     cases D with
     | nil =>
      repeat (first | refine zal ?_ | refine za0 rfl ?_ | refine zac ?_ | refine zae ?_ | refine zbf ?_ | refine zah ?_ | refine zas ?_ | refine zbm rfl ?_ | refine zbl rfl ?_ | refine zb3 ?_ | refine zbc ?_ | refine zb2 ?_ | refine za4 ?_ | refine za2 rfl ?_ | refine za3 ?_ | refine za5 ?_ | refine zbp rfl ?_ | refine zbx rfl rfl ?_ | refine zby rfl ?_ | refine zab rfl ?_ | refine zau rfl rfl ?_ | refine zaq rfl rfl rfl rfl ?_ | refine zar rfl rfl rfl rfl rfl rfl rfl ?_ | refine zag rfl ?_ | refine za6 rfl rfl rfl ?_ | refine za1 rfl rfl rfl ?_ | refine za9 rfl rfl rfl rfl ?_ | refine zat ?_ | refine zap rfl rfl ?_ | refine zao rfl rfl ?_ | refine zbz rfl rfl ?_ | refine zbe rfl rfl ?_ | refine zaw rfl rfl ?_ | refine zad rfl rfl ?_ | refine zbg rfl rfl ?_ | refine zaa rfl rfl rfl ?_ | refine zax rfl rfl ?_ | refine zan rfl rfl rfl rfl ?_ | refine za8 rfl rfl rfl rfl ?_ | refine zaj rfl rfl rfl rfl ?_ | refine zb6 rfl rfl ?_ | refine zb5 rfl rfl ?_ | refine za7 rfl rfl ?_ | refine zb9 ?_ | refine zak env0_ok rfl rfl rfl ?_ | refine zaf (op := .add) rfl rfl rfl ?_ | refine zaf (op := .sub) rfl rfl rfl ?_ | refine zb8 rfl rfl rfl ?_ | refine zb7 rfl rfl rfl ?_ | refine zb4 rfl rfl rfl ?_ | refine zb0 rfl rfl rfl ?_ | refine zb1 rfl rfl (by omega) (by assumption) rfl ?_ | refine za1 rfl rfl (decide_eq_true ⟨by omega, by omega⟩) ?_ | refine zav rfl rfl (by omega) (by omega) ?_ | refine zai rfl rfl rfl ?_ | refine zbb rfl ?_ | refine zba rfl ?_)
      rw [w1]
      exact zbw (show L.length - (i + 1) < L.length - i by omega) (zbd (.cons rfl (.cons rfl (.cons rfl (.cons rfl (.cons rfl (.cons rfl (.cons rfl .nil)))))))) ⟨i + 1, [c], rfl, hlt2, hD2.symm, by show 1 ≤ _; omega, rfl⟩
     | cons d E =>
      refine zb0 rfl rfl (by show some (AV.bool ((((d :: E).length : Nat) : Int) == 0)) = _; rw [show ((((d :: E).length : Nat) : Int) == 0) = false by rw [beq_eq_false_iff_ne, List.length_cons]; omega]) ?_
      repeat (first | refine zal ?_ | refine za0 rfl ?_ | refine zac ?_ | refine zae ?_ | refine zbf ?_ | refine zah ?_ | refine zas ?_ | refine zbm rfl ?_ | refine zbl rfl ?_ | refine zb3 ?_ | refine zbc ?_ | refine zb2 ?_ | refine za4 ?_ | refine za2 rfl ?_ | refine za3 ?_ | refine za5 ?_ | refine zbp rfl ?_ | refine zbx rfl rfl ?_ | refine zby rfl ?_ | refine zab rfl ?_ | refine zau rfl rfl ?_ | refine zaq rfl rfl rfl rfl ?_ | refine zar rfl rfl rfl rfl rfl rfl rfl ?_ | refine zag rfl ?_ | refine za6 rfl rfl rfl ?_ | refine za1 rfl rfl rfl ?_ | refine za9 rfl rfl rfl rfl ?_ | refine zat ?_ | refine zap rfl rfl ?_ | refine zao rfl rfl ?_ | refine zbz rfl rfl ?_ | refine zbe rfl rfl ?_ | refine zaw rfl rfl ?_ | refine zad rfl rfl ?_ | refine zbg rfl rfl ?_ | refine zaa rfl rfl rfl ?_ | refine zax rfl rfl ?_ | refine zan rfl rfl rfl rfl ?_ | refine za8 rfl rfl rfl rfl ?_ | refine zaj rfl rfl rfl rfl ?_ | refine zb6 rfl rfl ?_ | refine zb5 rfl rfl ?_ | refine za7 rfl rfl ?_ | refine zb9 ?_ | refine zak env0_ok rfl rfl rfl ?_ | refine zaf (op := .add) rfl rfl rfl ?_ | refine zaf (op := .sub) rfl rfl rfl ?_ | refine zb8 rfl rfl rfl ?_ | refine zb7 rfl rfl rfl ?_ | refine zb4 rfl rfl rfl ?_ | refine zb0 rfl rfl rfl ?_ | refine zb1 rfl rfl (by omega) (by assumption) rfl ?_ | refine za1 rfl rfl (decide_eq_true ⟨by omega, by omega⟩) ?_ | refine zav rfl rfl (by omega) (by omega) ?_ | refine zai rfl rfl rfl ?_ | refine zbb rfl ?_ | refine zba rfl ?_)
      rw [w1, w3]
      exact zbw (show L.length - (i + 1) < L.length - i by omega) (zbd (.cons rfl (.cons rfl (.cons rfl (.cons rfl (.cons rfl (.cons rfl (.cons rfl .nil)))))))) ⟨i + 1, (d :: E) ++ [c], rfl, hlt2, hD2.symm, by rw [List.length_append, List.length_singleton]; omega, by rw [List.length_append]⟩
   ·have hi2 : i = L.length := by
     have : ¬ i < L.length := fun h => of_decide_eq_false h4 (Int.ofNat_lt.2 h)
     omega
    rw [hi2, List.take_length, ← hsn] at hD
    repeat (first | refine zal ?_ | refine za0 rfl ?_ | refine zac ?_ | refine zae ?_ | refine zbf ?_ | refine zah ?_ | refine zas ?_ | refine zbm rfl ?_ | refine zbl rfl ?_ | refine zb3 ?_ | refine zbc ?_ | refine zb2 ?_ | refine za4 ?_ | refine za2 rfl ?_ | refine za3 ?_ | refine za5 ?_ | refine zbp rfl ?_ | refine zbx rfl rfl ?_ | refine zby rfl ?_ | refine zab rfl ?_ | refine zau rfl rfl ?_ | refine zaq rfl rfl rfl rfl ?_ | refine zar rfl rfl rfl rfl rfl rfl rfl ?_ | refine zag rfl ?_ | refine za6 rfl rfl rfl ?_ | refine za1 rfl rfl rfl ?_ | refine za9 rfl rfl rfl rfl ?_ | refine zat ?_ | refine zap rfl rfl ?_ | refine zao rfl rfl ?_ | refine zbz rfl rfl ?_ | refine zbe rfl rfl ?_ | refine zaw rfl rfl ?_ | refine zad rfl rfl ?_ | refine zbg rfl rfl ?_ | refine zaa rfl rfl rfl ?_ | refine zax rfl rfl ?_ | refine zan rfl rfl rfl rfl ?_ | refine za8 rfl rfl rfl rfl ?_ | refine zaj rfl rfl rfl rfl ?_ | refine zb6 rfl rfl ?_ | refine zb5 rfl rfl ?_ | refine za7 rfl rfl ?_ | refine zb9 ?_ | refine zak env0_ok rfl rfl rfl ?_ | refine zaf (op := .add) rfl rfl rfl ?_ | refine zaf (op := .sub) rfl rfl rfl ?_ | refine zb8 rfl rfl rfl ?_ | refine zb7 rfl rfl rfl ?_ | refine zb4 rfl rfl rfl ?_ | refine zb0 rfl rfl rfl ?_ | refine zb1 rfl rfl (by omega) (by assumption) rfl ?_ | refine za1 rfl rfl (decide_eq_true ⟨by omega, by omega⟩) ?_ | refine zav rfl rfl (by omega) (by omega) ?_ | refine zai rfl rfl rfl ?_ | refine zbb rfl ?_ | refine zba rfl ?_)
    refine zdf ?_
    repeat (first | refine zal ?_ | refine za0 rfl ?_ | refine zac ?_ | refine zae ?_ | refine zbf ?_ | refine zah ?_ | refine zas ?_ | refine zbm rfl ?_ | refine zbl rfl ?_ | refine zb3 ?_ | refine zbc ?_ | refine zb2 ?_ | refine za4 ?_ | refine za2 rfl ?_ | refine za3 ?_ | refine za5 ?_ | refine zbp rfl ?_ | refine zbx rfl rfl ?_ | refine zby rfl ?_ | refine zab rfl ?_ | refine zau rfl rfl ?_ | refine zaq rfl rfl rfl rfl ?_ | refine zar rfl rfl rfl rfl rfl rfl rfl ?_ | refine zag rfl ?_ | refine za6 rfl rfl rfl ?_ | refine za1 rfl rfl rfl ?_ | refine za9 rfl rfl rfl rfl ?_ | refine zat ?_ | refine zap rfl rfl ?_ | refine zao rfl rfl ?_ | refine zbz rfl rfl ?_ | refine zbe rfl rfl ?_ | refine zaw rfl rfl ?_ | refine zad rfl rfl ?_ | refine zbg rfl rfl ?_ | refine zaa rfl rfl rfl ?_ | refine zax rfl rfl ?_ | refine zan rfl rfl rfl rfl ?_ | refine za8 rfl rfl rfl rfl ?_ | refine zaj rfl rfl rfl rfl ?_ | refine zb6 rfl rfl ?_ | refine zb5 rfl rfl ?_ | refine za7 rfl rfl ?_ | refine zb9 ?_ | refine zak env0_ok rfl rfl rfl ?_ | refine zaf (op := .add) rfl rfl rfl ?_ | refine zaf (op := .sub) rfl rfl rfl ?_ | refine zb8 rfl rfl rfl ?_ | refine zb7 rfl rfl rfl ?_ | refine zb4 rfl rfl rfl ?_ | refine zb0 rfl rfl rfl ?_ | refine zb1 rfl rfl (by omega) (by assumption) rfl ?_ | refine za1 rfl rfl (decide_eq_true ⟨by omega, by omega⟩) ?_ | refine zav rfl rfl (by omega) (by omega) ?_ | refine zai rfl rfl rfl ?_ | refine zbb rfl ?_ | refine zba rfl ?_)
    rw [w2]
    exact zbw (show s.length + 1 - (j + 1) < s.length + 1 - j by omega) (zbd (.cons rfl (.cons rfl (.cons rfl (.cons rfl .nil))))) ⟨j + 1, D, rfl, by omega, hD, by omega, rfl⟩
  ·have hj2 : j = s.length + 1 := by
    have : ¬ ((j : Nat) : Int) ≤ ((cUs s).length : Nat) := of_decide_eq_false h3
    omega
   rw [hj2] at hD
   rw [show exL n s = D from hD.symm]
   repeat (first | refine zal ?_ | refine za0 rfl ?_ | refine zac ?_ | refine zae ?_ | refine zbf ?_ | refine zah ?_ | refine zas ?_ | refine zbm rfl ?_ | refine zbl rfl ?_ | refine zb3 ?_ | refine zbc ?_ | refine zb2 ?_ | refine za4 ?_ | refine za2 rfl ?_ | refine za3 ?_ | refine za5 ?_ | refine zbp rfl ?_ | refine zbx rfl rfl ?_ | refine zby rfl ?_ | refine zab rfl ?_ | refine zau rfl rfl ?_ | refine zaq rfl rfl rfl rfl ?_ | refine zar rfl rfl rfl rfl rfl rfl rfl ?_ | refine zag rfl ?_ | refine za6 rfl rfl rfl ?_ | refine za1 rfl rfl rfl ?_ | refine za9 rfl rfl rfl rfl ?_ | refine zat ?_ | refine zap rfl rfl ?_ | refine zao rfl rfl ?_ | refine zbz rfl rfl ?_ | refine zbe rfl rfl ?_ | refine zaw rfl rfl ?_ | refine zad rfl rfl ?_ | refine zbg rfl rfl ?_ | refine zaa rfl rfl rfl ?_ | refine zax rfl rfl ?_ | refine zan rfl rfl rfl rfl ?_ | refine za8 rfl rfl rfl rfl ?_ | refine zaj rfl rfl rfl rfl ?_ | refine zb6 rfl rfl ?_ | refine zb5 rfl rfl ?_ | refine za7 rfl rfl ?_ | refine zb9 ?_ | refine zak env0_ok rfl rfl rfl ?_ | refine zaf (op := .add) rfl rfl rfl ?_ | refine zaf (op := .sub) rfl rfl rfl ?_ | refine zb8 rfl rfl rfl ?_ | refine zb7 rfl rfl rfl ?_ | refine zb4 rfl rfl rfl ?_ | refine zb0 rfl rfl rfl ?_ | refine zb1 rfl rfl (by omega) (by assumption) rfl ?_ | refine za1 rfl rfl (decide_eq_true ⟨by omega, by omega⟩) ?_ | refine zav rfl rfl (by omega) (by omega) ?_ | refine zai rfl rfl rfl ?_ | refine zbb rfl ?_ | refine zba rfl ?_)
   refine zdf ?_
   cases D with
   | nil =>
    repeat (first | refine zal ?_ | refine za0 rfl ?_ | refine zac ?_ | refine zae ?_ | refine zbf ?_ | refine zah ?_ | refine zas ?_ | refine zbm rfl ?_ | refine zbl rfl ?_ | refine zb3 ?_ | refine zbc ?_ | refine zb2 ?_ | refine za4 ?_ | refine za2 rfl ?_ | refine za3 ?_ | refine za5 ?_ | refine zbp rfl ?_ | refine zbx rfl rfl ?_ | refine zby rfl ?_ | refine zab rfl ?_ | refine zau rfl rfl ?_ | refine zaq rfl rfl rfl rfl ?_ | refine zar rfl rfl rfl rfl rfl rfl rfl ?_ | refine zag rfl ?_ | refine za6 rfl rfl rfl ?_ | refine za1 rfl rfl rfl ?_ | refine za9 rfl rfl rfl rfl ?_ | refine zat ?_ | refine zap rfl rfl ?_ | refine zao rfl rfl ?_ | refine zbz rfl rfl ?_ | refine zbe rfl rfl ?_ | refine zaw rfl rfl ?_ | refine zad rfl rfl ?_ | refine zbg rfl rfl ?_ | refine zaa rfl rfl rfl ?_ | refine zax rfl rfl ?_ | refine zan rfl rfl rfl rfl ?_ | refine za8 rfl rfl rfl rfl ?_ | refine zaj rfl rfl rfl rfl ?_ | refine zb6 rfl rfl ?_ | refine zb5 rfl rfl ?_ | refine za7 rfl rfl ?_ | refine zb9 ?_ | refine zak env0_ok rfl rfl rfl ?_ | refine zaf (op := .add) rfl rfl rfl ?_ | refine zaf (op := .sub) rfl rfl rfl ?_ | refine zb8 rfl rfl rfl ?_ | refine zb7 rfl rfl rfl ?_ | refine zb4 rfl rfl rfl ?_ | refine zb0 rfl rfl rfl ?_ | refine zb1 rfl rfl (by omega) (by assumption) rfl ?_ | refine za1 rfl rfl (decide_eq_true ⟨by omega, by omega⟩) ?_ | refine zav rfl rfl (by omega) (by omega) ?_ | refine zai rfl rfl rfl ?_ | refine zbb rfl ?_ | refine zba rfl ?_)
    exact zbj ⟨.inr rfl, _, rfl, rfl⟩
   | cons c E =>
    repeat (first | refine zal ?_ | refine za0 rfl ?_ | refine zac ?_ | refine zae ?_ | refine zbf ?_ | refine zah ?_ | refine zas ?_ | refine zbm rfl ?_ | refine zbl rfl ?_ | refine zb3 ?_ | refine zbc ?_ | refine zb2 ?_ | refine za4 ?_ | refine za2 rfl ?_ | refine za3 ?_ | refine za5 ?_ | refine zbp rfl ?_ | refine zbx rfl rfl ?_ | refine zby rfl ?_ | refine zab rfl ?_ | refine zau rfl rfl ?_ | refine zaq rfl rfl rfl rfl ?_ | refine zar rfl rfl rfl rfl rfl rfl rfl ?_ | refine zag rfl ?_ | refine za6 rfl rfl rfl ?_ | refine za1 rfl rfl rfl ?_ | refine za9 rfl rfl rfl rfl ?_ | refine zat ?_ | refine zap rfl rfl ?_ | refine zao rfl rfl ?_ | refine zbz rfl rfl ?_ | refine zbe rfl rfl ?_ | refine zaw rfl rfl ?_ | refine zad rfl rfl ?_ | refine zbg rfl rfl ?_ | refine zaa rfl rfl rfl ?_ | refine zax rfl rfl ?_ | refine zan rfl rfl rfl rfl ?_ | refine za8 rfl rfl rfl rfl ?_ | refine zaj rfl rfl rfl rfl ?_ | refine zb6 rfl rfl ?_ | refine zb5 rfl rfl ?_ | refine za7 rfl rfl ?_ | refine zb9 ?_ | refine zak env0_ok rfl rfl rfl ?_ | refine zaf (op := .add) rfl rfl rfl ?_ | refine zaf (op := .sub) rfl rfl rfl ?_ | refine zb8 rfl rfl rfl ?_ | refine zb7 rfl rfl rfl ?_ | refine zb4 rfl rfl rfl ?_ | refine zb0 rfl rfl rfl ?_ | refine zb1 rfl rfl (by omega) (by assumption) rfl ?_ | refine za1 rfl rfl (decide_eq_true ⟨by omega, by omega⟩) ?_ | refine zav rfl rfl (by omega) (by omega) ?_ | refine zai rfl rfl rfl ?_ | refine zbb rfl ?_ | refine zba rfl ?_)
    exact zbj ⟨.inr rfl, _, rfl, rfl⟩
 ·rw [if_neg hc]
  repeat (first | refine zal ?_ | refine za0 rfl ?_ | refine zac ?_ | refine zae ?_ | refine zbf ?_ | refine zah ?_ | refine zas ?_ | refine zbm rfl ?_ | refine zbl rfl ?_ | refine zb3 ?_ | refine zbc ?_ | refine zb2 ?_ | refine za4 ?_ | refine za2 rfl ?_ | refine za3 ?_ | refine za5 ?_ | refine zbp rfl ?_ | refine zbx rfl rfl ?_ | refine zby rfl ?_ | refine zab rfl ?_ | refine zau rfl rfl ?_ | refine zaq rfl rfl rfl rfl ?_ | refine zar rfl rfl rfl rfl rfl rfl rfl ?_ | refine zag rfl ?_ | refine za6 rfl rfl rfl ?_ | refine za1 rfl rfl rfl ?_ | refine za9 rfl rfl rfl rfl ?_ | refine zat ?_ | refine zap rfl rfl ?_ | refine zao rfl rfl ?_ | refine zbz rfl rfl ?_ | refine zbe rfl rfl ?_ | refine zaw rfl rfl ?_ | refine zad rfl rfl ?_ | refine zbg rfl rfl ?_ | refine zaa rfl rfl rfl ?_ | refine zax rfl rfl ?_ | refine zan rfl rfl rfl rfl ?_ | refine za8 rfl rfl rfl rfl ?_ | refine zaj rfl rfl rfl rfl ?_ | refine zb6 rfl rfl ?_ | refine zb5 rfl rfl ?_ | refine za7 rfl rfl ?_ | refine zb9 ?_ | refine zak env0_ok rfl rfl rfl ?_ | refine zaf (op := .add) rfl rfl rfl ?_ | refine zaf (op := .sub) rfl rfl rfl ?_ | refine zb8 rfl rfl rfl ?_ | refine zb7 rfl rfl rfl ?_ | refine zb4 rfl rfl rfl ?_ | refine zb0 rfl rfl rfl ?_ | refine zb1 rfl rfl (by omega) (by assumption) rfl ?_ | refine za1 rfl rfl (decide_eq_true ⟨by omega, by omega⟩) ?_ | refine zav rfl rfl (by omega) (by omega) ?_ | refine zai rfl rfl rfl ?_ | refine zbb rfl ?_ | refine zba rfl ?_)
  refine zbv rfl rfl rfl (fun h => ?_) fun h => absurd (by simpa using h) hc
  repeat (first | refine zal ?_ | refine za0 rfl ?_ | refine zac ?_ | refine zae ?_ | refine zbf ?_ | refine zah ?_ | refine zas ?_ | refine zbm rfl ?_ | refine zbl rfl ?_ | refine zb3 ?_ | refine zbc ?_ | refine zb2 ?_ | refine za4 ?_ | refine za2 rfl ?_ | refine za3 ?_ | refine za5 ?_ | refine zbp rfl ?_ | refine zbx rfl rfl ?_ | refine zby rfl ?_ | refine zab rfl ?_ | refine zau rfl rfl ?_ | refine zaq rfl rfl rfl rfl ?_ | refine zar rfl rfl rfl rfl rfl rfl rfl ?_ | refine zag rfl ?_ | refine za6 rfl rfl rfl ?_ | refine za1 rfl rfl rfl ?_ | refine za9 rfl rfl rfl rfl ?_ | refine zat ?_ | refine zap rfl rfl ?_ | refine zao rfl rfl ?_ | refine zbz rfl rfl ?_ | refine zbe rfl rfl ?_ | refine zaw rfl rfl ?_ | refine zad rfl rfl ?_ | refine zbg rfl rfl ?_ | refine zaa rfl rfl rfl ?_ | refine zax rfl rfl ?_ | refine zan rfl rfl rfl rfl ?_ | refine za8 rfl rfl rfl rfl ?_ | refine zaj rfl rfl rfl rfl ?_ | refine zb6 rfl rfl ?_ | refine zb5 rfl rfl ?_ | refine za7 rfl rfl ?_ | refine zb9 ?_ | refine zak env0_ok rfl rfl rfl ?_ | refine zaf (op := .add) rfl rfl rfl ?_ | refine zaf (op := .sub) rfl rfl rfl ?_ | refine zb8 rfl rfl rfl ?_ | refine zb7 rfl rfl rfl ?_ | refine zb4 rfl rfl rfl ?_ | refine zb0 rfl rfl rfl ?_ | refine zb1 rfl rfl (by omega) (by assumption) rfl ?_ | refine za1 rfl rfl (decide_eq_true ⟨by omega, by omega⟩) ?_ | refine zav rfl rfl (by omega) (by omega) ?_ | refine zai rfl rfl rfl ?_ | refine zbb rfl ?_ | refine zba rfl ?_)
  exact zbj ⟨.inr rfl, _, rfl, rfl⟩
end Go.Proofs.Ytknomkcdpcnmaaa
