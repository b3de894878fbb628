/-
  THE FIRST AND THE FEWEST OF THE REFERENCE: First, Fewest.
-/
import Derived.Test.YtknomkcdpcnmaaaXRB
import Derived.Test.YtknomkcdpcnmaaaXVB
namespace Go.Proofs.Ytknomkcdpcnmaaa
open Go Go.Am
def b59_2 : IC := .seq (.region [⟨(some 21), .bin .lss (.t 20) (.t 19), none⟩] none)
 (.seq (.cond (.t 21) (.skip)
 (.exit 2))
 (.seq (.block 3 (.seq (.region [⟨(some 22), .idxs 1 (.t 18) (.t 20), none⟩,
  ⟨(some 23), .load none (.t 22), none⟩,
  ⟨(some 6), .mov (.t 23), none⟩] none)
 (.seq (.region [⟨(some 24), .load (some 2) (.t 1), none⟩,
  ⟨(some 25), .mov (.t 6), none⟩,
  ⟨(some 26), .call (.c (.fn 60 [] [])) [(.t 24), (.t 25)], none⟩,
  ⟨(some 27), .faddr 0 (.t 1), none⟩,
  ⟨(some 28), .load none (.t 27), none⟩,
  ⟨(some 29), .call (.c (.fn 54 [] [])) [(.t 28)], none⟩,
  ⟨(some 30), .bin .eql (.t 26) (.t 29), none⟩] (some [[], [], [0, 1], [], [3], [4, 2], [2, 5]]))
 (.cond (.t 30) (.seq (.region [⟨(some 31), .mov (.t 6), none⟩,
  ⟨(some 2), .mov (.t 31), none⟩,
  ⟨(some 3), .mov (.c (.bool true)), none⟩] none)
 (.ret))
 (.skip)))))
 (.region [⟨(some 32), .bin .add (.t 20) (.c (.int .i64 1)), none⟩,
  ⟨(some 20), .mov (.t 32), none⟩] none)))
def b59_0 : IC := .seq (.seq (.region [⟨(some 7), .mov (.t 4), none⟩,
  ⟨(some 8), .faddr 1 (.t 1), none⟩,
  ⟨(some 9), .load none (.t 8), none⟩,
  ⟨(some 10), .len false (.t 9), none⟩,
  ⟨(some 11), .bin .leq (.t 7) (.t 10), none⟩] none)
 (.cond (.t 11) (.skip)
 (.exit 0)))
 (.seq (.block 1 (.seq (.region [⟨(some 14), .faddr 1 (.t 1), none⟩,
  ⟨(some 15), .load none (.t 14), none⟩,
  ⟨(some 16), .len false (.t 15), none⟩,
  ⟨(some 17), .mov (.t 4), none⟩,
  ⟨(some 18), .call (.c (.fn 46 [] [])) [(.t 16), (.t 17)], none⟩,
  ⟨(some 19), .len false (.t 18), none⟩,
  ⟨(some 20), .mov (.c (.int .i64 0)), none⟩] none)
 (.block 2 (.loop b59_2))))
 (.region [⟨(some 12), .mov (.t 4), none⟩,
  ⟨(some 13), .bin .add (.t 12) (.c (.int .i64 1)), none⟩,
  ⟨(some 4), .mov (.t 13), none⟩] none))
-- pneumatic/pneumaticref09.First
def ic59 : IC := .seq (.region [⟨(some 1), .box (.t 0), none⟩,
  ⟨(some 2), .mov (.c (.nils)), none⟩,
  ⟨(some 3), .mov (.c (.bool false)), none⟩] none)
 (.seq (.seq (.region [⟨(some 4), .mov (.c (.int .i64 0)), none⟩] none)
 (.block 0 (.loop b59_0)))
 (.seq (.region [⟨(some 2), .mov (.c (.nils)), none⟩,
  ⟨(some 3), .mov (.c (.bool false)), none⟩] none)
 (.ret)))
theorem fn59 : env0.fn 59 = some ⟨33, ic59, [.t 2, .t 3]⟩ := by kernel_rfl
def firV (n : Int) (s : List (BitVec 64)) : AV := match zk3 n s with | some c => .tup [vsI c, .bool true] | none => .tup [.vs [], .bool false]
set_option maxHeartbeats 4000000 in
theorem ztf (n : Int) (s : List (BitVec 64)) (hc : ze8 n s = 0) (hs : s.length ≤ 12) : PF Try.prog 59 [cF n s] (firV n s) := by
 obtain ⟨n0, n1, s1, _⟩ := zg2 hc
 have hcl := zcj s
 have pA := all54 n0
 refine zc2 env0_ok fn59 [(0, cF n s)] (by show 1 ≤ 33; decide) rfl fun w0 N0 => ?_
 unfold ic59 firV
 refine zan (za1 rfl (zbf (cs := [.int .i64 n, .vs (cUs s)]) rfl rfl (zab rfl (zab rfl (zai (zaj ?_))))))
 refine zd8 [] [(0, 0, [.int .i64 n, .vs (cUs s)])] [(1, .vptr [.int .i64 n, .vs (cUs s)])] rfl (.cons rfl rfl .nil) .nil (.cons rfl (.fptr rfl rfl) .nil) ?_
 repeat (first | refine zan ?_ | refine za1 rfl ?_ | refine zai ?_ | refine zaj ?_ | refine zbe ?_ | refine zak ?_ | refine zat ?_ | refine zbl rfl ?_ | refine zbk rfl ?_ | refine zb2 ?_ | refine zbc ?_ | refine zb1 ?_ | refine za4 ?_ | refine za2 rfl ?_ | refine za3 ?_ | refine za5 ?_ | refine zbn rfl ?_ | refine zbs rfl rfl ?_ | refine zbz rfl ?_ | refine zab rfl ?_ | refine zax rfl rfl ?_ | refine zap rfl rfl rfl rfl ?_ | refine zaq rfl rfl rfl rfl rfl rfl rfl ?_ | refine zae rfl ?_ | refine za6 rfl rfl rfl ?_ | refine za0 rfl rfl rfl ?_ | refine za9 rfl rfl rfl rfl ?_ | refine zar ?_ | refine zao rfl rfl ?_ | refine zam rfl rfl ?_ | refine zc0 rfl rfl ?_ | refine zbd rfl rfl ?_ | refine zav rfl rfl ?_ | refine zac rfl rfl ?_ | refine zbf rfl rfl ?_ | refine zaa rfl rfl rfl ?_ | refine zaw rfl rfl ?_ | refine zal rfl rfl rfl rfl ?_ | refine za8 rfl rfl rfl rfl ?_ | refine zag rfl rfl rfl rfl ?_ | refine zb5 rfl rfl ?_ | refine zb4 rfl rfl ?_ | refine za7 rfl rfl ?_ | refine zb8 ?_ | refine zah env0_ok rfl rfl rfl ?_ | refine zad (op := .add) rfl rfl rfl ?_ | refine zad (op := .sub) rfl rfl rfl ?_ | refine zb7 rfl rfl rfl ?_ | refine zb6 rfl rfl rfl ?_ | refine zb3 rfl rfl rfl ?_ | refine zaz rfl rfl rfl ?_ | refine zb0 rfl rfl (by omega) (by assumption) rfl ?_ | refine za0 rfl rfl (decide_eq_true ⟨by omega, by omega⟩) ?_ | refine zau rfl rfl (by omega) (by omega) ?_ | refine zaf rfl rfl rfl ?_ | refine zba rfl ?_ | refine zb9 rfl ?_)
 refine zcd (fun mm S => ∃ j, mm = s.length + 1 - j ∧ j ≤ s.length + 1 ∧ zk3 n s = (ascM s.length j (s.length + 1 - j)).find? (znk n s) ∧ S = st 33 [(1, .vptr [.int .i64 n, .vs (cUs s)]), (4, .int .i64 (j : Nat))] [] 0 1) (s.length + 1)
  (zbg (.cons rfl (.cons rfl .nil))) ⟨0, rfl, Nat.zero_le _, rfl, rfl⟩ ?_
 rintro mm S ⟨j, rfl, hj, hF, rfl⟩
 unfold b59_0
 repeat (first | refine zan ?_ | refine za1 rfl ?_ | refine zai ?_ | refine zaj ?_ | refine zbe ?_ | refine zak ?_ | refine zat ?_ | refine zbl rfl ?_ | refine zbk rfl ?_ | refine zb2 ?_ | refine zbc ?_ | refine zb1 ?_ | refine za4 ?_ | refine za2 rfl ?_ | refine za3 ?_ | refine za5 ?_ | refine zbn rfl ?_ | refine zbs rfl rfl ?_ | refine zbz rfl ?_ | refine zab rfl ?_ | refine zax rfl rfl ?_ | refine zap rfl rfl rfl rfl ?_ | refine zaq rfl rfl rfl rfl rfl rfl rfl ?_ | refine zae rfl ?_ | refine za6 rfl rfl rfl ?_ | refine za0 rfl rfl rfl ?_ | refine za9 rfl rfl rfl rfl ?_ | refine zar ?_ | refine zao rfl rfl ?_ | refine zam rfl rfl ?_ | refine zc0 rfl rfl ?_ | refine zbd rfl rfl ?_ | refine zav rfl rfl ?_ | refine zac rfl rfl ?_ | refine zbf rfl rfl ?_ | refine zaa rfl rfl rfl ?_ | refine zaw rfl rfl ?_ | refine zal rfl rfl rfl rfl ?_ | refine za8 rfl rfl rfl rfl ?_ | refine zag rfl rfl rfl rfl ?_ | refine zb5 rfl rfl ?_ | refine zb4 rfl rfl ?_ | refine za7 rfl rfl ?_ | refine zb8 ?_ | refine zah env0_ok rfl rfl rfl ?_ | refine zad (op := .add) rfl rfl rfl ?_ | refine zad (op := .sub) rfl rfl rfl ?_ | refine zb7 rfl rfl rfl ?_ | refine zb6 rfl rfl rfl ?_ | refine zb3 rfl rfl rfl ?_ | refine zaz rfl rfl rfl ?_ | refine zb0 rfl rfl (by omega) (by assumption) rfl ?_ | refine za0 rfl rfl (decide_eq_true ⟨by omega, by omega⟩) ?_ | refine zau rfl rfl (by omega) (by omega) ?_ | refine zaf rfl rfl rfl ?_ | refine zba rfl ?_ | refine zb9 rfl ?_)
 refine zbr rfl rfl rfl (fun h3 => ?_) fun h3 => ?_
 ·have hlt : j ≤ s.length := by
   have : ((j : Nat) : Int) ≤ ((cUs s).length : Nat) := of_decide_eq_true h3
   omega
  have pL := zua (cUs s).length (by omega) j (by omega)
  rw [show s.length + 1 - j = (s.length - j) + 1 by omega, zmd] at hF
  have hmem : ∀ c ∈ asc (cUs s).length j 0, c.length = j ∧ ∀ z ∈ c, ((0 : Nat) : Int) ≤ z ∧ z < (cUs s).length := fun c hc => zih hc
  have hcnt := zig (cUs s).length j 0
  have h2N : 2 ^ ((cUs s).length - 0) ≤ 2 ^ 12 := Nat.pow_le_pow_right (by decide) (by omega)
  have hF : zk3 n s = (asc (cUs s).length j 0 ++ ascM s.length (j + 1) (s.length - j)).find? (znk n s) := by rw [hcl]; exact hF
  generalize asc (cUs s).length j 0 = L at *
  have hcs := zt4 L
  have w2 : IntKind.wrap .i64 (((j : Nat) : Int) + 1) = ((j + 1 : Nat) : Int) := zbo j (by omega)
  repeat (first | refine zan ?_ | refine za1 rfl ?_ | refine zai ?_ | refine zaj ?_ | refine zbe ?_ | refine zak ?_ | refine zat ?_ | refine zbl rfl ?_ | refine zbk rfl ?_ | refine zb2 ?_ | refine zbc ?_ | refine zb1 ?_ | refine za4 ?_ | refine za2 rfl ?_ | refine za3 ?_ | refine za5 ?_ | refine zbn rfl ?_ | refine zbs rfl rfl ?_ | refine zbz rfl ?_ | refine zab rfl ?_ | refine zax rfl rfl ?_ | refine zap rfl rfl rfl rfl ?_ | refine zaq rfl rfl rfl rfl rfl rfl rfl ?_ | refine zae rfl ?_ | refine za6 rfl rfl rfl ?_ | refine za0 rfl rfl rfl ?_ | refine za9 rfl rfl rfl rfl ?_ | refine zar ?_ | refine zao rfl rfl ?_ | refine zam rfl rfl ?_ | refine zc0 rfl rfl ?_ | refine zbd rfl rfl ?_ | refine zav rfl rfl ?_ | refine zac rfl rfl ?_ | refine zbf rfl rfl ?_ | refine zaa rfl rfl rfl ?_ | refine zaw rfl rfl ?_ | refine zal rfl rfl rfl rfl ?_ | refine za8 rfl rfl rfl rfl ?_ | refine zag rfl rfl rfl rfl ?_ | refine zb5 rfl rfl ?_ | refine zb4 rfl rfl ?_ | refine za7 rfl rfl ?_ | refine zb8 ?_ | refine zah env0_ok rfl rfl rfl ?_ | refine zad (op := .add) rfl rfl rfl ?_ | refine zad (op := .sub) rfl rfl rfl ?_ | refine zb7 rfl rfl rfl ?_ | refine zb6 rfl rfl rfl ?_ | refine zb3 rfl rfl rfl ?_ | refine zaz rfl rfl rfl ?_ | refine zb0 rfl rfl (by omega) (by assumption) rfl ?_ | refine za0 rfl rfl (decide_eq_true ⟨by omega, by omega⟩) ?_ | refine zau rfl rfl (by omega) (by omega) ?_ | refine zaf rfl rfl rfl ?_ | refine zba rfl ?_ | refine zb9 rfl ?_)
  refine zbw rfl rfl pL (fun h => Bool.noConfusion (show false = true from h)) ?_
  unfold css
  repeat (first | refine zan ?_ | refine za1 rfl ?_ | refine zai ?_ | refine zaj ?_ | refine zbe ?_ | refine zak ?_ | refine zat ?_ | refine zbl rfl ?_ | refine zbk rfl ?_ | refine zb2 ?_ | refine zbc ?_ | refine zb1 ?_ | refine za4 ?_ | refine za2 rfl ?_ | refine za3 ?_ | refine za5 ?_ | refine zbn rfl ?_ | refine zbs rfl rfl ?_ | refine zbz rfl ?_ | refine zab rfl ?_ | refine zax rfl rfl ?_ | refine zap rfl rfl rfl rfl ?_ | refine zaq rfl rfl rfl rfl rfl rfl rfl ?_ | refine zae rfl ?_ | refine za6 rfl rfl rfl ?_ | refine za0 rfl rfl rfl ?_ | refine za9 rfl rfl rfl rfl ?_ | refine zar ?_ | refine zao rfl rfl ?_ | refine zam rfl rfl ?_ | refine zc0 rfl rfl ?_ | refine zbd rfl rfl ?_ | refine zav rfl rfl ?_ | refine zac rfl rfl ?_ | refine zbf rfl rfl ?_ | refine zaa rfl rfl rfl ?_ | refine zaw rfl rfl ?_ | refine zal rfl rfl rfl rfl ?_ | refine za8 rfl rfl rfl rfl ?_ | refine zag rfl rfl rfl rfl ?_ | refine zb5 rfl rfl ?_ | refine zb4 rfl rfl ?_ | refine za7 rfl rfl ?_ | refine zb8 ?_ | refine zah env0_ok rfl rfl rfl ?_ | refine zad (op := .add) rfl rfl rfl ?_ | refine zad (op := .sub) rfl rfl rfl ?_ | refine zb7 rfl rfl rfl ?_ | refine zb6 rfl rfl rfl ?_ | refine zb3 rfl rfl rfl ?_ | refine zaz rfl rfl rfl ?_ | refine zb0 rfl rfl (by omega) (by assumption) rfl ?_ | refine za0 rfl rfl (decide_eq_true ⟨by omega, by omega⟩) ?_ | refine zau rfl rfl (by omega) (by omega) ?_ | refine zaf rfl rfl rfl ?_ | refine zba rfl ?_ | refine zb9 rfl ?_)
  refine zcd (fun mm S => ∃ i, mm = L.length - i ∧ i ≤ L.length ∧ zk3 n s = (L.drop i ++ ascM s.length (j + 1) (s.length - j)).find? (znk n s) ∧ S = st 33 [(1, .vptr [.int .i64 n, .vs (cUs s)]), (4, .int .i64 (j : Nat)), (18, css L), (19, .int .i64 (L.length : Nat)), (20, .int .i64 (i : Nat))] [] 0 1) L.length
   (zbg (.cons rfl (.cons rfl (.cons rfl (.cons (by rw [← hcs]; rfl) (.cons rfl .nil)))))) ⟨0, rfl, Nat.zero_le _, hF, rfl⟩ ?_
  rintro mm S ⟨i, rfl, hi, hG, rfl⟩
  unfold b59_2
  repeat (first | refine zan ?_ | refine za1 rfl ?_ | refine zai ?_ | refine zaj ?_ | refine zbe ?_ | refine zak ?_ | refine zat ?_ | refine zbl rfl ?_ | refine zbk rfl ?_ | refine zb2 ?_ | refine zbc ?_ | refine zb1 ?_ | refine za4 ?_ | refine za2 rfl ?_ | refine za3 ?_ | refine za5 ?_ | refine zbn rfl ?_ | refine zbs rfl rfl ?_ | refine zbz rfl ?_ | refine zab rfl ?_ | refine zax rfl rfl ?_ | refine zap rfl rfl rfl rfl ?_ | refine zaq rfl rfl rfl rfl rfl rfl rfl ?_ | refine zae rfl ?_ | refine za6 rfl rfl rfl ?_ | refine za0 rfl rfl rfl ?_ | refine za9 rfl rfl rfl rfl ?_ | refine zar ?_ | refine zao rfl rfl ?_ | refine zam rfl rfl ?_ | refine zc0 rfl rfl ?_ | refine zbd rfl rfl ?_ | refine zav rfl rfl ?_ | refine zac rfl rfl ?_ | refine zbf rfl rfl ?_ | refine zaa rfl rfl rfl ?_ | refine zaw rfl rfl ?_ | refine zal rfl rfl rfl rfl ?_ | refine za8 rfl rfl rfl rfl ?_ | refine zag rfl rfl rfl rfl ?_ | refine zb5 rfl rfl ?_ | refine zb4 rfl rfl ?_ | refine za7 rfl rfl ?_ | refine zb8 ?_ | refine zah env0_ok rfl rfl rfl ?_ | refine zad (op := .add) rfl rfl rfl ?_ | refine zad (op := .sub) rfl rfl rfl ?_ | refine zb7 rfl rfl rfl ?_ | refine zb6 rfl rfl rfl ?_ | refine zb3 rfl rfl rfl ?_ | refine zaz rfl rfl rfl ?_ | refine zb0 rfl rfl (by omega) (by assumption) rfl ?_ | refine za0 rfl rfl (decide_eq_true ⟨by omega, by omega⟩) ?_ | refine zau rfl rfl (by omega) (by omega) ?_ | refine zaf rfl rfl rfl ?_ | refine zba rfl ?_ | refine zb9 rfl ?_)
  refine zbr rfl rfl rfl (fun h4 => ?_) fun h4 => ?_
  ·have hlt2 : i < L.length := Int.ofNat_lt.1 (of_decide_eq_true h4)
   have hg := zt3 hlt2
   have hm := hmem _ (List.getElem_mem hlt2)
   have w1 : IntKind.wrap .i64 (((i : Nat) : Int) + 1) = ((i + 1 : Nat) : Int) := zbo i (by omega)
   rw [List.drop_eq_getElem_cons hlt2, List.cons_append, List.find?_cons] at hG
   have pU := zvm n s L[i] (by rw [hm.1]; omega) (fun z hz => by have := hm.2 z hz; omega)
   generalize L[i] = c at *
   repeat (first | refine zan ?_ | refine za1 rfl ?_ | refine zai ?_ | refine zaj ?_ | refine zbe ?_ | refine zak ?_ | refine zat ?_ | refine zbl rfl ?_ | refine zbk rfl ?_ | refine zb2 ?_ | refine zbc ?_ | refine zb1 ?_ | refine za4 ?_ | refine za2 rfl ?_ | refine za3 ?_ | refine za5 ?_ | refine zbn rfl ?_ | refine zbs rfl rfl ?_ | refine zbz rfl ?_ | refine zab rfl ?_ | refine zax rfl rfl ?_ | refine zap rfl rfl rfl rfl ?_ | refine zaq rfl rfl rfl rfl rfl rfl rfl ?_ | refine zae rfl ?_ | refine za6 rfl rfl rfl ?_ | refine za0 rfl rfl rfl ?_ | refine za9 rfl rfl rfl rfl ?_ | refine zar ?_ | refine zao rfl rfl ?_ | refine zam rfl rfl ?_ | refine zc0 rfl rfl ?_ | refine zbd rfl rfl ?_ | refine zav rfl rfl ?_ | refine zac rfl rfl ?_ | refine zbf rfl rfl ?_ | refine zaa rfl rfl rfl ?_ | refine zaw rfl rfl ?_ | refine zal rfl rfl rfl rfl ?_ | refine za8 rfl rfl rfl rfl ?_ | refine zag rfl rfl rfl rfl ?_ | refine zb5 rfl rfl ?_ | refine zb4 rfl rfl ?_ | refine za7 rfl rfl ?_ | refine zb8 ?_ | refine zad (op := .add) rfl rfl rfl ?_ | refine zad (op := .sub) rfl rfl rfl ?_ | refine zb7 rfl rfl rfl ?_ | refine zb6 rfl rfl rfl ?_ | refine zb3 rfl rfl rfl ?_ | refine zaz rfl rfl rfl ?_ | refine zb0 rfl rfl (by omega) (by assumption) rfl ?_ | refine za0 rfl rfl (decide_eq_true ⟨by omega, by omega⟩) ?_ | refine zau rfl rfl (by omega) (by omega) ?_ | refine zaf rfl rfl rfl ?_ | refine zba rfl ?_ | refine zb9 rfl ?_)
   refine zgk env0_ok [(60, [cF n s, vsI c], cU (uni s c)), (54, [.int .i64 n], cU (zd3 n))] (fun x hx => by
    rcases List.mem_cons.1 hx with rfl | hx
    ·exact pU
    obtain rfl := List.mem_singleton.1 hx
    exact pA) (fun f => Nat.beq f 60 || Nat.beq f 54) rfl rfl rfl ?_
   repeat (first | refine zan ?_ | refine za1 rfl ?_ | refine zai ?_ | refine zaj ?_ | refine zbe ?_ | refine zak ?_ | refine zat ?_ | refine zbl rfl ?_ | refine zbk rfl ?_ | refine zb2 ?_ | refine zbc ?_ | refine zb1 ?_ | refine za4 ?_ | refine za2 rfl ?_ | refine za3 ?_ | refine za5 ?_ | refine zbn rfl ?_ | refine zbs rfl rfl ?_ | refine zbz rfl ?_ | refine zab rfl ?_ | refine zax rfl rfl ?_ | refine zap rfl rfl rfl rfl ?_ | refine zaq rfl rfl rfl rfl rfl rfl rfl ?_ | refine zae rfl ?_ | refine za6 rfl rfl rfl ?_ | refine za0 rfl rfl rfl ?_ | refine za9 rfl rfl rfl rfl ?_ | refine zar ?_ | refine zao rfl rfl ?_ | refine zam rfl rfl ?_ | refine zc0 rfl rfl ?_ | refine zbd rfl rfl ?_ | refine zav rfl rfl ?_ | refine zac rfl rfl ?_ | refine zbf rfl rfl ?_ | refine zaa rfl rfl rfl ?_ | refine zaw rfl rfl ?_ | refine zal rfl rfl rfl rfl ?_ | refine za8 rfl rfl rfl rfl ?_ | refine zag rfl rfl rfl rfl ?_ | refine zb5 rfl rfl ?_ | refine zb4 rfl rfl ?_ | refine za7 rfl rfl ?_ | refine zb8 ?_ | refine zah env0_ok rfl rfl rfl ?_ | refine zad (op := .add) rfl rfl rfl ?_ | refine zad (op := .sub) rfl rfl rfl ?_ | refine zb7 rfl rfl rfl ?_ | refine zb6 rfl rfl rfl ?_ | refine zb3 rfl rfl rfl ?_ | refine zaz rfl rfl rfl ?_ | refine zb0 rfl rfl (by omega) (by assumption) rfl ?_ | refine za0 rfl rfl (decide_eq_true ⟨by omega, by omega⟩) ?_ | refine zau rfl rfl (by omega) (by omega) ?_ | refine zaf rfl rfl rfl ?_ | refine zba rfl ?_ | refine zb9 rfl ?_)
   refine zbw rfl rfl zcz (fun h => Bool.noConfusion (show false = true from h)) ?_
   repeat (first | refine zan ?_ | refine za1 rfl ?_ | refine zai ?_ | refine zaj ?_ | refine zbe ?_ | refine zak ?_ | refine zat ?_ | refine zbl rfl ?_ | refine zbk rfl ?_ | refine zb2 ?_ | refine zbc ?_ | refine zb1 ?_ | refine za4 ?_ | refine za2 rfl ?_ | refine za3 ?_ | refine za5 ?_ | refine zbn rfl ?_ | refine zbs rfl rfl ?_ | refine zbz rfl ?_ | refine zab rfl ?_ | refine zax rfl rfl ?_ | refine zap rfl rfl rfl rfl ?_ | refine zaq rfl rfl rfl rfl rfl rfl rfl ?_ | refine zae rfl ?_ | refine za6 rfl rfl rfl ?_ | refine za0 rfl rfl rfl ?_ | refine za9 rfl rfl rfl rfl ?_ | refine zar ?_ | refine zao rfl rfl ?_ | refine zam rfl rfl ?_ | refine zc0 rfl rfl ?_ | refine zbd rfl rfl ?_ | refine zav rfl rfl ?_ | refine zac rfl rfl ?_ | refine zbf rfl rfl ?_ | refine zaa rfl rfl rfl ?_ | refine zaw rfl rfl ?_ | refine zal rfl rfl rfl rfl ?_ | refine za8 rfl rfl rfl rfl ?_ | refine zag rfl rfl rfl rfl ?_ | refine zb5 rfl rfl ?_ | refine zb4 rfl rfl ?_ | refine za7 rfl rfl ?_ | refine zb8 ?_ | refine zah env0_ok rfl rfl rfl ?_ | refine zad (op := .add) rfl rfl rfl ?_ | refine zad (op := .sub) rfl rfl rfl ?_ | refine zb7 rfl rfl rfl ?_ | refine zb6 rfl rfl rfl ?_ | refine zb3 rfl rfl rfl ?_ | refine zaz rfl rfl rfl ?_ | refine zb0 rfl rfl (by omega) (by assumption) rfl ?_ | refine za0 rfl rfl (decide_eq_true ⟨by omega, by omega⟩) ?_ | refine zau rfl rfl (by omega) (by omega) ?_ | refine zaf rfl rfl rfl ?_ | refine zba rfl ?_ | refine zb9 rfl ?_)
   refine zbw rfl rfl (zep (by decide) zcz) (fun h => Bool.noConfusion (show false = true from h)) ?_
   refine zbr rfl rfl (zec _ _) (fun h6 => ?_) fun h6 => ?_
   ·rw [show znk n s c = true from h6] at hG
    rw [hG]
    repeat (first | refine zan ?_ | refine za1 rfl ?_ | refine zai ?_ | refine zaj ?_ | refine zbe ?_ | refine zak ?_ | refine zat ?_ | refine zbl rfl ?_ | refine zbk rfl ?_ | refine zb2 ?_ | refine zbc ?_ | refine zb1 ?_ | refine za4 ?_ | refine za2 rfl ?_ | refine za3 ?_ | refine za5 ?_ | refine zbn rfl ?_ | refine zbs rfl rfl ?_ | refine zbz rfl ?_ | refine zab rfl ?_ | refine zax rfl rfl ?_ | refine zap rfl rfl rfl rfl ?_ | refine zaq rfl rfl rfl rfl rfl rfl rfl ?_ | refine zae rfl ?_ | refine za6 rfl rfl rfl ?_ | refine za0 rfl rfl rfl ?_ | refine za9 rfl rfl rfl rfl ?_ | refine zar ?_ | refine zao rfl rfl ?_ | refine zam rfl rfl ?_ | refine zc0 rfl rfl ?_ | refine zbd rfl rfl ?_ | refine zav rfl rfl ?_ | refine zac rfl rfl ?_ | refine zbf rfl rfl ?_ | refine zaa rfl rfl rfl ?_ | refine zaw rfl rfl ?_ | refine zal rfl rfl rfl rfl ?_ | refine za8 rfl rfl rfl rfl ?_ | refine zag rfl rfl rfl rfl ?_ | refine zb5 rfl rfl ?_ | refine zb4 rfl rfl ?_ | refine za7 rfl rfl ?_ | refine zb8 ?_ | refine zah env0_ok rfl rfl rfl ?_ | refine zad (op := .add) rfl rfl rfl ?_ | refine zad (op := .sub) rfl rfl rfl ?_ | refine zb7 rfl rfl rfl ?_ | refine zb6 rfl rfl rfl ?_ | refine zb3 rfl rfl rfl ?_ | refine zaz rfl rfl rfl ?_ | refine zb0 rfl rfl (by omega) (by assumption) rfl ?_ | refine za0 rfl rfl (decide_eq_true ⟨by omega, by omega⟩) ?_ | refine zau rfl rfl (by omega) (by omega) ?_ | refine zaf rfl rfl rfl ?_ | refine zba rfl ?_ | refine zb9 rfl ?_)
    exact zbj ⟨.inr rfl, _, rfl, rfl⟩
   ·rw [show znk n s c = false from h6] at hG
    repeat (first | refine zan ?_ | refine za1 rfl ?_ | refine zai ?_ | refine zaj ?_ | refine zbe ?_ | refine zak ?_ | refine zat ?_ | refine zbl rfl ?_ | refine zbk rfl ?_ | refine zb2 ?_ | refine zbc ?_ | refine zb1 ?_ | refine za4 ?_ | refine za2 rfl ?_ | refine za3 ?_ | refine za5 ?_ | refine zbn rfl ?_ | refine zbs rfl rfl ?_ | refine zbz rfl ?_ | refine zab rfl ?_ | refine zax rfl rfl ?_ | refine zap rfl rfl rfl rfl ?_ | refine zaq rfl rfl rfl rfl rfl rfl rfl ?_ | refine zae rfl ?_ | refine za6 rfl rfl rfl ?_ | refine za0 rfl rfl rfl ?_ | refine za9 rfl rfl rfl rfl ?_ | refine zar ?_ | refine zao rfl rfl ?_ | refine zam rfl rfl ?_ | refine zc0 rfl rfl ?_ | refine zbd rfl rfl ?_ | refine zav rfl rfl ?_ | refine zac rfl rfl ?_ | refine zbf rfl rfl ?_ | refine zaa rfl rfl rfl ?_ | refine zaw rfl rfl ?_ | refine zal rfl rfl rfl rfl ?_ | refine za8 rfl rfl rfl rfl ?_ | refine zag rfl rfl rfl rfl ?_ | refine zb5 rfl rfl ?_ | refine zb4 rfl rfl ?_ | refine za7 rfl rfl ?_ | refine zb8 ?_ | refine zah env0_ok rfl rfl rfl ?_ | refine zad (op := .add) rfl rfl rfl ?_ | refine zad (op := .sub) rfl rfl rfl ?_ | refine zb7 rfl rfl rfl ?_ | refine zb6 rfl rfl rfl ?_ | refine zb3 rfl rfl rfl ?_ | refine zaz rfl rfl rfl ?_ | refine zb0 rfl rfl (by omega) (by assumption) rfl ?_ | refine za0 rfl rfl (decide_eq_true ⟨by omega, by omega⟩) ?_ | refine zau rfl rfl (by omega) (by omega) ?_ | refine zaf rfl rfl rfl ?_ | refine zba rfl ?_ | refine zb9 rfl ?_)
    rw [w1]
    exact zbt (show L.length - (i + 1) < L.length - i by omega) (zbg (.cons rfl (.cons rfl (.cons rfl (.cons rfl (.cons rfl .nil)))))) ⟨i + 1, rfl, hlt2, hG, rfl⟩
  ·have hi2 : i = L.length := by
    have : ¬ i < L.length := fun h => of_decide_eq_false h4 (Int.ofNat_lt.2 h)
    omega
   rw [hi2, List.drop_length, List.nil_append] at hG
   repeat (first | refine zan ?_ | refine za1 rfl ?_ | refine zai ?_ | refine zaj ?_ | refine zbe ?_ | refine zak ?_ | refine zat ?_ | refine zbl rfl ?_ | refine zbk rfl ?_ | refine zb2 ?_ | refine zbc ?_ | refine zb1 ?_ | refine za4 ?_ | refine za2 rfl ?_ | refine za3 ?_ | refine za5 ?_ | refine zbn rfl ?_ | refine zbs rfl rfl ?_ | refine zbz rfl ?_ | refine zab rfl ?_ | refine zax rfl rfl ?_ | refine zap rfl rfl rfl rfl ?_ | refine zaq rfl rfl rfl rfl rfl rfl rfl ?_ | refine zae rfl ?_ | refine za6 rfl rfl rfl ?_ | refine za0 rfl rfl rfl ?_ | refine za9 rfl rfl rfl rfl ?_ | refine zar ?_ | refine zao rfl rfl ?_ | refine zam rfl rfl ?_ | refine zc0 rfl rfl ?_ | refine zbd rfl rfl ?_ | refine zav rfl rfl ?_ | refine zac rfl rfl ?_ | refine zbf rfl rfl ?_ | refine zaa rfl rfl rfl ?_ | refine zaw rfl rfl ?_ | refine zal rfl rfl rfl rfl ?_ | refine za8 rfl rfl rfl rfl ?_ | refine zag rfl rfl rfl rfl ?_ | refine zb5 rfl rfl ?_ | refine zb4 rfl rfl ?_ | refine za7 rfl rfl ?_ | refine zb8 ?_ | refine zah env0_ok rfl rfl rfl ?_ | refine zad (op := .add) rfl rfl rfl ?_ | refine zad (op := .sub) rfl rfl rfl ?_ | refine zb7 rfl rfl rfl ?_ | refine zb6 rfl rfl rfl ?_ | refine zb3 rfl rfl rfl ?_ | refine zaz rfl rfl rfl ?_ | refine zb0 rfl rfl (by omega) (by assumption) rfl ?_ | refine za0 rfl rfl (decide_eq_true ⟨by omega, by omega⟩) ?_ | refine zau rfl rfl (by omega) (by omega) ?_ | refine zaf rfl rfl rfl ?_ | refine zba rfl ?_ | refine zb9 rfl ?_)
   refine zdd ?_
   repeat (first | refine zan ?_ | refine za1 rfl ?_ | refine zai ?_ | refine zaj ?_ | refine zbe ?_ | refine zak ?_ | refine zat ?_ | refine zbl rfl ?_ | refine zbk rfl ?_ | refine zb2 ?_ | refine zbc ?_ | refine zb1 ?_ | refine za4 ?_ | refine za2 rfl ?_ | refine za3 ?_ | refine za5 ?_ | refine zbn rfl ?_ | refine zbs rfl rfl ?_ | refine zbz rfl ?_ | refine zab rfl ?_ | refine zax rfl rfl ?_ | refine zap rfl rfl rfl rfl ?_ | refine zaq rfl rfl rfl rfl rfl rfl rfl ?_ | refine zae rfl ?_ | refine za6 rfl rfl rfl ?_ | refine za0 rfl rfl rfl ?_ | refine za9 rfl rfl rfl rfl ?_ | refine zar ?_ | refine zao rfl rfl ?_ | refine zam rfl rfl ?_ | refine zc0 rfl rfl ?_ | refine zbd rfl rfl ?_ | refine zav rfl rfl ?_ | refine zac rfl rfl ?_ | refine zbf rfl rfl ?_ | refine zaa rfl rfl rfl ?_ | refine zaw rfl rfl ?_ | refine zal rfl rfl rfl rfl ?_ | refine za8 rfl rfl rfl rfl ?_ | refine zag rfl rfl rfl rfl ?_ | refine zb5 rfl rfl ?_ | refine zb4 rfl rfl ?_ | refine za7 rfl rfl ?_ | refine zb8 ?_ | refine zah env0_ok rfl rfl rfl ?_ | refine zad (op := .add) rfl rfl rfl ?_ | refine zad (op := .sub) rfl rfl rfl ?_ | refine zb7 rfl rfl rfl ?_ | refine zb6 rfl rfl rfl ?_ | refine zb3 rfl rfl rfl ?_ | refine zaz rfl rfl rfl ?_ | refine zb0 rfl rfl (by omega) (by assumption) rfl ?_ | refine za0 rfl rfl (decide_eq_true ⟨by omega, by omega⟩) ?_ | refine zau rfl rfl (by omega) (by omega) ?_ | refine zaf rfl rfl rfl ?_ | refine zba rfl ?_ | refine zb9 rfl ?_)
   rw [w2]
   exact zbt (show s.length + 1 - (j + 1) < s.length + 1 - j by omega) (zbg (.cons rfl (.cons rfl .nil))) ⟨j + 1, rfl, by omega, by rw [show s.length + 1 - (j + 1) = s.length - j by omega]; exact hG, rfl⟩
 ·have hj2 : j = s.length + 1 := by
   have : ¬ ((j : Nat) : Int) ≤ ((cUs s).length : Nat) := of_decide_eq_false h3
   omega
  rw [hj2, Nat.sub_self] at hF
  rw [show zk3 n s = none from hF]
  repeat (first | refine zan ?_ | refine za1 rfl ?_ | refine zai ?_ | refine zaj ?_ | refine zbe ?_ | refine zak ?_ | refine zat ?_ | refine zbl rfl ?_ | refine zbk rfl ?_ | refine zb2 ?_ | refine zbc ?_ | refine zb1 ?_ | refine za4 ?_ | refine za2 rfl ?_ | refine za3 ?_ | refine za5 ?_ | refine zbn rfl ?_ | refine zbs rfl rfl ?_ | refine zbz rfl ?_ | refine zab rfl ?_ | refine zax rfl rfl ?_ | refine zap rfl rfl rfl rfl ?_ | refine zaq rfl rfl rfl rfl rfl rfl rfl ?_ | refine zae rfl ?_ | refine za6 rfl rfl rfl ?_ | refine za0 rfl rfl rfl ?_ | refine za9 rfl rfl rfl rfl ?_ | refine zar ?_ | refine zao rfl rfl ?_ | refine zam rfl rfl ?_ | refine zc0 rfl rfl ?_ | refine zbd rfl rfl ?_ | refine zav rfl rfl ?_ | refine zac rfl rfl ?_ | refine zbf rfl rfl ?_ | refine zaa rfl rfl rfl ?_ | refine zaw rfl rfl ?_ | refine zal rfl rfl rfl rfl ?_ | refine za8 rfl rfl rfl rfl ?_ | refine zag rfl rfl rfl rfl ?_ | refine zb5 rfl rfl ?_ | refine zb4 rfl rfl ?_ | refine za7 rfl rfl ?_ | refine zb8 ?_ | refine zah env0_ok rfl rfl rfl ?_ | refine zad (op := .add) rfl rfl rfl ?_ | refine zad (op := .sub) rfl rfl rfl ?_ | refine zb7 rfl rfl rfl ?_ | refine zb6 rfl rfl rfl ?_ | refine zb3 rfl rfl rfl ?_ | refine zaz rfl rfl rfl ?_ | refine zb0 rfl rfl (by omega) (by assumption) rfl ?_ | refine za0 rfl rfl (decide_eq_true ⟨by omega, by omega⟩) ?_ | refine zau rfl rfl (by omega) (by omega) ?_ | refine zaf rfl rfl rfl ?_ | refine zba rfl ?_ | refine zb9 rfl ?_)
  refine zdd ?_
  repeat (first | refine zan ?_ | refine za1 rfl ?_ | refine zai ?_ | refine zaj ?_ | refine zbe ?_ | refine zak ?_ | refine zat ?_ | refine zbl rfl ?_ | refine zbk rfl ?_ | refine zb2 ?_ | refine zbc ?_ | refine zb1 ?_ | refine za4 ?_ | refine za2 rfl ?_ | refine za3 ?_ | refine za5 ?_ | refine zbn rfl ?_ | refine zbs rfl rfl ?_ | refine zbz rfl ?_ | refine zab rfl ?_ | refine zax rfl rfl ?_ | refine zap rfl rfl rfl rfl ?_ | refine zaq rfl rfl rfl rfl rfl rfl rfl ?_ | refine zae rfl ?_ | refine za6 rfl rfl rfl ?_ | refine za0 rfl rfl rfl ?_ | refine za9 rfl rfl rfl rfl ?_ | refine zar ?_ | refine zao rfl rfl ?_ | refine zam rfl rfl ?_ | refine zc0 rfl rfl ?_ | refine zbd rfl rfl ?_ | refine zav rfl rfl ?_ | refine zac rfl rfl ?_ | refine zbf rfl rfl ?_ | refine zaa rfl rfl rfl ?_ | refine zaw rfl rfl ?_ | refine zal rfl rfl rfl rfl ?_ | refine za8 rfl rfl rfl rfl ?_ | refine zag rfl rfl rfl rfl ?_ | refine zb5 rfl rfl ?_ | refine zb4 rfl rfl ?_ | refine za7 rfl rfl ?_ | refine zb8 ?_ | refine zah env0_ok rfl rfl rfl ?_ | refine zad (op := .add) rfl rfl rfl ?_ | refine zad (op := .sub) rfl rfl rfl ?_ | refine zb7 rfl rfl rfl ?_ | refine zb6 rfl rfl rfl ?_ | refine zb3 rfl rfl rfl ?_ | refine zaz rfl rfl rfl ?_ | refine zb0 rfl rfl (by omega) (by assumption) rfl ?_ | refine za0 rfl rfl (decide_eq_true ⟨by omega, by omega⟩) ?_ | refine zau rfl rfl (by omega) (by omega) ?_ | refine zaf rfl rfl rfl ?_ | refine zba rfl ?_ | refine zb9 rfl ?_)
  exact zbj ⟨.inr rfl, _, rfl, rfl⟩
-- pneumatic/pneumaticref09.Fewest
def ic30 : IC := .seq (.region [⟨(some 1), .box (.t 0), none⟩,
  ⟨(some 2), .mov (.c (.nils)), none⟩,
  ⟨(some 3), .mov (.c (.int .i64 0)), none⟩] none)
 (.seq (.seq (.region [⟨(some 7), .load (some 2) (.t 1), none⟩,
  ⟨(some 8), .call (.c (.fn 38 [] [])) [(.t 7)], none⟩,
  ⟨(some 4), .mov (.t 8), none⟩] none)
 (.seq (.region [⟨(some 9), .mov (.t 4), none⟩,
  ⟨(some 10), .bin .neq (.t 9) (.c (.int .i64 0)), none⟩] none)
 (.cond (.t 10) (.seq (.region [⟨(some 11), .mov (.t 4), none⟩,
  ⟨(some 2), .mov (.c (.nils)), none⟩,
  ⟨(some 3), .mov (.t 11), none⟩] none)
 (.ret))
 (.skip))))
 (.seq (.region [⟨(some 13), .load (some 2) (.t 1), none⟩,
  ⟨(some 14), .call (.c (.fn 59 [] [])) [(.t 13)], none⟩,
  ⟨(some 12), .mov (.t 14), none⟩,
  ⟨(some 15), .extract (.t 12) 0, none⟩,
  ⟨(some 16), .extract (.t 12) 1, none⟩,
  ⟨(some 5), .mov (.t 15), none⟩,
  ⟨(some 6), .mov (.t 16), none⟩] none)
 (.seq (.seq (.region [⟨(some 17), .mov (.t 6), none⟩,
  ⟨(some 18), .un .not (.t 17), none⟩] none)
 (.cond (.t 18) (.seq (.region [⟨(some 2), .mov (.c (.nils)), none⟩,
  ⟨(some 3), .mov (.c (.int .i64 6)), none⟩] none)
 (.ret))
 (.skip)))
 (.seq (.region [⟨(some 19), .mov (.t 5), none⟩,
  ⟨(some 2), .mov (.t 19), none⟩,
  ⟨(some 3), .mov (.c (.int .i64 0)), none⟩] none)
 (.ret)))))
theorem fn30 : env0.fn 30 = some ⟨20, ic30, [.t 2, .t 3]⟩ := by kernel_rfl
def fewW (n : Int) (s : List (BitVec 64)) : AV := if ze8 n s = 0 then (match zk3 n s with | some c => .tup [vsI c, .int .i64 0] | none => .tup [.vs [], .int .i64 6]) else .tup [.vs [], .int .i64 (ze8 n s)]
set_option maxHeartbeats 2000000 in
theorem fewest30 (n : Int) (s : List (BitVec 64)) (hs : ze8 n s = 0 → s.length ≤ 12) : PF Try.prog 30 [cF n s] (fewW n s) := by
 have pC := znw n s
 refine zc2 env0_ok fn30 [(0, cF n s)] (by show 1 ≤ 20; decide) rfl fun w0 N0 => ?_
 unfold ic30 fewW
 refine zan (za1 rfl (zbf (cs := [.int .i64 n, .vs (cUs s)]) rfl rfl (zab rfl (zab rfl (zai (zaj ?_))))))
 refine zd8 [] [(0, 0, [.int .i64 n, .vs (cUs s)])] [(1, .vptr [.int .i64 n, .vs (cUs s)])] rfl (.cons rfl rfl .nil) .nil (.cons rfl (.fptr rfl rfl) .nil) ?_
 repeat (first | refine zan ?_ | refine za1 rfl ?_ | refine zai ?_ | refine zaj ?_ | refine zbe ?_ | refine zak ?_ | refine zat ?_ | refine zbl rfl ?_ | refine zbk rfl ?_ | refine zb2 ?_ | refine zbc ?_ | refine zb1 ?_ | refine za4 ?_ | refine za2 rfl ?_ | refine za3 ?_ | refine za5 ?_ | refine zbn rfl ?_ | refine zbs rfl rfl ?_ | refine zbz rfl ?_ | refine zab rfl ?_ | refine zax rfl rfl ?_ | refine zap rfl rfl rfl rfl ?_ | refine zaq rfl rfl rfl rfl rfl rfl rfl ?_ | refine zae rfl ?_ | refine za6 rfl rfl rfl ?_ | refine za0 rfl rfl rfl ?_ | refine za9 rfl rfl rfl rfl ?_ | refine zar ?_ | refine zao rfl rfl ?_ | refine zam rfl rfl ?_ | refine zc0 rfl rfl ?_ | refine zbd rfl rfl ?_ | refine zav rfl rfl ?_ | refine zac rfl rfl ?_ | refine zbf rfl rfl ?_ | refine zaa rfl rfl rfl ?_ | refine zaw rfl rfl ?_ | refine zal rfl rfl rfl rfl ?_ | refine za8 rfl rfl rfl rfl ?_ | refine zag rfl rfl rfl rfl ?_ | refine zb5 rfl rfl ?_ | refine zb4 rfl rfl ?_ | refine za7 rfl rfl ?_ | refine zb8 ?_ | refine zah env0_ok rfl rfl rfl ?_ | refine zad (op := .add) rfl rfl rfl ?_ | refine zad (op := .sub) rfl rfl rfl ?_ | refine zb7 rfl rfl rfl ?_ | refine zb6 rfl rfl rfl ?_ | refine zb3 rfl rfl rfl ?_ | refine zaz rfl rfl rfl ?_ | refine zb0 rfl rfl (by omega) (by assumption) rfl ?_ | refine za0 rfl rfl (decide_eq_true ⟨by omega, by omega⟩) ?_ | refine zau rfl rfl (by omega) (by omega) ?_ | refine zaf rfl rfl rfl ?_ | refine zba rfl ?_ | refine zb9 rfl ?_)
 refine zbw rfl rfl pC (fun h => Bool.noConfusion (show false = true from h)) ?_
 by_cases hc : ze8 n s = 0
 ·rw [if_pos hc, hc]
  have pF := ztf n s hc (hs hc)
  unfold firV at pF
  repeat (first | refine zan ?_ | refine za1 rfl ?_ | refine zai ?_ | refine zaj ?_ | refine zbe ?_ | refine zak ?_ | refine zat ?_ | refine zbl rfl ?_ | refine zbk rfl ?_ | refine zb2 ?_ | refine zbc ?_ | refine zb1 ?_ | refine za4 ?_ | refine za2 rfl ?_ | refine za3 ?_ | refine za5 ?_ | refine zbn rfl ?_ | refine zbs rfl rfl ?_ | refine zbz rfl ?_ | refine zab rfl ?_ | refine zax rfl rfl ?_ | refine zap rfl rfl rfl rfl ?_ | refine zaq rfl rfl rfl rfl rfl rfl rfl ?_ | refine zae rfl ?_ | refine za6 rfl rfl rfl ?_ | refine za0 rfl rfl rfl ?_ | refine za9 rfl rfl rfl rfl ?_ | refine zar ?_ | refine zao rfl rfl ?_ | refine zam rfl rfl ?_ | refine zc0 rfl rfl ?_ | refine zbd rfl rfl ?_ | refine zav rfl rfl ?_ | refine zac rfl rfl ?_ | refine zbf rfl rfl ?_ | refine zaa rfl rfl rfl ?_ | refine zaw rfl rfl ?_ | refine zal rfl rfl rfl rfl ?_ | refine za8 rfl rfl rfl rfl ?_ | refine zag rfl rfl rfl rfl ?_ | refine zb5 rfl rfl ?_ | refine zb4 rfl rfl ?_ | refine za7 rfl rfl ?_ | refine zb8 ?_ | refine zah env0_ok rfl rfl rfl ?_ | refine zad (op := .add) rfl rfl rfl ?_ | refine zad (op := .sub) rfl rfl rfl ?_ | refine zb7 rfl rfl rfl ?_ | refine zb6 rfl rfl rfl ?_ | refine zb3 rfl rfl rfl ?_ | refine zaz rfl rfl rfl ?_ | refine zb0 rfl rfl (by omega) (by assumption) rfl ?_ | refine za0 rfl rfl (decide_eq_true ⟨by omega, by omega⟩) ?_ | refine zau rfl rfl (by omega) (by omega) ?_ | refine zaf rfl rfl rfl ?_ | refine zba rfl ?_ | refine zb9 rfl ?_)
  cases hF : zk3 n s with
  | none =>
   rw [hF] at pF
   refine zbw rfl rfl pF (fun h => Bool.noConfusion (show false = true from h)) ?_
   repeat (first | refine zan ?_ | refine za1 rfl ?_ | refine zai ?_ | refine zaj ?_ | refine zbe ?_ | refine zak ?_ | refine zat ?_ | refine zbl rfl ?_ | refine zbk rfl ?_ | refine zb2 ?_ | refine zbc ?_ | refine zb1 ?_ | refine za4 ?_ | refine za2 rfl ?_ | refine za3 ?_ | refine za5 ?_ | refine zbn rfl ?_ | refine zbs rfl rfl ?_ | refine zbz rfl ?_ | refine zab rfl ?_ | refine zax rfl rfl ?_ | refine zap rfl rfl rfl rfl ?_ | refine zaq rfl rfl rfl rfl rfl rfl rfl ?_ | refine zae rfl ?_ | refine za6 rfl rfl rfl ?_ | refine za0 rfl rfl rfl ?_ | refine za9 rfl rfl rfl rfl ?_ | refine zar ?_ | refine zao rfl rfl ?_ | refine zam rfl rfl ?_ | refine zc0 rfl rfl ?_ | refine zbd rfl rfl ?_ | refine zav rfl rfl ?_ | refine zac rfl rfl ?_ | refine zbf rfl rfl ?_ | refine zaa rfl rfl rfl ?_ | refine zaw rfl rfl ?_ | refine zal rfl rfl rfl rfl ?_ | refine za8 rfl rfl rfl rfl ?_ | refine zag rfl rfl rfl rfl ?_ | refine zb5 rfl rfl ?_ | refine zb4 rfl rfl ?_ | refine za7 rfl rfl ?_ | refine zb8 ?_ | refine zah env0_ok rfl rfl rfl ?_ | refine zad (op := .add) rfl rfl rfl ?_ | refine zad (op := .sub) rfl rfl rfl ?_ | refine zb7 rfl rfl rfl ?_ | refine zb6 rfl rfl rfl ?_ | refine zb3 rfl rfl rfl ?_ | refine zaz rfl rfl rfl ?_ | refine zb0 rfl rfl (by omega) (by assumption) rfl ?_ | refine za0 rfl rfl (decide_eq_true ⟨by omega, by omega⟩) ?_ | refine zau rfl rfl (by omega) (by omega) ?_ | refine zaf rfl rfl rfl ?_ | refine zba rfl ?_ | refine zb9 rfl ?_)
   exact zbj ⟨.inr rfl, _, rfl, rfl⟩
  | some c =>
   rw [hF] at pF
   refine zbw rfl rfl pF (fun h => Bool.noConfusion (show false = true from h)) ?_
   repeat (first | refine zan ?_ | refine za1 rfl ?_ | refine zai ?_ | refine zaj ?_ | refine zbe ?_ | refine zak ?_ | refine zat ?_ | refine zbl rfl ?_ | refine zbk rfl ?_ | refine zb2 ?_ | refine zbc ?_ | refine zb1 ?_ | refine za4 ?_ | refine za2 rfl ?_ | refine za3 ?_ | refine za5 ?_ | refine zbn rfl ?_ | refine zbs rfl rfl ?_ | refine zbz rfl ?_ | refine zab rfl ?_ | refine zax rfl rfl ?_ | refine zap rfl rfl rfl rfl ?_ | refine zaq rfl rfl rfl rfl rfl rfl rfl ?_ | refine zae rfl ?_ | refine za6 rfl rfl rfl ?_ | refine za0 rfl rfl rfl ?_ | refine za9 rfl rfl rfl rfl ?_ | refine zar ?_ | refine zao rfl rfl ?_ | refine zam rfl rfl ?_ | refine zc0 rfl rfl ?_ | refine zbd rfl rfl ?_ | refine zav rfl rfl ?_ | refine zac rfl rfl ?_ | refine zbf rfl rfl ?_ | refine zaa rfl rfl rfl ?_ | refine zaw rfl rfl ?_ | refine zal rfl rfl rfl rfl ?_ | refine za8 rfl rfl rfl rfl ?_ | refine zag rfl rfl rfl rfl ?_ | refine zb5 rfl rfl ?_ | refine zb4 rfl rfl ?_ | refine za7 rfl rfl ?_ | refine zb8 ?_ | refine zah env0_ok rfl rfl rfl ?_ | refine zad (op := .add) rfl rfl rfl ?_ | refine zad (op := .sub) rfl rfl rfl ?_ | refine zb7 rfl rfl rfl ?_ | refine zb6 rfl rfl rfl ?_ | refine zb3 rfl rfl rfl ?_ | refine zaz rfl rfl rfl ?_ | refine zb0 rfl rfl (by omega) (by assumption) rfl ?_ | refine za0 rfl rfl (decide_eq_true ⟨by omega, by omega⟩) ?_ | refine zau rfl rfl (by omega) (by omega) ?_ | refine zaf rfl rfl rfl ?_ | refine zba rfl ?_ | refine zb9 rfl ?_)
   exact zbj ⟨.inr rfl, _, rfl, rfl⟩
 ·rw [if_neg hc]
  repeat (first | refine zan ?_ | refine za1 rfl ?_ | refine zai ?_ | refine zaj ?_ | refine zbe ?_ | refine zak ?_ | refine zat ?_ | refine zbl rfl ?_ | refine zbk rfl ?_ | refine zb2 ?_ | refine zbc ?_ | refine zb1 ?_ | refine za4 ?_ | refine za2 rfl ?_ | refine za3 ?_ | refine za5 ?_ | refine zbn rfl ?_ | refine zbs rfl rfl ?_ | refine zbz rfl ?_ | refine zab rfl ?_ | refine zax rfl rfl ?_ | refine zap rfl rfl rfl rfl ?_ | refine zaq rfl rfl rfl rfl rfl rfl rfl ?_ | refine zae rfl ?_ | refine za6 rfl rfl rfl ?_ | refine za0 rfl rfl rfl ?_ | refine za9 rfl rfl rfl rfl ?_ | refine zar ?_ | refine zao rfl rfl ?_ | refine zam rfl rfl ?_ | refine zc0 rfl rfl ?_ | refine zbd rfl rfl ?_ | refine zav rfl rfl ?_ | refine zac rfl rfl ?_ | refine zbf rfl rfl ?_ | refine zaa rfl rfl rfl ?_ | refine zaw rfl rfl ?_ | refine zal rfl rfl rfl rfl ?_ | refine za8 rfl rfl rfl rfl ?_ | refine zag rfl rfl rfl rfl ?_ | refine zb5 rfl rfl ?_ | refine zb4 rfl rfl ?_ | refine za7 rfl rfl ?_ | refine zb8 ?_ | refine zah env0_ok rfl rfl rfl ?_ | refine zad (op := .add) rfl rfl rfl ?_ | refine zad (op := .sub) rfl rfl rfl ?_ | refine zb7 rfl rfl rfl ?_ | refine zb6 rfl rfl rfl ?_ | refine zb3 rfl rfl rfl ?_ | refine zaz rfl rfl rfl ?_ | refine zb0 rfl rfl (by omega) (by assumption) rfl ?_ | refine za0 rfl rfl (decide_eq_true ⟨by omega, by omega⟩) ?_ | refine zau rfl rfl (by omega) (by omega) ?_ | refine zaf rfl rfl rfl ?_ | refine zba rfl ?_ | refine zb9 rfl ?_)
  refine zbr rfl rfl rfl (fun h => ?_) fun h => absurd (by simpa using h) hc
  repeat (first | refine zan ?_ | refine za1 rfl ?_ | refine zai ?_ | refine zaj ?_ | refine zbe ?_ | refine zak ?_ | refine zat ?_ | refine zbl rfl ?_ | refine zbk rfl ?_ | refine zb2 ?_ | refine zbc ?_ | refine zb1 ?_ | refine za4 ?_ | refine za2 rfl ?_ | refine za3 ?_ | refine za5 ?_ | refine zbn rfl ?_ | refine zbs rfl rfl ?_ | refine zbz rfl ?_ | refine zab rfl ?_ | refine zax rfl rfl ?_ | refine zap rfl rfl rfl rfl ?_ | refine zaq rfl rfl rfl rfl rfl rfl rfl ?_ | refine zae rfl ?_ | refine za6 rfl rfl rfl ?_ | refine za0 rfl rfl rfl ?_ | refine za9 rfl rfl rfl rfl ?_ | refine zar ?_ | refine zao rfl rfl ?_ | refine zam rfl rfl ?_ | refine zc0 rfl rfl ?_ | refine zbd rfl rfl ?_ | refine zav rfl rfl ?_ | refine zac rfl rfl ?_ | refine zbf rfl rfl ?_ | refine zaa rfl rfl rfl ?_ | refine zaw rfl rfl ?_ | refine zal rfl rfl rfl rfl ?_ | refine za8 rfl rfl rfl rfl ?_ | refine zag rfl rfl rfl rfl ?_ | refine zb5 rfl rfl ?_ | refine zb4 rfl rfl ?_ | refine za7 rfl rfl ?_ | refine zb8 ?_ | refine zah env0_ok rfl rfl rfl ?_ | refine zad (op := .add) rfl rfl rfl ?_ | refine zad (op := .sub) rfl rfl rfl ?_ | refine zb7 rfl rfl rfl ?_ | refine zb6 rfl rfl rfl ?_ | refine zb3 rfl rfl rfl ?_ | refine zaz rfl rfl rfl ?_ | refine zb0 rfl rfl (by omega) (by assumption) rfl ?_ | refine za0 rfl rfl (decide_eq_true ⟨by omega, by omega⟩) ?_ | refine zau rfl rfl (by omega) (by omega) ?_ | refine zaf rfl rfl rfl ?_ | refine zba rfl ?_ | refine zb9 rfl ?_)
  exact zbj ⟨.inr rfl, _, rfl, rfl⟩
end Go.Proofs.Ytknomkcdpcnmaaa
