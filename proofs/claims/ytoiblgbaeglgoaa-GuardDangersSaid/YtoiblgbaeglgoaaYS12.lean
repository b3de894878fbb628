/-
  DANGERS IN THE REFERENCE: ref.Danger.
-/
import Derived.Test.YtoiblgbaeglgoaaYS11
namespace Go.Proofs.Ytoiblgbaeglgoaa
open Go Go.Am
def b19_2 : IC := .seq (.seq (.region [⟨(some 35), .mov (.t 12), none⟩,
  ⟨(some 36), .mov (.t 11), none⟩,
  ⟨(some 37), .len false (.t 36), none⟩,
  ⟨(some 38), .bin .lss (.t 35) (.t 37), none⟩] none)
 (.cond (.t 38) (.skip)
 (.exit 2)))
 (.seq (.block 3 (.seq (.region [⟨(some 41), .load (some 1) (.t 2), none⟩,
  ⟨(some 42), .mov (.t 11), none⟩,
  ⟨(some 43), .mov (.t 12), none⟩,
  ⟨(some 44), .idxs 1 (.t 42) (.t 43), none⟩,
  ⟨(some 45), .load none (.t 44), none⟩,
  ⟨(some 46), .call (.c (.fn 85 [] [])) [(.t 41), (.t 45)], none⟩,
  ⟨(some 47), .len false (.t 46), none⟩,
  ⟨(some 48), .bin .gtr (.t 47) (.c (.int .i64 0)), none⟩] (some [[], [], [], [1, 2], [3], [0, 4], [5], [6]]))
 (.cond (.t 48) (.seq (.region [⟨(some 49), .mov (.t 10), none⟩,
  ⟨(some 50), .mov (.t 11), none⟩,
  ⟨(some 51), .mov (.t 12), none⟩,
  ⟨(some 52), .idxs 1 (.t 50) (.t 51), none⟩,
  ⟨(some 53), .load none (.t 52), none⟩,
  ⟨(some 4), .mov (.t 49), none⟩,
  ⟨(some 5), .mov (.t 53), none⟩,
  ⟨(some 6), .mov (.c (.bool true)), none⟩,
  ⟨(some 7), .mov (.c (.int .i64 0)), none⟩] (some [[], [], [], [1, 2], [3], [0, 0], [4, 5, 0, 1, 2, 3, 4, 5], [6, 0, 1, 2, 3, 4, 5, 6], [7, 0, 1, 2, 3, 4, 5, 6, 7]]))
 (.ret))
 (.skip))))
 (.region [⟨(some 39), .mov (.t 12), none⟩,
  ⟨(some 40), .bin .add (.t 39) (.c (.int .i64 1)), none⟩,
  ⟨(some 12), .mov (.t 40), none⟩] none))
def b19_0 : IC := .seq (.seq (.region [⟨(some 25), .mov (.t 10), none⟩,
  ⟨(some 26), .faddr 1 (.t 3), none⟩,
  ⟨(some 27), .load none (.t 26), none⟩,
  ⟨(some 28), .len false (.t 27), none⟩,
  ⟨(some 29), .bin .lss (.t 25) (.t 28), none⟩] none)
 (.cond (.t 29) (.skip)
 (.exit 0)))
 (.seq (.block 1 (.seq (.region [⟨(some 32), .load (some 2) (.t 3), none⟩,
  ⟨(some 33), .mov (.t 10), none⟩,
  ⟨(some 34), .call (.c (.fn 84 [] [])) [(.t 32), (.t 33)], none⟩,
  ⟨(some 11), .mov (.t 34), none⟩] none)
 (.seq (.region [⟨(some 12), .mov (.c (.int .i64 0)), none⟩] none)
 (.block 2 (.loop b19_2)))))
 (.region [⟨(some 30), .mov (.t 10), none⟩,
  ⟨(some 31), .bin .add (.t 30) (.c (.int .i64 1)), none⟩,
  ⟨(some 10), .mov (.t 31), none⟩] none))
-- pneumatic/pneumaticref49.Danger
def ic19 : IC := .seq (.region [⟨(some 2), .box (.t 0), none⟩,
  ⟨(some 3), .box (.t 1), none⟩,
  ⟨(some 4), .mov (.c (.int .i64 0)), none⟩,
  ⟨(some 5), .mov (.c (.nils)), none⟩,
  ⟨(some 6), .mov (.c (.bool false)), none⟩,
  ⟨(some 7), .mov (.c (.int .i64 0)), none⟩] none)
 (.seq (.seq (.region [⟨(some 13), .load (some 2) (.t 3), none⟩,
  ⟨(some 14), .call (.c (.fn 21 [] [])) [(.t 13)], none⟩,
  ⟨(some 8), .mov (.t 14), none⟩] none)
 (.seq (.region [⟨(some 15), .mov (.t 8), none⟩,
  ⟨(some 16), .bin .neq (.t 15) (.c (.int .i64 0)), none⟩] none)
 (.cond (.t 16) (.seq (.region [⟨(some 17), .mov (.t 8), none⟩,
  ⟨(some 4), .mov (.c (.int .i64 0)), none⟩,
  ⟨(some 5), .mov (.c (.nils)), none⟩,
  ⟨(some 6), .mov (.c (.bool false)), none⟩,
  ⟨(some 7), .mov (.t 17), none⟩] none)
 (.ret))
 (.skip))))
 (.seq (.seq (.region [⟨(some 18), .load (some 1) (.t 2), none⟩,
  ⟨(some 19), .faddr 0 (.t 3), none⟩,
  ⟨(some 20), .load none (.t 19), none⟩,
  ⟨(some 21), .call (.c (.fn 67 [] [])) [(.t 18), (.t 20)], none⟩,
  ⟨(some 9), .mov (.t 21), none⟩] none)
 (.seq (.region [⟨(some 22), .mov (.t 9), none⟩,
  ⟨(some 23), .bin .neq (.t 22) (.c (.int .i64 0)), none⟩] none)
 (.cond (.t 23) (.seq (.region [⟨(some 24), .mov (.t 9), none⟩,
  ⟨(some 4), .mov (.c (.int .i64 0)), none⟩,
  ⟨(some 5), .mov (.c (.nils)), none⟩,
  ⟨(some 6), .mov (.c (.bool false)), none⟩,
  ⟨(some 7), .mov (.t 24), none⟩] none)
 (.ret))
 (.skip))))
 (.seq (.seq (.region [⟨(some 10), .mov (.c (.int .i64 0)), none⟩] none)
 (.block 0 (.loop b19_0)))
 (.seq (.region [⟨(some 4), .mov (.c (.int .i64 0)), none⟩,
  ⟨(some 5), .mov (.c (.nils)), none⟩,
  ⟨(some 6), .mov (.c (.bool false)), none⟩,
  ⟨(some 7), .mov (.c (.int .i64 0)), none⟩] none)
 (.ret)))))
theorem fn19 : env0.fn 19 = some ⟨54, ic19, [.t 4, .t 5, .t 6, .t 7]⟩ := by kernel_rfl
section
variable {w0 : World} {N0 : Nat} {k : List Fr} {Q : Exit → AS → Prop}
theorem zrj {f : List Ex} {n : Nat} {l : List Sp} (E0 : List Bool) (hE0 : E0.length = n) {i : Nat} (h : i < l.length) : dgS f i (zgw E0 (l.take i)) (l.drop i) = match zpb f (zet (ze0 (zgw E0 (l.take i)) (aft (zgw E0 (l.take i)) l[i].l) l[i].l n)) with
  | some q => ((i : Int), q, true)
  | none => dgS f (i + 1) (zgw E0 (l.take (i + 1))) (l.drop (i + 1)) := by
 rw [List.drop_eq_getElem_cons h, dgS, zhc, hE0, zhr h]
 rfl
set_option maxHeartbeats 4000000 in
theorem zrh (f : List Ex) (hsl : ∀ y ∈ f, Slim y) (n : Int) (l : List Sp) (hl : l.length ≤ 1000000) (hs : ∀ p ∈ l, p.l.length ≤ 1000000) : PF Try.prog 19 [.agg [.vs (cXs f)], .agg (cQ n l)] (dgV f n l) := by
 have hcl : (cPs l).length = l.length := zd0 l
 have p1 := check21 n l hl hs
 have p1 : PF Try.prog 21 [.agg [.int .i64 n, .vs (cPs l)]] (.int .i64 (zla n l)) := p1
 have p2 := gcheck29 f hsl n
 refine zbb env0_ok fn19 [(0, .agg [.vs (cXs f)]), (1, .agg [.int .i64 n, .vs (cPs l)])] (by show 2 ≤ 54; decide) rfl fun w0 N0 => ?_
 unfold ic19 dgV
 repeat (first | refine za6 ?_ | refine za0 rfl ?_ | refine za3 ?_ | refine za2 ?_ | refine za4 rfl ?_ | refine zas rfl rfl rfl rfl ?_ | refine zbw rfl rfl ?_)
 refine zaw rfl rfl p1 (fun h => Bool.noConfusion (show false = true from h)) ?_
 repeat (first | refine za6 ?_ | refine za0 rfl ?_ | refine za3 ?_ | refine za2 ?_ | refine za4 rfl ?_)
 refine zaq rfl rfl rfl (fun h => ?_) fun h => ?_
 ·have h : zla n l ≠ 0 := bne_iff_ne.1 h
  rw [show dgT f n l = (0, [], false) from if_neg h, show dgC f n l = zla n l from if_neg h]
  repeat (first | refine za6 ?_ | refine za0 rfl ?_ | refine za3 ?_ | refine za2 ?_ | refine zaz rfl ?_ | refine zak ?_ | refine za5 ?_ | refine za4 rfl ?_)
  exact zai ⟨.inr rfl, _, rfl, rfl⟩
 have h : zla n l = 0 := by simpa using h
 repeat (first | refine za6 ?_ | refine za0 rfl ?_ | refine za3 ?_ | refine za2 ?_ | refine zac ?_ | refine zb8 rfl ?_ | refine za8 rfl rfl ?_ | refine zas rfl rfl rfl rfl ?_ | refine za9 rfl ?_)
 refine zaw rfl rfl p2 (fun h => Bool.noConfusion (show false = true from h)) ?_
 repeat (first | refine za6 ?_ | refine za0 rfl ?_ | refine za3 ?_ | refine za2 ?_ | refine za4 rfl ?_)
 have hC : dgC f n l = ze9 f n := if_pos h
 rw [hC]
 refine zaq rfl rfl rfl (fun h2 => ?_) fun h2 => ?_
 ·have h2 : ze9 f n ≠ 0 := bne_iff_ne.1 h2
  rw [show dgT f n l = (0, [], false) from (if_pos h).trans (if_neg h2)]
  repeat (first | refine za6 ?_ | refine za0 rfl ?_ | refine za3 ?_ | refine za2 ?_ | refine zaz rfl ?_ | refine zak ?_ | refine za5 ?_ | refine za4 rfl ?_)
  exact zai ⟨.inr rfl, _, rfl, rfl⟩
 have h2 : ze9 f n = 0 := by simpa using h2
 rw [show dgT f n l = dgS f 0 (List.replicate n.toNat false) l from (if_pos h).trans (if_pos h2), h2]
 obtain ⟨m, rfl, ok⟩ := zrd h
 have n6 := ok.n6
 have l64 := ok.l64
 rw [Int.toNat_natCast]
 clear hC h p1 p2
 repeat (first | refine za6 ?_ | refine za0 rfl ?_ | refine za3 ?_ | refine za2 ?_ | refine zab ?_ | refine zac ?_ | refine zb8 rfl ?_ | refine za4 rfl ?_)
 refine zbl (fun mm S => ∃ i, mm = l.length - i ∧ i ≤ l.length ∧ dgS f 0 (List.replicate m false) l = dgS f i (zgw (List.replicate m false) (l.take i)) (l.drop i) ∧
   S = st 54 [(2, .vptr [.vs (cXs f)]), (3, .vptr [.int .i64 (m : Nat), .vs (cPs l)]), (10, .int .i64 (i : Nat))] [] 0 1) l.length
  (zbc [] [(0, 0, [.vs (cXs f)]), (1, 1, [.int .i64 (m : Nat), .vs (cPs l)])] rfl rfl rfl (.cons rfl rfl (.cons rfl rfl .nil)) .nil (l' := [(2, .vptr [.vs (cXs f)]), (3, .vptr [.int .i64 (m : Nat), .vs (cPs l)]), (10, .int .i64 ((0 : Nat) : Int))]) (.cons rfl (.fptr rfl rfl) (.cons rfl (.fptr rfl rfl) (.cons rfl (.same rfl) .nil)))) ⟨0, rfl, Nat.zero_le _, rfl, rfl⟩ ?_
 rintro mm S ⟨i, rfl, hi, hall, rfl⟩
 rw [hall]
 clear hall
 unfold b19_0
 repeat (first | refine za6 ?_ | refine za0 rfl ?_ | refine za4 rfl ?_ | refine za8 rfl rfl ?_ | refine zag rfl rfl rfl ?_ | refine zba rfl rfl ?_)
 refine zaq rfl rfl rfl (fun h4 => ?_) fun h4 => ?_
 ·have hlt : i < l.length := by
   have : ((i : Nat) : Int) < ((cPs l).length : Nat) := of_decide_eq_true h4
   rw [hcl] at this
   omega
  have q1 : PF Try.prog 84 [.agg [.int .i64 (m : Nat), .vs (cPs l)], .int .i64 (i : Nat)] _ := stat84 ok i hlt
  rw [zrj (n := m) (List.replicate m false) (List.length_replicate ..) hlt]
  have hrow := zk4 (ze0 (zgw (List.replicate m false) (l.take i)) (aft (zgw (List.replicate m false) (l.take i)) l[i].l) l[i].l m)
  rw [zem] at hrow
  have hlen := zuy (ze0 (zgw (List.replicate m false) (l.take i)) (aft (zgw (List.replicate m false) (l.take i)) l[i].l) l[i].l m) (fun c hc => by have := (znv c hc).2; omega) (by rw [zem]; exact n6)
  generalize zet (ze0 (zgw (List.replicate m false) (l.take i)) (aft (zgw (List.replicate m false) (l.take i)) l[i].l) l[i].l m) = C at *
  have hcc : (C.map fun c => ([vsI c] : List AV)).length = C.length := List.length_map ..
  repeat (first | refine za6 ?_ | refine za0 rfl ?_ | refine za3 ?_ | refine za2 ?_ | refine zab ?_ | refine zac ?_ | refine zaz rfl ?_ | refine za4 rfl ?_ | refine zas rfl rfl rfl rfl ?_)
  refine zaw rfl rfl q1 (fun h => Bool.noConfusion (show false = true from h)) ?_
  repeat (first | refine za6 ?_ | refine za0 rfl ?_ | refine za3 ?_ | refine za2 ?_ | refine zab ?_ | refine za4 rfl ?_)
  refine zbl (fun mm S => ∃ j, mm = C.length - j ∧ j ≤ C.length ∧ zpb f C = zpb f (C.drop j) ∧
    S = st 54 [(2, .vptr [.vs (cXs f)]), (3, .vptr [.int .i64 (m : Nat), .vs (cPs l)]), (10, .int .i64 (i : Nat)), (11, css C), (12, .int .i64 (j : Nat))] [] 0 1) C.length
   (zap (.cons rfl (.cons rfl (.cons rfl (.cons rfl (.cons rfl .nil)))))) ⟨0, rfl, Nat.zero_le _, rfl, rfl⟩ ?_
  rintro mm S ⟨j, rfl, hj, hall, rfl⟩
  unfold b19_2
  repeat (first | refine za6 ?_ | refine za0 rfl ?_ | refine za4 rfl ?_ | refine zba rfl rfl ?_)
  refine zaq rfl rfl rfl (fun h5 => ?_) fun h5 => ?_
  ·have hlj : j < C.length := by
    have : ((j : Nat) : Int) < ((C.map fun c => ([vsI c] : List AV)).length : Nat) := of_decide_eq_true h5
    rw [hcc] at this
    omega
   rw [List.drop_eq_getElem_cons hlj] at hall
   have hg := zk5 hlj
   have q2 := trueG h2 (hrow _ (List.getElem_mem hlj))
   generalize C[j] = p at hall hg q2
   have hall : zpb f C = match !(zgs f p).isEmpty with | true => some p | false => zpb f (C.drop (j + 1)) := hall
   repeat (first | refine za6 ?_ | refine za3 ?_ | refine za2 ?_ | refine zab ?_ | refine zac ?_ | refine zaz rfl ?_)
   refine zga env0_ok [(85, [.agg [.vs (cXs f)], vsI p], vsI (zgs f p))] (fun x hx => by obtain rfl := List.mem_singleton.1 hx; exact q2) (fun f => Nat.beq f 85) rfl rfl rfl ?_
   repeat (first | refine za4 rfl ?_ | refine za8 rfl rfl ?_ | refine zas rfl rfl rfl rfl ?_ | refine zav rfl rfl (by omega) (by assumption) rfl ?_)
   refine zaw rfl rfl zcc (fun h => Bool.noConfusion (show false = true from h)) ?_
   repeat (first | refine zba rfl rfl ?_)
   refine zaq rfl rfl rfl (fun h6 => ?_) fun h6 => ?_
   ·have h6 : (zgs f p).isEmpty = false := by
     cases ht : zgs f p with
     | nil => rw [ht] at h6; exact absurd h6 (by decide)
     | cons _ _ => rfl
    rw [h6] at hall
    have hall : zpb f C = some p := hall
    rw [hall]
    repeat (first | refine za6 ?_ | refine za3 ?_ | refine za2 ?_ | refine zaz rfl ?_ | refine zak ?_ | refine za5 ?_ | refine zaa ?_ | refine za4 rfl ?_ | refine za8 rfl rfl ?_ | refine zbp env0_ok rfl rfl rfl ?_ | refine zav rfl rfl (by omega) (by assumption) rfl ?_)
    refine zb3 ?_
    repeat (first | refine za5 ?_ | refine zaa ?_)
    refine zb3 ?_
    repeat (first | refine za5 ?_ | refine zaa ?_)
    exact zai ⟨.inr rfl, _, rfl, rfl⟩
   ·have h6 : (zgs f p).isEmpty = true := by
     cases ht : zgs f p with
     | nil => rfl
     | cons _ t => rw [ht] at h6; exact absurd (show (_ : Int) > 0 from by show ((t.map _).length + 1 : Nat) > (0 : Int); omega) (of_decide_eq_false h6)
    rw [h6] at hall
    have hall : zpb f C = zpb f (C.drop (j + 1)) := hall
    repeat (first | refine za0 rfl ?_ | refine za3 ?_ | refine za2 ?_ | refine zb2 ?_ | refine zac ?_ | refine zb8 rfl ?_ | refine za4 rfl ?_ | refine zax (op := .add) rfl rfl rfl ?_)
    rw [zan j (by omega)]
    exact zat (show C.length - (j + 1) < C.length - j by omega) (zap (.cons rfl (.cons rfl (.cons rfl (.cons rfl (.cons rfl .nil)))))) ⟨j + 1, rfl, hlj, hall, rfl⟩
  ·have hj2 : j = C.length := by
    have : ¬ ((j : Nat) : Int) < ((C.map fun c => ([vsI c] : List AV)).length : Nat) := of_decide_eq_false h5
    rw [hcc] at this
    omega
   rw [hj2, List.drop_length] at hall
   have hall : zpb f C = none := hall
   rw [hall]
   repeat (first | refine za3 ?_ | refine za2 ?_ | refine zb8 rfl ?_ | refine zb7 ?_ | refine zaf ?_)
   refine zc4 ?_
   repeat (first | refine za0 rfl ?_ | refine za3 ?_ | refine za2 ?_ | refine zb2 ?_ | refine zb6 ?_ | refine za4 rfl ?_ | refine zax (op := .add) rfl rfl rfl ?_)
   rw [zan i (by omega)]
   exact zat (show l.length - (i + 1) < l.length - i by omega) (zap (.cons rfl (.cons rfl (.cons rfl .nil)))) ⟨i + 1, rfl, hlt, rfl, rfl⟩
 ·have hi2 : i = l.length := by
   have : ¬ ((i : Nat) : Int) < ((cPs l).length : Nat) := of_decide_eq_false h4
   rw [hcl] at this
   omega
  subst hi2
  rw [List.drop_length, dgS]
  repeat (first | refine za3 ?_ | refine za2 ?_ | refine zb8 rfl ?_ | refine zb7 ?_ | refine zaf ?_)
  refine zc4 ?_
  repeat (first | refine za6 ?_ | refine za0 rfl ?_ | refine za3 ?_ | refine za2 ?_ | refine zak ?_ | refine zb6 ?_ | refine za4 rfl ?_)
  exact zai ⟨.inr rfl, _, rfl, rfl⟩
end
end Go.Proofs.Ytoiblgbaeglgoaa
