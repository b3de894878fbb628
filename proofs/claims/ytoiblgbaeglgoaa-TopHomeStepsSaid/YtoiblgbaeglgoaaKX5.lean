/-
  STEPS IN THE REFERENCE: ref13.CheckStep.; STEPS THAT FIT: sequence.fits.; MEMBERS OF LISTS OF TRUTH VALUES: slices.Contains.; SEQUENCES IN PLAIN LEAN: the checks agree, the choices of a step are its stations.; DANGERS IN PLAIN LEAN.; MAKE OF A LIST OF A LENGTH THAT IS NOT KNOWN; STATES PUT ANEW, WITH MARKS.; SEQUENCES THAT CAN BE CARRIED OUT, IN THE REFERENCE: ref14.steps, ref14.Check, ref14.Behin
-/
import Derived.Test.YtoiblgbaeglgoaaKX4
namespace Go.Proofs.Ytoiblgbaeglgoaa
open Go Go.Am
-- pneumatic/pneumaticref13.Actuator
def ic159 : IC := .seq (.region [oM 2 (.mov (.c (.bool false)))] none)
 (.seq (.region [oT 3 0,
  oM 4 (.bin .geq (.t 3) (.c (.int .i64 0))),
  oT 5 4,
  ⟨(some 6), .mov (.t 0), some (5, true)⟩,
  ⟨(some 7), .bin .lss (.t 6) (.c (.int .i64 6)), some (5, true)⟩,
  oM 8 (.pick (.t 5) (.t 7) (.c (.bool false))),
  oT 2 8] none)
 (.ret))
theorem fn159 : env0.fn 159 = some ⟨9, ic159, [.t 2]⟩ := by kernel_rfl
theorem known105 (a : Int) : PF Try.prog 159 [.int .i64 a] (.bool (zgb a)) := by
 refine zax env0_ok fn159 [(0, .int .i64 a)] (by show 1 ≤ 9; decide) rfl fun w0 N0 => ?_
 unfold ic159 zgb
 refine zsr rfl (za1 rfl (onr rfl (za1 rfl ?_)))
 refine zao rfl rfl rfl (fun h => ?_) fun h => ?_
 ·rw [h]
  refine za1 rfl (zbc rfl (za1 rfl (zbc rfl ?_)))
  refine zao rfl rfl rfl (fun h2 => ?_) fun h2 => ?_
  all_goals
   rw [h2]
   refine zau rfl rfl (za1 rfl (onu (zaf ?_)))
   exact zae ⟨.inr rfl, _, rfl, rfl⟩
 ·rw [h]
  refine za1 rfl (zbz rfl rfl (zbz rfl rfl (zap rfl rfl (za1 rfl (onu (zaf ?_))))))
  exact zae ⟨.inr rfl, _, rfl, rfl⟩
-- pneumatic/pneumaticref03.Time
def ic160 : IC := .seq (.region [oM 2 (.mov (.c (.bool false)))] none)
 (.seq (.region [oT 3 0,
  oM 4 (.bin .geq (.t 3) (.c (.int .i64 0))),
  oT 5 4,
  ⟨(some 6), .mov (.t 0), some (5, true)⟩,
  ⟨(some 7), .bin .leq (.t 6) (.c (.int .i64 1000000)), some (5, true)⟩,
  oM 8 (.pick (.t 5) (.t 7) (.c (.bool false))),
  oT 2 8] none)
 (.ret))
theorem fn160 : env0.fn 160 = some ⟨9, ic160, [.t 2]⟩ := by kernel_rfl
theorem time106 (a : Int) : PF Try.prog 160 [.int .i64 a] (.bool (decide (a ≥ 0) && decide (a ≤ 1000000))) := by
 refine zax env0_ok fn160 [(0, .int .i64 a)] (by show 1 ≤ 9; decide) rfl fun w0 N0 => ?_
 unfold ic160
 refine zsr rfl (za1 rfl (onr rfl (za1 rfl ?_)))
 refine zao rfl rfl rfl (fun h => ?_) fun h => ?_
 ·rw [h]
  refine za1 rfl (zbc rfl (za1 rfl (zbc rfl ?_)))
  refine zao rfl rfl rfl (fun h2 => ?_) fun h2 => ?_
  all_goals
   rw [h2]
   refine zau rfl rfl (za1 rfl (onu (zaf ?_)))
   exact zae ⟨.inr rfl, _, rfl, rfl⟩
 ·rw [h]
  refine za1 rfl (zbz rfl rfl (zbz rfl rfl (zap rfl rfl (za1 rfl (onu (zaf ?_))))))
  exact zae ⟨.inr rfl, _, rfl, rfl⟩
theorem yb7 (k : Nat) (h : k < 1000000000) : IntKind.i64.wrap (((k + 1 : Nat) : Int) - 1) = (k : Int) := by
 rw [zm3 _ (by omega) (by omega)]
 omega
def b136_0 : IC := .seq (.seq (.region [oT 12 3,
  oF 13 0 1,
  oN 14 13,
  oM 15 (.len false (.t 14)),
  oM 16 (.bin .lss (.t 12) (.t 15))] none)
 (.cond (.t 16) (.skip)
 (.exit 0)))
 (.seq (.block 1 (.seq (.seq (.region [oF 19 0 1,
  oN 20 19,
  oT 21 3,
  oM 22 (.idxs 2 (.t 20) (.t 21)),
  oF 23 0 22,
  oN 24 23,
  oM 25 (.call (.c (.fn 159 [] [])) [(.t 24)]),
  oM 26 (.un .not (.t 25))] none)
 (.cond (.t 26) (.seq (.region [oM 2 (.mov (.c (.int .i64 2)))] none)
 (.ret))
 (.skip)))
 (.seq (.seq (.region [oT 27 3,
  oM 28 (.bin .gtr (.t 27) (.c (.int .i64 0))),
  oT 29 28,
  ⟨(some 30), .faddr 0 (.t 1), some (29, true)⟩,
  ⟨(some 31), .load none (.t 30), some (29, true)⟩,
  ⟨(some 32), .mov (.t 3), some (29, true)⟩,
  ⟨(some 33), .idxs 2 (.t 31) (.t 32), some (29, true)⟩,
  ⟨(some 34), .faddr 0 (.t 33), some (29, true)⟩,
  ⟨(some 35), .load none (.t 34), some (29, true)⟩,
  ⟨(some 36), .faddr 0 (.t 1), some (29, true)⟩,
  ⟨(some 37), .load none (.t 36), some (29, true)⟩,
  ⟨(some 38), .mov (.t 3), some (29, true)⟩,
  ⟨(some 39), .bin .sub (.t 38) (.c (.int .i64 1)), some (29, true)⟩,
  ⟨(some 40), .idxs 2 (.t 37) (.t 39), some (29, true)⟩,
  ⟨(some 41), .faddr 0 (.t 40), some (29, true)⟩,
  ⟨(some 42), .load none (.t 41), some (29, true)⟩,
  ⟨(some 43), .bin .eql (.t 35) (.t 42), some (29, true)⟩,
  oM 44 (.pick (.t 29) (.t 43) (.c (.bool false)))] (some [[], [0], [1], [2], [3, 2], [2], [4, 5, 2], [6, 2], [7, 2], [2], [9, 2], [2], [11, 2], [10, 12, 2], [13, 2], [14, 2], [8, 15, 2], [2, 16]]))
 (.cond (.t 44) (.seq (.region [oM 2 (.mov (.c (.int .i64 7)))] none)
 (.ret))
 (.skip)))
 (.seq (.region [oT 45 3,
  oM 46 (.bin .gtr (.t 45) (.c (.int .i64 0))),
  oT 47 46,
  ⟨(some 48), .faddr 0 (.t 1), some (47, true)⟩,
  ⟨(some 49), .load none (.t 48), some (47, true)⟩,
  ⟨(some 50), .mov (.t 3), some (47, true)⟩,
  ⟨(some 51), .idxs 2 (.t 49) (.t 50), some (47, true)⟩,
  ⟨(some 52), .faddr 0 (.t 51), some (47, true)⟩,
  ⟨(some 53), .load none (.t 52), some (47, true)⟩,
  ⟨(some 54), .faddr 0 (.t 1), some (47, true)⟩,
  ⟨(some 55), .load none (.t 54), some (47, true)⟩,
  ⟨(some 56), .mov (.t 3), some (47, true)⟩,
  ⟨(some 57), .bin .sub (.t 56) (.c (.int .i64 1)), some (47, true)⟩,
  ⟨(some 58), .idxs 2 (.t 55) (.t 57), some (47, true)⟩,
  ⟨(some 59), .faddr 0 (.t 58), some (47, true)⟩,
  ⟨(some 60), .load none (.t 59), some (47, true)⟩,
  ⟨(some 61), .bin .lss (.t 53) (.t 60), some (47, true)⟩,
  oM 62 (.pick (.t 47) (.t 61) (.c (.bool false)))] (some [[], [0], [1], [2], [3, 2], [2], [4, 5, 2], [6, 2], [7, 2], [2], [9, 2], [2], [11, 2], [10, 12, 2], [13, 2], [14, 2], [8, 15, 2], [2, 16]]))
 (.cond (.t 62) (.seq (.region [oM 2 (.mov (.c (.int .i64 9)))] none)
 (.ret))
 (.skip))))))
 (.region [oT 17 3,
  oM 18 (.bin .add (.t 17) (.c (.int .i64 1))),
  oT 3 18] none))
-- pneumatic/pneumaticref13.CheckStep
def ic136 : IC := .seq (.region [oM 1 (.box (.t 0)),
  oM 2 (.mov (.c (.int .i64 0)))] none)
 (.seq (.seq (.region [oF 4 0 1,
  oN 5 4,
  oM 6 (.len false (.t 5)),
  oM 7 (.bin .eql (.t 6) (.c (.int .i64 0)))] none)
 (.cond (.t 7) (.seq (.region [oM 2 (.mov (.c (.int .i64 13)))] none)
 (.ret))
 (.skip)))
 (.seq (.seq (.region [oF 8 0 1,
  oN 9 8,
  oM 10 (.len false (.t 9)),
  oM 11 (.bin .gtr (.t 10) (.c (.int .i64 6)))] none)
 (.cond (.t 11) (.seq (.region [oM 2 (.mov (.c (.int .i64 5)))] none)
 (.ret))
 (.skip)))
 (.seq (.seq (.region [oM 3 (.mov (.c (.int .i64 0)))] none)
 (.block 0 (.loop b136_0)))
 (.seq (.seq (.region [oF 63 1 1,
  oN 64 63,
  oM 65 (.call (.c (.fn 160 [] [])) [(.t 64)]),
  oM 66 (.un .not (.t 65))] none)
 (.cond (.t 66) (.seq (.region [oM 2 (.mov (.c (.int .i64 2)))] none)
 (.ret))
 (.skip)))
 (.seq (.region [oM 2 (.mov (.c (.int .i64 0)))] none)
 (.ret))))))
theorem fn136 : env0.fn 136 = some ⟨67, ic136, [.t 2]⟩ := by kernel_rfl
set_option maxHeartbeats 4000000 in
theorem step90 (p : Sp) : PF Try.prog 136 [.agg (cP p)] (.int .i64 (spC p)) := by
 obtain ⟨l, w⟩ := p
 have hcl : (cSs l).length = l.length := zbe l
 have h106 := time106 w
 refine zax env0_ok fn136 [(0, .agg [.vs (cSs l), .int .i64 w])] (by show 1 ≤ 67; decide) rfl fun w0 N0 => ?_
 unfold ic136
 refine zsr rfl (zbq rfl rfl (za1 rfl (onu (za7 (zsr rfl (za9 rfl (za6 rfl rfl (zbb rfl rfl ?_))))))))
 refine zao rfl rfl rfl (fun h => ?_) fun h => ?_
 ·have h : (((cSs l).length : Nat) : Int) = 0 := by simpa using h
  rw [show spC ⟨l, w⟩ = 13 from if_pos (by show l.length = 0; omega)]
  refine onu (zb2 rfl (zsr rfl (za1 rfl (onu (zaf (za2 ?_))))))
  exact zae ⟨.inr rfl, _, rfl, rfl⟩
 have h : ¬ (((cSs l).length : Nat) : Int) = 0 := by simpa using h
 refine onu (zb5 rfl (zab (za8 (za7 (zsr rfl (za9 rfl (za6 rfl rfl (zbb rfl rfl ?_))))))))
 refine zao rfl rfl rfl (fun h2 => ?_) fun h2 => ?_
 ·have h2 : (((cSs l).length : Nat) : Int) > 6 := of_decide_eq_true h2
  rw [show spC ⟨l, w⟩ = 5 from (if_neg (by show ¬ l.length = 0; omega)).trans (if_pos (by show l.length > 6; omega))]
  refine onu (zb2 rfl (zsr rfl (za1 rfl (onu (zaf (za2 ?_))))))
  exact zae ⟨.inr rfl, _, rfl, rfl⟩
 have h2 : ¬ (((cSs l).length : Nat) : Int) > 6 := of_decide_eq_false h2
 have hst : spC ⟨l, w⟩ = if zhk (-1) l ≠ 0 then zhk (-1) l else if w < 0 ∨ w > 1000000 then 2 else 0 := (if_neg (by show ¬ l.length = 0; omega)).trans (if_neg (by show ¬ l.length > 6; omega))
 rw [hst]
 refine onu (zb5 rfl (zab (za8 (za7 (zsr rfl (za1 rfl (onu (zad ?_))))))))
 refine zbj (fun mm S => ∃ i z, mm = l.length - i ∧ i ≤ l.length ∧ zhk (-1) l = zhk z (l.drop i) ∧ (i = 0 → z = -1) ∧ (∀ k (h : k < l.length), i = k + 1 → z = l[k].a) ∧
   S = st 67 [(1, .vptr [.vs (cSs l), .int .i64 w]), (3, .int .i64 (i : Nat))] [] 0 1) l.length
  (zbd [] [(0, 0, [.vs (cSs l), .int .i64 w])] rfl rfl rfl (.cons rfl rfl .nil) .nil (l' := [(1, .vptr [.vs (cSs l), .int .i64 w]), (3, .int .i64 ((0 : Nat) : Int))]) (.cons rfl (.fptr rfl rfl) (.cons rfl (.same rfl) .nil))) ⟨0, -1, rfl, y0q _, rfl, fun _ => rfl, fun k _ e => by omega, rfl⟩ ?_
 rintro mm S ⟨i, z, rfl, hi, hall, hz0, hz1, rfl⟩
 unfold b136_0
 refine za7 (zsr rfl (za1 rfl (zak rfl rfl rfl (za6 rfl rfl (zbb rfl rfl ?_)))))
 refine zao rfl rfl rfl (fun h3 => ?_) fun h3 => ?_
 ·have hlt : i < l.length := by
   have : ((i : Nat) : Int) < ((cSs l).length : Nat) := of_decide_eq_true h3
   rw [hcl] at this
   omega
  have hd : l.drop i = l[i] :: l.drop (i + 1) := y0d hlt
  rw [hd, zhk] at hall
  have hg := zd4 hlt
  have hnx : ∀ k (h : k < l.length), i + 1 = k + 1 → l[i].a = l[k].a := fun k h e => by
   obtain rfl : i = k := by omega
   rfl
  generalize l[i] = s at hall hg hnx
  obtain ⟨a, o⟩ := s
  have h105 := known105 a
  have hg : (cSs l)[((i : Nat) : Int).toNat]? = some [.int .i64 a, .bool o] := hg
  have hall : zhk (-1) l = if zgb a = false then 2 else if (a == z) = true then 7 else if decide (a < z) = true then 9 else zhk a (l.drop (i + 1)) := hall
  refine onu (zb2 rfl (zab (za8 (za7 (zad (za7 (zsr rfl (zak rfl rfl rfl (za6 rfl rfl (za1 rfl (zba rfl rfl (by omega) (by assumption) rfl ?_)))))))))))
  refine zak rfl rfl rfl (za6 rfl rfl ?_)
  refine zas rfl rfl h105 noC ?_
  cases hk : zgb a with
  | false =>
   rw [hk, if_pos rfl] at hall
   rw [hall]
   refine zes rfl rfl (onu (zb2 rfl (zsr rfl (za1 rfl (onu (zaf (za2 (zaa (za2 ?_)))))))))
   refine zaw ?_
   refine zaa (za2 ?_)
   exact zae ⟨.inr rfl, _, rfl, rfl⟩
  | true =>
   have ha0 : 0 ≤ a := by
    unfold zgb at hk
    rw [y0g] at hk
    exact of_decide_eq_true hk.1
   rw [hk, if_neg (by decide)] at hall
   refine zes rfl rfl (onu (zb5 rfl (zab (za8 (za7 (za7 (zdo env0_ok rfl rfl rfl (za1 rfl ?_))))))))
   cases i with
   | zero =>
    obtain rfl := hz0 rfl
    rw [if_neg (by simp; omega), if_neg (by simp; omega)] at hall
    repeat (first | refine za7 ?_ | refine za5 rfl ?_ | refine zai ?_ | refine za8 ?_ | refine zb9 ?_ | refine zab ?_ | refine zb5 rfl ?_ | refine zbz rfl rfl ?_ | refine za1 rfl ?_ | refine zap rfl rfl ?_ | refine zdo env0_ok rfl rfl rfl ?_ | refine zb3 (op := .add) rfl rfl rfl ?_ | refine zcc rfl rfl rfl ?_)
    rw [zar 0 (by omega)]
    exact zat (show l.length - (0 + 1) < l.length - 0 by omega) (zaq (.cons rfl (.cons rfl .nil))) ⟨0 + 1, a, rfl, hlt, hall, fun h => by omega, hnx, rfl⟩
   | succ k =>
    have hkl : k < l.length := by omega
    obtain rfl := hz1 k hkl rfl
    have hg1 := zd4 hkl
    generalize l[k] = s1 at hall hg1
    obtain ⟨a1, o1⟩ := s1
    have hg1 : (cSs l)[((k : Nat) : Int).toNat]? = some [.int .i64 a1, .bool o1] := hg1
    have hall : zhk (-1) l = if (a == a1) = true then 7 else if decide (a < a1) = true then 9 else zhk a (l.drop (k + 1 + 1)) := hall
    have hwp := yb7 k (by omega)
    refine zao rfl rfl rfl (fun _ => ?_) fun h4 => absurd (of_decide_eq_false h4) (by omega)
    repeat (first | refine zbc rfl ?_ | refine za1 rfl ?_ | refine za6 rfl rfl ?_ | refine zak rfl rfl rfl ?_ | refine zb3 (op := .sub) rfl rfl rfl ?_ | refine zba rfl rfl (by omega) (by assumption) rfl ?_)
    rw [hwp]
    refine zba rfl rfl (by omega) (by assumption) rfl (zbc rfl (zak rfl rfl rfl (zbc rfl (za6 rfl rfl (zbc rfl ?_)))))
    refine zao rfl rfl rfl (fun h4 => ?_) fun h4 => ?_
    ·rw [if_pos h4] at hall
     rw [hall]
     refine zau rfl rfl (onu (zb2 rfl (zsr rfl (za1 rfl (onu (zaf (za2 (zaa (za2 ?_)))))))))
     refine zaw ?_
     refine zaa (za2 ?_)
     exact zae ⟨.inr rfl, _, rfl, rfl⟩
    rw [if_neg (by rw [h4]; decide)] at hall
    refine zau rfl rfl (onu (zb5 rfl (zab (za8 (za7 (zdo env0_ok rfl rfl rfl (za1 rfl ?_)))))))
    refine zao rfl rfl rfl (fun _ => ?_) fun h4 => absurd (of_decide_eq_false h4) (by omega)
    repeat (first | refine zbc rfl ?_ | refine za1 rfl ?_ | refine za6 rfl rfl ?_ | refine zak rfl rfl rfl ?_ | refine zb3 (op := .sub) rfl rfl rfl ?_ | refine zba rfl rfl (by omega) (by assumption) rfl ?_)
    rw [hwp]
    refine zba rfl rfl (by omega) (by assumption) rfl (zbc rfl (zak rfl rfl rfl (zbc rfl (za6 rfl rfl (zbc rfl ?_)))))
    refine zao rfl rfl rfl (fun h5 => ?_) fun h5 => ?_
    ·rw [if_pos h5] at hall
     rw [hall]
     refine zau rfl rfl (onu (zb2 rfl (zsr rfl (za1 rfl (onu (zaf (zaa (za2 ?_))))))))
     refine zaw ?_
     refine zaa (za2 ?_)
     exact zae ⟨.inr rfl, _, rfl, rfl⟩
    rw [if_neg (by rw [h5]; decide)] at hall
    refine zau rfl rfl (onu (zb5 rfl (zab (zb9 (za8 (za5 rfl (za1 rfl (zb3 (op := .add) rfl rfl rfl (za1 rfl (zai ?_))))))))))
    rw [zar (k + 1) (by omega)]
    exact zat (show l.length - (k + 1 + 1) < l.length - (k + 1) by omega) (zaq (.cons rfl (.cons rfl .nil))) ⟨k + 1 + 1, a, rfl, hlt, hall, fun h => by omega, hnx, rfl⟩
 ·have hi2 : i = l.length := by
   have : ¬ ((i : Nat) : Int) < ((cSs l).length : Nat) := of_decide_eq_false h3
   rw [hcl] at this
   omega
  rw [hi2, y0p, zhk] at hall
  rw [hall, if_neg (by decide)]
  refine onu (zb5 rfl (zbi (zan ?_)))
  refine zc9 ?_
  refine zbh (za8 (za7 (zsr rfl (zak rfl rfl rfl (za6 rfl rfl ?_)))))
  refine zas rfl rfl h106 noC ?_
  by_cases hw : w < 0 ∨ w > 1000000
  ·rw [show (decide (w ≥ 0) && decide (w ≤ 1000000)) = false from by rw [Bool.and_eq_false_iff, decide_eq_false_iff_not, decide_eq_false_iff_not]; omega, if_pos hw]
   refine zes rfl rfl (onu (zb2 rfl (zsr rfl (za1 rfl (onu (zaf (za2 ?_)))))))
   exact zae ⟨.inr rfl, _, rfl, rfl⟩
  ·rw [show (decide (w ≥ 0) && decide (w ≤ 1000000)) = true from by rw [y0g, decide_eq_true_eq, decide_eq_true_eq]; omega, if_neg hw]
   refine zes rfl rfl (onu (zb5 rfl (zab (za8 (zsr rfl (za1 rfl (onu (zaf ?_))))))))
   exact zae ⟨.inr rfl, _, rfl, rfl⟩
theorem znl : ∀ (l : List Sk) (z : Int), zhk z l = 0 → ∀ s ∈ l, 0 ≤ s.a ∧ s.a < 6
 | [], _, _, s, hs => by cases hs
 | t :: r, z, h, s, hs => by
  rw [zhk] at h
  split at h
  ·exact absurd h (by decide)
  rename_i hk
  split at h
  ·exact absurd h (by decide)
  split at h
  ·exact absurd h (by decide)
  rcases y0l.1 hs with rfl | hs
  ·have hk : zgb s.a = true := by simpa using hk
   unfold zgb at hk
   rw [y0g, decide_eq_true_eq, decide_eq_true_eq] at hk
   exact hk
  ·exact znl r _ h s hs
theorem zni {p : Sp} (h : spC p = 0) : p.l.length ≤ 6 ∧ ∀ s ∈ p.l, 0 ≤ s.a ∧ s.a < 6 := by
 unfold spC at h
 split at h
 ·exact absurd h (by decide)
 split at h
 ·exact absurd h (by decide)
 split at h
 ·rename_i h1; exact absurd h h1
 ·rename_i h1
  exact ⟨by omega, znl _ _ (by simpa using h1)⟩
def zgf (n : Int) (l : List Sk) : Bool := l.any fun s => decide (s.a ≥ n)
def fitC (n : Int) (p : Sp) (x : List Bool) : Int := if spC p ≠ 0 then spC p else if zgf n p.l = true then 6 else if zd5 x p.l = true then 0 else 14
theorem zhi (x : List Bool) : hasM (.vptr (x.map AV.bool)) = false := rfl
def b120_0 : IC := .seq (.region [oM 21 (.bin .lss (.t 20) (.t 19))] none)
 (.seq (.cond (.t 21) (.skip)
 (.exit 0))
 (.seq (.block 1 (.seq (.region [oM 22 (.idxs 2 (.t 18) (.t 20)),
  oL 23 2 22,
  oM 9 (.alloc [.int .i64 0, .bool false]),
  ⟨none, .store 2 (.t 9) (.t 23), none⟩] none)
 (.seq (.region [oF 24 0 9,
  oN 25 24,
  oF 26 0 3,
  oN 27 26,
  oM 28 (.bin .geq (.t 25) (.t 27))] none)
 (.cond (.t 28) (.seq (.region [oM 6 (.mov (.c (.int .i64 6)))] none)
 (.ret))
 (.skip)))))
 (.region [oM 29 (.bin .add (.t 20) (.c (.int .i64 1))),
  oT 20 29] none)))
def b120_2 : IC := .seq (.region [oM 34 (.bin .lss (.t 33) (.t 32))] none)
 (.seq (.cond (.t 34) (.skip)
 (.exit 2))
 (.seq (.block 3 (.seq (.region [oM 35 (.idxs 2 (.t 31) (.t 33)),
  oL 36 2 35,
  oM 11 (.alloc [.int .i64 0, .bool false]),
  ⟨none, .store 2 (.t 11) (.t 36), none⟩] none)
 (.seq (.region [oF 37 0 11,
  oN 38 37,
  oM 39 (.idxarr 6 1 (.t 5) (.t 38)),
  oN 40 39,
  oF 41 1 11,
  oN 42 41,
  oM 43 (.eqb false (.t 40) (.t 42))] (some [[], [0], [1], [2], [], [4], [3, 5]]))
 (.cond (.t 43) (.seq (.region [oM 6 (.mov (.c (.int .i64 14)))] none)
 (.ret))
 (.skip)))))
 (.region [oM 44 (.bin .add (.t 33) (.c (.int .i64 1))),
  oT 33 44] none)))
-- pneumatic/sequence.fits
def ic120 : IC := .seq (.region [oM 3 (.box (.t 0)),
  oM 4 (.box (.t 1)),
  oM 5 (.box (.t 2)),
  oM 6 (.mov (.c (.int .i64 0)))] none)
 (.seq (.seq (.region [oL 12 2 4,
  oM 13 (.call (.c (.fn 149 [] [])) [(.t 12)]),
  oT 7 13] none)
 (.seq (.region [oT 14 7,
  oM 15 (.bin .neq (.t 14) (.c (.int .i64 0)))] none)
 (.cond (.t 15) (.seq (.region [oT 16 7,
  oT 6 16] none)
 (.ret))
 (.skip))))
 (.seq (.seq (.region [oF 17 0 4,
  oN 18 17,
  oM 19 (.len false (.t 18)),
  oM 20 (.mov (.c (.int .i64 0)))] none)
 (.block 0 (.loop b120_0)))
 (.seq (.seq (.region [oF 30 0 4,
  oN 31 30,
  oM 32 (.len false (.t 31)),
  oM 33 (.mov (.c (.int .i64 0)))] none)
 (.block 2 (.loop b120_2)))
 (.seq (.region [oM 6 (.mov (.c (.int .i64 0)))] none)
 (.ret)))))
theorem fn120 : env0.fn 120 = some ⟨45, ic120, [.t 6]⟩ := by kernel_rfl
set_option maxHeartbeats 4000000 in
theorem fits76 (n : Int) (ls : List Sp) (p : Sp) (x : List Bool) (hx : x.length = 6) : PF Try.prog 120 [.agg (cQ n ls), .agg (cP p), .agg (x.map AV.bool)] (.int .i64 (fitC n p x)) := by
 obtain ⟨l, w⟩ := p
 have h96 := step96 ⟨l, w⟩
 have hcl : (cSs l).length = l.length := zbe l
 have h96 : PF Try.prog 149 [.agg [.vs (cSs l), .int .i64 w]] (.int .i64 (spC ⟨l, w⟩)) := h96
 refine zax env0_ok fn120 [(0, .agg [.int .i64 n, .vs (cPs ls)]), (1, .agg [.vs (cSs l), .int .i64 w]), (2, .agg (x.map AV.bool))] (by show 3 ≤ 45; decide) rfl fun w0 N0 => ?_
 unfold ic120
 refine zsr rfl (zbq rfl rfl (zbq rfl rfl (zbq rfl rfl (za1 rfl (onu (za7 (zsr rfl (zal rfl rfl rfl rfl ?_))))))))
 refine zas rfl rfl h96 noC ?_
 refine za1 rfl (onr rfl (za1 rfl ?_))
 refine zao rfl rfl rfl (fun h => ?_) fun h => ?_
 ·have h : spC ⟨l, w⟩ ≠ 0 := bne_iff_ne.1 h
  rw [show fitC n ⟨l, w⟩ x = spC ⟨l, w⟩ from if_pos h]
  refine onu (zb2 rfl (zsr rfl (za1 rfl (za1 rfl (onu (zaf (za2 ?_)))))))
  exact zae ⟨.inr rfl, _, rfl, rfl⟩
 have h : spC ⟨l, w⟩ = 0 := by simpa using h
 obtain ⟨hl, ha⟩ := zni h
 have hl : l.length ≤ 6 := hl
 have ha : ∀ s ∈ l, 0 ≤ s.a ∧ s.a < 6 := ha
 have hf : fitC n ⟨l, w⟩ x = if zgf n l = true then 6 else if zd5 x l = true then 0 else 14 := if_neg (by rw [h]; decide)
 rw [hf]
 refine onu (zb5 rfl (zab (za8 (za7 (zsr rfl (za9 rfl (za6 rfl rfl (zbb rfl rfl (za1 rfl (onu ?_))))))))))
 refine zad ?_
 refine zbj (fun mm S => ∃ i, mm = l.length - i ∧ i ≤ l.length ∧ zgf n l = zgf n (l.drop i) ∧
   S = st 45 [(3, .vptr [.int .i64 n, .vs (cPs ls)]), (4, .vptr [.vs (cSs l), .int .i64 w]), (5, .vptr (x.map AV.bool)), (18, .vs (cSs l)), (19, .int .i64 (cSs l).length), (20, .int .i64 (i : Nat))] [] 0 1) l.length
  (zbd [] [(0, 0, [.int .i64 n, .vs (cPs ls)]), (1, 1, [.vs (cSs l), .int .i64 w]), (2, 2, x.map AV.bool)] rfl rfl rfl (.cons rfl rfl (.cons rfl rfl (.cons rfl (zbl _) .nil))) .nil (l' := [(3, .vptr [.int .i64 n, .vs (cPs ls)]), (4, .vptr [.vs (cSs l), .int .i64 w]), (5, .vptr (x.map AV.bool)), (18, .vs (cSs l)), (19, .int .i64 (cSs l).length), (20, .int .i64 ((0 : Nat) : Int))]) (.cons rfl (.fptr rfl rfl) (.cons rfl (.fptr rfl rfl) (.cons rfl (.fptr rfl rfl) (.cons rfl (.same rfl) (.cons rfl (.same rfl) (.cons rfl (.same rfl) .nil))))))) ⟨0, rfl, y0q _, rfl, rfl⟩ ?_
 rintro mm S ⟨i, rfl, hi, hall, rfl⟩
 unfold b120_0
 refine zsr rfl ?_
 refine zao rfl rfl rfl (fun h3 => ?_) fun h3 => ?_
 ·have hlt : i < l.length := by
   have : ((i : Nat) : Int) < ((cSs l).length : Nat) := of_decide_eq_true h3
   rw [hcl] at this
   omega
  have hd : l.drop i = l[i] :: l.drop (i + 1) := y0d hlt
  rw [hd] at hall
  have hg := zd4 hlt
  generalize l[i] = s at hall hg
  obtain ⟨a, o⟩ := s
  have hg : (cSs l)[((i : Nat) : Int).toNat]? = some [.int .i64 a, .bool o] := hg
  have hall : zgf n l = (decide (a ≥ n) || zgf n (l.drop (i + 1))) := hall
  refine onu (za7 (zb2 rfl (zab (za8 (za7 (zad (zsr rfl (zba rfl rfl (by omega) (by assumption) rfl (zal rfl rfl rfl rfl (zay (zah rfl rfl rfl rfl rfl rfl rfl ?_)))))))))))
  refine onr rfl (za9 rfl (za6 rfl rfl (zak rfl rfl rfl (za6 rfl rfl ?_))))
  refine zao rfl rfl rfl (fun h4 => ?_) fun h4 => ?_
  ·rw [h4, Bool.true_or] at hall
   rw [hall, if_pos rfl]
   refine onu (zb2 rfl (zsr rfl (za1 rfl (onu (zaf (zaa (za2 ?_)))))))
   refine zaw ?_
   refine zaa (za2 ?_)
   exact zae ⟨.inr rfl, _, rfl, rfl⟩
  ·rw [h4, Bool.false_or] at hall
   refine onu (zb5 rfl (zab (zb9 (za8 (za5 rfl (zb3 (op := .add) rfl rfl rfl (za1 rfl (zai ?_))))))))
   rw [zar i (by omega)]
   exact zat (show l.length - (i + 1) < l.length - i by omega) (zbd [] [] rfl rfl rfl .nil .nil (.cons rfl (.same rfl) (.cons rfl (.same rfl) (.cons rfl (.same (zhi x)) (.cons rfl (.same rfl) (.cons rfl (.same rfl) (.cons rfl (.same rfl) .nil))))))) ⟨i + 1, rfl, hlt, hall, rfl⟩
 have hi2 : i = l.length := by
  have : ¬ ((i : Nat) : Int) < ((cSs l).length : Nat) := of_decide_eq_false h3
  rw [hcl] at this
  omega
 rw [hi2, y0p] at hall
 have hall : zgf n l = false := hall
 rw [hall, if_neg (by decide)]
 refine onu (za7 (zb5 rfl (zbi (zan ?_))))
 refine zc9 ?_
 refine zbh (za8 (za7 (zsr rfl (zak rfl rfl rfl (za6 rfl rfl (zbb rfl rfl (za1 rfl (onu (zad ?_)))))))))
 clear h3 hi hi2 hall hf
 refine zbj (fun mm S => ∃ i, mm = l.length - i ∧ i ≤ l.length ∧ zd5 x l = zd5 x (l.drop i) ∧
   S = st 45 [(5, .vptr (x.map AV.bool)), (31, .vs (cSs l)), (32, .int .i64 (cSs l).length), (33, .int .i64 (i : Nat))] [] 0 1) l.length
  (zbd [] [] rfl rfl rfl .nil .nil (l' := [(5, .vptr (x.map AV.bool)), (31, .vs (cSs l)), (32, .int .i64 (cSs l).length), (33, .int .i64 ((0 : Nat) : Int))]) (.cons rfl (.same (zhi x)) (.cons rfl (.same rfl) (.cons rfl (.same rfl) (.cons rfl (.same rfl) .nil))))) ⟨0, rfl, y0q _, rfl, rfl⟩ ?_
 rintro mm S ⟨i, rfl, hi, hall, rfl⟩
 unfold b120_2
 refine zsr rfl ?_
 refine zao rfl rfl rfl (fun h3 => ?_) fun h3 => ?_
 ·have hlt : i < l.length := by
   have : ((i : Nat) : Int) < ((cSs l).length : Nat) := of_decide_eq_true h3
   rw [hcl] at this
   omega
  have hd : l.drop i = l[i] :: l.drop (i + 1) := y0d hlt
  rw [hd] at hall
  have hg := zd4 hlt
  obtain ⟨ha0, ha1⟩ := ha _ (y0r hlt)
  generalize l[i] = s at hall hg ha0 ha1
  obtain ⟨a, o⟩ := s
  have ha0 : 0 ≤ a := ha0
  have ha1 : a < 6 := ha1
  have hg : (cSs l)[((i : Nat) : Int).toNat]? = some [.int .i64 a, .bool o] := hg
  have hall : zd5 x l = (!(x.getD a.toNat false == o) && zd5 x (l.drop (i + 1))) := hall
  have hxl : (x.map AV.bool).length = 6 := by rw [y07]; exact hx
  have hgx : (x.map AV.bool).drop (a.toNat * 1) = .bool (x.getD a.toNat false) :: (x.map AV.bool).drop (a.toNat * 1 + 1) := by
   rw [Nat.mul_one, y0d (by omega), List.getElem_map, y08, y06 (by omega)]
   rfl
  generalize x.getD a.toNat false = b at hgx hall
  refine onu (za7 (zb2 rfl (zab (za8 (za7 (zad (zsr rfl (zba rfl rfl (by omega) (by assumption) rfl (zal rfl rfl rfl rfl (zay (zah rfl rfl rfl rfl rfl rfl rfl ?_)))))))))))
  refine onu (za7 (zdo env0_ok rfl rfl rfl (za9 rfl (za6 rfl rfl ?_))))
  refine zzv rfl rfl (decide_eq_true ⟨ha0, by omega, by omega⟩) hgx ?_
  cases b <;> cases o
  all_goals
   repeat (first | refine za7 ?_ | refine za5 rfl ?_ | refine zai ?_ | refine za8 ?_ | refine zb9 ?_ | refine zab ?_ | refine zb2 rfl ?_ | refine zb5 rfl ?_ | refine zaf ?_ | refine za2 ?_ | refine zaa ?_ | refine za1 rfl ?_ | refine za6 rfl rfl ?_ | refine za9 rfl ?_ | refine zb3 (op := .add) rfl rfl rfl ?_ | refine zum rfl rfl rfl ?_ | refine zul rfl rfl rfl ?_)
  ·have hall : zd5 x l = false := hall
   rw [hall, if_neg (by decide)]
   refine zaw ?_
   refine zaa (za2 ?_)
   exact zae ⟨.inr rfl, _, rfl, rfl⟩
  ·have hall : zd5 x l = zd5 x (l.drop (i + 1)) := hall
   rw [zar i (by omega)]
   exact zat (show l.length - (i + 1) < l.length - i by omega) (zbd [] [] rfl rfl rfl .nil .nil (.cons rfl (.same (zhi x)) (.cons rfl (.same rfl) (.cons rfl (.same rfl) (.cons rfl (.same rfl) .nil))))) ⟨i + 1, rfl, hlt, hall, rfl⟩
  ·have hall : zd5 x l = zd5 x (l.drop (i + 1)) := hall
   rw [zar i (by omega)]
   exact zat (show l.length - (i + 1) < l.length - i by omega) (zbd [] [] rfl rfl rfl .nil .nil (.cons rfl (.same (zhi x)) (.cons rfl (.same rfl) (.cons rfl (.same rfl) (.cons rfl (.same rfl) .nil))))) ⟨i + 1, rfl, hlt, hall, rfl⟩
  ·have hall : zd5 x l = false := hall
   rw [hall, if_neg (by decide)]
   refine zaw ?_
   refine zaa (za2 ?_)
   exact zae ⟨.inr rfl, _, rfl, rfl⟩
 ·have hi2 : i = l.length := by
   have : ¬ ((i : Nat) : Int) < ((cSs l).length : Nat) := of_decide_eq_false h3
   rw [hcl] at this
   omega
  rw [hi2, y0p] at hall
  have hall : zd5 x l = true := hall
  rw [hall, if_pos rfl]
  refine onu (za7 (zb5 rfl (zbi (zan ?_))))
  refine zc9 ?_
  refine zbh (za8 (zsr rfl (za1 rfl (onu (zaf ?_)))))
  exact zae ⟨.inr rfl, _, rfl, rfl⟩
def ixB (c : Bool) : Nat → List Bool → Int
 | _, [] => -1
 | i, y :: ys => if (c == y) = true then (i : Int) else ixB c (i + 1) ys
theorem zzg (c : Bool) : ∀ (i : Nat) (l : List Bool), decide (ixB c i l ≥ 0) = l.any (· == c)
 | _, [] => rfl
 | i, y :: ys => by
  rw [ixB, List.any_cons]
  by_cases h : c = y
  ·subst h
   rw [if_pos (by simp), decide_eq_true (by omega)]
   simp
  ·rw [if_neg (by simpa using h), zzg c (i + 1) ys, show (y == c) = false from by simpa using fun e => h e.symm, Bool.false_or]
theorem vsB_at {l : List Bool} {i : Nat} (h : i < l.length) : (l.map fun b => ([.bool b] : List AV))[((i : Nat) : Int).toNat]? = some [.bool l[i]] := by
 rw [y0y, y0h, y06 h]
 rfl
def b150_0 : IC := .seq (.region [oM 9 (.bin .lss (.t 8) (.t 7))] none)
 (.seq (.cond (.t 9) (.skip)
 (.exit 0))
 (.seq (.block 1 (.seq (.region [oT 10 8,
  oT 5 10] none)
 (.seq (.region [oT 11 1,
  oT 12 0,
  oT 13 5,
  oM 14 (.idxs 1 (.t 12) (.t 13)),
  oN 15 14,
  oM 16 (.eqb false (.t 11) (.t 15))] none)
 (.cond (.t 16) (.seq (.region [oT 17 5,
  oT 4 17] none)
 (.ret))
 (.skip)))))
 (.region [oM 18 (.bin .add (.t 8) (.c (.int .i64 1))),
  oT 8 18] none)))
-- slices.Index[[]bool,bool]
def ic150 : IC := .seq (.region [oM 4 (.mov (.c (.int .i64 0)))] none)
 (.seq (.seq (.region [oT 6 0,
  oM 7 (.len false (.t 6)),
  oM 8 (.mov (.c (.int .i64 0)))] none)
 (.block 0 (.loop b150_0)))
 (.seq (.region [oM 4 (.mov (.c (.int .i64 (-1))))] none)
 (.ret)))
theorem fn150 : env0.fn 150 = some ⟨19, ic150, [.t 4]⟩ := by kernel_rfl
theorem index97 (l : List Bool) (hl : l.length ≤ 100000) (c : Bool) : PF Try.prog 150 [vsB l, .bool c] (.int .i64 (ixB c 0 l)) := by
 have hcl : (l.map fun b => ([.bool b] : List AV)).length = l.length := y07 ..
 refine zax env0_ok fn150 [(0, vsB l), (1, .bool c)] (by show 2 ≤ 19; decide) rfl fun w0 N0 => ?_
 unfold ic150
 refine zsr rfl (za1 rfl (onu (za7 (zsr rfl (za1 rfl (zbb rfl rfl (za1 rfl (onu (zad ?_)))))))))
 refine zbj (fun mm S => ∃ i, mm = l.length - i ∧ i ≤ l.length ∧ ixB c 0 l = ixB c i (l.drop i) ∧
   S = st 19 [(0, vsB l), (1, .bool c), (7, .int .i64 (l.map fun b => ([.bool b] : List AV)).length), (8, .int .i64 (i : Nat))] [] 0 1) l.length
  (zem (.cons rfl (.same rfl) (.cons rfl (.same rfl) (.cons rfl (.same rfl) (.cons rfl (.same rfl) .nil))))) ⟨0, rfl, y0q _, rfl, rfl⟩ ?_
 rintro mm S ⟨i, rfl, hi, hall, rfl⟩
 unfold b150_0
 refine zsr rfl ?_
 refine zao rfl rfl rfl (fun h3 => ?_) fun h3 => ?_
 ·have hlt : i < l.length := by
   have : ((i : Nat) : Int) < ((l.map fun b => ([.bool b] : List AV)).length : Nat) := of_decide_eq_true h3
   rw [hcl] at this
   omega
  have hd : l.drop i = l[i] :: l.drop (i + 1) := y0d hlt
  rw [hd, ixB] at hall
  have hg := vsB_at hlt
  generalize l[i] = y at hall hg
  cases c <;> cases y
  all_goals
   repeat (first | refine za7 ?_ | refine za5 rfl ?_ | refine zai ?_ | refine za8 ?_ | refine zb9 ?_ | refine zad ?_ | refine zab ?_ | refine zb2 rfl ?_ | refine zb5 rfl ?_ | refine zaf ?_ | refine za2 ?_ | refine zaa ?_ | refine za1 rfl ?_ | refine za6 rfl rfl ?_ | refine zb3 (op := .add) rfl rfl rfl ?_ | refine zum rfl rfl rfl ?_ | refine zul rfl rfl rfl ?_ | refine zba rfl rfl (by omega) (by assumption) rfl ?_)
  ·have hall : ixB false 0 l = (i : Int) := hall
   rw [hall]
   refine zaw ?_
   refine zaa (za2 ?_)
   exact zae ⟨.inr rfl, _, rfl, rfl⟩
  ·exact zat (show l.length - (i + 1) < l.length - i by omega) (zem (.cons rfl (.same rfl) (.cons rfl (.same rfl) (.cons rfl (.same rfl) (.cons rfl (zk3 (congrArg (AV.int .i64) (zar i (by omega))) rfl) .nil))))) ⟨i + 1, rfl, hlt, hall, rfl⟩
  ·exact zat (show l.length - (i + 1) < l.length - i by omega) (zem (.cons rfl (.same rfl) (.cons rfl (.same rfl) (.cons rfl (.same rfl) (.cons rfl (zk3 (congrArg (AV.int .i64) (zar i (by omega))) rfl) .nil))))) ⟨i + 1, rfl, hlt, hall, rfl⟩
  ·have hall : ixB true 0 l = (i : Int) := hall
   rw [hall]
   refine zaw ?_
   refine zaa (za2 ?_)
   exact zae ⟨.inr rfl, _, rfl, rfl⟩
 ·have hi2 : i = l.length := by
   have : ¬ ((i : Nat) : Int) < ((l.map fun b => ([.bool b] : List AV)).length : Nat) := of_decide_eq_false h3
   rw [hcl] at this
   omega
  rw [hi2, y0p, ixB] at hall
  rw [hall]
  refine onu (za7 (zb5 rfl (zbi (zan ?_))))
  refine zc9 ?_
  refine zbh (za8 (zsr rfl (za1 rfl (onu (zaf ?_)))))
  exact zae ⟨.inr rfl, _, rfl, rfl⟩
-- slices.Contains[[]bool,bool]
def ic122 : IC := .seq (.region [oM 4 (.mov (.c (.bool false)))] none)
 (.seq (.region [oT 5 0,
  oT 6 1,
  oM 7 (.call (.c (.fn 150 [] [])) [(.t 5), (.t 6)]),
  oM 8 (.bin .geq (.t 7) (.c (.int .i64 0))),
  oT 4 8] none)
 (.ret))
theorem fn122 : env0.fn 122 = some ⟨9, ic122, [.t 4]⟩ := by kernel_rfl
theorem zeo (l : List Bool) (hl : l.length ≤ 100000) (c : Bool) : PF Try.prog 122 [vsB l, .bool c] (.bool (l.any (· == c))) := by
 have h97 := index97 l hl c
 have ha := zzg c 0 l
 refine zax env0_ok fn122 [(0, vsB l), (1, .bool c)] (by show 2 ≤ 9; decide) rfl fun w0 N0 => ?_
 unfold ic122
 rw [← ha]
 refine zsr rfl (za1 rfl (onr rfl (za1 rfl (za1 rfl ?_))))
 refine zas rfl rfl h97 noC ?_
 refine zao rfl rfl rfl (fun h => ?_) fun h => ?_
 all_goals
  rw [h]
  refine za1 rfl (onu (zaf ?_))
  exact zae ⟨.inr rfl, _, rfl, rfl⟩
theorem zpl : ∀ (l : List Sk) (z : Int), zhk z l = 0 → ∀ s ∈ l, z < s.a
 | [], _, _, s, hs => by cases hs
 | t :: r, z, h, s, hs => by
  rw [zhk] at h
  split at h
  ·exact absurd h (by decide)
  split at h
  ·exact absurd h (by decide)
  rename_i h1
  split at h
  ·exact absurd h (by decide)
  rename_i h2
  have h1 : ¬ t.a = z := by simpa using h1
  have h2 : ¬ t.a < z := by simpa using h2
  rcases y0l.1 hs with rfl | hs
  ·omega
  ·have := zpl r _ h s hs
   omega
theorem zj4 {s : Sk} {r : List Sk} {z : Int} (h : zhk z (s :: r) = 0) : zhk s.a r = 0 := by
 rw [zhk] at h
 split at h
 ·exact absurd h (by decide)
 split at h
 ·exact absurd h (by decide)
 split at h
 ·exact absurd h (by decide)
 exact h
def zgq (b : Bool) : Int := if b = true then 2 else 0
def enE (E : List Bool) : List Int := E.map zgq
def chA (E : List Bool) : List (List Int) := E.map fun b => [zgq b]
def zhz (o : Bool) : List Int := if o = true then [1, 2] else [3, 0]
def chS : List (List Int) → List Sk → List (List Int)
 | C, [] => C
 | C, s :: r => chS (C.set s.a.toNat (C.getD s.a.toNat [] ++ zhz s.o)) r
theorem ze1 : ∀ (l : List Sk) (C : List (List Int)), (chS C l).length = C.length
 | [], _ => rfl
 | s :: r, C => by rw [chS, ze1 r, y1i]
theorem zrg {i : Int} : ∀ {l : List Sk}, (∀ s ∈ l, s.a ≠ i) → zf4 i l = 0
 | [], _ => rfl
 | s :: r, h => by
  rw [zf4, if_neg (by have := h s (y05 ..); simpa using this)]
  exact zrg fun t ht => h t (y04 _ ht)
def wayP (w : Int) : List Int := if w = 1 then [1, 2] else if w = -1 then [3, 0] else []
theorem zxw : ∀ (l : List Sk) (z : Int) (C : List (List Int)) (i : Nat), zhk z l = 0 → (∀ s ∈ l, 0 ≤ s.a ∧ s.a < C.length) → (chS C l).getD i [] = C.getD i [] ++ wayP (zf4 i l)
 | [], _, C, i, _, _ => (y0u _).symm
 | s :: r, z, C, i, h, ha => by
  have ht := zj4 h
  have hr := zpl r _ ht
  obtain ⟨a0, a1⟩ := ha s (y05 ..)
  rw [chS, zxw r s.a _ i ht fun t ht => by rw [y1i]; exact ha t (y04 _ ht)]
  by_cases e : s.a = (i : Int)
  ·have e2 : s.a.toNat = i := by omega
   rw [zrg (l := r) fun t ht => by have := hr t ht; omega, zf4, if_pos (by simpa using e), e2, show wayP 0 = [] from rfl, y0u]
   rw [y08, List.getElem?_set_self (by omega), y1c]
   cases s.o <;> rfl
  ·have e2 : s.a.toNat ≠ i := by omega
   rw [zf4, if_neg (by simpa using e)]
   rw [y08, y2d e2, ← y08]
theorem zj6 {E : List Bool} {i : Nat} : ∀ {l : List Sk}, (∀ s ∈ l, 0 ≤ s.a) → zd5 E l = true → (zf4 i l = 1 ∧ E.getD i false = false) ∨ (zf4 i l = -1 ∧ E.getD i false = true) ∨ zf4 i l = 0
 | [], _, _ => .inr (.inr rfl)
 | s :: r, h0, h => by
  have h : (!(E.getD s.a.toNat false == s.o) && zd5 E r) = true := h
  rw [y0g] at h
  obtain ⟨h1, h2⟩ := h
  have a0 := h0 s (y05 ..)
  by_cases e : s.a = (i : Int)
  ·have e2 : s.a.toNat = i := by omega
   rw [zf4, if_pos (by simpa using e)]
   rw [e2] at h1
   generalize E.getD i false = b at h1 ⊢
   cases ho : s.o
   ·rw [ho] at h1; cases b
    ·exact absurd h1 (by decide)
    ·exact .inr (.inl ⟨rfl, rfl⟩)
   ·rw [ho] at h1; cases b
    ·exact .inl ⟨rfl, rfl⟩
    ·exact absurd h1 (by decide)
  ·rw [zf4, if_neg (by simpa using e)]
   exact zj6 (fun t ht => h0 t (y04 _ ht)) h2
theorem zfo {i : Nat} : ∀ (l : List Sk) (E : List Bool), (∀ s ∈ l, 0 ≤ s.a) → zf4 i l = 0 → (aft E l).getD i false = E.getD i false
 | [], _, _, _ => rfl
 | s :: r, E, h0, h => by
  have a0 := h0 s (y05 ..)
  rw [zf4] at h
  by_cases e : s.a = (i : Int)
  ·rw [if_pos (by simpa using e)] at h
   split at h <;> exact absurd h (by decide)
  ·rw [if_neg (by simpa using e)] at h
   have e2 : s.a.toNat ≠ i := by omega
   show (aft (E.set s.a.toNat s.o) r).getD i false = _
   rw [zfo r _ (fun t ht => h0 t (y04 _ ht)) h, y08, y2d e2, ← y08]
def zpj (E F : List Bool) (l : List Sk) (i : Nat) : List Int := if zf4 i l = 1 then [0, 1, 2] else if zf4 i l = -1 then [2, 3, 0] else [zgq (E.getD i false && F.getD i false)]
def zf5 (E F : List Bool) (l : List Sk) (n : Nat) : List (List Int) := (List.range n).map (zpj E F l)
theorem zra {E F : List Bool} {l : List Sk} {n i : Nat} (h : i < (zf5 E F l n).length) : (zf5 E F l n)[i] = zpj E F l i := by
 simp [zf5]
theorem chS_stat {E : List Bool} {l : List Sk} {z : Int} (h : zhk z l = 0) (h0 : ∀ s ∈ l, 0 ≤ s.a ∧ s.a < E.length) (hs : zd5 E l = true) : chS (chA E) l = zf5 E (aft E l) l E.length := by
 have hl : (chA E).length = E.length := y07 ..
 refine List.ext_getElem (by rw [ze1, hl]; unfold zf5; rw [y07, y1x]) fun i h1 h2 => ?_
 have hi : i < E.length := by rw [ze1, hl] at h1; exact h1
 have hg := zxw l z (chA E) i h fun s hs => by rw [hl]; exact h0 s hs
 rw [y08, y06 h1, y1c] at hg
 rw [hg]
 have hc : (chA E).getD i [] = [zgq (E.getD i false)] := by
  unfold chA
  rw [y08, y0h, y06 hi, y08, y06 hi]
  rfl
 rw [hc, zra h2]
 unfold zpj
 rcases zj6 (i := i) (fun s hs => (h0 s hs).1) hs with ⟨e, e2⟩ | ⟨e, e2⟩ | e
 ·rw [e, e2]; rfl
 ·rw [e, e2]; rfl
 ·rw [zfo l E (fun s hs => (h0 s hs).1) e, e]
  cases E.getD i false <;> rfl
def zgi (E : List Bool) (l : List Sp) : List Bool := l.foldl (fun E p => aft E p.l) E
theorem zhm (l : List Sp) : ∀ E : List Bool, (zgi E l).length = E.length := by
 induction l with
 | nil => exact fun _ => rfl
 | cons p l ih =>
  intro E
  show (zgi (aft E p.l) l).length = _
  rw [ih, zbu]
theorem zgo {E : List Bool} {l : List Sp} {i : Nat} (h : i < l.length) : zgi E (l.take (i + 1)) = aft (zgi E (l.take i)) l[i].l := by
 unfold zgi
 rw [y25, y06 h, List.foldl_append]
 rfl
def zpk (n : Int) : List Sp → List Bool → Int
 | [], E => if E.any id = true then 9 else 0
 | p :: r, E => if spC p ≠ 0 then spC p else if zgf n p.l = true then 6 else if zd5 E p.l = true then zpk n r (aft E p.l) else 14
def zq4 (n : Int) (l : List Sp) : Int :=
 if n < 1 ∨ n > 6 then 2 else if l.length = 0 then 13 else if l.length > 64 then 5 else if zpk n l (List.replicate n.toNat false) ≠ 0 then zpk n l (List.replicate n.toNat false) else if (List.range n.toNat).all (fun i => zp0 (i : Nat) l) = true then 0 else 13
def mvd (m : List Bool) (l : List Sk) : List Bool := l.foldl (fun m s => m.set s.a.toNat true) m
theorem zjm (l : List Sk) : ∀ x : List Bool, (mvd x l).length = x.length := by
 induction l with
 | nil => exact fun _ => rfl
 | cons s l ih =>
  intro x
  show (mvd (x.set s.a.toNat true) l).length = _
  rw [ih, y1i]
theorem mvd_take {x : List Bool} {l : List Sk} {i : Nat} (h : i < l.length) : mvd x (l.take (i + 1)) = (mvd x (l.take i)).set l[i].a.toNat true := by
 unfold mvd
 rw [y25, y06 h, List.foldl_append]
 rfl
theorem zzq {i : Nat} : ∀ (l : List Sk) (m : List Bool), i < m.length → (∀ s ∈ l, 0 ≤ s.a) → (mvd m l).getD i false = (m.getD i false || zf4 i l != 0)
 | [], m, _, _ => (Bool.or_false _).symm
 | s :: r, m, hi, h0 => by
  have a0 := h0 s (y05 ..)
  show (mvd (m.set s.a.toNat true) r).getD i false = _
  rw [zzq r _ (by rw [y1i]; exact hi) fun t ht => h0 t (y04 _ ht), zf4]
  by_cases e : s.a = (i : Int)
  ·have e2 : s.a.toNat = i := by omega
   rw [if_pos (by simpa using e), e2, y08, List.getElem?_set_self hi, y1c, Bool.true_or]
   cases s.o
   ·exact (Bool.or_true _).symm
   ·exact (Bool.or_true _).symm
  ·have e2 : s.a.toNat ≠ i := by omega
   rw [if_neg (by simpa using e), y08, y2d e2, ← y08]
def seqC (n : Int) : List Sp → List Bool → List Bool → Int
 | [], x, m => if x = List.replicate 6 false then (if (m.take n.toNat).any (· == false) = true then 13 else 0) else 9
 | p :: r, x, m => if fitC n p x ≠ 0 then fitC n p x else seqC n r (aft x p.l) (mvd m p.l)
def chkP (n : Int) (l : List Sp) : Int :=
 if n < 1 ∨ n > 6 then 2 else if l.length = 0 then 13 else if l.length > 64 then 5 else seqC n l (List.replicate 6 false) (List.replicate 6 false)
theorem zoi {n : Int} : ∀ {l : List Sk}, zgf n l = false → ∀ s ∈ l, s.a < n
 | [], _, s, hs => by cases hs
 | t :: r, h, s, hs => by
  have h : (decide (t.a ≥ n) || zgf n r) = false := h
  rw [y16, decide_eq_false_iff_not] at h
  rcases y0l.1 hs with rfl | hs
  ·omega
  ·exact zoi h.2 s hs
theorem zrl {T : List Bool} : ∀ (l : List Sk) (E : List Bool), (∀ s ∈ l, 0 ≤ s.a ∧ s.a < E.length) → aft (E ++ T) l = aft E l ++ T
 | [], _, _ => rfl
 | s :: r, E, h => by
  obtain ⟨a0, a1⟩ := h s (y05 ..)
  show aft ((E ++ T).set s.a.toNat s.o) r = _
  rw [List.set_append_left _ _ (by omega)]
  exact zrl r _ fun t ht => by rw [y1i]; exact h t (y04 _ ht)
theorem zv3 {E T : List Bool} : ∀ (l : List Sk), (∀ s ∈ l, 0 ≤ s.a ∧ s.a < E.length) → zd5 (E ++ T) l = zd5 E l
 | [], _ => rfl
 | s :: r, h => by
  obtain ⟨a0, a1⟩ := h s (y05 ..)
  show (!((E ++ T).getD s.a.toNat false == s.o) && zd5 (E ++ T) r) = (!(E.getD s.a.toNat false == s.o) && zd5 E r)
  rw [zv3 r fun t ht => h t (y04 _ ht), y08, y0w (by omega), ← y08]
theorem zjb : ∀ (E : List Bool), E.any id = false ↔ E = List.replicate E.length false
 | [] => ⟨fun _ => rfl, fun _ => rfl⟩
 | b :: E => by
  rw [List.any_cons, y0m, y24, y16, zjb E]
  constructor
  ·rintro ⟨h1, h2⟩
   have h1 : b = false := h1
   rw [h1, ← h2]
  ·intro h
   injection h with h1 h2
   exact ⟨h1, h2⟩
theorem take_any {n : Nat} : ∀ {m : List Bool}, n ≤ m.length → ((m.take n).any (· == false) = true ↔ ¬ (List.range n).all (fun i => m.getD i false) = true) := by
 intro m hn
 rw [List.any_eq_true, y0e]
 constructor
 ·rintro ⟨x, hx, hf⟩ h
  obtain ⟨i, hi, rfl⟩ := y1g.1 hx
  rw [y1w] at hi
  have := h i (y10.2 (by omega))
  rw [y08, y06 (by omega), y1c] at this
  rw [List.getElem_take, this] at hf
  exact absurd hf (by decide)
 ·intro h
  refine Classical.byContradiction fun hc => h fun i hi => ?_
  have hi := y10.1 hi
  rw [y08, y06 (by omega), y1c]
  cases e : m[i]'(by omega) with
  | true => rfl
  | false => exact absurd ⟨m[i]'(by omega), y1g.2 ⟨i, by rw [y1w]; omega, List.getElem_take⟩, by rw [e]; rfl⟩ hc
theorem yal {n : Nat} (h6 : n ≤ 6) : ∀ (l : List Sp) (E m : List Bool), E.length = n → m.length = 6 → seqC n l (E ++ List.replicate (6 - n) false) m = if zpk n l E ≠ 0 then zpk n l E else if (List.range n).all (fun i => m.getD i false || zp0 (i : Nat) l) = true then 0 else 13
 | [], E, m, hE, hm => by
  rw [seqC, zpk, y0y]
  have e6 : E ++ List.replicate (6 - n) false = List.replicate 6 false ↔ E.any id = false := by
   rw [zjb, hE, show 6 = n + (6 - n) from by omega, ← y1l, show n + (6 - n) - n = 6 - n from by omega]
   exact ⟨fun h => (List.append_inj h (by rw [hE, y0s])).1, fun h => by rw [h]⟩
  have hmv : ((List.range n).all fun i => m.getD i false || zp0 (i : Nat) []) = (List.range n).all fun i => m.getD i false := by
   congr 1
   funext i
   exact Bool.or_false _
  rw [hmv]
  have ht := take_any (m := m) (n := n) (by omega)
  cases ha : E.any id with
  | true =>
   rw [if_neg (fun h => by have := e6.1 h; rw [ha] at this; exact absurd this (by decide)), if_pos rfl, if_pos (by decide)]
  | false =>
   rw [if_pos (e6.2 ha), if_neg (show ¬ ((if false = true then (9 : Int) else 0) ≠ 0) from by decide)]
   by_cases h : (m.take n).any (· == false) = true
   ·rw [if_pos h, if_neg (ht.1 h)]
   ·rw [if_neg h, if_pos (Classical.byContradiction fun hc => h (ht.2 hc))]
 | p :: r, E, m, hE, hm => by
  have hfit : ∀ x, fitC n p x = if spC p ≠ 0 then spC p else if zgf n p.l = true then 6 else if zd5 x p.l = true then 0 else 14 := fun _ => rfl
  rw [seqC, hfit, zpk]
  by_cases h1 : spC p = 0
  ·simp only [h1, ne_eq, not_true_eq_false, ↓reduceIte]
   cases h2 : zgf n p.l with
   | true => simp
   | false =>
    have hlt := zoi h2
    have ha : ∀ s ∈ p.l, 0 ≤ s.a ∧ s.a < E.length := fun s hs => ⟨((zni h1).2 s hs).1, by have := hlt s hs; omega⟩
    rw [zv3 p.l ha]
    cases h3 : zd5 E p.l with
    | false => simp
    | true =>
     simp only [y0k, ↓reduceIte, not_true_eq_false]
     rw [zrl p.l E ha, yal h6 r (aft E p.l) (mvd m p.l) (by rw [zbu]; exact hE) (by rw [zjm]; exact hm)]
     have e : ((List.range n).all fun i => (mvd m p.l).getD i false || zp0 (i : Nat) r) = (List.range n).all fun i => m.getD i false || zp0 (i : Nat) (p :: r) := by
      rw [Bool.eq_iff_iff, y0e, y0e]
      refine forall_congr' fun i => imp_congr_right fun hi => ?_
      have hi := y10.1 hi
      rw [zzq p.l m (by omega) fun s hs => (ha s hs).1, zp0]
      cases (zf4 (i : Nat) p.l != 0) <;> cases m.getD i false <;> simp
     rw [e]
  ·simp [h1]
theorem chk_eq (n : Int) (l : List Sp) : chkP n l = zq4 n l := by
 unfold chkP zq4
 by_cases h : n < 1 ∨ n > 6
 ·rw [if_pos h, if_pos h]
 rw [if_neg h, if_neg h]
 by_cases h2 : l.length = 0
 ·rw [if_pos h2, if_pos h2]
 rw [if_neg h2, if_neg h2]
 by_cases h3 : l.length > 64
 ·rw [if_pos h3, if_pos h3]
 rw [if_neg h3, if_neg h3]
 obtain ⟨m, rfl⟩ : ∃ m : Nat, n = (m : Int) := ⟨n.toNat, by omega⟩
 have := yal (n := m) (by omega) l (List.replicate m false) (List.replicate 6 false) (y0s ..) rfl
 rw [y1l, show m + (6 - m) = 6 from by omega] at this
 rw [this, y0y]
 have e : ((List.range m).all fun i => (List.replicate 6 false).getD i false || zp0 (i : Nat) l) = (List.range m).all fun i => zp0 (i : Nat) l := by
  congr 1
  funext i
  rw [show (List.replicate 6 false).getD i false = false from by
   rw [y08, List.getElem?_replicate]
   split <;> rfl, Bool.false_or]
 rw [e]
structure StpOk (n : Int) (E : List Bool) (p : Sp) : Prop where
 sp : spC p = 0
 hi : zgf n p.l = false
 su : zd5 E p.l = true
theorem StpOk.acts {n : Int} {E : List Bool} {p : Sp} (h : StpOk n E p) (hE : (E.length : Int) = n) : ∀ s ∈ p.l, 0 ≤ s.a ∧ s.a < E.length := fun s hs =>
 ⟨((zni h.sp).2 s hs).1, by have := zoi h.hi s hs; omega⟩
theorem zpg {p : Sp} (h : spC p = 0) : zhk (-1) p.l = 0 := by
 unfold spC at h
 split at h
 ·exact absurd h (by decide)
 split at h
 ·exact absurd h (by decide)
 split at h
 ·rename_i h1; exact absurd h h1
 ·rename_i h1
  simpa using h1
theorem StpOk.stat {n : Int} {E : List Bool} {p : Sp} (h : StpOk n E p) (hE : (E.length : Int) = n) : chS (chA E) p.l = zf5 E (aft E p.l) p.l E.length :=
 chS_stat (zpg h.sp) (h.acts hE) h.su
theorem stp_head {n : Int} {E : List Bool} {p : Sp} {r : List Sp} (h : zpk n (p :: r) E = 0) : StpOk n E p ∧ zpk n r (aft E p.l) = 0 := by
 rw [zpk] at h
 split at h
 ·rename_i h1; exact absurd h h1
 rename_i h1
 split at h
 ·exact absurd h (by decide)
 rename_i h2
 split at h
 ·rename_i h3
  exact ⟨⟨by simpa using h1, by simpa using h2, h3⟩, h⟩
 ·exact absurd h (by decide)
theorem zt4 {n : Int} : ∀ (l : List Sp) (E : List Bool), zpk n l E = 0 → (∀ k (h : k < l.length), StpOk n (zgi E (l.take k)) l[k]) ∧ (zgi E l).any id = false
 | [], E, h => by
  refine ⟨fun k h => absurd h (y28 k), ?_⟩
  rw [zpk] at h
  show E.any id = false
  cases e : E.any id with
  | false => rfl
  | true => rw [e, if_pos rfl] at h; exact absurd h (by decide)
 | p :: r, E, h => by
  obtain ⟨h1, h2⟩ := stp_head h
  obtain ⟨h3, h4⟩ := zt4 r _ h2
  refine ⟨fun k hk => ?_, h4⟩
  cases k with
  | zero => exact h1
  | succ k => exact h3 k (by rw [y0m] at hk; omega)
structure SeqOk (n : Nat) (l : List Sp) : Prop where
 n1 : 1 ≤ n
 n6 : n ≤ 6
 l0 : l.length ≠ 0
 l64 : l.length ≤ 64
 st : zpk n l (List.replicate n false) = 0
 mv : (List.range n).all (fun i => zp0 (i : Nat) l) = true
theorem chk_ok {n : Int} {l : List Sp} (h : zq4 n l = 0) : ∃ m : Nat, n = (m : Int) ∧ SeqOk m l := by
 unfold zq4 at h
 split at h
 ·exact absurd h (by decide)
 split at h
 ·exact absurd h (by decide)
 split at h
 ·exact absurd h (by decide)
 split at h
 ·rename_i h1; exact absurd h h1
 rename_i h4
 split at h
 ·rename_i h1 h2 h3 h5
  refine ⟨n.toNat, by omega, by omega, by omega, h2, by omega, ?_, h5⟩
  rw [Int.toNat_of_nonneg (by omega)]
  simpa using h4
 ·exact absurd h (by decide)
theorem SeqOk.step {n : Nat} {l : List Sp} (h : SeqOk n l) {k : Nat} (hk : k < l.length) : StpOk n (zgi (List.replicate n false) (l.take k)) l[k] := (zt4 l _ h.st).1 k hk
theorem SeqOk.last {n : Nat} {l : List Sp} (h : SeqOk n l) : zgi (List.replicate n false) l = List.replicate n false := by
 have := (zjb _).1 (zt4 l _ h.st).2
 rwa [zhm, y0s] at this
def badP (f : List Ex) (C : List (List Int)) : Option (List Int) := C.find? fun p => !(zh2 f p).isEmpty
def dgS (f : List Ex) : Nat → List Bool → List Sp → Int × List Int × Bool
 | _, _, [] => (0, [], false)
 | k, E, p :: r => match badP f (ze2 (zf5 E (aft E p.l) p.l E.length)) with
  | some q => ((k : Int), q, true)
  | none => dgS f (k + 1) (aft E p.l) r
def dgT (f : List Ex) (n : Int) (l : List Sp) : Int × List Int × Bool := if zq4 n l = 0 then (if zc0 f n = 0 then dgS f 0 (List.replicate n.toNat false) l else (0, [], false)) else (0, [], false)
def dgC (f : List Ex) (n : Int) (l : List Sp) : Int := if zq4 n l = 0 then zc0 f n else zq4 n l
def dgV (f : List Ex) (n : Int) (l : List Sp) : AV := .tup [.int .i64 (dgT f n l).1, vsI (dgT f n l).2.1, .bool (dgT f n l).2.2, .int .i64 (dgC f n l)]
theorem statI_ne (E F : List Bool) (l : List Sk) (i : Nat) : zpj E F l i ≠ [] ∧ (zpj E F l i).length ≤ 3 := by
 unfold zpj
 split
 ·exact ⟨by simp, by simp⟩
 split
 ·exact ⟨by simp, by simp⟩
 ·exact ⟨by simp, by simp⟩
theorem zf0 (E F : List Bool) (l : List Sk) (n : Nat) : (zf5 E F l n).length = n := by
 unfold zf5
 rw [y07, y1x]
theorem statL_ne {E F : List Bool} {l : List Sk} {n : Nat} : ∀ c ∈ zf5 E F l n, c ≠ [] ∧ c.length ≤ 3 := by
 intro c hc
 obtain ⟨i, _, rfl⟩ := y0o.1 hc
 exact statI_ne E F l i
theorem zo8 {f : List Ex} : ∀ (l : List Sp) (k : Nat) (E : List Bool), (dgS f k E l).2.2 = false → ∀ i (h : i < l.length), ∀ p ∈ ze2 (zf5 (zgi E (l.take i)) (aft (zgi E (l.take i)) l[i].l) l[i].l E.length), (zh2 f p).isEmpty = true
 | [], _, _, _, i, h, _, _ => absurd h (y28 i)
 | p :: r, k, E, h, i, hi, q, hq => by
  rw [dgS] at h
  cases e : badP f (ze2 (zf5 E (aft E p.l) p.l E.length)) with
  | some q => rw [e] at h; exact absurd h (by simp)
  | none =>
   rw [e] at h
   cases i with
   | zero =>
    have := List.find?_eq_none.1 e q hq
    simpa using this
   | succ i => exact zo8 r (k + 1) (aft E p.l) h i (by rw [y0m] at hi; omega) q (by rw [zbu]; exact hq)
section
variable {P : Program} {w0 : World} {N0 : Nat} {k : List Fr} {Q : Exit → AS → Prop} {pf : Kn} {ios : List Opr} {n nx ck : Nat} {mk : List (Nat × Nat)} {md : Md} {l : List (Nat × AV)} {hp : List (Nat × Nat × AObj)}
theorem o_mks {d sz bytes : Nat} {z : List AV} {a c : Arg} {lv cv : Int} {kd kc : IntKind} (ha : zbr a l = some (.int kd lv)) (hc : zbr c l = some (.int kc cv)) (hb : 0 ≤ lv ∧ lv ≤ cv ∧ cv ≤ 1048576 ∧ bytes ≤ 16777216)
  (go : Om P w0 N0 md pf ios (st n ((d, .ms nx ck sz 0 lv.toNat (some cv.toNat)) :: l) ((nx, ck, .cells (zpd cv.toNat z)) :: hp) (nx + 1) (ck + 1) mk) k Q) (hx : Ops pf (st n l hp nx ck mk) (.mkslice sz bytes z a c) := by exact trivial) :
  Om P w0 N0 md pf (⟨some d, .mkslice sz bytes z a c, none⟩ :: ios) (st n l hp nx ck mk) k Q :=
 zfm (by simp only [iop, zbk, ha, hc, if_pos hb]; rfl) go hx
theorem zht {d sz m : Nat} {ax : Arg} {al ah : Option Arg} {id sp off : Nat} {lv hv : Option AV} {lo hh : Int} (hx : zbr ax l = some (.mptr id sp off)) (h1 : zvz al l = some lv) (h2 : zcw lv 0 = some lo) (h3 : zvz ah l = some hv) (h4 : zcw hv m = some hh)
  (hb : 0 ≤ lo ∧ lo ≤ hh ∧ hh ≤ m) (go : Om P w0 N0 md pf ios (st n ((d, .ms id sp sz (off + lo.toNat * sz) (hh.toNat - lo.toNat) (some (m - lo.toNat))) :: l) hp nx ck mk) k Q) (hxx : Ops pf (st n l hp nx ck mk) (.slarr m sz ax al ah) := by exact trivial) :
  Om P w0 N0 md pf (⟨some d, .slarr m sz ax al ah, none⟩ :: ios) (st n l hp nx ck mk) k Q := by
 have e1 : (st n l hp nx ck mk).oarg al = some lv := (zp5 al).trans h1
 have e3 : (st n l hp nx ck mk).oarg ah = some hv := (zp5 ah).trans h3
 exact zfm (by simp only [iop, zbk, hx, e1, e3, h2, h4, if_pos hb]) go hxx
theorem zq {ic : IC} {q : Nat} (hq : mk.length = q) (live : zh3) (fz : List (Nat × Nat × List AV)) (l' : List (Nat × AV)) (hok : okW (fz.map (·.1)) live = true) (hf : RnF hp fz) (h1 : RnH live fz hp live) (h2 : RnA live fz l l') (h : Zm P w0 N0 none ic (st n l' (zca 0 live ++ zce live.length q) (q + live.length) 1 (ze5 live.length q)) k Q) : Zm P w0 N0 none ic (st n l hp nx ck mk) k Q := by
 subst hq
 exact z_renwm live fz l' hok hf h1 h2 h
theorem sq {l' : List (Nat × AV)} {hp' : List (Nat × Nat × AObj)} {nx' q : Nat} {mk' : List (Nat × Nat)} (hq : mk.length = q) (live : zh3) (fz : List (Nat × Nat × List AV)) (hh : hp' = zca 0 live ++ zce live.length q) (hx : nx' = q + live.length) (hm : mk' = ze5 live.length q) (hok : okW (fz.map (·.1)) live = true) (hf : RnF hp fz) (h1 : RnH live fz hp live) (h2 : RnA live fz l l') : Sub0 w0 N0 (st n l hp nx ck mk) (st n l' hp' nx' 1 mk') := by
 subst hq hm
 exact zlz live fz hh hx hok hf h1 h2
end
theorem yab (m : Nat) : zpd m [.bool false] = (List.replicate m false).map AV.bool := by
 induction m with
 | zero => rfl
 | succ m ih => rw [zpd, ih, y24, y1d]; rfl
def b86_2 : IC := .seq (.seq (.region [oT 29 7,
  oF 30 0 5,
  oN 31 30,
  oM 32 (.len false (.t 31)),
  oM 33 (.bin .lss (.t 29) (.t 32))] none)
 (.cond (.t 33) (.skip)
 (.exit 2)))
 (.seq (.block 3 (.seq (.region [oF 36 0 5,
  oN 37 36,
  oT 38 7,
  oM 39 (.idxs 2 (.t 37) (.t 38)),
  oF 40 0 39,
  oN 41 40,
  oF 42 0 1,
  oN 43 42,
  oM 44 (.bin .geq (.t 41) (.t 43))] (some [[], [0], [], [1, 2], [3], [4], [], [6], [5, 7]]))
 (.cond (.t 44) (.seq (.region [oM 2 (.mov (.c (.int .i64 6)))] none)
 (.ret))
 (.skip))))
 (.region [oT 34 7,
  oM 35 (.bin .add (.t 34) (.c (.int .i64 1))),
  oT 7 35] none))
def b86_0 : IC := .seq (.seq (.region [oT 12 4,
  oF 13 1 1,
  oN 14 13,
  oM 15 (.len false (.t 14)),
  oM 16 (.bin .lss (.t 12) (.t 15))] none)
 (.cond (.t 16) (.skip)
 (.exit 0)))
 (.seq (.block 1 (.seq (.region [oF 19 1 1,
  oN 20 19,
  oT 21 4,
  oM 22 (.idxs 2 (.t 20) (.t 21)),
  oL 23 2 22,
  oM 5 (.alloc [.nils, .int .i64 0]),
  ⟨none, .store 2 (.t 5) (.t 23), none⟩] none)
 (.seq (.seq (.region [oL 24 2 5,
  oM 25 (.call (.c (.fn 136 [] [])) [(.t 24)]),
  oT 6 25] none)
 (.seq (.region [oT 26 6,
  oM 27 (.bin .neq (.t 26) (.c (.int .i64 0)))] none)
 (.cond (.t 27) (.seq (.region [oT 28 6,
  oT 2 28] none)
 (.ret))
 (.skip))))
 (.seq (.seq (.region [oM 7 (.mov (.c (.int .i64 0)))] none)
 (.block 2 (.loop b86_2)))
 (.seq (.seq (.region [oL 45 2 5,
  oT 46 3,
  oM 47 (.call (.c (.fn 137 [] [])) [(.t 45), (.t 46)]),
  oM 48 (.un .not (.t 47))] none)
 (.cond (.t 48) (.seq (.region [oM 2 (.mov (.c (.int .i64 14)))] none)
 (.ret))
 (.skip)))
 (.region [oL 49 2 5,
  oT 50 3,
  oM 51 (.call (.c (.fn 88 [] [])) [(.t 49), (.t 50)]),
  oT 3 51] none))))))
 (.region [oT 17 4,
  oM 18 (.bin .add (.t 17) (.c (.int .i64 1))),
  oT 4 18] none))
def b86_4 : IC := .seq (.seq (.region [oT 52 8,
  oF 53 0 1,
  oN 54 53,
  oM 55 (.bin .lss (.t 52) (.t 54))] none)
 (.cond (.t 55) (.skip)
 (.exit 4)))
 (.seq (.block 5 (.seq (.region [oT 58 3,
  oT 59 8,
  oM 60 (.idxs 1 (.t 58) (.t 59)),
  oN 61 60] none)
 (.cond (.t 61) (.seq (.region [oM 2 (.mov (.c (.int .i64 9)))] none)
 (.ret))
 (.skip))))
 (.region [oT 56 8,
  oM 57 (.bin .add (.t 56) (.c (.int .i64 1))),
  oT 8 57] none))
-- pneumatic/pneumaticref14.steps
def ic86 : IC := .seq (.region [oM 1 (.box (.t 0)),
  oM 2 (.mov (.c (.int .i64 0)))] none)
 (.seq (.region [oF 9 0 1,
  oN 10 9,
  oM 11 (.mkslice 1 1 [.bool false] (.t 10) (.t 10)),
  oT 3 11] none)
 (.seq (.seq (.region [oM 4 (.mov (.c (.int .i64 0)))] none)
 (.block 0 (.loop b86_0)))
 (.seq (.seq (.region [oM 8 (.mov (.c (.int .i64 0)))] none)
 (.block 4 (.loop b86_4)))
 (.seq (.region [oM 2 (.mov (.c (.int .i64 0)))] none)
 (.ret)))))
theorem fn86 : env0.fn 86 = some ⟨62, ic86, [.t 2]⟩ := by kernel_rfl
section
variable {w0 : World} {N0 : Nat} {k : List Fr} {Q : Exit → AS → Prop}
set_option maxHeartbeats 4000000 in
theorem stp86 (n : Nat) (h1 : 1 ≤ n) (h6 : n ≤ 6) (l : List Sp) (hl : l.length ≤ 64) (hs : ∀ p ∈ l, p.l.length ≤ 1000000) : PF Try.prog 86 [.agg (cQ n l)] (.int .i64 (zpk n l (List.replicate n false))) := by
 have hcl : (cPs l).length = l.length := zct l
 refine zax env0_ok fn86 [(0, .agg [.int .i64 (n : Nat), .vs (cPs l)])] (by show 1 ≤ 62; decide) rfl fun w0 N0 => ?_
 unfold ic86
 refine zsr rfl (zbq rfl rfl (za1 rfl (onr rfl (za9 rfl (za6 rfl rfl ?_)))))
 refine o_mks rfl rfl (by omega) ?_
 rw [y0y, yab]
 refine za1 rfl (onu (za7 (zsr rfl (za1 rfl (onu (zad ?_))))))
 refine zbj (fun mm S => ∃ i E, mm = l.length - i ∧ i ≤ l.length ∧ E.length = n ∧ zpk n l (List.replicate n false) = zpk n (l.drop i) E ∧
   S = st 62 [(1, .vptr [.int .i64 (n : Nat), .vs (cPs l)]), (3, vsB E), (4, .int .i64 (i : Nat))] [] 0 1) l.length
  (zbd [] [(0, 0, [.int .i64 (n : Nat), .vs (cPs l)]), (1, 1, (List.replicate n false).map AV.bool)] rfl rfl rfl (.cons rfl rfl (.cons rfl (zbl _) .nil)) .nil (l' := [(1, .vptr [.int .i64 (n : Nat), .vs (cPs l)]), (3, vsB (List.replicate n false)), (4, .int .i64 ((0 : Nat) : Int))]) (.cons rfl (.fptr rfl rfl) (.cons rfl (.fms0 rfl (by rw [y07, y0s]) (fun y hy => by obtain ⟨z, _, rfl⟩ := y0o.1 hy; rfl) (zje _)) (.cons rfl (.same rfl) .nil)))) ⟨0, _, rfl, y0q _, y0s .., rfl, rfl⟩ ?_
 rintro mm S ⟨i, E, rfl, hi, hE, hall, rfl⟩
 rw [hall]
 clear hall
 unfold b86_0
 refine za7 (zsr rfl (za1 rfl (zak rfl rfl rfl (za6 rfl rfl (zbb rfl rfl ?_)))))
 refine zao rfl rfl rfl (fun h4 => ?_) fun h4 => ?_
 ·have hlt : i < l.length := by
   have : ((i : Nat) : Int) < ((cPs l).length : Nat) := of_decide_eq_true h4
   rw [hcl] at this
   omega
  rw [y0d hlt, zpk]
  have hg := zgp hlt
  have hql := hs _ (y0r hlt)
  have p1 := step90 l[i]
  have p2 : (∀ s ∈ l[i].l, 0 ≤ s.a ∧ s.a < E.length) → _ := fun ha => suits91 l[i] E hql (by omega) ha
  have p3 : (∀ s ∈ l[i].l, 0 ≤ s.a ∧ s.a < E.length) → _ := fun ha => after63 l[i] E hql (by omega) (by omega) ha
  have hok : spC l[i] = 0 → _ := zni
  generalize l[i] = p at hg hql p1 p2 p3 hok ⊢
  obtain ⟨q, w⟩ := p
  have hg : (cPs l)[((i : Nat) : Int).toNat]? = some [.vs (cSs q), .int .i64 w] := hg
  have p1 : PF Try.prog 136 [.agg [.vs (cSs q), .int .i64 w]] (.int .i64 (spC ⟨q, w⟩)) := p1
  have hcq : (cSs q).length = q.length := zbe q
  refine onu (zb2 rfl (zab (za8 (za7 (zad (zsr rfl (zak rfl rfl rfl (za6 rfl rfl (za1 rfl (zba rfl rfl (by omega) (by assumption) rfl (zal rfl rfl rfl rfl ?_)))))))))))
  refine zay (zah rfl rfl rfl rfl rfl rfl rfl (onu (za7 (zsr rfl (zal rfl rfl rfl rfl ?_)))))
  refine zas rfl rfl p1 noC ?_
  refine za1 rfl (onr rfl (za1 rfl ?_))
  refine zao rfl rfl rfl (fun h5 => ?_) fun h5 => ?_
  ·have h5 : spC ⟨q, w⟩ ≠ 0 := bne_iff_ne.1 h5
   rw [if_pos h5]
   refine onu (zb2 rfl (zsr rfl (za1 rfl (za1 rfl (onu (zaf (za2 (zaa (za2 ?_)))))))))
   refine zaw ?_
   refine zaa (za2 ?_)
   exact zae ⟨.inr rfl, _, rfl, rfl⟩
  have h5 : spC ⟨q, w⟩ = 0 := by simpa using h5
  obtain ⟨hq6, ha⟩ := hok h5
  have hq6 : q.length ≤ 6 := hq6
  have ha : ∀ s ∈ q, 0 ≤ s.a ∧ s.a < 6 := ha
  rw [h5, if_neg (fun h => h rfl)]
  refine onu (zb5 rfl (zab (za8 (za7 (zsr rfl (za1 rfl (onu (zad ?_))))))))
  refine zbj (fun mm S => ∃ j, mm = q.length - j ∧ j ≤ q.length ∧ zgf n q = zgf n (q.drop j) ∧
    S = st 62 [(1, .vptr [.int .i64 (n : Nat), .vs (cPs l)]), (3, vsB E), (4, .int .i64 (i : Nat)), (5, .vptr [.vs (cSs q), .int .i64 w]), (7, .int .i64 (j : Nat))] [] 0 1) q.length
   (zbd [] [(0, 1, [.vs (cSs q), .int .i64 w])] rfl rfl rfl (.cons rfl rfl .nil) .nil (l' := [(1, .vptr [.int .i64 (n : Nat), .vs (cPs l)]), (3, vsB E), (4, .int .i64 (i : Nat)), (5, .vptr [.vs (cSs q), .int .i64 w]), (7, .int .i64 ((0 : Nat) : Int))]) (.cons rfl (.same rfl) (.cons rfl (.same rfl) (.cons rfl (.same rfl) (.cons rfl (.fptr rfl rfl) (.cons rfl (.same rfl) .nil)))))) ⟨0, rfl, y0q _, rfl, rfl⟩ ?_
  rintro mm S ⟨j, rfl, hj, hall, rfl⟩
  unfold b86_2
  refine za7 (zsr rfl (za1 rfl (zak rfl rfl rfl (za6 rfl rfl (zbb rfl rfl ?_)))))
  refine zao rfl rfl rfl (fun h6 => ?_) fun h6 => ?_
  ·have hlj : j < q.length := by
    have : ((j : Nat) : Int) < ((cSs q).length : Nat) := of_decide_eq_true h6
    rw [hcq] at this
    omega
   have hd : q.drop j = q[j] :: q.drop (j + 1) := y0d hlj
   rw [hd] at hall
   have hgq := zd4 hlj
   generalize q[j] = s at hall hgq
   obtain ⟨a, o⟩ := s
   have hgq : (cSs q)[((j : Nat) : Int).toNat]? = some [.int .i64 a, .bool o] := hgq
   have hall : zgf n q = (decide (a ≥ (n : Int)) || zgf n (q.drop (j + 1))) := hall
   refine onu (zb2 rfl (zab (za8 (za7 (zad (za7 (zdo env0_ok rfl rfl rfl (zak rfl rfl rfl (za6 rfl rfl (za1 rfl (zba rfl rfl (by omega) (by assumption) rfl (zak rfl rfl rfl ?_))))))))))))
   refine za6 rfl rfl (zak rfl rfl rfl (za6 rfl rfl ?_))
   refine zao rfl rfl rfl (fun h7 => ?_) fun h7 => ?_
   ·rw [h7, Bool.true_or] at hall
    rw [show (Sp.l ⟨q, w⟩) = q from rfl, hall, if_pos rfl]
    refine onu (zb2 rfl (zsr rfl (za1 rfl (onu (zaf (zaa (za2 ?_)))))))
    refine zaw ?_
    refine zaa (za2 (zaa (za2 ?_)))
    refine zaw ?_
    refine zaa (za2 ?_)
    exact zae ⟨.inr rfl, _, rfl, rfl⟩
   ·rw [h7, Bool.false_or] at hall
    refine onu (zb5 rfl (zab (zb9 (za8 (za5 rfl (za1 rfl (zb3 (op := .add) rfl rfl rfl (za1 rfl (zai ?_)))))))))
    rw [zar j (by omega)]
    exact zat (show q.length - (j + 1) < q.length - j by omega) (zaq (.cons rfl (.cons rfl (.cons rfl (.cons rfl (.cons rfl .nil)))))) ⟨j + 1, rfl, hlj, hall, rfl⟩
  have hj2 : j = q.length := by
   have : ¬ ((j : Nat) : Int) < ((cSs q).length : Nat) := of_decide_eq_false h6
   rw [hcq] at this
   omega
  rw [hj2, y0p] at hall
  have hall : zgf n q = false := hall
  have hlt2 := zoi hall
  have haE : ∀ s ∈ q, 0 ≤ s.a ∧ s.a < E.length := fun s hs => ⟨(ha s hs).1, by have := hlt2 s hs; omega⟩
  have p2 : PF Try.prog 137 [.agg [.vs (cSs q), .int .i64 w], vsB E] (.bool (zd5 E q)) := p2 haE
  have p3 : PF Try.prog 88 [.agg [.vs (cSs q), .int .i64 w], vsB E] (vsB (aft E q)) := p3 haE
  have hal := zbu q E
  rw [show (Sp.l ⟨q, w⟩) = q from rfl, hall, if_neg (fun h => Bool.noConfusion h)]
  refine onu (zb5 rfl (zbi (zan ?_)))
  refine zc9 ?_
  refine zbh (za8 (za7 (zsr rfl (zal rfl rfl rfl rfl (za1 rfl ?_)))))
  refine zas rfl rfl p2 noC ?_
  cases hsu : zd5 E q with
  | false =>
   rw [if_neg (fun h => Bool.noConfusion h)]
   refine zes rfl rfl (onu (zb2 rfl (zsr rfl (za1 rfl (onu (zaf (za2 (zaa (za2 ?_)))))))))
   refine zaw ?_
   refine zaa (za2 ?_)
   exact zae ⟨.inr rfl, _, rfl, rfl⟩
  | true =>
   rw [if_pos rfl]
   refine zes rfl rfl (onu (zb5 rfl (zab (za8 (za5 rfl (zal rfl rfl rfl rfl (za1 rfl ?_)))))))
   refine zas rfl rfl p3 noC ?_
   refine za1 rfl (zai (zb9 (za8 (za5 rfl (za1 rfl (zb3 (op := .add) rfl rfl rfl (za1 rfl (zai ?_))))))))
   rw [zar i (by omega)]
   exact zat (show l.length - (i + 1) < l.length - i by omega) (zaq (.cons rfl (.cons rfl (.cons rfl .nil)))) ⟨i + 1, aft E q, rfl, hlt, by rw [hal]; exact hE, rfl, rfl⟩
 ·have hi2 : i = l.length := by
   have : ¬ ((i : Nat) : Int) < ((cPs l).length : Nat) := of_decide_eq_false h4
   rw [hcl] at this
   omega
  subst hi2
  rw [y0p, zpk]
  have hcE : (E.map fun b => ([.bool b] : List AV)).length = E.length := y07 ..
  refine onu (zb5 rfl (zbi (zan ?_)))
  refine zc9 ?_
  refine zbh (za8 (za7 (zsr rfl (za1 rfl (onu (zad ?_))))))
  refine zbj (fun mm S => ∃ j, mm = n - j ∧ j ≤ n ∧ E.any id = (E.drop j).any id ∧
    S = st 62 [(1, .vptr [.int .i64 (n : Nat), .vs (cPs l)]), (3, vsB E), (8, .int .i64 (j : Nat))] [] 0 1) n
   (zaq (.cons rfl (.cons rfl (.cons rfl .nil)))) ⟨0, rfl, y0q _, rfl, rfl⟩ ?_
  rintro mm S ⟨j, rfl, hj, hall, rfl⟩
  unfold b86_4
  refine za7 (zsr rfl (za1 rfl (zak rfl rfl rfl (za6 rfl rfl ?_))))
  refine zao rfl rfl rfl (fun h6 => ?_) fun h6 => ?_
  ·have hlj : j < n := by
    have : ((j : Nat) : Int) < (n : Nat) := of_decide_eq_true h6
    omega
   have hd : E.drop j = E[j] :: E.drop (j + 1) := y0d (by omega)
   rw [hd, List.any_cons] at hall
   have hgq := vsB_at (l := E) (i := j) (by omega)
   generalize E[j] = b at hall hgq
   refine onu (zb2 rfl (zab (za8 (za7 (zad (zsr rfl (za1 rfl (za1 rfl (zba rfl rfl (by omega) (by assumption) rfl (za6 rfl rfl (zai ?_)))))))))))
   refine za8 ?_
   cases b
   ·have hall : E.any id = (E.drop (j + 1)).any id := hall
    refine zb5 rfl (zab (zb9 (za8 (za5 rfl (za1 rfl (zb3 (op := .add) rfl rfl rfl (za1 rfl (zai ?_))))))))
    rw [zar j (by omega)]
    exact zat (show n - (j + 1) < n - j by omega) (zaq (.cons rfl (.cons rfl (.cons rfl .nil)))) ⟨j + 1, rfl, hlj, hall, rfl⟩
   ·have hall : E.any id = true := hall
    rw [hall, if_pos rfl]
    refine zb2 rfl (zsr rfl (za1 rfl (onu (zaf (zaa (za2 ?_))))))
    refine zaw ?_
    refine zaa (za2 ?_)
    exact zae ⟨.inr rfl, _, rfl, rfl⟩
  ·have hj2 : j = E.length := by
    have : ¬ ((j : Nat) : Int) < (n : Nat) := of_decide_eq_false h6
    omega
   rw [hj2, y0p] at hall
   have hall : E.any id = false := hall
   rw [hall, if_neg (fun h => Bool.noConfusion h)]
   refine onu (zb5 rfl (zbi (zan ?_)))
   refine zc9 ?_
   refine zbh (za8 (zsr rfl (za1 rfl (onu (zaf ?_)))))
   exact zae ⟨.inr rfl, _, rfl, rfl⟩
def b21_0 : IC := .seq (.seq (.region [oT 26 4,
  oF 27 0 1,
  oN 28 27,
  oM 29 (.bin .lss (.t 26) (.t 28))] none)
 (.cond (.t 29) (.skip)
 (.exit 0)))
 (.seq (.block 1 (.seq (.region [oL 32 2 1,
  oT 33 4,
  oM 34 (.call (.c (.fn 87 [] [])) [(.t 32), (.t 33)]),
  oM 35 (.un .not (.t 34))] none)
 (.cond (.t 35) (.seq (.region [oM 2 (.mov (.c (.int .i64 13)))] none)
 (.ret))
 (.skip))))
 (.region [oT 30 4,
  oM 31 (.bin .add (.t 30) (.c (.int .i64 1))),
  oT 4 31] none))
-- pneumatic/pneumaticref14.Check
def ic21 : IC := .seq (.region [oM 1 (.box (.t 0)),
  oM 2 (.mov (.c (.int .i64 0)))] none)
 (.seq (.seq (.region [oF 5 0 1,
  oN 6 5,
  oM 7 (.bin .lss (.t 6) (.c (.int .i64 1))),
  oT 8 7,
  ⟨(some 9), .faddr 0 (.t 1), some (8, false)⟩,
  ⟨(some 10), .load none (.t 9), some (8, false)⟩,
  ⟨(some 11), .bin .gtr (.t 10) (.c (.int .i64 6)), some (8, false)⟩,
  oM 12 (.pick (.t 8) (.c (.bool true)) (.t 11))] none)
 (.cond (.t 12) (.seq (.region [oM 2 (.mov (.c (.int .i64 2)))] none)
 (.ret))
 (.skip)))
 (.seq (.seq (.region [oF 13 1 1,
  oN 14 13,
  oM 15 (.len false (.t 14)),
  oM 16 (.bin .eql (.t 15) (.c (.int .i64 0)))] none)
 (.cond (.t 16) (.seq (.region [oM 2 (.mov (.c (.int .i64 13)))] none)
 (.ret))
 (.skip)))
 (.seq (.seq (.region [oF 17 1 1,
  oN 18 17,
  oM 19 (.len false (.t 18)),
  oM 20 (.bin .gtr (.t 19) (.c (.int .i64 64)))] none)
 (.cond (.t 20) (.seq (.region [oM 2 (.mov (.c (.int .i64 5)))] none)
 (.ret))
 (.skip)))
 (.seq (.seq (.region [oL 21 2 1,
  oM 22 (.call (.c (.fn 86 [] [])) [(.t 21)]),
  oT 3 22] none)
 (.seq (.region [oT 23 3,
  oM 24 (.bin .neq (.t 23) (.c (.int .i64 0)))] none)
 (.cond (.t 24) (.seq (.region [oT 25 3,
  oT 2 25] none)
 (.ret))
 (.skip))))
 (.seq (.seq (.region [oM 4 (.mov (.c (.int .i64 0)))] none)
 (.block 0 (.loop b21_0)))
 (.seq (.region [oM 2 (.mov (.c (.int .i64 0)))] none)
 (.ret)))))))
theorem fn21 : env0.fn 21 = some ⟨36, ic21, [.t 2]⟩ := by kernel_rfl
set_option maxHeartbeats 4000000 in
theorem check21 (n : Int) (l : List Sp) (hl : l.length ≤ 1000000) (hs : ∀ p ∈ l, p.l.length ≤ 1000000) : PF Try.prog 21 [.agg (cQ n l)] (.int .i64 (zq4 n l)) := by
 have hcl : (cPs l).length = l.length := zct l
 refine zax env0_ok fn21 [(0, .agg [.int .i64 n, .vs (cPs l)])] (by show 1 ≤ 36; decide) rfl fun w0 N0 => ?_
 unfold ic21 zq4
 refine zsr rfl (zbq rfl rfl (za1 rfl (onu (za7 (zsr rfl (za9 rfl (za6 rfl rfl ?_)))))))
 refine zao rfl rfl rfl (fun h => ?_) fun h => ?_
 ·have h : n < 1 := of_decide_eq_true h
  rw [if_pos (.inl h)]
  refine za1 rfl (zbz rfl rfl (zbz rfl rfl (zbz rfl rfl (zau rfl rfl (onu (zb2 rfl (zsr rfl (za1 rfl (onu (zaf ?_))))))))))
  refine za2 ?_
  exact zae ⟨.inr rfl, _, rfl, rfl⟩
 have h : ¬ n < 1 := of_decide_eq_false h
 refine za1 rfl (zbc rfl (za9 rfl (zbc rfl (za6 rfl rfl (zbc rfl ?_)))))
 refine zao rfl rfl rfl (fun h6 => ?_) fun h6 => ?_
 ·have h6 : n > 6 := of_decide_eq_true h6
  rw [if_pos (.inr h6)]
  refine zap rfl rfl (onu (zb2 rfl (zsr rfl (za1 rfl (onu (zaf (za2 ?_)))))))
  exact zae ⟨.inr rfl, _, rfl, rfl⟩
 have h6 : ¬ n > 6 := of_decide_eq_false h6
 rw [if_neg (by omega)]
 refine zap rfl rfl (onu (zb5 rfl (zab (za8 (za7 (zsr rfl (za9 rfl (za6 rfl rfl (zbb rfl rfl ?_)))))))))
 refine zao rfl rfl rfl (fun h2 => ?_) fun h2 => ?_
 ·have h2 : (((cPs l).length : Nat) : Int) = 0 := by simpa using h2
  rw [if_pos (by omega)]
  refine onu (zb2 rfl (zsr rfl (za1 rfl (onu (zaf (za2 ?_))))))
  exact zae ⟨.inr rfl, _, rfl, rfl⟩
 have h2 : ¬ (((cPs l).length : Nat) : Int) = 0 := by simpa using h2
 rw [if_neg (by omega)]
 refine onu (zb5 rfl (zab (za8 (za7 (zsr rfl (za9 rfl (za6 rfl rfl (zbb rfl rfl ?_))))))))
 refine zao rfl rfl rfl (fun h3 => ?_) fun h3 => ?_
 ·have h3 : (((cPs l).length : Nat) : Int) > 64 := of_decide_eq_true h3
  rw [if_pos (by omega)]
  refine onu (zb2 rfl (zsr rfl (za1 rfl (onu (zaf (za2 ?_))))))
  exact zae ⟨.inr rfl, _, rfl, rfl⟩
 have h3 : ¬ (((cPs l).length : Nat) : Int) > 64 := of_decide_eq_false h3
 rw [if_neg (by omega)]
 obtain ⟨m, rfl⟩ : ∃ m : Nat, n = (m : Int) := ⟨n.toNat, by omega⟩
 have p1 : PF Try.prog 86 [.agg [.int .i64 (m : Nat), .vs (cPs l)]] _ := stp86 m (by omega) (by omega) l (by omega) hs
 rw [y0y]
 generalize zpk (m : Int) l (List.replicate m false) = z at p1 ⊢
 refine onu (zb5 rfl (zab (za8 (za7 (zsr rfl (zal rfl rfl rfl rfl ?_))))))
 refine zas rfl rfl p1 noC ?_
 refine za1 rfl (onr rfl (za1 rfl ?_))
 refine zao rfl rfl rfl (fun h5 => ?_) fun h5 => ?_
 ·have h5 : z ≠ 0 := bne_iff_ne.1 h5
  rw [if_pos h5]
  refine onu (zb2 rfl (zsr rfl (za1 rfl (za1 rfl (onu (zaf (za2 ?_)))))))
  exact zae ⟨.inr rfl, _, rfl, rfl⟩
 have h5 : z = 0 := by simpa using h5
 rw [if_neg (fun h => h h5)]
 refine onu (zb5 rfl (zab (za8 (za7 (zsr rfl (za1 rfl (onu (zad ?_))))))))
 refine zbj (fun mm S => ∃ j, mm = m - j ∧ j ≤ m ∧ (∀ i < j, zp0 (i : Nat) l = true) ∧
   S = st 36 [(1, .vptr [.int .i64 (m : Nat), .vs (cPs l)]), (4, .int .i64 (j : Nat))] [] 0 1) m
  (zbd [] [(0, 0, [.int .i64 (m : Nat), .vs (cPs l)])] rfl rfl rfl (.cons rfl rfl .nil) .nil (l' := [(1, .vptr [.int .i64 (m : Nat), .vs (cPs l)]), (4, .int .i64 ((0 : Nat) : Int))]) (.cons rfl (.fptr rfl rfl) (.cons rfl (.same rfl) .nil))) ⟨0, rfl, y0q _, fun i h => absurd h (y28 i), rfl⟩ ?_
 rintro mm S ⟨j, rfl, hj, hall, rfl⟩
 unfold b21_0
 refine za7 (zsr rfl (za1 rfl (zak rfl rfl rfl (za6 rfl rfl ?_))))
 refine zao rfl rfl rfl (fun h6 => ?_) fun h6 => ?_
 ·have hlj : j < m := by
   have : ((j : Nat) : Int) < (m : Nat) := of_decide_eq_true h6
   omega
  have p2 : PF Try.prog 87 [.agg [.int .i64 (m : Nat), .vs (cPs l)], .int .i64 (j : Nat)] _ := moves62 m l hl hs (j : Nat)
  refine onu (zb2 rfl (zab (za8 (za7 (zad (zsr rfl (zal rfl rfl rfl rfl (za1 rfl ?_))))))))
  refine zas rfl rfl p2 noC ?_
  cases hm : zp0 ((j : Nat) : Int) l with
  | false =>
   rw [if_neg (fun h => by have := y0e.1 h j (y10.2 hlj); rw [hm] at this; exact Bool.noConfusion this)]
   refine zes rfl rfl (onu (zb2 rfl (zsr rfl (za1 rfl (onu (zaf (zaa (za2 ?_))))))))
   refine zaw ?_
   refine zaa (za2 ?_)
   exact zae ⟨.inr rfl, _, rfl, rfl⟩
  | true =>
   refine zes rfl rfl (onu (zb5 rfl (zab (zb9 (za8 (za5 rfl (za1 rfl (zb3 (op := .add) rfl rfl rfl (za1 rfl (zai ?_))))))))))
   rw [zar j (by omega)]
   exact zat (show m - (j + 1) < m - j by omega) (zaq (.cons rfl (.cons rfl .nil))) ⟨j + 1, rfl, hlj, fun i hi => by
    by_cases e : i = j
    ·subst e; exact hm
    ·exact hall i (by omega), rfl⟩
 ·have hj2 : j = m := by
   have : ¬ ((j : Nat) : Int) < (m : Nat) := of_decide_eq_false h6
   omega
  subst hj2
  rw [if_pos (y0e.2 fun i hi => hall i (y10.1 hi))]
  refine onu (zb5 rfl (zbi (zan ?_)))
  refine zc9 ?_
  refine zbh (za8 (zsr rfl (za1 rfl (onu (zaf ?_)))))
  exact zae ⟨.inr rfl, _, rfl, rfl⟩
end
-- pneumatic/guard.combinations
def ic82 : IC := .seq (.region [oM 1 (.box (.t 0)),
  oM 2 (.mov (.c (.nilf)))] none)
 (.seq (.region [oM 3 (.mkfn 130 [] [(.t 1)]),
  oT 2 3] none)
 (.ret))
theorem fn82 : env0.fn 82 = some ⟨4, ic82, [.t 2]⟩ := by kernel_rfl
theorem comb52 (cs : List (List Int)) : PF Try.prog 82 [css cs] (.fn 130 [] [.vptr [css cs]]) := by
 refine zax env0_ok fn82 [(0, css cs)] (by show 1 ≤ 4; decide) rfl fun w0 N0 => ?_
 unfold ic82
 refine zsr rfl (zbq rfl rfl (za1 rfl (onr rfl (zgw rfl rfl (za1 rfl (onu (zaf ?_)))))))
 exact zae ⟨.inr rfl, _, rfl, rfl⟩
noncomputable def ca27_0 : Code := match env0.fn 27 with
 | some i => ((zc1 i.ic)[0]?.getD (.skip, .skip)).1
 | none => .skip
noncomputable def cb27_0 : Code := match env0.fn 27 with
 | some i => ((zc1 i.ic)[0]?.getD (.skip, .skip)).2
 | none => .skip
def okL (l : List Ex) (s : List (List Int)) : List (List Int) := s.filter fun p => (zh2 l p).isEmpty
structure I34 (l : List Ex) (ltm : List (Nat × AV)) (s : List (List Int)) (H : HS) : Prop where
 nx : 4 ≤ H.next
 h3 : Am.look 3 H.heap = some (2, .loop .ready none 32 (zdh ltm) [20] ca27_0 cb27_0 (2, 1))
 h2 : Am.look 2 H.heap = some (1, .deferred)
 h0 : ∃ sp, Am.look 0 H.heap = some (0, .cells [.ms 1 sp 1 0 (okL l s).length none]) ∧ Am.look 1 H.heap = some (sp, .cells (zw7 (okL l s)))
section
variable {w0 : World} {N0 : Nat} {k : List Fr} {Q : Exit → AS → Prop}
theorem SeqOk.behLen {n : Nat} {l : List Sp} (k : Nat) : (zgi (List.replicate n false) (l.take k)).length = n := by
 rw [zhm, y0s]
theorem StpOk.len {n : Int} {E : List Bool} {p : Sp} (h : StpOk n E p) : p.l.length ≤ 6 := (zni h.sp).1
end
section
variable {w0 : World} {N0 : Nat} {k : List Fr} {Q : Exit → AS → Prop}
theorem dgS_step {f : List Ex} {n : Nat} {l : List Sp} (E0 : List Bool) (hE0 : E0.length = n) {i : Nat} (h : i < l.length) : dgS f i (zgi E0 (l.take i)) (l.drop i) = match badP f (ze2 (zf5 (zgi E0 (l.take i)) (aft (zgi E0 (l.take i)) l[i].l) l[i].l n)) with
  | some q => ((i : Int), q, true)
  | none => dgS f (i + 1) (zgi E0 (l.take (i + 1))) (l.drop (i + 1)) := by
 rw [y0d h, dgS, zhm, hE0, zgo h]
 try rfl
end
end Go.Proofs.Ytoiblgbaeglgoaa
namespace Go.Am
open Go Go.RowKit
def atD (la : Nat → Bool) : Option Nat → Bool
 | some d => la d
 | none => false
abbrev KnG (fz : Fz) (la : Nat → Bool) (lk : FuncId → List AV → Option AV) : Kn := ⟨fun f gs v => fz.f f = false ∧ lk f gs = some v, fun _ _ _ _ => False, fun _ => false, fun _ => true,
 fun d op S Fk => ∃ v, (zu2 fz ⟨d, op, none⟩ = true ∧ fslQ fz S op = some v ∧ Fk = fun S1 v1 => S1 = S ∧ v1 = v) ∨ (zu2 fz ⟨d, op, none⟩ = false ∧ isBs op = true ∧ ∃ S2, iop S op = some (v, S2) ∧ Fk = fun S1 v1 => S1 = S2 ∧ v1 = v) ∨ (atD la d = true ∧ zgu op = true ∧ iop S op = some (v, S) ∧ Fk = fun S1 v1 => S1 = S ∧ v1 = v), true⟩
def zdl (fz : Fz) (la : Nat → Bool) : List Opr → List (Bool × Bool) → Bool
 | [], [] => true
 | io :: ios, (q, ind) :: fl => (if zu2 fz io = true then q && (!ind || isBs io.op) else (match io.op with
  | .call fa args => !q || !ind || zn7 fa args
  | op => (q == !zcb op) && (!q || !ind || (zg2 op || (zgu op && !atD la io.dst))))) && zdl fz la ios fl
 | _, _ => false
section
variable {P : Program} {w0 : World} {N0 : Nat} {S : AS} {K : AS → Prop} {E : Env} {fz : Fz} {la : Nat → Bool}
theorem X_runG {lk : FuncId → List AV → Option AV} {kn : FuncId → Bool} {ios : List Opr} (h : X (KnG fz la lk) ios S K) : ∀ {fl : List (Bool × Bool)}, zdl fz la ios fl = true → ∃ S', zgd fz P (E.ask lk kn) R0 ios fl S = some S' ∧ K S' := by
 induction h with
 | nil h =>
  intro fl hf
  cases fl with
  | nil => exact ⟨_, rfl, h⟩
  | cons => simp [zdl] at hf
 | @op io ios S S1 v K hw hi hx hd _ ih =>
  intro fl hf
  cases fl with
  | nil => simp [zdl] at hf
  | cons x fl =>
   obtain ⟨q, ind⟩ := x
   simp only [zdl, y0g] at hf
   obtain ⟨S', h1, h2⟩ := ih hf.2
   have fin : (∀ l r, zgd fz P (E.ask lk kn) R0 (io :: l) ((q, ind) :: r) S = zgd fz P (E.ask lk kn) R0 l r (S1.put io.dst v)) → ∃ S', zgd fz P (E.ask lk kn) R0 (io :: ios) ((q, ind) :: fl) S = some S' ∧ K S' := fun hrun => ⟨S', by rw [hrun]; exact h1, h2⟩
   have hnz : zu2 fz io = false := by
    unfold zu2
    split
    ·rename_i hb
     rw [hb] at hx
     exact Bool.noConfusion (show true = false from hx)
    ·rename_i hb
     rw [hb] at hi
     simp [iop] at hi
    ·rfl
   have qe : ∀ S, zee fz (E.ask lk kn) R0 S io = zbg (E.ask lk kn) R0 S io := fun S => by unfold zee; rw [if_neg (by rw [hnz]; simp)]
   have se : ∀ S, zjt fz (E.ask lk kn) R0 S io = zf1 (E.ask lk kn) R0 S io := fun S => by unfold zjt; rw [if_neg (by rw [hnz]; simp)]
   rw [hnz] at hf
   have hnc : ∀ a b, io.op ≠ .call a b := fun a b e => by rw [e] at hi; simp [iop] at hi
   have hf1 : q = !zcb io.op ∧ (q = true → ind = false ∨ zg2 io.op = true ∨ (zgu io.op && !atD la io.dst) = true) := by
    have := hf.1
    simp only [y0k, if_false] at this
    rw [y0g, beq_iff_eq, y11, y11, y11, y20, y20] at this
    exact ⟨this.1, fun e => (this.2.imp_left fun h => h.resolve_left (by rw [e]; simp))⟩
   refine fin fun l r => ?_
   simp only [zgd, hw, qe, se]
   cases hl : zcb io.op with
   | false =>
    have hq : q = true := by rw [hf1.1, hl]; rfl
    have hi2 := hf1.2 hq
    subst hq
    have e1 : zbg (E.ask lk kn) R0 S io = some v := by
     unfold zbg
     split
     ·rename_i hc; exact absurd hc (hnc _ _)
     ·rw [if_neg (by rw [hl]; simp), hi]; rfl
    have e3 : (if ind = true then zf1 (E.ask lk kn) R0 S io else zbg (E.ask lk kn) R0 S io) = some v := by
     rcases hi2 with hi2 | hi2 | hi2
     ·rw [hi2, if_neg (by simp)]; exact e1
     ·cases ind with
      | false => exact e1
      | true =>
       rw [if_pos rfl]
       have h2 := zmw hi2 hi zlr
       unfold zf1
       split
       ·rename_i hc; exact absurd hc (hnc _ _)
       ·rw [if_neg (by rw [hl]; simp), h2]; rfl
     ·cases ind with
      | false => exact e1
      | true =>
       rw [if_pos rfl]
       rw [y0g, y20] at hi2
       obtain ⟨hi2, _⟩ := hi2
       obtain ⟨g, d, hop⟩ := zik hi2
       have h2 : ∃ S2, iop (S.withH zlr) io.op = some (v, S2) := by
        rw [hop] at hi hx ⊢
        simp only [iop, znx] at hi ⊢
        cases hp : S.arg (.t d) with
        | none => rw [hp] at hi; cases hi
        | some p =>
         rw [hp] at hi
         have hd : (S.withH zlr).deref p = S.deref p := by
          cases p <;> first
           | rfl
           | exact Bool.noConfusion (show false = true from hx _ _ _ hp)
         dsimp only at hi ⊢
         rw [hd]
         cases hc : S.deref p with
         | none => rw [hc] at hi; cases hi
         | some cs =>
          rw [hc] at hi
          dsimp only at hi ⊢
          cases g with
          | none =>
           cases cs with
           | nil => cases hi
           | cons x xs => injection hi with hi; injection hi with e _; exact ⟨_, by rw [e]⟩
          | some n =>
           dsimp only at hi ⊢
           split at hi
           ·rename_i hle
            injection hi with hi; injection hi with e _
            exact ⟨_, by rw [if_pos hle, e]⟩
           ·cases hi
       obtain ⟨S2, h2⟩ := h2
       unfold zf1
       split
       ·rename_i hc; exact absurd hc (hnc _ _)
       ·rw [if_neg (by rw [hl]; simp), h2]; rfl
    have e2 := zgt hl hi
    subst e2
    simp only [if_true, e3]
   | true =>
    have hq : q = false := by rw [hf1.1, hl]; rfl
    subst hq
    have e1 : zdg P (E.ask lk kn) R0 S io = some (v, S1.hs) := by
     unfold zdg zbg zgv
     split
     ·rename_i v' hq
      split at hq
      ·rename_i hc; exact absurd hc (hnc _ _)
      ·rw [if_pos hl] at hq; cases hq
     ·split
      ·rename_i hc; exact absurd hc (hnc _ _)
      ·rw [hi]
    simp only [y0k, if_false, e1]
    rw [← zha hi]
 | @skip io ios S K hw hd _ ih =>
  intro fl hf
  cases fl with
  | nil => simp [zdl] at hf
  | cons x fl =>
   obtain ⟨q, ind⟩ := x
   simp only [zdl, y0g] at hf
   obtain ⟨S', h1, h2⟩ := ih hf.2
   have fin : (∀ l r, zgd fz P (E.ask lk kn) R0 (io :: l) ((q, ind) :: r) S = zgd fz P (E.ask lk kn) R0 l r (S.put io.dst (.tup []))) → ∃ S', zgd fz P (E.ask lk kn) R0 (io :: ios) ((q, ind) :: fl) S = some S' ∧ K S' := fun hrun => ⟨S', by rw [hrun]; exact h1, h2⟩
   exact fin fun l r => by simp only [zgd, hw]
 | @call io ios S v K fa args fid first cap vs hw hop hf0 ha hp hfl hm hd _ ih =>
  intro fl hf
  cases fl with
  | nil => simp [zdl] at hf
  | cons x fl =>
   obtain ⟨q, ind⟩ := x
   simp only [zdl, y0g] at hf
   obtain ⟨S', h1, h2⟩ := ih hf.2
   have fin : (∀ l r, zgd fz P (E.ask lk kn) R0 (io :: l) ((q, ind) :: r) S = zgd fz P (E.ask lk kn) R0 l r (S.put io.dst v)) → ∃ S', zgd fz P (E.ask lk kn) R0 (io :: ios) ((q, ind) :: fl) S = some S' ∧ K S' := fun hrun => ⟨S', by rw [hrun]; exact h1, h2⟩
   have hnz : zu2 fz io = false := by
    unfold zu2
    rw [hop]
    cases fa with
    | t d => rfl
    | c u =>
     cases u with
     | fn f a b =>
      cases a with
      | nil =>
       cases b with
       | nil =>
        injection hf0 with hf0
        injection hf0 with hf0
        subst hf0
        exact hp.1
       | cons => rfl
      | cons => rfl
     | _ => rfl
   have qe : ∀ S, zee fz (E.ask lk kn) R0 S io = zbg (E.ask lk kn) R0 S io := fun S => by unfold zee; rw [if_neg (by rw [hnz]; simp)]
   have se : ∀ S, zjt fz (E.ask lk kn) R0 S io = zf1 (E.ask lk kn) R0 S io := fun S => by unfold zjt; rw [if_neg (by rw [hnz]; simp)]
   rw [hnz] at hf
   have hf1 : q = false ∨ (ind = false ∨ zn7 fa args = true) := by
    have := hf.1
    simp only [y0k, if_false] at this
    rw [hop] at this
    simpa [or_assoc] using this
   refine fin fun l r => ?_
   have e1 : zbg (E.ask lk kn) R0 S io = some v := by
    unfold zbg
    split
    ·rename_i fa' args' hop'
     rw [hop] at hop'
     injection hop' with e1 e2
     subst e1 e2
     simp only [hf0, ha, zdx]
     rw [show (E.ask lk kn).orc fid ((first ++ vs ++ cap).map (S.view VD)) = some v from hp.2]
     simp only
     cases hmm : hasM.hasML (first ++ vs ++ cap) with
     | false => simp
     | true => simp [hfl hmm]
    ·rename_i hn; exact absurd hop (hn _ _)
   rcases hf1 with rfl | hind
   ·have e4 : zdg P (E.ask lk kn) R0 S io = some (v, S.hs) := by
     unfold zdg
     rw [e1]
    simp only [zgd, hw, qe, se, y0k, if_false, e4]
    rfl
   have e3 : (if ind = true then zf1 (E.ask lk kn) R0 S io else zbg (E.ask lk kn) R0 S io) = some v := by
    rcases hind with hind | hind
    ·rw [hind, if_neg (by simp)]; exact e1
    ·cases ind with
     | false => exact e1
     | true =>
      rw [if_pos rfl]
      unfold zn7 at hind
      split at hind
      ·injection hf0 with hf0
       injection hf0 with a1 a2 a3
       subst a2 a3
       replace a1 := a1.symm
       subst a1
       injection ha with ha
       subst ha
       unfold zf1
       split
       ·rename_i fa' args' hop'
        rw [hop] at hop'
        injection hop' with b1 b2
        subst b1 b2
        have hp2 : (E.ask lk kn).orc fid [] = some v := hp.2
        simp [AS.arg, AS.args, zdx, hp2, hasM.hasML]
       ·rename_i hn; exact absurd hop (hn _ _)
      ·cases hind
   cases q with
   | true => simp only [zgd, hw, qe, se, if_true, e3]
   | false =>
    have e4 : zdg P (E.ask lk kn) R0 S io = some (v, S.hs) := by
     unfold zdg
     rw [e1]
    simp only [zgd, hw, qe, se, y0k, if_false, e4]
    rfl
 | ct hw hop hf ha hc hm hd _ ih => exact hc.elim
 | @ext io ios S K Fk hw hs hd hk ih =>
  intro fl hf
  cases fl with
  | nil => simp [zdl] at hf
  | cons x fl =>
   obtain ⟨q, ind⟩ := x
   simp only [zdl, y0g] at hf
   have hgz : zu2 fz ⟨io.dst, io.op, none⟩ = zu2 fz io := rfl
   obtain ⟨v, ⟨e1, e2, rfl⟩ | ⟨e1, e2, S2, e3, rfl⟩ | ⟨e1, e2, e3, rfl⟩⟩ := hs
   ·obtain ⟨S', h1, h2⟩ := ih S v ⟨rfl, rfl⟩ hf.2
    refine ⟨S', ?_, h2⟩
    rw [hgz] at e1
    have hq := hf.1
    rw [if_pos e1, y0g] at hq
    obtain ⟨hq, hq2⟩ := hq
    subst hq
    have q1 : zee fz (E.ask lk kn) R0 S io = some v := by unfold zee; rw [if_pos e1]; exact e2
    cases ind with
    | false =>
     simp only [zgd, hw, q1, y0k, if_false, if_true]
     exact h1
    | true =>
     have q2 : zjt fz (E.ask lk kn) R0 S io = some v := by
      unfold zjt
      rw [if_pos e1]
      have hb : isBs io.op = true := by simpa using hq2
      cases hop : io.op <;> rw [hop] at hb e2 <;> first
       | exact e2
       | cases hb
     simp only [zgd, hw, q2, if_true]
     exact h1
   ·obtain ⟨S', h1, h2⟩ := ih S2 v ⟨rfl, rfl⟩ hf.2
    refine ⟨S', ?_, h2⟩
    rw [hgz] at e1
    have hq := hf.1
    have hl : zcb io.op = true := by
     cases hop : io.op <;> rw [hop] at e2 <;> first
      | rfl
      | cases e2
    have hnc : ∀ a b, io.op ≠ .call a b := fun a b e => by rw [e] at e2; cases e2
    rw [if_neg (by rw [e1]; simp)] at hq
    split at hq
    ·rename_i hc; exact absurd hc (hnc _ _)
    ·simp only [y0g, beq_iff_eq] at hq
     obtain ⟨hq, _⟩ := hq
     rw [hl] at hq
     have hq : q = false := hq
     subst hq
     have e4 : zdg P (E.ask lk kn) R0 S io = some (v, S2.hs) := by
      unfold zdg zbg zgv
      split
      ·rename_i v' hq
       split at hq
       ·rename_i hc; exact absurd hc (hnc _ _)
       ·rw [if_pos hl] at hq; cases hq
      ·split
       ·rename_i hc; exact absurd hc (hnc _ _)
       ·rw [e3]
     simp only [zgd, hw, y0k, if_false, e4]
     rw [← zha e3]
     exact h1
   ·obtain ⟨S', h1, h2⟩ := ih S v ⟨rfl, rfl⟩ hf.2
    refine ⟨S', ?_, h2⟩
    obtain ⟨g, d, hop⟩ := zik e2
    have hnz : zu2 fz io = false := by unfold zu2; rw [hop]
    have hq := hf.1
    rw [hnz, if_neg (by simp)] at hq
    have hnc : ∀ a b, io.op ≠ .call a b := fun a b e => by rw [hop] at e; cases e
    have hl : zcb io.op = false := by rw [hop]; rfl
    split at hq
    ·rename_i hc; exact absurd hc (hnc _ _)
    ·have hh : zg2 io.op = false := by rw [hop]; rfl
     rw [hh, hl, e1] at hq
     simp only [y0g, beq_iff_eq, y11, y20, Bool.not_true, Bool.and_false, Bool.false_or, Bool.or_self, y0k, or_false, Bool.not_false] at hq
     obtain ⟨rfl, hind⟩ := hq
     have hind : ind = false := by simpa using hind
     subst hind
     have q1 : zee fz (E.ask lk kn) R0 S io = some v := by
      unfold zee
      rw [if_neg (by rw [hnz]; simp)]
      unfold zbg
      split
      ·rename_i hc; exact absurd hc (hnc _ _)
      ·rw [if_neg (by rw [hl]; simp), e3]; rfl
     simp only [zgd, hw, q1, y0k, if_false, if_true]
     exact h1
end
section
variable {P : Program} {w0 : World} {N0 : Nat} {S : AS} {k : List Fr} {Q : Exit → AS → Prop} {ios : List Opr} {n nx ck : Nat} {mk : List (Nat × Nat)} {md : Md} {l : List (Nat × AV)} {hp : List (Nat × Nat × AObj)} {fz : Fz} {la : Nat → Bool} {lk : FuncId → List AV → Option AV}
theorem ze8 {E : Env} (hE : EnvOk P E) (fd : Nat → Bool) (la : Nat → Bool) (Lf : List (FuncId × List AV × AV)) (hLf : ∀ x ∈ Lf, PFn P x.1 x.2.1 x.2.2) (ff : FuncId → Bool) (L : List (FuncId × List AV × AV)) (hL : ∀ x ∈ L, PF P x.1 x.2.1 x.2.2) (kn : FuncId → Bool) {pres : List (List Nat)} {fl : List (Bool × Bool)} (hs : statZ ⟨fd, ff, ze3 Lf⟩ (E.ask (ze3 L) kn) ios pres S.size = some fl) (hf : zdl ⟨fd, ff, ze3 Lf⟩ la ios fl = true)
  (hd : (ios.all fun io => zco S.size io.dst) = true) (h : Om P w0 N0 md (KnG ⟨fd, ff, ze3 Lf⟩ la (ze3 L)) ios S k Q) : Zm P w0 N0 md (.region ios (some pres)) S k Q := by
 obtain ⟨S', h1, h2⟩ := X_runG (P := P) (E := E) (kn := kn) (h.ok hd) hf
 exact ⟨zgl fun _ => zei (T_statZ (hE.ask (zkb hL)) R0_ok (zqk hLf) hs h1) fun e S1 ⟨e1, e2⟩ => by subst e1 e2; exact h2⟩
theorem zdk {d sz len : Nat} {z cs : List AV} {ps : List (Nat × Nat × Arg)} {pl : List (Nat × AV)} {es : List (List AV)} (hz : fz.d d = true) (h : zfs ps l = some pl) (hf : zch z pl = some cs) (hM : hasM.hasML cs = false) (he : zdi sz len cs = es)
  (go : Om P w0 N0 md (KnG fz la lk) ios (st n ((d, .vs es) :: l) hp nx ck mk) k Q) : Om P w0 N0 md (KnG fz la lk) (⟨some d, (.bslice sz len z ps), none⟩ :: ios) (st n l hp nx ck mk) k Q :=
 ⟨fun ha => .ext rfl ⟨.vs es, .inl ⟨hz, by simp only [fslQ, fsl, zit, h, hf, hM, if_true, he], rfl⟩⟩ (fun S1 v hF => by rw [hF.1]; exact (all_cons ha).1) fun S1 v hF => by
  obtain ⟨rfl, rfl⟩ := hF
  exact go.ok (all_cons ha).2⟩
theorem o_lo {d d0 : Nat} {g : Option Nat} {v : AV} (hz : la d = true) (hi : iop (st n l hp nx ck mk) (.load g (.t d0)) = some (v, st n l hp nx ck mk))
  (go : Om P w0 N0 md (KnG fz la lk) ios (st n ((d, v) :: l) hp nx ck mk) k Q) : Om P w0 N0 md (KnG fz la lk) (⟨some d, .load g (.t d0), none⟩ :: ios) (st n l hp nx ck mk) k Q :=
 ⟨fun hall => .ext rfl ⟨v, .inr (.inr ⟨hz, rfl, hi, rfl⟩)⟩ (fun S1 v hF => by rw [hF.1]; exact (all_cons hall).1) fun S1 v hF => by
  obtain ⟨rfl, rfl⟩ := hF
  exact go.ok (all_cons hall).2⟩
end
end Go.Am
