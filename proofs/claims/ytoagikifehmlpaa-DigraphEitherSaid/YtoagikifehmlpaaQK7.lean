/-
  CYCLES: Cycle walked.
-/
import Derived.Test.YtoagikifehmlpaaQK6
namespace Go.Proofs.Ytoagikifehmlpaa
open Go Go.Am
def b21_2 : IC := .seq (.region [⟨(some 39), .bin .lss (.t 38) (.t 37), none⟩] none)
 (.seq (.cond (.t 39) (.skip)
 (.exit 2))
 (.seq (.block 3 (.seq (.region [⟨(some 40), .idxs 1 (.t 36) (.t 38), none⟩,
  ⟨(some 41), .load none (.t 40), none⟩,
  ⟨(some 11), .mov (.t 41), none⟩] none)
 (.seq (.region [⟨(some 42), .mov (.t 8), none⟩,
  ⟨(some 43), .mov (.t 11), none⟩,
  ⟨(some 44), .idxs 1 (.t 42) (.t 43), none⟩,
  ⟨(some 45), .load none (.t 44), none⟩,
  ⟨(some 46), .bin .geq (.t 45) (.c (.int .i64 0)), none⟩,
  ⟨(some 47), .mov (.t 46), none⟩,
  ⟨(some 48), .mov (.t 9), some (47, true)⟩,
  ⟨(some 49), .bin .lss (.t 48) (.c (.int .i64 0)), some (47, true)⟩,
  ⟨(some 50), .mov (.t 49), some (47, true)⟩,
  ⟨(some 51), .mov (.t 8), some (50, false)⟩,
  ⟨(some 52), .mov (.t 11), some (50, false)⟩,
  ⟨(some 53), .idxs 1 (.t 51) (.t 52), some (50, false)⟩,
  ⟨(some 54), .load none (.t 53), some (50, false)⟩,
  ⟨(some 55), .mov (.t 8), some (50, false)⟩,
  ⟨(some 56), .mov (.t 9), some (50, false)⟩,
  ⟨(some 57), .idxs 1 (.t 55) (.t 56), some (50, false)⟩,
  ⟨(some 58), .load none (.t 57), some (50, false)⟩,
  ⟨(some 59), .bin .lss (.t 54) (.t 58), some (50, false)⟩,
  ⟨(some 60), .pick (.t 50) (.c (.bool true)) (.t 59), some (47, true)⟩,
  ⟨(some 61), .pick (.t 47) (.t 60) (.c (.bool false)), none⟩] (some [[], [], [0, 1], [2], [3], [4], [5], [6, 5], [7, 5, 5], [8], [8], [9, 10, 8], [11, 8], [8], [8], [13, 14, 8], [15, 8], [12, 16, 8], [8, 17, 5], [5, 18]]))
 (.cond (.t 61) (.region [⟨(some 62), .mov (.t 11), none⟩,
  ⟨(some 9), .mov (.t 62), none⟩] none)
 (.skip)))))
 (.region [⟨(some 63), .bin .add (.t 38) (.c (.int .i64 1)), none⟩,
  ⟨(some 38), .mov (.t 63), none⟩] none)))
def b21_0 : IC := .seq (.region [⟨(some 28), .bin .lss (.t 27) (.t 26), none⟩] none)
 (.seq (.cond (.t 28) (.skip)
 (.exit 0))
 (.seq (.block 1 (.seq (.region [⟨(some 29), .mov (.t 27), none⟩,
  ⟨(some 7), .mov (.t 29), none⟩] none)
 (.seq (.region [⟨(some 30), .mov (.t 6), none⟩,
  ⟨(some 31), .mov (.t 7), none⟩,
  ⟨(some 32), .call (.c (.fn 48 [] [])) [(.t 30), (.t 31)], none⟩,
  ⟨(some 8), .mov (.t 32), none⟩] none)
 (.seq (.region [⟨(some 9), .mov (.c (.int .i64 (-1))), none⟩] none)
 (.seq (.seq (.region [⟨(some 33), .mov (.t 4), none⟩,
  ⟨(some 34), .mov (.t 7), none⟩,
  ⟨(some 35), .idxs 1 (.t 33) (.t 34), none⟩,
  ⟨(some 36), .load none (.t 35), none⟩,
  ⟨(some 37), .len false (.t 36), none⟩,
  ⟨(some 38), .mov (.c (.int .i64 0)), none⟩] none)
 (.block 2 (.loop b21_2)))
 (.seq (.seq (.region [⟨(some 64), .mov (.t 9), none⟩,
  ⟨(some 65), .bin .lss (.t 64) (.c (.int .i64 0)), none⟩] none)
 (.cond (.t 65) (.exit 1)
 (.skip)))
 (.seq (.region [⟨(some 66), .mov (.t 7), none⟩,
  ⟨(some 67), .bslice 1 1 [.int .i64 0] [(0, 1, (.t 66))], none⟩,
  ⟨(some 12), .mov (.t 67), none⟩] none)
 (.seq (.seq (.region [⟨(some 68), .mov (.t 9), none⟩,
  ⟨(some 69), .mov (.t 7), none⟩,
  ⟨(some 70), .bin .neq (.t 68) (.t 69), none⟩] none)
 (.cond (.t 70) (.seq (.region [⟨(some 71), .mov (.t 4), none⟩,
  ⟨(some 72), .mov (.t 9), none⟩,
  ⟨(some 73), .mov (.t 7), none⟩,
  ⟨(some 74), .mov (.t 8), none⟩,
  ⟨(some 75), .call (.c (.fn 49 [] [])) [(.t 71), (.t 72), (.t 73), (.t 74)], none⟩,
  ⟨(some 13), .mov (.t 75), none⟩] none)
 (.region [⟨(some 76), .mov (.t 12), none⟩,
  ⟨(some 77), .mov (.t 13), none⟩,
  ⟨(some 78), .mov (.t 13), none⟩,
  ⟨(some 79), .len false (.t 78), none⟩,
  ⟨(some 80), .bin .sub (.t 79) (.c (.int .i64 1)), none⟩,
  ⟨(some 81), .slsl 1 (.t 77) none (some (.t 80)) none, none⟩,
  ⟨(some 82), .append 1 8 [.int .i64 0] (.t 76) (.t 81), none⟩,
  ⟨(some 12), .mov (.t 82), none⟩] none))
 (.skip)))
 (.seq (.region [⟨(some 83), .mov (.t 12), none⟩,
  ⟨(some 2), .mov (.t 83), none⟩,
  ⟨(some 3), .mov (.c (.int .i64 0)), none⟩] none)
 (.ret))))))))))
 (.region [⟨(some 84), .bin .add (.t 27) (.c (.int .i64 1)), none⟩,
  ⟨(some 27), .mov (.t 84), none⟩] none)))
-- pneumatic/digraph.Cycle
def ic21 : IC := .seq (.region [⟨(some 1), .box (.t 0), none⟩,
  ⟨(some 2), .mov (.c (.nils)), none⟩,
  ⟨(some 3), .mov (.c (.int .i64 0)), none⟩] none)
 (.seq (.region [⟨(some 15), .load (some 2) (.t 1), none⟩,
  ⟨(some 16), .call (.c (.fn 46 [] [])) [(.t 15), (.c (.nils))], none⟩,
  ⟨(some 14), .mov (.t 16), none⟩,
  ⟨(some 17), .extract (.t 14) 0, none⟩,
  ⟨(some 18), .extract (.t 14) 1, none⟩,
  ⟨(some 4), .mov (.t 17), none⟩,
  ⟨(some 5), .mov (.t 18), none⟩] none)
 (.seq (.seq (.region [⟨(some 19), .mov (.t 5), none⟩,
  ⟨(some 20), .bin .neq (.t 19) (.c (.int .i64 0)), none⟩] none)
 (.cond (.t 20) (.seq (.region [⟨(some 21), .mov (.t 5), none⟩,
  ⟨(some 2), .mov (.c (.nils)), none⟩,
  ⟨(some 3), .mov (.t 21), none⟩] none)
 (.ret))
 (.skip)))
 (.seq (.region [⟨(some 22), .load (some 2) (.t 1), none⟩,
  ⟨(some 23), .call (.c (.fn 47 [] [])) [(.t 22)], none⟩,
  ⟨(some 24), .call (.c (.fn 45 [] [])) [(.t 23)], none⟩,
  ⟨(some 6), .mov (.t 24), none⟩] none)
 (.seq (.seq (.region [⟨(some 25), .mov (.t 4), none⟩,
  ⟨(some 26), .len false (.t 25), none⟩,
  ⟨(some 27), .mov (.c (.int .i64 0)), none⟩] none)
 (.block 0 (.loop b21_0)))
 (.seq (.region [⟨(some 2), .mov (.c (.nils)), none⟩,
  ⟨(some 3), .mov (.c (.int .i64 6)), none⟩] none)
 (.ret))))))
theorem fn21 : env0.fn 21 = some ⟨85, ic21, [.t 2, .t 3]⟩ := by kernel_rfl
set_option maxHeartbeats 8000000 in
theorem cycle21 (n : Int) (es : List (Int × Int)) (hn : zdx n es = 0 → n ≤ 12) : PF Try.prog 21 [cG n es] (cycV n es) := by
 have p46 := zhu n es [] (Nat.zero_le _)
 refine zb4 env0_ok fn21 [(0, .agg [.int .i64 n, .vs (cE es)])] (by show 1 ≤ 85; decide) rfl fun w0 N0 => ?_
 unfold ic21
 refine za6 (za0 rfl (ze8 rfl rfl (za2 rfl (za2 rfl (za5 (za3 ?_))))))
 refine zby [] [(0, 0, [.int .i64 n, .vs (cE es)])] [(1, .vptr [.int .i64 n, .vs (cE es)])] rfl (.cons rfl rfl .nil) .nil (.cons rfl (.fptr rfl rfl) .nil) ?_
 repeat (first | refine za6 ?_ | refine za0 rfl ?_ | refine zax rfl rfl rfl rfl ?_)
 refine zak rfl rfl p46 (fun h => Bool.noConfusion (show false = true from h)) ?_
 by_cases hg : zdx n es = 0
 ·have hn := hn hg
  obtain ⟨m, E, rfl, rfl, hm, _, hE, hb⟩ := zhe hg
  rw [zg4 ((zg5 _ _).trans hg), zrc hg]
  have hb2 := fun u v h => (hb u v h).2
  have p47 := zj9 (m : Nat) (zal E) (by unfold zal; rw [List.length_map]; omega)
  rw [zox] at p47
  have p45 := ze3 m hm (rvE E) (by rw [ztc]; omega) (zfu hb)
  have hlen : ((List.range m).map fun v => ([vN (nbr E m v)] : List AV)).length = m := by rw [List.length_map, List.length_range]
  have h0 : dnx (fun v => ldB E m v v) m 0 = nxV (lpS E m) := by
   unfold dnx lpS nxV
   rw [List.drop_zero]
   rfl
  repeat (first | refine za6 ?_ | refine za0 rfl ?_ | refine za5 ?_ | refine za3 ?_ | refine zad ?_ | refine zce rfl ?_ | refine za2 rfl ?_ | refine zax rfl rfl rfl rfl ?_ | refine zav rfl rfl ?_ | refine zc0 rfl rfl rfl ?_)
  refine zak rfl rfl p47 (fun h => Bool.noConfusion (show false = true from h)) ?_
  refine zak rfl rfl p45 (fun h => Bool.noConfusion (show false = true from h)) ?_
  repeat (first | refine za6 ?_ | refine za0 rfl ?_ | refine za5 ?_ | refine za3 ?_ | refine zae ?_ | refine za2 rfl ?_ | refine zbf rfl rfl ?_)
  refine zbx (fun mm S => ∃ i, mm = m - i ∧ i ≤ m ∧ dnx (fun v => ldB E m v v) m i = nxV (lpS E m) ∧ S = st 85 [(4, cN E m), (6, cN (rvE E) m), (26, .int .i64 (m : Nat)), (27, .int .i64 (i : Nat))] [] 0 1) m
   (za9 (.cons rfl (.cons rfl (.cons (by exact congrArg (fun z : Nat => some (AV.int .i64 (z : Nat))) hlen) (.cons rfl .nil))))) ⟨0, rfl, Nat.zero_le _, h0, rfl⟩ ?_
  rintro mm S ⟨i, rfl, hi, hd, rfl⟩
  unfold b21_0
  repeat (first | refine za6 ?_ | refine za0 rfl ?_)
  refine zau rfl rfl rfl (fun h3 => ?_) fun h3 => ?_
  ·have hlt : i < m := Int.ofNat_lt.1 (of_decide_eq_true h3)
   have w1 : IntKind.wrap .i64 (((i : Nat) : Int) + 1) = ((i + 1 : Nat) : Int) := zar i (by omega)
   have p48 := far48 m (by omega) (rvE E) (zfu hb) i hlt
   have hL := zd4 (es := rvE E) hlt fun u v h => (zfu hb u v h).2
   have hll := ls_ld hb hlt
   have hW := lsW (zcx (rvE E) m i m) (nbr E m i)
   have hcy : cycL E m i = i :: ((zgt (zcx (rvE E) m i m) (nbr E m i)).toNat :: zcm E m (zcx (rvE E) m i m) (gI (zcx (rvE E) m i m) (zgt (zcx (rvE E) m i m) (nbr E m i)).toNat).toNat (zgt (zcx (rvE E) m i m) (nbr E m i)).toNat).take (gI (zcx (rvE E) m i m) (zgt (zcx (rvE E) m i m) (nbr E m i)).toNat).toNat := rfl
   have hgN := zr0 (E := E) hlt
   have hin : ∀ w ∈ nbr E m i, w < m := fun w hw => hb2 _ _ ((zc9 hb2).1 hw)
   have hnl := zn0 E m i
   have hbt : ∀ v, gI (zcx (rvE E) m i m) v < m := ziu hL.len hL.down
   have p49 := fun x hx h0 => led49 m hm E hb x i hx hlt _ hL h0
   generalize zcx (rvE E) m i m = back at *
   repeat (first | refine za6 ?_ | refine za0 rfl ?_ | refine za5 ?_ | refine za3 ?_ | refine zae ?_ | refine zad ?_ | refine zcp rfl ?_ | refine za2 rfl ?_)
   refine zak rfl rfl p48 (fun h => Bool.noConfusion (show false = true from h)) ?_
   repeat (first | refine za6 ?_ | refine za0 rfl ?_ | refine za5 ?_ | refine za3 ?_ | refine zae ?_ | refine za2 rfl ?_ | refine zaf rfl rfl ?_ | refine zbf rfl rfl ?_ | refine zaw rfl rfl (by omega) (by assumption) rfl ?_)
   have hst := fun j => lsW back ((nbr E m i).take j)
   rw [zjo hlt] at hd
   generalize nbr E m i = l at *
   refine zbx (fun mm S => ∃ j, mm = l.length - j ∧ j ≤ l.length ∧ S = st 85 [(4, cN E m), (6, cN (rvE E) m), (7, .int .i64 (i : Nat)), (8, vsI back), (9, .int .i64 (zgt back (l.take j))), (26, .int .i64 (m : Nat)), (27, .int .i64 (i : Nat)), (36, vN l), (37, .int .i64 ((l.map fun w => ([.int .i64 (w : Nat)] : List AV)).length : Nat)), (38, .int .i64 (j : Nat))] [] 0 1) l.length
    (za9 (.cons rfl (.cons rfl (.cons rfl (.cons rfl (.cons rfl (.cons rfl (.cons rfl (.cons rfl (.cons rfl (.cons rfl .nil))))))))))) ⟨0, rfl, Nat.zero_le _, rfl⟩ ?_
   rintro mm S ⟨j, rfl, hj, rfl⟩
   unfold b21_2
   repeat (first | refine za6 ?_ | refine za0 rfl ?_)
   refine zau rfl rfl rfl (fun h4 => ?_) fun h4 => ?_
   ·have hlt2 : j < l.length := by
     have h5 : ((j : Nat) : Int) < (((l.map fun w => ([.int .i64 (w : Nat)] : List AV)).length : Nat) : Int) := of_decide_eq_true h4
     rw [List.length_map] at h5
     exact Int.ofNat_lt.1 h5
    have w2 : IntKind.wrap .i64 (((j : Nat) : Int) + 1) = ((j + 1 : Nat) : Int) := zar j (by omega)
    have hgv := zlw hlt2
    have hym := hin l[j] (List.getElem_mem hlt2)
    have hs := hst j
    have hts : zgt back (l.take (j + 1)) = lstF back (zgt back (l.take j)) l[j] := zib (lstF back) (-1) hlt2
    have hbm : 0 ≤ zgt back (l.take j) → (zgt back (l.take j)).toNat < m := fun h => hin _ (List.mem_of_mem_take (hs.some_ h).1)
    generalize zgt back (l.take j) = b at *
    generalize l[j] = y at *
    have hgy : (back.map fun z => ([.int .i64 z] : List AV))[((y : Nat) : Int).toNat]? = some [.int .i64 (gI back y)] := by rw [zdn (by rw [hL.len]; exact hym), zrq]
    unfold lstF at hts
    repeat (first | refine za6 ?_ | refine za0 rfl ?_ | refine za5 ?_ | refine za3 ?_ | refine zae ?_ | refine zad ?_ | refine zcp rfl ?_ | refine za2 rfl ?_ | refine zaf rfl rfl ?_ | refine zg0 env0_ok rfl rfl rfl ?_ | refine zaw rfl rfl (by omega) (by assumption) rfl ?_)
    refine zau rfl rfl rfl (fun h5 => ?_) fun h5 => ?_
    ·have h5 : gI back y ≥ 0 := of_decide_eq_true h5
     repeat (first | refine zee rfl ?_ | refine za2 rfl ?_)
     refine zau rfl rfl rfl (fun h6 => ?_) fun h6 => ?_
     ·have h6 : b < 0 := of_decide_eq_true h6
      rw [if_pos ⟨h5, .inl h6⟩] at hts
      repeat (first | refine za0 rfl ?_ | refine za5 ?_ | refine za3 ?_ | refine zcb ?_ | refine zcp rfl ?_ | refine zee rfl ?_ | refine zq7 rfl rfl ?_ | refine za2 rfl ?_ | refine zbg rfl rfl ?_ | refine zbe (op := .add) rfl rfl rfl ?_)
      rw [w2]
      exact zay (show l.length - (j + 1) < l.length - j by omega) (za9 (.cons rfl (.cons rfl (.cons rfl (.cons rfl (.cons rfl (.cons rfl (.cons rfl (.cons rfl (.cons rfl (.cons rfl .nil))))))))))) ⟨j + 1, rfl, hlt2, by rw [hts]⟩
     ·have h6 : ¬ b < 0 := of_decide_eq_false h6
      obtain ⟨b, rfl⟩ := Int.eq_ofNat_of_zero_le (show 0 ≤ b by omega)
      have hbm := hbm (Int.natCast_nonneg b)
      rw [Int.toNat_natCast] at hbm hts
      have hgb : (back.map fun z => ([.int .i64 z] : List AV))[((b : Nat) : Int).toNat]? = some [.int .i64 (gI back b)] := by rw [zdn (by rw [hL.len]; exact hbm), zrq]
      repeat (first | refine zee rfl ?_ | refine za2 rfl ?_ | refine zaf rfl rfl ?_ | refine zaw rfl rfl (by omega) (by assumption) rfl ?_)
      refine zau rfl rfl rfl (fun h7 => ?_) fun h7 => ?_
      ·rw [if_pos ⟨h5, .inr (of_decide_eq_true h7)⟩] at hts
       repeat (first | refine za0 rfl ?_ | refine za5 ?_ | refine za3 ?_ | refine zcb ?_ | refine zcp rfl ?_ | refine zee rfl ?_ | refine za2 rfl ?_ | refine zbg rfl rfl ?_ | refine zas rfl rfl ?_ | refine zbe (op := .add) rfl rfl rfl ?_)
       rw [w2]
       exact zay (show l.length - (j + 1) < l.length - j by omega) (za9 (.cons rfl (.cons rfl (.cons rfl (.cons rfl (.cons rfl (.cons rfl (.cons rfl (.cons rfl (.cons rfl (.cons rfl .nil))))))))))) ⟨j + 1, rfl, hlt2, by rw [hts]⟩
      ·have h7 : ¬ gI back y < gI back b := of_decide_eq_false h7
       rw [if_neg fun h => h.2.elim h6 h7] at hts
       repeat (first | refine za0 rfl ?_ | refine za5 ?_ | refine za3 ?_ | refine zcb ?_ | refine zad ?_ | refine zce rfl ?_ | refine zee rfl ?_ | refine za2 rfl ?_ | refine zbg rfl rfl ?_ | refine zas rfl rfl ?_ | refine zbe (op := .add) rfl rfl rfl ?_)
       rw [w2]
       exact zay (show l.length - (j + 1) < l.length - j by omega) (za9 (.cons rfl (.cons rfl (.cons rfl (.cons rfl (.cons rfl (.cons rfl (.cons rfl (.cons rfl (.cons rfl (.cons rfl .nil))))))))))) ⟨j + 1, rfl, hlt2, by rw [hts]⟩
    ·have h5 : ¬ gI back y ≥ 0 := of_decide_eq_false h5
     rw [if_neg fun h => h5 h.1] at hts
     repeat (first | refine za0 rfl ?_ | refine za5 ?_ | refine za3 ?_ | refine zcb ?_ | refine zad ?_ | refine zce rfl ?_ | refine zq7 rfl rfl ?_ | refine o_gt rfl ?_ | refine za2 rfl ?_ | refine zas rfl rfl ?_ | refine zbe (op := .add) rfl rfl rfl ?_)
     rw [w2]
     exact zay (show l.length - (j + 1) < l.length - j by omega) (za9 (.cons rfl (.cons rfl (.cons rfl (.cons rfl (.cons rfl (.cons rfl (.cons rfl (.cons rfl (.cons rfl (.cons rfl .nil))))))))))) ⟨j + 1, rfl, hlt2, by rw [hts]⟩
   ·have hje : j = l.length := by
     have h5 : ¬ ((j : Nat) : Int) < (((l.map fun w => ([.int .i64 (w : Nat)] : List AV)).length : Nat) : Int) := of_decide_eq_false h4
     rw [List.length_map] at h5
     omega
    subst hje
    rw [List.take_length]
    have hxm : 0 ≤ zgt back l → (zgt back l).toNat < m := fun h => hin _ (hW.some_ h).1
    generalize zgt back l = b at *
    repeat (first | refine za6 ?_ | refine za5 ?_ | refine za3 ?_ | refine zce rfl ?_ | refine zbw ?_ | refine zag ?_)
    refine zdb ?_
    repeat (first | refine za6 ?_ | refine za0 rfl ?_ | refine za3 ?_ | refine zbv ?_ | refine za2 rfl ?_)
    refine zau rfl rfl rfl (fun h5 => ?_) fun h5 => ?_
    ·have h5 : b < 0 := of_decide_eq_true h5
     rw [hll.1 h5, if_neg Bool.false_ne_true] at hd
     repeat (first | refine za0 rfl ?_ | refine za5 ?_ | refine za3 ?_ | refine zcp rfl ?_ | refine zbw ?_ | refine zbv ?_ | refine zag ?_ | refine za2 rfl ?_ | refine zbe (op := .add) rfl rfl rfl ?_)
     rw [w1]
     exact zay (show m - (i + 1) < m - i by omega) (za9 (.cons rfl (.cons rfl (.cons rfl (.cons rfl .nil))))) ⟨i + 1, rfl, hlt, hd, rfl⟩
    ·have h5 : ¬ b < 0 := of_decide_eq_false h5
     obtain ⟨x, rfl⟩ := Int.eq_ofNat_of_zero_le (show 0 ≤ b by omega)
     have hxm := hxm (Int.natCast_nonneg x)
     obtain ⟨_, hx0⟩ := hW.some_ (Int.natCast_nonneg x)
     rw [Int.toNat_natCast] at hxm hx0 hcy
     have hld : ldB E m i i = true := by
      cases hc : ldB E m i i with
      | true => rfl
      | false => exact absurd (hll.2 hc) h5
     rw [hld, if_pos rfl] at hd
     have hlp : lpS E m = some i := by
      unfold nxV at hd
      split at hd
      ·rename_i u e
       rw [e, Int.ofNat_inj.1 hd]
      ·omega
     have hV : cycN m E = .tup [vsI (iL (cycL E m i)), .int .i64 0] := by unfold cycN; rw [hlp]
     rw [hV, hcy]
     repeat (first | refine za6 ?_ | refine za0 rfl ?_ | refine za5 ?_ | refine za3 ?_ | refine zad ?_ | refine zce rfl ?_ | refine za2 rfl ?_ | refine zcl rfl rfl ?_)
     refine zau rfl rfl rfl (fun h6 => ?_) fun h6 => ?_
     ·have h6 : ¬ x = i := fun e => (show ¬ ((x : Nat) : Int) = (i : Nat) by simpa using h6) (by rw [e])
      have p49 := p49 x hxm hx0
      have hbx := hbt x
      have hrl := zen E m back (gI back x).toNat x
      have hpl : (iL (x :: zcm E m back (gI back x).toNat x)).length = (gI back x).toNat + 1 := by rw [zf0, List.length_cons, hrl]
      have htk : iL (i :: (x :: zcm E m back (gI back x).toNat x).take (gI back x).toNat) = ((i : Nat) : Int) :: (iL (x :: zcm E m back (gI back x).toNat x)).take (gI back x).toNat := by
       unfold iL
       rw [List.map_cons, List.map_take]
      rw [htk]
      generalize iL (x :: zcm E m back (gI back x).toNat x) = path at *
      have w3 : IntKind.wrap .i64 ((((path.map fun z => ([.int .i64 z] : List AV)).length : Nat) : Int) - 1) = (((gI back x).toNat : Nat) : Int) := by
       rw [List.length_map, hpl, zda _ (by omega) (by omega)]
       omega
      repeat (first | refine za6 ?_ | refine za0 rfl ?_ | refine za5 ?_ | refine za3 ?_ | refine zcp rfl ?_ | refine za2 rfl ?_)
      refine zak rfl rfl p49 (fun h => Bool.noConfusion (show false = true from h)) ?_
      repeat (first | refine za0 rfl ?_ | refine za5 ?_ | refine za3 ?_ | refine za2 rfl ?_ | refine zbf rfl rfl ?_ | refine zbe (op := .sub) rfl rfl rfl ?_)
      rw [w3]
      refine o_slvs rfl rfl (by rw [List.length_map]; omega) (List.all_eq_true.2 fun x hx => by obtain ⟨s, _, rfl⟩ := List.mem_map.1 hx; rfl) ?_
      rw [← List.map_take]
      refine o_alit (q := path.take (gI back x).toNat) (by rw [List.length_take]; omega) rfl rfl (Nat.zero_lt_one) rfl (by decide) fun w hp' nx' ck' hW => ?_
      repeat (first | refine za6 ?_ | refine za0 rfl ?_ | refine za5 ?_ | refine za3 ?_ | refine zaq ?_ | refine zac ?_ | refine zba ?_ | refine za2 rfl ?_)
      refine zao ⟨.inr rfl, _, rfl, ?_⟩
      exact congrArg AV.tup (zgb hW.view rfl)
     ·have h6 : x = i := Int.ofNat_inj.1 (by simpa using h6)
      subst h6
      rw [hL.zero]
      repeat (first | refine za6 ?_ | refine za0 rfl ?_ | refine za5 ?_ | refine za3 ?_ | refine zad ?_ | refine zce rfl ?_ | refine zaq ?_ | refine zac ?_ | refine zba ?_ | refine za2 rfl ?_)
      refine zao ⟨.inr rfl, _, rfl, ?_⟩
      exact congrArg AV.tup (zgb (zco [((x : Nat) : Int)] rfl rfl) rfl)
  ·have hie : i = m := by
    have h4 : ¬ ((i : Nat) : Int) < ((m : Nat) : Int) := of_decide_eq_false h3
    omega
   subst hie
   rw [zmf] at hd
   have hlp : lpS E i = none := by
    unfold nxV at hd
    split at hd
    ·omega
    ·assumption
   have hV : cycN i E = .tup [.vs [], .int .i64 6] := by unfold cycN; rw [hlp]
   rw [hV]
   repeat (first | refine za6 ?_ | refine za5 ?_ | refine za3 ?_ | refine zce rfl ?_ | refine zbw ?_ | refine zag ?_)
   refine zdb ?_
   repeat (first | refine za6 ?_ | refine za0 rfl ?_ | refine za5 ?_ | refine za3 ?_ | refine zaq ?_ | refine zbv ?_ | refine za2 rfl ?_)
   exact zao ⟨.inr rfl, _, rfl, rfl⟩
 ·have hg2 : ¬ zel n es [] = 0 := by rw [zg5]; exact hg
  rw [ze0 hg2, cycV_err hg, zg5]
  repeat (first | refine za6 ?_ | refine za0 rfl ?_ | refine za5 ?_ | refine za3 ?_ | refine za2 rfl ?_ | refine zav rfl rfl ?_)
  refine zau rfl rfl rfl (fun h => ?_) fun h => absurd (by simpa using h) hg
  repeat (first | refine za6 ?_ | refine za0 rfl ?_ | refine za5 ?_ | refine za3 ?_ | refine zcp rfl ?_ | refine zaq ?_ | refine zac ?_ | refine za2 rfl ?_)
  exact zao ⟨.inr rfl, _, rfl, rfl⟩
end Go.Proofs.Ytoagikifehmlpaa
