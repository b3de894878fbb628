/-
  CYCLES: Cycle walked.; The components are a partition; the condensed graph: the law.; WHAT EVERY LAW OF THE SEAT SHARES.; READING THE ARGUMENTS: graphs, numbers.
-/
import Derived.Test.YtoagikifehmlpaaVX4
import Derived.Test.YtoagikifehmlpaaRows
import Derived.JoinedCond
namespace Go.Proofs.Ytoagikifehmlpaa
open Go Go.Am
def b21_2 : IC := .seq (.region [⟨(some 39), .bin .lss (.t 38) (.t 37), none⟩] none)
 (.seq (.cond (.t 39) (.skip)
 (.exit 2))
 (.seq (.block 3 (.seq (.region [⟨(some 40), .idxs 1 (.t 36) (.t 38), none⟩,
  ⟨(some 41), .load none (.t 40), none⟩,
  ⟨(some 11), .mov (.t 41), none⟩] none)
 (.seq (.region [⟨(some 42), .mov (.t 8), none⟩,
  ⟨(some 43), .mov (.t 11), none⟩,
  ⟨(some 44), .idxs 1 (.t 42) (.t 43), none⟩,
  ⟨(some 45), .load none (.t 44), none⟩,
  ⟨(some 46), .bin .geq (.t 45) (.c (.int .i64 0)), none⟩,
  ⟨(some 47), .mov (.t 46), none⟩,
  ⟨(some 48), .mov (.t 9), some (47, true)⟩,
  ⟨(some 49), .bin .lss (.t 48) (.c (.int .i64 0)), some (47, true)⟩,
  ⟨(some 50), .mov (.t 49), some (47, true)⟩,
  ⟨(some 51), .mov (.t 8), some (50, false)⟩,
  ⟨(some 52), .mov (.t 11), some (50, false)⟩,
  ⟨(some 53), .idxs 1 (.t 51) (.t 52), some (50, false)⟩,
  ⟨(some 54), .load none (.t 53), some (50, false)⟩,
  ⟨(some 55), .mov (.t 8), some (50, false)⟩,
  ⟨(some 56), .mov (.t 9), some (50, false)⟩,
  ⟨(some 57), .idxs 1 (.t 55) (.t 56), some (50, false)⟩,
  ⟨(some 58), .load none (.t 57), some (50, false)⟩,
  ⟨(some 59), .bin .lss (.t 54) (.t 58), some (50, false)⟩,
  ⟨(some 60), .pick (.t 50) (.c (.bool true)) (.t 59), some (47, true)⟩,
  ⟨(some 61), .pick (.t 47) (.t 60) (.c (.bool false)), none⟩] (some [[], [], [0, 1], [2], [3], [4], [5], [6, 5], [7, 5, 5], [8], [8], [9, 10, 8], [11, 8], [8], [8], [13, 14, 8], [15, 8], [12, 16, 8], [8, 17, 5], [5, 18]]))
 (.cond (.t 61) (.region [⟨(some 62), .mov (.t 11), none⟩,
  ⟨(some 9), .mov (.t 62), none⟩] none)
 (.skip)))))
 (.region [⟨(some 63), .bin .add (.t 38) (.c (.int .i64 1)), none⟩,
  ⟨(some 38), .mov (.t 63), none⟩] none)))
def b21_0 : IC := .seq (.region [⟨(some 28), .bin .lss (.t 27) (.t 26), none⟩] none)
 (.seq (.cond (.t 28) (.skip)
 (.exit 0))
 (.seq (.block 1 (.seq (.region [⟨(some 29), .mov (.t 27), none⟩,
  ⟨(some 7), .mov (.t 29), none⟩] none)
 (.seq (.region [⟨(some 30), .mov (.t 6), none⟩,
  ⟨(some 31), .mov (.t 7), none⟩,
  ⟨(some 32), .call (.c (.fn 48 [] [])) [(.t 30), (.t 31)], none⟩,
  ⟨(some 8), .mov (.t 32), none⟩] none)
 (.seq (.region [⟨(some 9), .mov (.c (.int .i64 (-1))), none⟩] none)
 (.seq (.seq (.region [⟨(some 33), .mov (.t 4), none⟩,
  ⟨(some 34), .mov (.t 7), none⟩,
  ⟨(some 35), .idxs 1 (.t 33) (.t 34), none⟩,
  ⟨(some 36), .load none (.t 35), none⟩,
  ⟨(some 37), .len false (.t 36), none⟩,
  ⟨(some 38), .mov (.c (.int .i64 0)), none⟩] none)
 (.block 2 (.loop b21_2)))
 (.seq (.seq (.region [⟨(some 64), .mov (.t 9), none⟩,
  ⟨(some 65), .bin .lss (.t 64) (.c (.int .i64 0)), none⟩] none)
 (.cond (.t 65) (.exit 1)
 (.skip)))
 (.seq (.region [⟨(some 66), .mov (.t 7), none⟩,
  ⟨(some 67), .bslice 1 1 [.int .i64 0] [(0, 1, (.t 66))], none⟩,
  ⟨(some 12), .mov (.t 67), none⟩] none)
 (.seq (.seq (.region [⟨(some 68), .mov (.t 9), none⟩,
  ⟨(some 69), .mov (.t 7), none⟩,
  ⟨(some 70), .bin .neq (.t 68) (.t 69), none⟩] none)
 (.cond (.t 70) (.seq (.region [⟨(some 71), .mov (.t 4), none⟩,
  ⟨(some 72), .mov (.t 9), none⟩,
  ⟨(some 73), .mov (.t 7), none⟩,
  ⟨(some 74), .mov (.t 8), none⟩,
  ⟨(some 75), .call (.c (.fn 49 [] [])) [(.t 71), (.t 72), (.t 73), (.t 74)], none⟩,
  ⟨(some 13), .mov (.t 75), none⟩] none)
 (.region [⟨(some 76), .mov (.t 12), none⟩,
  ⟨(some 77), .mov (.t 13), none⟩,
  ⟨(some 78), .mov (.t 13), none⟩,
  ⟨(some 79), .len false (.t 78), none⟩,
  ⟨(some 80), .bin .sub (.t 79) (.c (.int .i64 1)), none⟩,
  ⟨(some 81), .slsl 1 (.t 77) none (some (.t 80)) none, none⟩,
  ⟨(some 82), .append 1 8 [.int .i64 0] (.t 76) (.t 81), none⟩,
  ⟨(some 12), .mov (.t 82), none⟩] none))
 (.skip)))
 (.seq (.region [⟨(some 83), .mov (.t 12), none⟩,
  ⟨(some 2), .mov (.t 83), none⟩,
  ⟨(some 3), .mov (.c (.int .i64 0)), none⟩] none)
 (.ret))))))))))
 (.region [⟨(some 84), .bin .add (.t 27) (.c (.int .i64 1)), none⟩,
  ⟨(some 27), .mov (.t 84), none⟩] none)))
-- pneumatic/digraph.Cycle
def ic21 : IC := .seq (.region [⟨(some 1), .box (.t 0), none⟩,
  ⟨(some 2), .mov (.c (.nils)), none⟩,
  ⟨(some 3), .mov (.c (.int .i64 0)), none⟩] none)
 (.seq (.region [⟨(some 15), .load (some 2) (.t 1), none⟩,
  ⟨(some 16), .call (.c (.fn 46 [] [])) [(.t 15), (.c (.nils))], none⟩,
  ⟨(some 14), .mov (.t 16), none⟩,
  ⟨(some 17), .extract (.t 14) 0, none⟩,
  ⟨(some 18), .extract (.t 14) 1, none⟩,
  ⟨(some 4), .mov (.t 17), none⟩,
  ⟨(some 5), .mov (.t 18), none⟩] none)
 (.seq (.seq (.region [⟨(some 19), .mov (.t 5), none⟩,
  ⟨(some 20), .bin .neq (.t 19) (.c (.int .i64 0)), none⟩] none)
 (.cond (.t 20) (.seq (.region [⟨(some 21), .mov (.t 5), none⟩,
  ⟨(some 2), .mov (.c (.nils)), none⟩,
  ⟨(some 3), .mov (.t 21), none⟩] none)
 (.ret))
 (.skip)))
 (.seq (.region [⟨(some 22), .load (some 2) (.t 1), none⟩,
  ⟨(some 23), .call (.c (.fn 47 [] [])) [(.t 22)], none⟩,
  ⟨(some 24), .call (.c (.fn 45 [] [])) [(.t 23)], none⟩,
  ⟨(some 6), .mov (.t 24), none⟩] none)
 (.seq (.seq (.region [⟨(some 25), .mov (.t 4), none⟩,
  ⟨(some 26), .len false (.t 25), none⟩,
  ⟨(some 27), .mov (.c (.int .i64 0)), none⟩] none)
 (.block 0 (.loop b21_0)))
 (.seq (.region [⟨(some 2), .mov (.c (.nils)), none⟩,
  ⟨(some 3), .mov (.c (.int .i64 6)), none⟩] none)
 (.ret))))))
theorem fn21 : env0.fn 21 = some ⟨85, ic21, [.t 2, .t 3]⟩ := by kernel_rfl
set_option maxHeartbeats 8000000 in
theorem cycle21 (n : Int) (es : List (Int × Int)) (hn : zd6 n es = 0 → n ≤ 12) : PF Try.prog 21 [cG n es] (cycV n es) := by
 have p46 := zt6 n es [] (Nat.zero_le _)
 refine zbg env0_ok fn21 [(0, .agg [.int .i64 n, .vs (cE es)])] (by show 1 ≤ 85; decide) rfl fun w0 N0 => ?_
 unfold ic21
 refine za7 (za0 rfl (zel rfl rfl (za5 rfl (za5 rfl (za6 (za4 ?_))))))
 refine zb6 [] [(0, 0, [.int .i64 n, .vs (cE es)])] [(1, .vptr [.int .i64 n, .vs (cE es)])] rfl (.cons rfl rfl .nil) .nil (.cons rfl (.fptr rfl rfl) .nil) ?_
 repeat (first | refine za7 ?_ | refine za0 rfl ?_ | refine zb1 rfl rfl rfl rfl ?_)
 refine zb3 rfl rfl p46 (fun h => Bool.noConfusion (show false = true from h)) ?_
 by_cases hg : zd6 n es = 0
 ·have hn := hn hg
  obtain ⟨m, E, rfl, rfl, hm, _, hE, hb⟩ := zj4 hg
  rw [zna ((znb _ _).trans hg), zsj hg]
  have hb2 := fun u v h => (hb u v h).2
  have p47 := zjn (m : Nat) (zaf E) (by unfold zaf; rw [List.length_map]; omega)
  rw [zpy] at p47
  have p45 := zdb m hm (rvE E) (by rw [zux]; omega) (ziq hb)
  have hlen : ((List.range m).map fun v => ([vN (nbr E m v)] : List AV)).length = m := by rw [List.length_map, List.length_range]
  have h0 : dnx (fun v => ldB E m v v) m 0 = nxV (lpS E m) := by
   unfold dnx lpS nxV
   rw [List.drop_zero]
   rfl
  repeat (first | refine za7 ?_ | refine za0 rfl ?_ | refine za6 ?_ | refine za4 ?_ | refine zal ?_ | refine zd5 rfl ?_ | refine za5 rfl ?_ | refine zb1 rfl rfl rfl rfl ?_ | refine zbh rfl rfl ?_ | refine zee rfl rfl rfl ?_)
  refine zb3 rfl rfl p47 (fun h => Bool.noConfusion (show false = true from h)) ?_
  refine zb3 rfl rfl p45 (fun h => Bool.noConfusion (show false = true from h)) ?_
  repeat (first | refine za7 ?_ | refine za0 rfl ?_ | refine za6 ?_ | refine za4 ?_ | refine zac ?_ | refine za5 rfl ?_ | refine zc4 rfl rfl ?_)
  refine zc1 (fun mm S => ∃ i, mm = m - i ∧ i ≤ m ∧ dnx (fun v => ldB E m v v) m i = nxV (lpS E m) ∧ S = st 85 [(4, cN E m), (6, cN (rvE E) m), (26, .int .i64 (m : Nat)), (27, .int .i64 (i : Nat))] [] 0 1) m
   (zaa (.cons rfl (.cons rfl (.cons (by exact congrArg (fun z : Nat => some (AV.int .i64 (z : Nat))) hlen) (.cons rfl .nil))))) ⟨0, rfl, Nat.zero_le _, h0, rfl⟩ ?_
  rintro mm S ⟨i, rfl, hi, hd, rfl⟩
  unfold b21_0
  repeat (first | refine za7 ?_ | refine za0 rfl ?_)
  refine zax rfl rfl rfl (fun h3 => ?_) fun h3 => ?_
  ·have hlt : i < m := Int.ofNat_lt.1 (of_decide_eq_true h3)
   have w1 : IntKind.wrap .i64 (((i : Nat) : Int) + 1) = ((i + 1 : Nat) : Int) := zap i (by omega)
   have p48 := far48 m (by omega) (rvE E) (ziq hb) i hlt
   have hL := zfr (es := rvE E) hlt fun u v h => (ziq hb u v h).2
   have hll := ls_ld hb hlt
   have hW := lsW (zef (rvE E) m i m) (nbr E m i)
   have hcy : cycL E m i = i :: ((zl9 (zef (rvE E) m i m) (nbr E m i)).toNat :: zen E m (zef (rvE E) m i m) (gI (zef (rvE E) m i m) (zl9 (zef (rvE E) m i m) (nbr E m i)).toNat).toNat (zl9 (zef (rvE E) m i m) (nbr E m i)).toNat).take (gI (zef (rvE E) m i m) (zl9 (zef (rvE E) m i m) (nbr E m i)).toNat).toNat := rfl
   have hgN := zoi (E := E) hlt
   have hin : ∀ w ∈ nbr E m i, w < m := fun w hw => hb2 _ _ ((zc3 hb2).1 hw)
   have hnl := zih E m i
   have hbt : ∀ v, gI (zef (rvE E) m i m) v < m := zp4 hL.len hL.down
   have p49 := fun x hx h0 => led49 m hm E hb x i hx hlt _ hL h0
   generalize zef (rvE E) m i m = back at *
   repeat (first | refine za7 ?_ | refine za0 rfl ?_ | refine za6 ?_ | refine za4 ?_ | refine zac ?_ | refine zal ?_ | refine zd2 rfl ?_ | refine za5 rfl ?_)
   refine zb3 rfl rfl p48 (fun h => Bool.noConfusion (show false = true from h)) ?_
   repeat (first | refine za7 ?_ | refine za0 rfl ?_ | refine za6 ?_ | refine za4 ?_ | refine zac ?_ | refine za5 rfl ?_ | refine zad rfl rfl ?_ | refine zc4 rfl rfl ?_ | refine zay rfl rfl (by omega) (by assumption) rfl ?_)
   have hst := fun j => lsW back ((nbr E m i).take j)
   rw [dnx_step hlt] at hd
   generalize nbr E m i = l at *
   refine zc1 (fun mm S => ∃ j, mm = l.length - j ∧ j ≤ l.length ∧ S = st 85 [(4, cN E m), (6, cN (rvE E) m), (7, .int .i64 (i : Nat)), (8, vsI back), (9, .int .i64 (zl9 back (l.take j))), (26, .int .i64 (m : Nat)), (27, .int .i64 (i : Nat)), (36, vN l), (37, .int .i64 ((l.map fun w => ([.int .i64 (w : Nat)] : List AV)).length : Nat)), (38, .int .i64 (j : Nat))] [] 0 1) l.length
    (zaa (.cons rfl (.cons rfl (.cons rfl (.cons rfl (.cons rfl (.cons rfl (.cons rfl (.cons rfl (.cons rfl (.cons rfl .nil))))))))))) ⟨0, rfl, Nat.zero_le _, rfl⟩ ?_
   rintro mm S ⟨j, rfl, hj, rfl⟩
   unfold b21_2
   repeat (first | refine za7 ?_ | refine za0 rfl ?_)
   refine zax rfl rfl rfl (fun h4 => ?_) fun h4 => ?_
   ·have hlt2 : j < l.length := by
     have h5 : ((j : Nat) : Int) < (((l.map fun w => ([.int .i64 (w : Nat)] : List AV)).length : Nat) : Int) := of_decide_eq_true h4
     rw [List.length_map] at h5
     exact Int.ofNat_lt.1 h5
    have w2 : IntKind.wrap .i64 (((j : Nat) : Int) + 1) = ((j + 1 : Nat) : Int) := zap j (by omega)
    have hgv := zjs hlt2
    have hym := hin l[j] (List.getElem_mem hlt2)
    have hs := hst j
    have hts : zl9 back (l.take (j + 1)) = lstF back (zl9 back (l.take j)) l[j] := zv9 (lstF back) (-1) hlt2
    have hbm : 0 ≤ zl9 back (l.take j) → (zl9 back (l.take j)).toNat < m := fun h => hin _ (List.mem_of_mem_take (hs.some_ h).1)
    generalize zl9 back (l.take j) = b at *
    generalize l[j] = y at *
    have hgy : (back.map fun z => ([.int .i64 z] : List AV))[((y : Nat) : Int).toNat]? = some [.int .i64 (gI back y)] := by rw [zeu (by rw [hL.len]; exact hym), zt1]
    unfold lstF at hts
    repeat (first | refine za7 ?_ | refine za0 rfl ?_ | refine za6 ?_ | refine za4 ?_ | refine zac ?_ | refine zal ?_ | refine zd2 rfl ?_ | refine za5 rfl ?_ | refine zad rfl rfl ?_ | refine zhc env0_ok rfl rfl rfl ?_ | refine zay rfl rfl (by omega) (by assumption) rfl ?_)
    refine zax rfl rfl rfl (fun h5 => ?_) fun h5 => ?_
    ·have h5 : gI back y ≥ 0 := of_decide_eq_true h5
     repeat (first | refine zg4 rfl ?_ | refine za5 rfl ?_)
     refine zax rfl rfl rfl (fun h6 => ?_) fun h6 => ?_
     ·have h6 : b < 0 := of_decide_eq_true h6
      rw [if_pos ⟨h5, .inl h6⟩] at hts
      repeat (first | refine za0 rfl ?_ | refine za6 ?_ | refine za4 ?_ | refine zc5 ?_ | refine zd2 rfl ?_ | refine zg4 rfl ?_ | refine o_gn rfl rfl ?_ | refine za5 rfl ?_ | refine zbb rfl rfl ?_ | refine zbp (op := .add) rfl rfl rfl ?_)
      rw [w2]
      exact zar (show l.length - (j + 1) < l.length - j by omega) (zaa (.cons rfl (.cons rfl (.cons rfl (.cons rfl (.cons rfl (.cons rfl (.cons rfl (.cons rfl (.cons rfl (.cons rfl .nil))))))))))) ⟨j + 1, rfl, hlt2, by rw [hts]⟩
     ·have h6 : ¬ b < 0 := of_decide_eq_false h6
      obtain ⟨b, rfl⟩ := Int.eq_ofNat_of_zero_le (show 0 ≤ b by omega)
      have hbm := hbm (Int.natCast_nonneg b)
      rw [Int.toNat_natCast] at hbm hts
      have hgb : (back.map fun z => ([.int .i64 z] : List AV))[((b : Nat) : Int).toNat]? = some [.int .i64 (gI back b)] := by rw [zeu (by rw [hL.len]; exact hbm), zt1]
      repeat (first | refine zg4 rfl ?_ | refine za5 rfl ?_ | refine zad rfl rfl ?_ | refine zay rfl rfl (by omega) (by assumption) rfl ?_)
      refine zax rfl rfl rfl (fun h7 => ?_) fun h7 => ?_
      ·rw [if_pos ⟨h5, .inr (of_decide_eq_true h7)⟩] at hts
       repeat (first | refine za0 rfl ?_ | refine za6 ?_ | refine za4 ?_ | refine zc5 ?_ | refine zd2 rfl ?_ | refine zg4 rfl ?_ | refine za5 rfl ?_ | refine zbb rfl rfl ?_ | refine zba rfl rfl ?_ | refine zbp (op := .add) rfl rfl rfl ?_)
       rw [w2]
       exact zar (show l.length - (j + 1) < l.length - j by omega) (zaa (.cons rfl (.cons rfl (.cons rfl (.cons rfl (.cons rfl (.cons rfl (.cons rfl (.cons rfl (.cons rfl (.cons rfl .nil))))))))))) ⟨j + 1, rfl, hlt2, by rw [hts]⟩
      ·have h7 : ¬ gI back y < gI back b := of_decide_eq_false h7
       rw [if_neg fun h => h.2.elim h6 h7] at hts
       repeat (first | refine za0 rfl ?_ | refine za6 ?_ | refine za4 ?_ | refine zc5 ?_ | refine zal ?_ | refine zd5 rfl ?_ | refine zg4 rfl ?_ | refine za5 rfl ?_ | refine zbb rfl rfl ?_ | refine zba rfl rfl ?_ | refine zbp (op := .add) rfl rfl rfl ?_)
       rw [w2]
       exact zar (show l.length - (j + 1) < l.length - j by omega) (zaa (.cons rfl (.cons rfl (.cons rfl (.cons rfl (.cons rfl (.cons rfl (.cons rfl (.cons rfl (.cons rfl (.cons rfl .nil))))))))))) ⟨j + 1, rfl, hlt2, by rw [hts]⟩
    ·have h5 : ¬ gI back y ≥ 0 := of_decide_eq_false h5
     rw [if_neg fun h => h5 h.1] at hts
     repeat (first | refine za0 rfl ?_ | refine za6 ?_ | refine za4 ?_ | refine zc5 ?_ | refine zal ?_ | refine zd5 rfl ?_ | refine o_gn rfl rfl ?_ | refine o_gt rfl ?_ | refine za5 rfl ?_ | refine zba rfl rfl ?_ | refine zbp (op := .add) rfl rfl rfl ?_)
     rw [w2]
     exact zar (show l.length - (j + 1) < l.length - j by omega) (zaa (.cons rfl (.cons rfl (.cons rfl (.cons rfl (.cons rfl (.cons rfl (.cons rfl (.cons rfl (.cons rfl (.cons rfl .nil))))))))))) ⟨j + 1, rfl, hlt2, by rw [hts]⟩
   ·have hje : j = l.length := by
     have h5 : ¬ ((j : Nat) : Int) < (((l.map fun w => ([.int .i64 (w : Nat)] : List AV)).length : Nat) : Int) := of_decide_eq_false h4
     rw [List.length_map] at h5
     omega
    subst hje
    rw [List.take_length]
    have hxm : 0 ≤ zl9 back l → (zl9 back l).toNat < m := fun h => hin _ (hW.some_ h).1
    generalize zl9 back l = b at *
    repeat (first | refine za7 ?_ | refine za6 ?_ | refine za4 ?_ | refine zd5 rfl ?_ | refine zc0 ?_ | refine zag ?_)
    refine zdj ?_
    repeat (first | refine za7 ?_ | refine za0 rfl ?_ | refine za4 ?_ | refine zby ?_ | refine za5 rfl ?_)
    refine zax rfl rfl rfl (fun h5 => ?_) fun h5 => ?_
    ·have h5 : b < 0 := of_decide_eq_true h5
     rw [hll.1 h5, if_neg Bool.false_ne_true] at hd
     repeat (first | refine za0 rfl ?_ | refine za6 ?_ | refine za4 ?_ | refine zd2 rfl ?_ | refine zc0 ?_ | refine zby ?_ | refine zag ?_ | refine za5 rfl ?_ | refine zbp (op := .add) rfl rfl rfl ?_)
     rw [w1]
     exact zar (show m - (i + 1) < m - i by omega) (zaa (.cons rfl (.cons rfl (.cons rfl (.cons rfl .nil))))) ⟨i + 1, rfl, hlt, hd, rfl⟩
    ·have h5 : ¬ b < 0 := of_decide_eq_false h5
     obtain ⟨x, rfl⟩ := Int.eq_ofNat_of_zero_le (show 0 ≤ b by omega)
     have hxm := hxm (Int.natCast_nonneg x)
     obtain ⟨_, hx0⟩ := hW.some_ (Int.natCast_nonneg x)
     rw [Int.toNat_natCast] at hxm hx0 hcy
     have hld : ldB E m i i = true := by
      cases hc : ldB E m i i with
      | true => rfl
      | false => exact absurd (hll.2 hc) h5
     rw [hld, if_pos rfl] at hd
     have hlp : lpS E m = some i := by
      unfold nxV at hd
      split at hd
      ·rename_i u e
       rw [e, Int.ofNat_inj.1 hd]
      ·omega
     have hV : cycN m E = .tup [vsI (iL (cycL E m i)), .int .i64 0] := by unfold cycN; rw [hlp]
     rw [hV, hcy]
     repeat (first | refine za7 ?_ | refine za0 rfl ?_ | refine za6 ?_ | refine za4 ?_ | refine zal ?_ | refine zd5 rfl ?_ | refine za5 rfl ?_ | refine zbr rfl rfl ?_)
     refine zax rfl rfl rfl (fun h6 => ?_) fun h6 => ?_
     ·have h6 : ¬ x = i := fun e => (show ¬ ((x : Nat) : Int) = (i : Nat) by simpa using h6) (by rw [e])
      have p49 := p49 x hxm hx0
      have hbx := hbt x
      have hrl := zio E m back (gI back x).toNat x
      have hpl : (iL (x :: zen E m back (gI back x).toNat x)).length = (gI back x).toNat + 1 := by rw [zgm, List.length_cons, hrl]
      have htk : iL (i :: (x :: zen E m back (gI back x).toNat x).take (gI back x).toNat) = ((i : Nat) : Int) :: (iL (x :: zen E m back (gI back x).toNat x)).take (gI back x).toNat := by
       unfold iL
       rw [List.map_cons, List.map_take]
      rw [htk]
      generalize iL (x :: zen E m back (gI back x).toNat x) = path at *
      have w3 : IntKind.wrap .i64 ((((path.map fun z => ([.int .i64 z] : List AV)).length : Nat) : Int) - 1) = (((gI back x).toNat : Nat) : Int) := by
       rw [List.length_map, hpl, zev _ (by omega) (by omega)]
       omega
      repeat (first | refine za7 ?_ | refine za0 rfl ?_ | refine za6 ?_ | refine za4 ?_ | refine zd2 rfl ?_ | refine za5 rfl ?_)
      refine zb3 rfl rfl p49 (fun h => Bool.noConfusion (show false = true from h)) ?_
      repeat (first | refine za0 rfl ?_ | refine za6 ?_ | refine za4 ?_ | refine za5 rfl ?_ | refine zc4 rfl rfl ?_ | refine zbp (op := .sub) rfl rfl rfl ?_)
      rw [w3]
      refine o_slvs rfl rfl (by rw [List.length_map]; omega) (List.all_eq_true.2 fun x hx => by obtain ⟨s, _, rfl⟩ := List.mem_map.1 hx; rfl) ?_
      rw [← List.map_take]
      refine o_alit (q := path.take (gI back x).toNat) (by rw [List.length_take]; omega) rfl rfl (Nat.zero_lt_one) rfl (by decide) fun w hp' nx' ck' hW => ?_
      repeat (first | refine za7 ?_ | refine za0 rfl ?_ | refine za6 ?_ | refine za4 ?_ | refine zb2 ?_ | refine zan ?_ | refine zbz ?_ | refine za5 rfl ?_)
      refine zau ⟨.inr rfl, _, rfl, ?_⟩
      exact congrArg AV.tup (zik hW.view rfl)
     ·have h6 : x = i := Int.ofNat_inj.1 (by simpa using h6)
      subst h6
      rw [hL.zero]
      repeat (first | refine za7 ?_ | refine za0 rfl ?_ | refine za6 ?_ | refine za4 ?_ | refine zal ?_ | refine zd5 rfl ?_ | refine zb2 ?_ | refine zan ?_ | refine zbz ?_ | refine za5 rfl ?_)
      refine zau ⟨.inr rfl, _, rfl, ?_⟩
      exact congrArg AV.tup (zik (zd0 [((x : Nat) : Int)] rfl rfl) rfl)
  ·have hie : i = m := by
    have h4 : ¬ ((i : Nat) : Int) < ((m : Nat) : Int) := of_decide_eq_false h3
    omega
   subst hie
   rw [dnx_end] at hd
   have hlp : lpS E i = none := by
    unfold nxV at hd
    split at hd
    ·omega
    ·assumption
   have hV : cycN i E = .tup [.vs [], .int .i64 6] := by unfold cycN; rw [hlp]
   rw [hV]
   repeat (first | refine za7 ?_ | refine za6 ?_ | refine za4 ?_ | refine zd5 rfl ?_ | refine zc0 ?_ | refine zag ?_)
   refine zdj ?_
   repeat (first | refine za7 ?_ | refine za0 rfl ?_ | refine za6 ?_ | refine za4 ?_ | refine zb2 ?_ | refine zby ?_ | refine za5 rfl ?_)
   exact zau ⟨.inr rfl, _, rfl, rfl⟩
 ·have hg2 : ¬ zj0 n es [] = 0 := by rw [znb]; exact hg
  rw [zgy hg2, cycV_err hg, znb]
  repeat (first | refine za7 ?_ | refine za0 rfl ?_ | refine za6 ?_ | refine za4 ?_ | refine za5 rfl ?_ | refine zbh rfl rfl ?_)
  refine zax rfl rfl rfl (fun h => ?_) fun h => absurd (by simpa using h) hg
  repeat (first | refine za7 ?_ | refine za0 rfl ?_ | refine za6 ?_ | refine za4 ?_ | refine zd2 rfl ?_ | refine zb2 ?_ | refine zan ?_ | refine za5 rfl ?_)
  exact zau ⟨.inr rfl, _, rfl, rfl⟩
end Go.Proofs.Ytoagikifehmlpaa
namespace Go.Proofs.Ytoagikifehmlpaa
open Go Go.Am
def b4_2 : IC := .seq (.region [⟨(some 72), .bin .lss (.t 71) (.t 70), none⟩] none)
 (.seq (.cond (.t 72) (.skip)
 (.exit 2))
 (.seq (.block 3 (.seq (.region [⟨(some 73), .idxs 1 (.t 69) (.t 71), none⟩,
  ⟨(some 74), .load none (.t 73), none⟩,
  ⟨(some 16), .mov (.t 74), none⟩] none)
 (.seq (.region [⟨(some 75), .mov (.t 16), none⟩,
  ⟨(some 76), .bin .lss (.t 75) (.c (.int .i64 0)), none⟩,
  ⟨(some 77), .mov (.t 76), none⟩,
  ⟨(some 78), .mov (.t 16), some (77, false)⟩,
  ⟨(some 79), .faddr 0 (.t 3), some (77, false)⟩,
  ⟨(some 80), .load none (.t 79), some (77, false)⟩,
  ⟨(some 81), .bin .geq (.t 78) (.t 80), some (77, false)⟩,
  ⟨(some 82), .pick (.t 77) (.c (.bool true)) (.t 81), none⟩,
  ⟨(some 83), .mov (.t 82), none⟩,
  ⟨(some 84), .mov (.t 10), some (83, false)⟩,
  ⟨(some 85), .mov (.t 16), some (83, false)⟩,
  ⟨(some 86), .idxs 1 (.t 84) (.t 85), some (83, false)⟩,
  ⟨(some 87), .load none (.t 86), some (83, false)⟩,
  ⟨(some 88), .mov (.t 13), some (83, false)⟩,
  ⟨(some 89), .bin .neq (.t 87) (.t 88), some (83, false)⟩,
  ⟨(some 90), .pick (.t 83) (.c (.bool true)) (.t 89), none⟩] none)
 (.cond (.t 90) (.seq (.region [⟨(some 6), .mov (.c (.bool false)), none⟩] none)
 (.ret))
 (.skip)))))
 (.region [⟨(some 91), .bin .add (.t 71) (.c (.int .i64 1)), none⟩,
  ⟨(some 71), .mov (.t 91), none⟩] none)))
def b4_0 : IC := .seq (.region [⟨(some 61), .bin .lss (.t 60) (.t 59), none⟩] none)
 (.seq (.cond (.t 61) (.skip)
 (.exit 0))
 (.seq (.block 1 (.seq (.region [⟨(some 62), .mov (.t 60), none⟩,
  ⟨(some 63), .idxs 1 (.t 58) (.t 60), none⟩,
  ⟨(some 64), .load none (.t 63), none⟩,
  ⟨(some 13), .mov (.t 62), none⟩,
  ⟨(some 14), .mov (.t 64), none⟩] none)
 (.seq (.region [⟨(some 65), .mov (.t 12), none⟩,
  ⟨(some 66), .mov (.t 14), none⟩,
  ⟨(some 67), .len false (.t 66), none⟩,
  ⟨(some 68), .bin .add (.t 65) (.t 67), none⟩,
  ⟨(some 12), .mov (.t 68), none⟩] none)
 (.seq (.region [⟨(some 69), .mov (.t 14), none⟩,
  ⟨(some 70), .len false (.t 69), none⟩,
  ⟨(some 71), .mov (.c (.int .i64 0)), none⟩] none)
 (.block 2 (.loop b4_2))))))
 (.region [⟨(some 92), .bin .add (.t 60) (.c (.int .i64 1)), none⟩,
  ⟨(some 60), .mov (.t 92), none⟩] none)))
-- pneumatic/pneumaticlaw10.DigraphCondenses
def ic4 : IC := .seq (.region [⟨(some 3), .box (.t 0), none⟩,
  ⟨(some 6), .mov (.c (.bool false)), none⟩] none)
 (.seq (.seq (.region [⟨(some 23), .load (some 2) (.t 3), none⟩,
  ⟨(some 24), .call (.c (.fn 20 [] [])) [(.t 23)], none⟩,
  ⟨(some 25), .un .not (.t 24), none⟩] none)
 (.cond (.t 25) (.seq (.region [⟨(some 26), .call (.c (.fn 12 [] [])) [], none⟩,
  ⟨(some 6), .mov (.t 26), none⟩] none)
 (.ret))
 (.skip)))
 (.seq (.region [⟨(some 28), .load (some 2) (.t 3), none⟩,
  ⟨(some 29), .call (.c (.fn 13 [] [])) [(.t 28)], none⟩,
  ⟨(some 27), .mov (.t 29), none⟩,
  ⟨(some 30), .extract (.t 27) 0, none⟩,
  ⟨(some 31), .extract (.t 27) 1, none⟩,
  ⟨(some 7), .mov (.t 30), none⟩,
  ⟨(some 8), .mov (.t 31), none⟩] none)
 (.seq (.region [⟨(some 33), .load (some 2) (.t 3), none⟩,
  ⟨(some 34), .call (.c (.fn 15 [] [])) [(.t 33)], none⟩,
  ⟨(some 32), .mov (.t 34), none⟩,
  ⟨(some 35), .extract (.t 32) 0, none⟩,
  ⟨(some 36), .extract (.t 32) 1, none⟩,
  ⟨(some 37), .extract (.t 32) 2, none⟩,
  ⟨(some 9), .alloc [.int .i64 0, .nils], none⟩,
  ⟨none, .store 2 (.t 9) (.t 35), none⟩,
  ⟨(some 10), .mov (.t 36), none⟩,
  ⟨(some 11), .mov (.t 37), none⟩] none)
 (.seq (.seq (.region [⟨(some 38), .mov (.t 8), none⟩,
  ⟨(some 39), .bin .neq (.t 38) (.c (.int .i64 0)), none⟩,
  ⟨(some 40), .mov (.t 39), none⟩,
  ⟨(some 41), .mov (.t 11), some (40, false)⟩,
  ⟨(some 42), .bin .neq (.t 41) (.c (.int .i64 0)), some (40, false)⟩,
  ⟨(some 43), .pick (.t 40) (.c (.bool true)) (.t 42), none⟩,
  ⟨(some 44), .mov (.t 43), none⟩,
  ⟨(some 45), .faddr 0 (.t 9), some (44, false)⟩,
  ⟨(some 46), .load none (.t 45), some (44, false)⟩,
  ⟨(some 47), .mov (.t 7), some (44, false)⟩,
  ⟨(some 48), .len false (.t 47), some (44, false)⟩,
  ⟨(some 49), .bin .neq (.t 46) (.t 48), some (44, false)⟩,
  ⟨(some 50), .pick (.t 44) (.c (.bool true)) (.t 49), none⟩,
  ⟨(some 51), .mov (.t 50), none⟩,
  ⟨(some 52), .mov (.t 10), some (51, false)⟩,
  ⟨(some 53), .len false (.t 52), some (51, false)⟩,
  ⟨(some 54), .faddr 0 (.t 3), some (51, false)⟩,
  ⟨(some 55), .load none (.t 54), some (51, false)⟩,
  ⟨(some 56), .bin .neq (.t 53) (.t 55), some (51, false)⟩,
  ⟨(some 57), .pick (.t 51) (.c (.bool true)) (.t 56), none⟩] none)
 (.cond (.t 57) (.seq (.region [⟨(some 6), .mov (.c (.bool false)), none⟩] none)
 (.ret))
 (.skip)))
 (.seq (.region [⟨(some 12), .mov (.c (.int .i64 0)), none⟩] none)
 (.seq (.seq (.region [⟨(some 58), .mov (.t 7), none⟩,
  ⟨(some 59), .len false (.t 58), none⟩,
  ⟨(some 60), .mov (.c (.int .i64 0)), none⟩] none)
 (.block 0 (.loop b4_0)))
 (.seq (.seq (.region [⟨(some 94), .load (some 2) (.t 9), none⟩,
  ⟨(some 95), .call (.c (.fn 21 [] [])) [(.t 94)], none⟩,
  ⟨(some 93), .mov (.t 95), none⟩,
  ⟨(some 96), .extract (.t 93) 0, none⟩,
  ⟨(some 97), .extract (.t 93) 1, none⟩,
  ⟨(some 17), .mov (.t 96), none⟩,
  ⟨(some 18), .mov (.t 97), none⟩] none)
 (.seq (.region [⟨(some 98), .mov (.t 12), none⟩,
  ⟨(some 99), .faddr 0 (.t 3), none⟩,
  ⟨(some 100), .load none (.t 99), none⟩,
  ⟨(some 101), .bin .neq (.t 98) (.t 100), none⟩,
  ⟨(some 102), .mov (.t 101), none⟩,
  ⟨(some 103), .mov (.t 18), some (102, false)⟩,
  ⟨(some 104), .bin .neq (.t 103) (.c (.int .i64 6)), some (102, false)⟩,
  ⟨(some 105), .pick (.t 102) (.c (.bool true)) (.t 104), none⟩] none)
 (.cond (.t 105) (.seq (.region [⟨(some 6), .mov (.c (.bool false)), none⟩] none)
 (.ret))
 (.skip))))
 (.seq (.seq (.region [⟨(some 106), .faddr 0 (.t 3), none⟩,
  ⟨(some 107), .load none (.t 106), none⟩,
  ⟨(some 108), .bin .eql (.t 107) (.c (.int .i64 0)), none⟩] none)
 (.cond (.t 108) (.seq (.region [⟨(some 109), .call (.c (.fn 12 [] [])) [], none⟩,
  ⟨(some 6), .mov (.t 109), none⟩] none)
 (.ret))
 (.skip)))
 (.seq (.region [⟨(some 110), .mov (.t 1), none⟩,
  ⟨(some 111), .conv .i64 (.t 110), none⟩,
  ⟨(some 112), .faddr 0 (.t 3), none⟩,
  ⟨(some 113), .load none (.t 112), none⟩,
  ⟨(some 114), .bin .rem (.t 111) (.t 113), none⟩,
  ⟨(some 115), .mov (.t 2), none⟩,
  ⟨(some 116), .conv .i64 (.t 115), none⟩,
  ⟨(some 117), .faddr 0 (.t 3), none⟩,
  ⟨(some 118), .load none (.t 117), none⟩,
  ⟨(some 119), .bin .rem (.t 116) (.t 118), none⟩,
  ⟨(some 19), .mov (.t 114), none⟩,
  ⟨(some 20), .mov (.t 119), none⟩] (some [[], [0], [], [2], [1, 3], [], [5], [], [7], [6, 8], [4, 0, 1, 2, 3, 4], [9, 10, 0, 1, 2, 3, 4, 5, 6, 7, 8, 9, 10]]))
 (.seq (.region [⟨(some 121), .load (some 2) (.t 3), none⟩,
  ⟨(some 122), .mov (.t 19), none⟩,
  ⟨(some 123), .call (.c (.fn 22 [] [])) [(.t 121), (.t 122)], none⟩,
  ⟨(some 120), .mov (.t 123), none⟩,
  ⟨(some 124), .extract (.t 120) 0, none⟩,
  ⟨(some 125), .extract (.t 120) 1, none⟩,
  ⟨(some 21), .mov (.t 124), none⟩,
  ⟨(some 8), .mov (.t 125), none⟩] none)
 (.seq (.region [⟨(some 127), .load (some 2) (.t 9), none⟩,
  ⟨(some 128), .mov (.t 10), none⟩,
  ⟨(some 129), .mov (.t 19), none⟩,
  ⟨(some 130), .idxs 1 (.t 128) (.t 129), none⟩,
  ⟨(some 131), .load none (.t 130), none⟩,
  ⟨(some 132), .call (.c (.fn 22 [] [])) [(.t 127), (.t 131)], none⟩,
  ⟨(some 126), .mov (.t 132), none⟩,
  ⟨(some 133), .extract (.t 126) 0, none⟩,
  ⟨(some 134), .extract (.t 126) 1, none⟩,
  ⟨(some 22), .mov (.t 133), none⟩,
  ⟨(some 11), .mov (.t 134), none⟩] (some [[], [], [], [1, 2], [3], [0, 4], [5], [6], [6], [7, 5, 0, 1, 2, 3, 4, 5, 6, 7], [8, 9, 0, 1, 2, 3, 4, 5, 6, 7, 8, 9]]))
 (.seq (.region [⟨(some 135), .mov (.t 8), none⟩,
  ⟨(some 136), .bin .eql (.t 135) (.c (.int .i64 0)), none⟩,
  ⟨(some 137), .mov (.t 136), none⟩,
  ⟨(some 138), .mov (.t 11), some (137, true)⟩,
  ⟨(some 139), .bin .eql (.t 138) (.c (.int .i64 0)), some (137, true)⟩,
  ⟨(some 140), .pick (.t 137) (.t 139) (.c (.bool false)), none⟩,
  ⟨(some 141), .mov (.t 140), none⟩,
  ⟨(some 142), .mov (.t 21), some (141, true)⟩,
  ⟨(some 143), .len false (.t 142), some (141, true)⟩,
  ⟨(some 144), .faddr 0 (.t 3), some (141, true)⟩,
  ⟨(some 145), .load none (.t 144), some (141, true)⟩,
  ⟨(some 146), .bin .eql (.t 143) (.t 145), some (141, true)⟩,
  ⟨(some 147), .pick (.t 141) (.t 146) (.c (.bool false)), none⟩,
  ⟨(some 148), .mov (.t 147), none⟩,
  ⟨(some 149), .mov (.t 22), some (148, true)⟩,
  ⟨(some 150), .len false (.t 149), some (148, true)⟩,
  ⟨(some 151), .faddr 0 (.t 9), some (148, true)⟩,
  ⟨(some 152), .load none (.t 151), some (148, true)⟩,
  ⟨(some 153), .bin .eql (.t 150) (.t 152), some (148, true)⟩,
  ⟨(some 154), .pick (.t 148) (.t 153) (.c (.bool false)), none⟩,
  ⟨(some 155), .mov (.t 154), none⟩,
  ⟨(some 156), .mov (.t 10), some (155, true)⟩,
  ⟨(some 157), .mov (.t 20), some (155, true)⟩,
  ⟨(some 158), .idxs 1 (.t 156) (.t 157), some (155, true)⟩,
  ⟨(some 159), .load none (.t 158), some (155, true)⟩,
  ⟨(some 160), .bin .geq (.t 159) (.c (.int .i64 0)), some (155, true)⟩,
  ⟨(some 161), .pick (.t 155) (.t 160) (.c (.bool false)), none⟩,
  ⟨(some 162), .mov (.t 161), none⟩,
  ⟨(some 163), .mov (.t 10), some (162, true)⟩,
  ⟨(some 164), .mov (.t 20), some (162, true)⟩,
  ⟨(some 165), .idxs 1 (.t 163) (.t 164), some (162, true)⟩,
  ⟨(some 166), .load none (.t 165), some (162, true)⟩,
  ⟨(some 167), .faddr 0 (.t 9), some (162, true)⟩,
  ⟨(some 168), .load none (.t 167), some (162, true)⟩,
  ⟨(some 169), .bin .lss (.t 166) (.t 168), some (162, true)⟩,
  ⟨(some 170), .pick (.t 162) (.t 169) (.c (.bool false)), none⟩,
  ⟨(some 171), .mov (.t 170), none⟩,
  ⟨(some 172), .mov (.t 21), some (171, true)⟩,
  ⟨(some 173), .mov (.t 20), some (171, true)⟩,
  ⟨(some 174), .idxs 1 (.t 172) (.t 173), some (171, true)⟩,
  ⟨(some 175), .load none (.t 174), some (171, true)⟩,
  ⟨(some 176), .bin .geq (.t 175) (.c (.int .i64 0)), some (171, true)⟩,
  ⟨(some 177), .mov (.t 22), some (171, true)⟩,
  ⟨(some 178), .mov (.t 10), some (171, true)⟩,
  ⟨(some 179), .mov (.t 20), some (171, true)⟩,
  ⟨(some 180), .idxs 1 (.t 178) (.t 179), some (171, true)⟩,
  ⟨(some 181), .load none (.t 180), some (171, true)⟩,
  ⟨(some 182), .idxs 1 (.t 177) (.t 181), some (171, true)⟩,
  ⟨(some 183), .load none (.t 182), some (171, true)⟩,
  ⟨(some 184), .bin .geq (.t 183) (.c (.int .i64 0)), some (171, true)⟩,
  ⟨(some 185), .eqb false (.t 176) (.t 184), some (171, true)⟩,
  ⟨(some 186), .pick (.t 171) (.t 185) (.c (.bool false)), none⟩,
  ⟨(some 187), .mov (.t 186), none⟩,
  ⟨(some 188), .call (.c (.fn 12 [] [])) [], some (187, true)⟩,
  ⟨(some 189), .pick (.t 187) (.t 188) (.c (.bool false)), none⟩,
  ⟨(some 6), .mov (.t 189), none⟩] (some [[], [0], [1], [2], [3, 2], [2, 4], [5, 2], [6], [7, 6], [6], [9, 6], [8, 10, 6], [6, 11], [12, 6], [13], [14, 13], [13], [16, 13], [15, 17, 13], [13, 18], [19, 13], [20], [20], [21, 22, 20], [23, 20], [24, 20], [20, 25], [26, 20], [27], [27], [28, 29, 27], [30, 27], [27], [32, 27], [31, 33, 27], [27, 34], [35, 27], [36], [36], [37, 38, 36], [39, 36], [40, 36], [36], [36], [36], [43, 44, 36], [45, 36], [42, 46, 36], [47, 36], [48, 36], [41, 49, 36], [36, 50], [51, 36], [52, 52], [52, 53], [54, 53, 0, 1, 2, 3, 4, 5, 6, 7, 8, 9, 10, 11, 12, 13, 14, 15, 16, 17, 18, 19, 20, 21, 22, 23, 24, 25, 26, 27, 28, 29, 30, 31, 32, 33, 34, 35, 36, 37, 38, 39, 40, 41, 42, 43, 44, 45, 46, 47, 48, 49, 50, 51, 52, 53, 54]]))
 (.ret)))))))))))))
theorem fn4 : env0.fn 4 = some ⟨190, ic4, [.t 6]⟩ := by kernel_rfl
set_option maxRecDepth 100000 in
set_option maxHeartbeats 16000000 in
theorem law4 (n : Int) (es : List (Int × Int)) (f : Int) (hf : 0 ≤ f ∧ f ≤ 255) (t : Int) (ht : 0 ≤ t ∧ t ≤ 255) : PF Try.prog 4 [cG n es, .int .u8 f, .int .u8 t] (.bool true) := by
 have p20 := right20 n es
 refine zbg env0_ok fn4 [(0, .agg [.int .i64 n, .vs (cE es)]), (1, .int .u8 f), (2, .int .u8 t)] (by show 3 ≤ 190; decide) rfl fun w0 N0 => ?_
 unfold ic4
 refine za7 (za0 rfl (zel rfl rfl (za5 rfl (za6 (za4 ?_)))))
 refine zb6 [] [(0, 0, [.int .i64 n, .vs (cE es)])] [(1, .int .u8 f), (2, .int .u8 t), (3, .vptr [.int .i64 n, .vs (cE es)])] rfl (.cons rfl rfl .nil) .nil (.cons rfl (.same rfl) (.cons rfl (.same rfl) (.cons rfl (.fptr rfl rfl) .nil))) ?_
 repeat (first | refine za7 ?_ | refine za0 rfl ?_ | refine zb1 rfl rfl rfl rfl ?_)
 refine zb3 rfl rfl p20 (fun h => Bool.noConfusion (show false = true from h)) ?_
 cases hr : rgtB n es with
 | false =>
  repeat (first | refine za7 ?_ | refine za0 rfl ?_ | refine za6 ?_ | refine za4 ?_ | refine zd2 rfl ?_ | refine o_un rfl rfl ?_)
  refine zb3 rfl rfl zmu (fun h => Bool.noConfusion (show false = true from h)) ?_
  repeat (first | refine za6 ?_ | refine za4 ?_ | refine zb2 ?_ | refine zan ?_ | refine za5 rfl ?_)
  exact zau ⟨.inr rfl, _, rfl, rfl⟩
 | true =>
 obtain ⟨m, E, rfl, rfl, hm, hE, hck, hb⟩ := rgt_ok hr
 have p13 := zln (m : Nat) (zaf E) (fun _ => by omega)
 have p15 := zqg (m : Nat) (zaf E) (fun _ => by omega)
 rw [zs8 hck] at p13
 rw [zs9 hck] at p15
 unfold cmsN at p13
 rw [← zph hb] at p13
 have p15 : PF Try.prog 15 [cG (m : Nat) (zaf E)] (.tup [cG ((rps E m m).length : Nat) (zaf (cdE E m)), vsI (iL ((List.range m).map (cpN E m))), .int .i64 0]) := p15
 have hrl := znx E m m
 have hcp := fun v (hv : v < m) => zgl hb hv
 have hcdl := zs1 hb
 have hcll : (cdE E m).length ≤ 144 := by
  have h1 := zk1 (zj1 E m E) (rps E m m).length (rps E m m).length
  have h2 : (rps E m m).length * (rps E m m).length ≤ 12 * 12 := Nat.mul_le_mul (by omega) (by omega)
  unfold cdE
  omega
 have hcn := cdE_none hb
 have hreach := fun a b ha hbm => zs2 (E := E) (m := m) (a := a) (b := b) hb ha hbm
 have hckc : zd6 ((rps E m m).length : Nat) (zaf (cdE E m)) = 0 := chk_of (by omega) (by omega) hcdl
 have p21 := cycle21 ((rps E m m).length : Nat) (zaf (cdE E m)) (fun _ => by omega)
 rw [zsj hckc] at p21
 unfold cycN at p21
 rw [hcn] at p21
 have p21 : PF Try.prog 21 [cG ((rps E m m).length : Nat) (zaf (cdE E m))] (.tup [.vs [], .int .i64 6]) := p21
 have hsm0 := smN_zero E m
 have hsme := smN_end hb
 have hsms := smN_succ E m
 have hsml := smN_le E m
 have hpm : ∀ i v, v ∈ zh5 E m m i → v < m ∧ cpN E m v = i := fun i v h => ⟨List.mem_range.1 (List.mem_filter.1 h).1, eq_of_beq (List.mem_filter.1 h).2⟩
 have hptl := zpi E m m
 have hcl : ((List.range m).map (cpN E m)).length = m := by rw [List.length_map, List.length_range]
 have hvl : ((iL ((List.range m).map (cpN E m))).map fun z => ([.int .i64 z] : List AV)).length = m := by rw [List.length_map, zgm, hcl]
 have hcg : ∀ v, v < m → ((iL ((List.range m).map (cpN E m))).map fun z => ([.int .i64 z] : List AV))[((v : Nat) : Int).toNat]? = some [.int .i64 (cpN E m v : Nat)] := fun v hv => by
  rw [zlz (by rw [hcl]; exact hv), ← zn5 (by rw [hcl]; exact hv), List.getElem_map, List.getElem_range]
 have hcE : (cE (zaf E)).length = E.length := by rw [zcg]; exact List.length_map ..
 generalize hnn : (rps E m m).length = nn at *
 have hpl : (((List.range nn).map (zh5 E m m)).map fun p => ([vsI (iL p)] : List AV)).length = nn := by rw [List.length_map, List.length_map, List.length_range]
 have hpg : ∀ i, i < nn → (((List.range nn).map (zh5 E m m)).map fun p => ([vsI (iL p)] : List AV))[((i : Nat) : Int).toNat]? = some [vsI (iL (zh5 E m m i))] := fun i hi => by
  rw [Int.toNat_natCast, List.getElem?_map, List.getElem?_map, List.getElem?_range hi]
  rfl
 repeat (first | refine za7 ?_ | refine za0 rfl ?_ | refine za6 ?_ | refine za4 ?_ | refine zal ?_ | refine zd5 rfl ?_ | refine zb1 rfl rfl rfl rfl ?_ | refine o_un rfl rfl ?_)
 refine zb3 rfl rfl p13 (fun h => Bool.noConfusion (show false = true from h)) ?_
 repeat (first | refine za7 ?_ | refine za0 rfl ?_ | refine za6 ?_ | refine za4 ?_ | refine za5 rfl ?_ | refine zb1 rfl rfl rfl rfl ?_ | refine zbh rfl rfl ?_)
 refine zb3 rfl rfl p15 (fun h => Bool.noConfusion (show false = true from h)) ?_
 repeat (first | refine za7 ?_ | refine za0 rfl ?_ | refine za6 ?_ | refine za4 ?_ | refine zg4 rfl ?_ | refine za5 rfl ?_ | refine zad rfl rfl ?_ | refine zbx rfl rfl rfl rfl rfl rfl rfl ?_ | refine zbj rfl ?_ | refine zcd ?_ | refine zba rfl rfl ?_ | refine zc4 rfl rfl ?_ | refine zbh rfl rfl ?_ | refine zee rfl rfl rfl ?_)
 refine zee rfl rfl (by show some (AV.bool (!(((nn : Nat) : Int) == ((((List.range nn).map (zh5 E m m)).map fun p => ([vsI (iL p)] : List AV)).length : Nat)))) = _; rw [hpl]; simp) ?_
 repeat (first | refine zg4 rfl ?_ | refine za5 rfl ?_ | refine zad rfl rfl ?_ | refine zam rfl rfl rfl ?_ | refine zba rfl rfl ?_ | refine zc4 rfl rfl ?_)
 refine zee rfl rfl (by show some (AV.bool (!(((((iL ((List.range m).map (cpN E m))).map fun z => ([.int .i64 z] : List AV)).length : Nat) : Int) == (m : Nat)))) = _; rw [hvl]; simp) ?_
 repeat (first | refine za7 ?_ | refine za0 rfl ?_ | refine za6 ?_ | refine za4 ?_ | refine zac ?_ | refine zal ?_ | refine zd5 rfl ?_ | refine za5 rfl ?_ | refine zba rfl rfl ?_ | refine zc4 rfl rfl ?_)
 refine zb6 [] [(0, 1, [.int .i64 (nn : Nat), .vs (cE (zaf (cdE E m)))])] [(1, .int .u8 f), (2, .int .u8 t), (3, .vptr [.int .i64 (m : Nat), .vs (cE (zaf E))]), (9, .vptr [.int .i64 (nn : Nat), .vs (cE (zaf (cdE E m)))]), (10, vsI (iL ((List.range m).map (cpN E m)))), (12, .int .i64 0), (58, cLL ((List.range nn).map (zh5 E m m))), (59, .int .i64 (nn : Nat)), (60, .int .i64 0)] rfl (.cons rfl rfl .nil) .nil (.cons rfl (.same rfl) (.cons rfl (.same rfl) (.cons rfl (.same rfl) (.cons rfl (.fptr rfl rfl) (.cons rfl (.same rfl) (.cons rfl (.same rfl) (.cons rfl (.same rfl) (.cons (by exact congrArg (fun z : Nat => some (AV.int .i64 (z : Nat))) hpl) (.same rfl) (.cons rfl (.same rfl) .nil))))))))) ?_
 refine zc1 (fun mm S => ∃ i, mm = nn - i ∧ i ≤ nn ∧ S = st 190 [(1, .int .u8 f), (2, .int .u8 t), (3, .vptr [.int .i64 (m : Nat), .vs (cE (zaf E))]), (9, .vptr [.int .i64 (nn : Nat), .vs (cE (zaf (cdE E m)))]), (10, vsI (iL ((List.range m).map (cpN E m)))), (12, .int .i64 (smN E m i : Nat)), (58, cLL ((List.range nn).map (zh5 E m m))), (59, .int .i64 (nn : Nat)), (60, .int .i64 (i : Nat))] [] 0 1) nn
  (zaa (.cons rfl (.cons rfl (.cons rfl (.cons rfl (.cons rfl (.cons rfl (.cons rfl (.cons rfl (.cons rfl .nil)))))))))) ⟨0, rfl, Nat.zero_le _, by rw [hsm0]; rfl⟩ ?_
 rintro mm S ⟨i, rfl, hi, rfl⟩
 unfold b4_0
 repeat (first | refine za7 ?_ | refine za0 rfl ?_)
 refine zax rfl rfl rfl (fun h3 => ?_) fun h3 => ?_
 ·have hlt : i < nn := Int.ofNat_lt.1 (of_decide_eq_true h3)
  have w1 : IntKind.wrap .i64 (((i : Nat) : Int) + 1) = ((i + 1 : Nat) : Int) := zap i (by omega)
  have hgi := hpg i hlt
  have hpmi := hpm i
  have hss := hsms i
  have hsl := hsml (i + 1)
  generalize zh5 E m m i = p at *
  have hpv : ((iL p).map fun z => ([.int .i64 z] : List AV)).length = p.length := by rw [List.length_map, zgm]
  have w4 : IntKind.wrap .i64 (((smN E m i : Nat) : Int) + ((((iL p).map fun z => ([.int .i64 z] : List AV)).length : Nat) : Int)) = ((smN E m (i + 1) : Nat) : Int) := by
   rw [hpv, hss, zev _ (by omega) (by omega)]
   omega
  repeat (first | refine za7 ?_ | refine za0 rfl ?_ | refine za6 ?_ | refine za4 ?_ | refine zac ?_ | refine zal ?_ | refine zd2 rfl ?_ | refine za5 rfl ?_ | refine zad rfl rfl ?_ | refine zc4 rfl rfl ?_ | refine zbp (op := .add) rfl rfl rfl ?_ | refine zay rfl rfl (by omega) (by assumption) rfl ?_)
  rw [w4]
  refine zc1 (fun mm S => ∃ j, mm = p.length - j ∧ j ≤ p.length ∧ S = st 190 [(1, .int .u8 f), (2, .int .u8 t), (3, .vptr [.int .i64 (m : Nat), .vs (cE (zaf E))]), (9, .vptr [.int .i64 (nn : Nat), .vs (cE (zaf (cdE E m)))]), (10, vsI (iL ((List.range m).map (cpN E m)))), (12, .int .i64 (smN E m (i + 1) : Nat)), (13, .int .i64 (i : Nat)), (58, cLL ((List.range nn).map (zh5 E m m))), (59, .int .i64 (nn : Nat)), (60, .int .i64 (i : Nat)), (69, vsI (iL p)), (70, .int .i64 (p.length : Nat)), (71, .int .i64 (j : Nat))] [] 0 1) p.length
   (zaa (.cons rfl (.cons rfl (.cons rfl (.cons rfl (.cons rfl (.cons rfl (.cons rfl (.cons rfl (.cons rfl (.cons rfl (.cons rfl (.cons (by exact congrArg (fun z : Nat => some (AV.int .i64 (z : Nat))) hpv) (.cons rfl .nil)))))))))))))) ⟨0, rfl, Nat.zero_le _, rfl⟩ ?_
  rintro mm S ⟨j, rfl, hj, rfl⟩
  unfold b4_2
  repeat (first | refine za7 ?_ | refine za0 rfl ?_)
  refine zax rfl rfl rfl (fun h4 => ?_) fun h4 => ?_
  ·have hlt2 : j < p.length := Int.ofNat_lt.1 (of_decide_eq_true h4)
   have w2 : IntKind.wrap .i64 (((j : Nat) : Int) + 1) = ((j + 1 : Nat) : Int) := zap j (by omega)
   have hgw := zlz hlt2
   rw [← zn5 hlt2] at hgw
   obtain ⟨hwm, hwc⟩ := hpmi _ (List.getElem_mem hlt2)
   generalize p[j] = w at *
   have hgc := hcg w hwm
   rw [hwc] at hgc
   repeat (first | refine za7 ?_ | refine za0 rfl ?_ | refine za6 ?_ | refine za4 ?_ | refine zac ?_ | refine zal ?_ | refine zd2 rfl ?_ | refine zg4 rfl ?_ | refine za5 rfl ?_ | refine zad rfl rfl ?_ | refine zam rfl rfl rfl ?_ | refine zee rfl rfl rfl ?_ | refine zay rfl rfl (by omega) (by assumption) rfl ?_)
   refine zee rfl rfl (by show some (AV.bool (decide (((w : Nat) : Int) ≥ (m : Nat)))) = _; rw [decide_eq_false (by omega)]) ?_
   repeat (first | refine zg4 rfl ?_ | refine za5 rfl ?_ | refine zad rfl rfl ?_ | refine zba rfl rfl ?_ | refine zay rfl rfl (by omega) (by assumption) rfl ?_)
   refine zee rfl rfl (by show some (AV.bool (!(((i : Nat) : Int) == (i : Nat)))) = _; simp) ?_
   repeat (first | refine za0 rfl ?_ | refine za6 ?_ | refine za4 ?_ | refine zc5 ?_ | refine zal ?_ | refine zd5 rfl ?_ | refine za5 rfl ?_ | refine zba rfl rfl ?_ | refine zbp (op := .add) rfl rfl rfl ?_)
   rw [w2]
   exact zar (show p.length - (j + 1) < p.length - j by omega) (zaa (.cons rfl (.cons rfl (.cons rfl (.cons rfl (.cons rfl (.cons rfl (.cons rfl (.cons rfl (.cons rfl (.cons rfl (.cons rfl (.cons rfl (.cons rfl .nil)))))))))))))) ⟨j + 1, rfl, hlt2, rfl⟩
  ·repeat (first | refine za7 ?_ | refine za6 ?_ | refine za4 ?_ | refine zd5 rfl ?_ | refine zc0 ?_ | refine zag ?_)
   refine zdj ?_
   repeat (first | refine za0 rfl ?_ | refine za6 ?_ | refine za4 ?_ | refine zc5 ?_ | refine zby ?_ | refine za5 rfl ?_ | refine zbp (op := .add) rfl rfl rfl ?_)
   rw [w1]
   exact zar (show nn - (i + 1) < nn - i by omega) (zaa (.cons rfl (.cons rfl (.cons rfl (.cons rfl (.cons rfl (.cons rfl (.cons rfl (.cons rfl (.cons rfl .nil)))))))))) ⟨i + 1, rfl, hlt, rfl⟩
 ·have hie : i = nn := by
   have h4 : ¬ ((i : Nat) : Int) < ((nn : Nat) : Int) := of_decide_eq_false h3
   omega
  subst hie
  rw [hsme]
  repeat (first | refine za7 ?_ | refine za6 ?_ | refine za4 ?_ | refine zd5 rfl ?_ | refine zc0 ?_ | refine zag ?_)
  refine zdj ?_
  repeat (first | refine za7 ?_ | refine za0 rfl ?_ | refine za4 ?_ | refine zby ?_ | refine zb1 rfl rfl rfl rfl ?_)
  refine zb3 rfl rfl p21 (fun h => Bool.noConfusion (show false = true from h)) ?_
  repeat (first | refine za7 ?_ | refine za0 rfl ?_ | refine za6 ?_ | refine za4 ?_ | refine za5 rfl ?_ | refine zad rfl rfl ?_ | refine zam rfl rfl rfl ?_ | refine zbh rfl rfl ?_)
  refine zee rfl rfl (by show some (AV.bool (!(((m : Nat) : Int) == (m : Nat)))) = _; simp) ?_
  repeat (first | refine za7 ?_ | refine za0 rfl ?_ | refine za6 ?_ | refine za4 ?_ | refine zal ?_ | refine zd5 rfl ?_ | refine zg4 rfl ?_ | refine za5 rfl ?_ | refine zad rfl rfl ?_ | refine zam rfl rfl rfl ?_ | refine zba rfl rfl ?_ | refine zee rfl rfl rfl ?_)
  refine zax rfl rfl rfl (fun h0 => ?_) fun h0 => ?_
  ·repeat (first | refine za7 ?_ | refine za0 rfl ?_ | refine za6 ?_ | refine za4 ?_ | refine zd2 rfl ?_)
   refine zb3 rfl rfl zmu (fun h => Bool.noConfusion (show false = true from h)) ?_
   repeat (first | refine za6 ?_ | refine za4 ?_ | refine zb2 ?_ | refine zan ?_ | refine za5 rfl ?_)
   exact zau ⟨.inr rfl, _, rfl, rfl⟩
  have hm0 : m ≠ 0 := by
   have h0 : ¬ ((m : Nat) : Int) = 0 := by simpa using h0
   omega
  have ha := Nat.mod_lt f.toNat (Nat.pos_of_ne_zero hm0)
  have hbm := Nat.mod_lt t.toNat (Nat.pos_of_ne_zero hm0)
  have w1 : IntKind.wrap .i64 f = f := zev _ (by omega) (by omega)
  have w2 : IntKind.wrap .i64 t = t := zev _ (by omega) (by omega)
  have r1 := zuo f hf.1 hm0
  have r2 := zuo t ht.1 hm0
  generalize f.toNat % m = a at *
  generalize t.toNat % m = b at *
  have hca := hcp a ha
  have hcb := hcp b hbm
  have hga := hcg a ha
  have hgb := hcg b hbm
  have hr := hreach a b ha hbm
  have p22 := zht (m : Nat) (zaf E) (fun _ => by omega) (a : Nat)
  have p22c := zht (i : Nat) (zaf (cdE E m)) (fun _ => by omega) (cpN E m a : Nat)
  have hbad : ∀ (z x : Nat), x < z → zf3 (z : Nat) (x : Nat) = false := fun z x hx => by
   unfold zf3
   rw [Bool.or_eq_false_iff, decide_eq_false_iff_not, decide_eq_false_iff_not]
   omega
  have hg1 : zj0 (m : Nat) (zaf E) [(a : Int)] = 0 := by
   unfold zj0
   rw [if_pos hck]
   unfold zhb
   rw [List.any_cons, List.any_nil, hbad m a ha]
   rfl
  have hg2 : zj0 (i : Nat) (zaf (cdE E m)) [(cpN E m a : Int)] = 0 := by
   unfold zj0
   rw [if_pos hckc]
   unfold zhb
   rw [List.any_cons, List.any_nil, hbad i _ hca]
   rfl
  rw [zn3 hg1] at p22
  rw [zn3 hg2] at p22c
  have hdl := zou E m a m
  have hxl := zou (cdE E m) i (cpN E m a) i
  generalize cpN E m a = ca at *
  generalize cpN E m b = cb at *
  generalize zef (cdE E m) i ca i = x at *
  generalize zef E m a m = d at *
  have hvd : (d.map fun z => ([.int .i64 z] : List AV)).length = m := by rw [List.length_map]; exact hdl
  have hvx : (x.map fun z => ([.int .i64 z] : List AV)).length = i := by rw [List.length_map]; exact hxl
  have hgd : (d.map fun z => ([.int .i64 z] : List AV))[((b : Nat) : Int).toNat]? = some [.int .i64 (gI d b)] := by rw [zeu (by omega), zt1]
  have hgx : (x.map fun z => ([.int .i64 z] : List AV))[((cb : Nat) : Int).toNat]? = some [.int .i64 (gI x cb)] := by rw [zeu (by omega), zt1]
  have hdec : decide (gI d b ≥ 0) = decide (gI x cb ≥ 0) := by
   rw [Bool.eq_iff_iff, decide_eq_true_eq, decide_eq_true_eq]
   exact hr.symm
  repeat (first | refine za7 ?_ | refine za6 ?_ | refine za4 ?_ | refine zal ?_ | refine zd5 rfl ?_ | refine za5 rfl ?_ | refine zad rfl rfl ?_ | refine zam rfl rfl rfl ?_ | refine o_conv rfl rfl ?_ | refine zhc env0_ok rfl rfl rfl ?_)
  rw [w1]
  refine zbp (op := .rem) rfl rfl r1 ?_
  repeat (first | refine za5 rfl ?_ | refine zad rfl rfl ?_ | refine zam rfl rfl rfl ?_ | refine o_conv rfl rfl ?_)
  rw [w2]
  refine zbp (op := .rem) rfl rfl r2 ?_
  repeat (first | refine za7 ?_ | refine za0 rfl ?_ | refine za6 ?_ | refine za4 ?_ | refine za5 rfl ?_ | refine zb1 rfl rfl rfl rfl ?_)
  refine zb3 rfl rfl p22 (fun h => Bool.noConfusion (show false = true from h)) ?_
  repeat (first | refine za7 ?_ | refine za6 ?_ | refine za4 ?_ | refine za5 rfl ?_ | refine zbh rfl rfl ?_)
  refine zl8 env0_ok [(22, [cG (i : Nat) (zaf (cdE E m)), .int .i64 (ca : Nat)], .tup [vsI x, .int .i64 0])] (fun y hy => by
   obtain rfl := List.mem_singleton.1 hy
   exact p22c) (fun f => Nat.beq f 22) rfl rfl rfl ?_
  repeat (first | refine za5 rfl ?_ | refine zad rfl rfl ?_ | refine zb1 rfl rfl rfl rfl ?_ | refine zay rfl rfl (by omega) (by assumption) rfl ?_)
  refine zb3 rfl rfl zdg (fun h => Bool.noConfusion (show false = true from h)) ?_
  repeat (first | refine za7 ?_ | refine za6 ?_ | refine za4 ?_ | refine za5 rfl ?_ | refine zbh rfl rfl ?_)
  refine zl8 env0_ok [(12, [], .bool true)] (fun y hy => by
   obtain rfl := List.mem_singleton.1 hy
   exact zmu) (fun f => Nat.beq f 12) rfl rfl rfl ?_
  repeat (first | refine zg4 rfl ?_ | refine za5 rfl ?_ | refine zad rfl rfl ?_ | refine zam rfl rfl rfl ?_ | refine zbb rfl rfl ?_ | refine zc4 rfl rfl ?_ | refine zii rfl rfl rfl ?_)
  refine zii rfl rfl (by show some (AV.bool ((((d.map fun z => ([.int .i64 z] : List AV)).length : Nat) : Int) == ((m : Nat) : Int))) = _; rw [hvd]; simp) ?_
  repeat (first | refine zg4 rfl ?_ | refine za5 rfl ?_ | refine zad rfl rfl ?_ | refine zam rfl rfl rfl ?_ | refine zbb rfl rfl ?_ | refine zc4 rfl rfl ?_)
  refine zii rfl rfl (by show some (AV.bool ((((x.map fun z => ([.int .i64 z] : List AV)).length : Nat) : Int) == ((i : Nat) : Int))) = _; rw [hvx]; simp) ?_
  repeat (first | refine zg4 rfl ?_ | refine za5 rfl ?_ | refine zad rfl rfl ?_ | refine zam rfl rfl rfl ?_ | refine zbb rfl rfl ?_ | refine zii rfl rfl rfl ?_ | refine zay rfl rfl (by omega) (by assumption) rfl ?_)
  refine zii rfl rfl (by show some (AV.bool (decide (((cb : Nat) : Int) < ((i : Nat) : Int)))) = _; rw [decide_eq_true (by omega)]) ?_
  repeat (first | refine zg4 rfl ?_ | refine za5 rfl ?_ | refine zad rfl rfl ?_ | refine zbb rfl rfl ?_ | refine zay rfl rfl (by omega) (by assumption) rfl ?_)
  refine zbp (op := .geq) rfl rfl rfl ?_
  repeat (first | refine zg4 rfl ?_ | refine za5 rfl ?_ | refine zad rfl rfl ?_ | refine zay rfl rfl (by omega) (by assumption) rfl ?_)
  refine zbp (op := .geq) rfl rfl rfl ?_
  refine zg4 rfl ?_
  refine o_eqbt rfl rfl (by rw [hdec]; cases decide (gI x cb ≥ 0) <;> rfl) ?_
  repeat (first | refine zg4 rfl ?_ | refine za5 rfl ?_ | refine zbb rfl rfl ?_)
  refine zb3 rfl rfl zdg (fun h => Bool.noConfusion (show false = true from h)) ?_
  repeat (first | refine za6 ?_ | refine za4 ?_ | refine zb2 ?_ | refine za5 rfl ?_ | refine zbb rfl rfl ?_)
  exact zau ⟨.inr rfl, _, rfl, rfl⟩
end Go.Proofs.Ytoagikifehmlpaa
namespace Go.Proofs.Ytoagikifehmlpaa
open Go Go.Am Go.ChangeShapes Go.WideShapes Go.ChangeAt Go.RowKit
theorem own : ownKnob Try.prog.godebug = none := by kernel_rfl
theorem gok {W : World} : GOk (fun _ => True) W := fun _ hx => absurd hx List.not_mem_nil
theorem solid : zre Try.prog Try.prog.types.size := solid_of (by kernel_rfl)
end Go.Proofs.Ytoagikifehmlpaa
namespace Go.Proofs.Ytoagikifehmlpaa
open Go Go.Am Go.ChangeShapes Go.WideShapes Go.ChangeAt Go.RowKit Go.Deep
section
variable {H : Type} {enc : TypeId × Value → H} {w : World} {base : Nat} {spare : Nat → Bool} {held : Bool}
theorem rdN : Rd enc Try.prog w base spare held 3 (zjw .i64) := zuj Try.underlying3 (by kernel_rfl)
theorem rdE : Rd enc Try.prog w base spare held 48 (zch [zjw .i64, zjw .i64]) := by
 refine zmc Try.underlying48 rfl (by kernel_rfl) fun i f g e1 e2 => ?_
 match i, e1, e2 with
 | 0, e1, e2 => injection e1 with e1; injection e2 with e2; subst e1 e2; exact rdN
 | 1, e1, e2 => injection e1 with e1; injection e2 with e2; subst e1 e2; exact rdN
 | i + 2, e1, e2 => simp at e1
theorem rdL : Rd enc Try.prog w base spare held 22 (zlh (zch [zjw .i64, zjw .i64])) :=
 rd_slice Try.underlying22 (by kernel_rfl) (by rw [show Try.prog.cellsOf 48 = 2 from by kernel_rfl]; decide) rdE
theorem rdG : Rd enc Try.prog w base spare held 24 (zch [zjw .i64, zlh (zch [zjw .i64, zjw .i64])]) := by
 refine zmc Try.underlying24 rfl (by kernel_rfl) fun i f g e1 e2 => ?_
 match i, e1, e2 with
 | 0, e1, e2 => injection e1 with e1; injection e2 with e2; subst e1 e2; exact rdN
 | 1, e1, e2 => injection e1 with e1; injection e2 with e2; subst e1 e2; exact rdL
 | i + 2, e1, e2 => simp at e1
def zso (d : DataW H) : List (Int × Int) := (zj5 ((zbw d).tail.headD .nil)).map fun x => (zml ((zbw x).headD .nil), zml ((zbw x).tail.headD .nil))
theorem zqi {n : Nat} {cs : List Value} {d : DataW H} {p : List MemPlace} (h : DataW.trod enc Try.prog w base spare held n 48 cs = some (d, p)) : ∃ a b : DataW H, zbw d = [a, b] := by
 obtain ⟨xs, n', _, hx, hlen, hxl, hall⟩ := DataW.trod_struct Try.underlying48 h
 simp only [Prod.mk.injEq] at hx
 obtain ⟨rfl, rfl⟩ := hx
 obtain ⟨x0, x1, rfl⟩ : ∃ a b, xs = [a, b] := by
  match xs, hxl with
  | [a, b], _ => exact ⟨a, b, rfl⟩
 exact ⟨x0.1, x1.1, rfl⟩
theorem shapeG {n : Nat} {cs : List Value} {d : DataW H} {p : List MemPlace} (h : DataW.trod enc Try.prog w base spare held n 24 cs = some (d, p)) :
  ∃ d0 d1 : DataW H, zbw d = [d0, d1] ∧ ∀ x ∈ zj5 d1, ∃ a b : DataW H, zbw x = [a, b] := by
 obtain ⟨xs, n', _, hx, hlen, hxl, hall⟩ := DataW.trod_struct Try.underlying24 h
 simp only [Prod.mk.injEq] at hx
 obtain ⟨rfl, rfl⟩ := hx
 obtain ⟨x0, x1, rfl⟩ : ∃ a b, xs = [a, b] := by
  match xs, hxl with
  | [a, b], _ => exact ⟨a, b, rfl⟩
 have h2 := hall 1 _ rfl
 have h2' : _ = some x1 := h2
 refine ⟨x0.1, x1.1, rfl, ?_⟩
 rcases Deep.open_slice Try.underlying22 h2' with ⟨_, hx⟩ | ⟨a, len, cap, m, n2, D, Pl, _, hb, hle, hm, hmm, hx, hel⟩
 ·subst hx
  exact fun y hy => absurd hy List.not_mem_nil
 ·subst hx
  have hlm : len ≤ m := by rw [hmm]; split <;> omega
  intro x hx
  have hx' : x ∈ (List.range len).map D := hx
  obtain ⟨i, hi, rfl⟩ := List.mem_map.1 hx'
  obtain ⟨cs', h1, h3⟩ := hel i (by have := List.mem_range.1 hi; omega)
  exact zqi h3
theorem cG_read {d d0 d1 : DataW H} (h : zbw d = [d0, d1]) (hr : ∀ x ∈ zj5 d1, ∃ a b : DataW H, zbw x = [a, b]) : cG (zml ((zbw d).headD .nil)) (zso d) = aggA (zch [zjw .i64, zlh (zch [zjw .i64, zjw .i64])]) d := by
 unfold cG zso aggA zch
 rw [h]
 show AV.agg [.int .i64 (zml d0), .vs (cE ((zj5 d1).map fun x => (zml ((zbw x).headD .nil), zml ((zbw x).tail.headD .nil))))] = AV.agg [.int .i64 (zml d0), .vs ((zj5 d1).map (zch [zjw .i64, zjw .i64]))]
 congr 3
 unfold cE
 rw [List.map_map]
 refine congrArg AV.vs (List.map_congr_left fun x hx => ?_)
 obtain ⟨a, b, e⟩ := hr x hx
 unfold zch
 show [AV.int .i64 (zml ((zbw x).headD .nil)), AV.int .i64 (zml ((zbw x).tail.headD .nil))] = _
 rw [e]
 rfl
end
end Go.Proofs.Ytoagikifehmlpaa
