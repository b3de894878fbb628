/-
  CYCLES: the reference's Round and Cycle.
-/
import Derived.Test.YtoagikifehmlpaaFK6
import Derived.Test.YtoagikifehmlpaaFJ6
import Derived.Test.YtoagikifehmlpaaFJ7
namespace Go.Proofs.Ytoagikifehmlpaa
open Go Go.Am
def nbP (E : List (Nat × Nat)) (v w : Nat) : List Nat := (List.range w).filter fun x => E.contains (v, x)
theorem nbP_succ (E : List (Nat × Nat)) (v w : Nat) : nbP E v (w + 1) = if E.contains (v, w) = true then nbP E v w ++ [w] else nbP E v w := by
 unfold nbP
 rw [List.range_succ, List.filter_append, List.filter_cons]
 by_cases c : E.contains (v, w) = true
 ·rw [if_pos c, if_pos c]
  rfl
 ·rw [if_neg c, if_neg c, List.filter_nil, List.append_nil]
theorem zss (back : List Int) (l : List Nat) (w : Nat) : ze6 back (l ++ [w]) = lstF back (ze6 back l) w := by
 unfold ze6
 rw [List.foldl_append]
 rfl
def bstD (m : Nat) (back : List Int) (b : Int) : Int := if b < 0 then (m : Nat) + 1 else gI back b.toNat
def bstV (b : Int) : Int := if b < 0 then 0 else b
def b58_0 : IC := .seq (.seq (.region [⟨(some 13), .mov (.t 7), none⟩,
  ⟨(some 14), .faddr 0 (.t 2), none⟩,
  ⟨(some 15), .load none (.t 14), none⟩,
  ⟨(some 16), .bin .lss (.t 13) (.t 15), none⟩] none)
 (.cond (.t 16) (.skip)
 (.exit 0)))
 (.seq (.block 1 (.seq (.region [⟨(some 19), .load (some 2) (.t 2), none⟩,
  ⟨(some 20), .mov (.t 7), none⟩,
  ⟨(some 21), .call (.c (.fn 54 [] [])) [(.t 19), (.t 20)], none⟩,
  ⟨(some 22), .mov (.t 1), none⟩,
  ⟨(some 23), .idxs 1 (.t 21) (.t 22), none⟩,
  ⟨(some 24), .load none (.t 23), none⟩,
  ⟨(some 8), .mov (.t 24), none⟩] none)
 (.seq (.region [⟨(some 25), .load (some 2) (.t 2), none⟩,
  ⟨(some 26), .mov (.t 1), none⟩,
  ⟨(some 27), .mov (.t 7), none⟩,
  ⟨(some 28), .call (.c (.fn 68 [] [])) [(.t 25), (.t 26), (.t 27)], none⟩,
  ⟨(some 29), .mov (.t 28), none⟩,
  ⟨(some 30), .mov (.t 8), some (29, true)⟩,
  ⟨(some 31), .bin .geq (.t 30) (.c (.int .i64 0)), some (29, true)⟩,
  ⟨(some 32), .pick (.t 29) (.t 31) (.c (.bool false)), none⟩,
  ⟨(some 33), .mov (.t 32), none⟩,
  ⟨(some 34), .mov (.t 8), some (33, true)⟩,
  ⟨(some 35), .mov (.t 5), some (33, true)⟩,
  ⟨(some 36), .bin .lss (.t 34) (.t 35), some (33, true)⟩,
  ⟨(some 37), .pick (.t 33) (.t 36) (.c (.bool false)), none⟩] none)
 (.cond (.t 37) (.region [⟨(some 38), .mov (.t 8), none⟩,
  ⟨(some 39), .mov (.t 7), none⟩,
  ⟨(some 5), .mov (.t 38), none⟩,
  ⟨(some 6), .mov (.t 39), none⟩] none)
 (.skip)))))
 (.region [⟨(some 17), .mov (.t 7), none⟩,
  ⟨(some 18), .bin .add (.t 17) (.c (.int .i64 1)), none⟩,
  ⟨(some 7), .mov (.t 18), none⟩] none))
-- pneumatic/pneumaticref10.Round
def ic58 : IC := .seq (.region [⟨(some 2), .box (.t 0), none⟩,
  ⟨(some 4), .mov (.c (.nils)), none⟩] none)
 (.seq (.region [⟨(some 10), .faddr 0 (.t 2), none⟩,
  ⟨(some 11), .load none (.t 10), none⟩,
  ⟨(some 12), .bin .add (.t 11) (.c (.int .i64 1)), none⟩,
  ⟨(some 5), .mov (.t 12), none⟩,
  ⟨(some 6), .mov (.c (.int .i64 0)), none⟩] none)
 (.seq (.seq (.region [⟨(some 7), .mov (.c (.int .i64 0)), none⟩] none)
 (.block 0 (.loop b58_0)))
 (.seq (.region [⟨(some 40), .load (some 2) (.t 2), none⟩,
  ⟨(some 41), .mov (.t 6), none⟩,
  ⟨(some 42), .mov (.t 1), none⟩,
  ⟨(some 43), .call (.c (.fn 55 [] [])) [(.t 40), (.t 41), (.t 42)], none⟩,
  ⟨(some 9), .mov (.t 43), none⟩] none)
 (.seq (.region [⟨(some 44), .mov (.t 1), none⟩,
  ⟨(some 45), .bslice 1 1 [.int .i64 0] [(0, 1, (.t 44))], none⟩,
  ⟨(some 46), .mov (.t 9), none⟩,
  ⟨(some 47), .mov (.t 9), none⟩,
  ⟨(some 48), .len false (.t 47), none⟩,
  ⟨(some 49), .bin .sub (.t 48) (.c (.int .i64 1)), none⟩,
  ⟨(some 50), .slsl 1 (.t 46) none (some (.t 49)) none, none⟩,
  ⟨(some 51), .append 1 8 [.int .i64 0] (.t 45) (.t 50), none⟩,
  ⟨(some 4), .mov (.t 51), none⟩] none)
 (.ret)))))
theorem fn58 : env0.fn 58 = some ⟨52, ic58, [.t 4]⟩ := by kernel_rfl
set_option maxHeartbeats 8000000 in
theorem round58 (m : Nat) (hm : m ≤ 256) (E : List (Nat × Nat)) (hE : E.length ≤ 5000) (hb : ∀ u v, (u, v) ∈ E → u < m ∧ v < m) (v : Nat) (hv : v < m) (hld : ldB E m v v = true) :
  PF Try.prog 58 [cG (m : Nat) (zai E), .int .i64 (v : Nat)] (vsI (iL (cycL E m v))) := by
 have hL := zdz (es := rvE E) hv fun u v h => (zj8 hb u v h).2
 have hll := ls_ld hb hv
 have hW := lsW (zcj (rvE E) m v m) (nbr E m v)
 have hcy : cycL E m v = v :: ((ze6 (zcj (rvE E) m v m) (nbr E m v)).toNat :: zck E m (zcj (rvE E) m v m) (gI (zcj (rvE E) m v m) (ze6 (zcj (rvE E) m v m) (nbr E m v)).toNat).toNat (ze6 (zcj (rvE E) m v m) (nbr E m v)).toNat).take (gI (zcj (rvE E) m v m) (ze6 (zcj (rvE E) m v m) (nbr E m v)).toNat).toNat := rfl
 have hR : ∀ w, w < m → gI (zcj E m w m) v = gI (zcj (rvE E) m v m) w := fun w hw => (zmp hb hv hw).symm
 have hbt : ∀ v', gI (zcj (rvE E) m v m) v' < m := zhw hL.len hL.down
 have hin : ∀ w ∈ nbr E m v, w < m := fun w hw => (hb _ _ ((zc4 fun u v h => (hb u v h).2).1 hw)).2
 have hfin : nbP E v m = nbr E m v := rfl
 have p55 := fun x hx h0 => way55 m hm E hE hb x v hx hv _ hL h0 hR
 have p54 := fun w (hw : w < m) => far54 m hm E hE hb w hw
 have hfl := fun w => zev E m w m
 have p68 := fun w => zoj m E (by omega) v w
 have hst := fun w => lsW (zcj (rvE E) m v m) (nbP E v w)
 generalize zcj (rvE E) m v m = back at *
 refine zav env0_ok fn58 [(0, .agg [.int .i64 (m : Nat), .vs (cE (zai E))]), (1, .int .i64 (v : Nat))] (by show 2 ≤ 52; decide) rfl fun w0 N0 => ?_
 unfold ic58
 refine za5 (za0 rfl (zd3 rfl rfl (za1 rfl (za3 (za2 ?_)))))
 refine zbf [] [(0, 0, [.int .i64 (m : Nat), .vs (cE (zai E))])] [(1, .int .i64 (v : Nat)), (2, .vptr [.int .i64 (m : Nat), .vs (cE (zai E))])] rfl (.cons rfl rfl .nil) .nil (.cons rfl (.same rfl) (.cons rfl (.fptr rfl rfl) .nil)) ?_
 have wm : IntKind.wrap .i64 (((m : Nat) : Int) + 1) = ((m : Nat) : Int) + 1 := zch _ (by omega) (by omega)
 repeat (first | refine za5 ?_ | refine za0 rfl ?_ | refine za3 ?_ | refine za2 ?_ | refine zaa ?_ | refine za1 rfl ?_ | refine zaf rfl rfl ?_ | refine zac rfl rfl rfl ?_ | refine zaz (op := .add) rfl rfl rfl ?_)
 rw [wm]
 refine zba (fun mm S => ∃ w, mm = m - w ∧ w ≤ m ∧ S = st 52 [(1, .int .i64 (v : Nat)), (2, .vptr [.int .i64 (m : Nat), .vs (cE (zai E))]), (5, .int .i64 (bstD m back (ze6 back (nbP E v w)))), (6, .int .i64 (bstV (ze6 back (nbP E v w)))), (7, .int .i64 (w : Nat))] [] 0 1) m
  (za7 (.cons rfl (.cons rfl (.cons rfl (.cons rfl (.cons rfl .nil)))))) ⟨0, rfl, Nat.zero_le _, rfl⟩ ?_
 rintro mm S ⟨w, rfl, hw, rfl⟩
 unfold b58_0
 repeat (first | refine za5 ?_ | refine za0 rfl ?_ | refine za1 rfl ?_ | refine zaf rfl rfl ?_ | refine zac rfl rfl rfl ?_)
 refine zam rfl rfl rfl (fun h3 => ?_) fun h3 => ?_
 ·have hlt : w < m := Int.ofNat_lt.1 (of_decide_eq_true h3)
  have w1 : IntKind.wrap .i64 (((w : Nat) : Int) + 1) = ((w + 1 : Nat) : Int) := zak w (by omega)
  have hgv : ((zcj E m w m).map fun z => ([.int .i64 z] : List AV))[((v : Nat) : Int).toNat]? = some [.int .i64 (gI back w)] := by rw [zcv (by rw [hfl]; exact hv), zpo, hR w hlt]
  have hsn := nbP_succ E v w
  have hsw := zss back (nbP E v w) w
  have hs := hst w
  have hbw := hbt w
  have kp : ∀ b : Int, ze6 back (nbP E v (w + 1)) = b → b = ze6 back (nbP E v w) → (∃ i, m - (w + 1) = m - i ∧ i ≤ m ∧ st 52 [(1, .int .i64 (v : Nat)), (2, .vptr [.int .i64 (m : Nat), .vs (cE (zai E))]), (5, .int .i64 (bstD m back (ze6 back (nbP E v w)))), (6, .int .i64 (bstV (ze6 back (nbP E v w)))), (7, .int .i64 ((w + 1 : Nat) : Int))] [] 0 1 = st 52 [(1, .int .i64 (v : Nat)), (2, .vptr [.int .i64 (m : Nat), .vs (cE (zai E))]), (5, .int .i64 (bstD m back (ze6 back (nbP E v i)))), (6, .int .i64 (bstV (ze6 back (nbP E v i)))), (7, .int .i64 (i : Nat))] [] 0 1) := fun b h1 h2 => ⟨w + 1, rfl, hlt, by rw [h1, h2]⟩
  repeat (first | refine za5 ?_ | refine za0 rfl ?_ | refine za3 ?_ | refine za2 ?_ | refine zaa ?_ | refine zad ?_ | refine zbt rfl ?_ | refine za1 rfl ?_ | refine zaq rfl rfl rfl rfl ?_)
  refine zas rfl rfl (p54 w hlt) (fun h => Bool.noConfusion (show false = true from h)) ?_
  repeat (first | refine za5 ?_ | refine za0 rfl ?_ | refine za3 ?_ | refine za2 ?_ | refine za1 rfl ?_ | refine zaf rfl rfl ?_ | refine zaq rfl rfl rfl rfl ?_ | refine zb1 rfl rfl (by omega) (by assumption) rfl ?_)
  refine zas rfl rfl (p68 w) (fun h => Bool.noConfusion (show false = true from h)) ?_
  cases hc : E.contains (v, w) with
  | false =>
   rw [hc, if_neg Bool.false_ne_true] at hsn
   repeat (first | refine za0 rfl ?_ | refine za3 ?_ | refine za2 ?_ | refine zb7 ?_ | refine zad ?_ | refine zbm rfl ?_ | refine zik rfl rfl ?_ | refine za1 rfl ?_ | refine zax rfl rfl ?_ | refine zaz (op := .add) rfl rfl rfl ?_)
   rw [w1]
   exact zaj (show m - (w + 1) < m - w by omega) (za7 (.cons rfl (.cons rfl (.cons rfl (.cons rfl (.cons rfl .nil)))))) (kp _ rfl (by rw [hsn]))
  | true =>
  rw [hc, if_pos rfl] at hsn
  rw [← hsn] at hsw
  unfold lstF at hsw
  generalize ze6 back (nbP E v w) = b at *
  repeat (first | refine zd4 rfl ?_ | refine za1 rfl ?_)
  refine zam rfl rfl rfl (fun h5 => ?_) fun h5 => ?_
  ·have h5 : gI back w ≥ 0 := of_decide_eq_true h5
   repeat (first | refine zd4 rfl ?_ | refine za1 rfl ?_ | refine zal rfl rfl ?_)
   refine zam rfl rfl rfl (fun h6 => ?_) fun h6 => ?_
   ·have h6 : gI back w < bstD m back b := of_decide_eq_true h6
    unfold bstD at h6
    rw [if_pos ⟨h5, by by_cases c : b < 0; exact .inl c; rw [if_neg c] at h6; exact .inr h6⟩] at hsw
    repeat (first | refine za0 rfl ?_ | refine za3 ?_ | refine za2 ?_ | refine zb7 ?_ | refine zbt rfl ?_ | refine za1 rfl ?_ | refine zal rfl rfl ?_ | refine zaz (op := .add) rfl rfl rfl ?_)
    rw [w1]
    have hS : st 52 [(1, .int .i64 (v : Nat)), (2, .vptr [.int .i64 (m : Nat), .vs (cE (zai E))]), (5, .int .i64 (gI back w)), (6, .int .i64 (w : Nat)), (7, .int .i64 ((w + 1 : Nat) : Int))] [] 0 1 = st 52 [(1, .int .i64 (v : Nat)), (2, .vptr [.int .i64 (m : Nat), .vs (cE (zai E))]), (5, .int .i64 (bstD m back (ze6 back (nbP E v (w + 1))))), (6, .int .i64 (bstV (ze6 back (nbP E v (w + 1))))), (7, .int .i64 ((w + 1 : Nat) : Int))] [] 0 1 := by
     rw [hsw, show bstD m back ((w : Nat) : Int) = gI back w from if_neg (by omega), show bstV ((w : Nat) : Int) = (w : Nat) from if_neg (by omega)]
    exact zaj (show m - (w + 1) < m - w by omega) (za7 (.cons rfl (.cons rfl (.cons rfl (.cons rfl (.cons rfl .nil)))))) ⟨w + 1, rfl, hlt, hS⟩
   ·have h6 : ¬ gI back w < bstD m back b := of_decide_eq_false h6
    unfold bstD at h6
    rw [if_neg fun h => by
     rcases h.2 with c | c
     ·rw [if_pos c] at h6; omega
     ·by_cases c2 : b < 0
      ·rw [if_pos c2] at h6; omega
      ·rw [if_neg c2] at h6; exact h6 c] at hsw
    repeat (first | refine za0 rfl ?_ | refine za3 ?_ | refine za2 ?_ | refine zb7 ?_ | refine zad ?_ | refine zbm rfl ?_ | refine za1 rfl ?_ | refine zal rfl rfl ?_ | refine zaz (op := .add) rfl rfl rfl ?_)
    rw [w1]
    exact zaj (show m - (w + 1) < m - w by omega) (za7 (.cons rfl (.cons rfl (.cons rfl (.cons rfl (.cons rfl .nil)))))) (kp _ hsw rfl)
  ·have h5 : ¬ gI back w ≥ 0 := of_decide_eq_false h5
   rw [if_neg fun h => h5 h.1] at hsw
   repeat (first | refine za0 rfl ?_ | refine za3 ?_ | refine za2 ?_ | refine zb7 ?_ | refine zad ?_ | refine zbm rfl ?_ | refine zik rfl rfl ?_ | refine za1 rfl ?_ | refine zal rfl rfl ?_ | refine zax rfl rfl ?_ | refine zaz (op := .add) rfl rfl rfl ?_)
   rw [w1]
   exact zaj (show m - (w + 1) < m - w by omega) (za7 (.cons rfl (.cons rfl (.cons rfl (.cons rfl (.cons rfl .nil)))))) (kp _ hsw rfl)
 ·have hie : w = m := by
   have h4 : ¬ ((w : Nat) : Int) < ((m : Nat) : Int) := of_decide_eq_false h3
   omega
  subst hie
  rw [hfin]
  have h5 : ¬ ze6 back (nbr E w v) < 0 := fun h => by
   rw [hll.1 h] at hld
   cases hld
  generalize ze6 back (nbr E w v) = b at *
  obtain ⟨x, rfl⟩ := Int.eq_ofNat_of_zero_le (show 0 ≤ b by omega)
  obtain ⟨hx1, hx0⟩ := hW.some_ (Int.natCast_nonneg x)
  rw [Int.toNat_natCast] at hx1 hx0 hcy
  have hxm := hin x hx1
  have hbx := hbt x
  have p55 := p55 x hxm hx0
  rw [hcy, show bstV ((x : Nat) : Int) = (x : Nat) from if_neg h5]
  have hrl := zep E w back (gI back x).toNat x
  have hpl : (iL (x :: zck E w back (gI back x).toNat x)).length = (gI back x).toNat + 1 := by rw [zee, List.length_cons, hrl]
  have htk : iL (v :: (x :: zck E w back (gI back x).toNat x).take (gI back x).toNat) = ((v : Nat) : Int) :: (iL (x :: zck E w back (gI back x).toNat x)).take (gI back x).toNat := by
   unfold iL
   rw [List.map_cons, List.map_take]
  rw [htk]
  generalize iL (x :: zck E w back (gI back x).toNat x) = path at *
  have w3 : IntKind.wrap .i64 ((((path.map fun z => ([.int .i64 z] : List AV)).length : Nat) : Int) - 1) = (((gI back x).toNat : Nat) : Int) := by
   rw [List.length_map, hpl, zch _ (by omega) (by omega)]
   omega
  repeat (first | refine za3 ?_ | refine za2 ?_ | refine zbm rfl ?_ | refine zb9 ?_ | refine zab ?_)
  refine zc8 ?_
  repeat (first | refine za5 ?_ | refine za0 rfl ?_ | refine za2 ?_ | refine zb8 ?_ | refine za1 rfl ?_ | refine zaq rfl rfl rfl rfl ?_)
  refine zas rfl rfl p55 (fun h => Bool.noConfusion (show false = true from h)) ?_
  repeat (first | refine za5 ?_ | refine za0 rfl ?_ | refine za3 ?_ | refine za2 ?_ | refine za1 rfl ?_ | refine zbg rfl rfl ?_ | refine zby rfl rfl ?_ | refine zaz (op := .sub) rfl rfl rfl ?_)
  rw [w3]
  refine o_slvs rfl rfl (by rw [List.length_map]; omega) (List.all_eq_true.2 fun x hx => by obtain ⟨s, _, rfl⟩ := List.mem_map.1 hx; rfl) ?_
  rw [← List.map_take]
  refine o_alit (q := path.take (gI back x).toNat) (by rw [List.length_take]; omega) rfl rfl (Nat.zero_lt_one) rfl (by decide) fun w hp' nx' ck' hW => ?_
  repeat (first | refine za3 ?_ | refine za2 ?_ | refine zat ?_ | refine za1 rfl ?_)
  exact zao ⟨.inr rfl, _, rfl, hW.view⟩
-- pneumatic/pneumaticref10.Cycle
def ic36 : IC := .seq (.region [⟨(some 1), .box (.t 0), none⟩,
  ⟨(some 2), .mov (.c (.nils)), none⟩,
  ⟨(some 3), .mov (.c (.int .i64 0)), none⟩] none)
 (.seq (.seq (.region [⟨(some 6), .load (some 2) (.t 1), none⟩,
  ⟨(some 7), .call (.c (.fn 35 [] [])) [(.t 6)], none⟩,
  ⟨(some 4), .mov (.t 7), none⟩] none)
 (.seq (.region [⟨(some 8), .mov (.t 4), none⟩,
  ⟨(some 9), .bin .neq (.t 8) (.c (.int .i64 0)), none⟩] none)
 (.cond (.t 9) (.seq (.region [⟨(some 10), .mov (.t 4), none⟩,
  ⟨(some 2), .mov (.c (.nils)), none⟩,
  ⟨(some 3), .mov (.t 10), none⟩] none)
 (.ret))
 (.skip))))
 (.seq (.region [⟨(some 11), .load (some 2) (.t 1), none⟩,
  ⟨(some 12), .call (.c (.fn 57 [] [])) [(.t 11)], none⟩,
  ⟨(some 5), .mov (.t 12), none⟩] none)
 (.seq (.seq (.region [⟨(some 13), .mov (.t 5), none⟩,
  ⟨(some 14), .bin .lss (.t 13) (.c (.int .i64 0)), none⟩] none)
 (.cond (.t 14) (.seq (.region [⟨(some 2), .mov (.c (.nils)), none⟩,
  ⟨(some 3), .mov (.c (.int .i64 6)), none⟩] none)
 (.ret))
 (.skip)))
 (.seq (.region [⟨(some 15), .load (some 2) (.t 1), none⟩,
  ⟨(some 16), .mov (.t 5), none⟩,
  ⟨(some 17), .call (.c (.fn 58 [] [])) [(.t 15), (.t 16)], none⟩,
  ⟨(some 2), .mov (.t 17), none⟩,
  ⟨(some 3), .mov (.c (.int .i64 0)), none⟩] none)
 (.ret)))))
theorem fn36 : env0.fn 36 = some ⟨18, ic36, [.t 2, .t 3]⟩ := by kernel_rfl
set_option maxHeartbeats 2000000 in
theorem cycle36 (n : Int) (es : List (Int × Int)) : PF Try.prog 36 [cG n es] (cycV n es) := by
 have p35 := zmj n es
 refine zav env0_ok fn36 [(0, .agg [.int .i64 n, .vs (cE es)])] (by show 1 ≤ 18; decide) rfl fun w0 N0 => ?_
 unfold ic36
 refine za5 (za0 rfl (zd3 rfl rfl (za1 rfl (za1 rfl (za3 (za2 ?_))))))
 refine zbf [] [(0, 0, [.int .i64 n, .vs (cE es)])] [(1, .vptr [.int .i64 n, .vs (cE es)])] rfl (.cons rfl rfl .nil) .nil (.cons rfl (.fptr rfl rfl) .nil) ?_
 repeat (first | refine za5 ?_ | refine za0 rfl ?_ | refine zaq rfl rfl rfl rfl ?_)
 refine zas rfl rfl p35 (fun h => Bool.noConfusion (show false = true from h)) ?_
 repeat (first | refine za5 ?_ | refine za0 rfl ?_ | refine za3 ?_ | refine za2 ?_ | refine za1 rfl ?_)
 refine zam rfl rfl rfl (fun h => ?_) fun h => ?_
 ·have h : ¬ zd7 n es = 0 := by simpa using h
  rw [zjn h]
  repeat (first | refine za5 ?_ | refine za0 rfl ?_ | refine za3 ?_ | refine za2 ?_ | refine zbt rfl ?_ | refine zat ?_ | refine zag ?_ | refine za1 rfl ?_)
  exact zao ⟨.inr rfl, _, rfl, rfl⟩
 have h : zd7 n es = 0 := by simpa using h
 obtain ⟨m, E, rfl, rfl, hm, _, hE, hb⟩ := zf5 h
 rw [zml h]
 have p57 := zk8 m hm E (by omega) hb
 unfold cycN
 repeat (first | refine za5 ?_ | refine za0 rfl ?_ | refine za3 ?_ | refine za2 ?_ | refine zad ?_ | refine zbm rfl ?_ | refine zaq rfl rfl rfl rfl ?_)
 refine zas rfl rfl p57 (fun h => Bool.noConfusion (show false = true from h)) ?_
 cases hl : lpS E m with
 | none =>
  repeat (first | refine za5 ?_ | refine za0 rfl ?_ | refine za3 ?_ | refine za2 ?_ | refine zbt rfl ?_ | refine zat ?_ | refine zag ?_ | refine za1 rfl ?_ | refine zfy rfl rfl rfl ?_)
  exact zao ⟨.inr rfl, _, rfl, rfl⟩
 | some v =>
  have hvm : v < m := List.mem_range.1 (List.mem_of_find?_eq_some hl)
  have hld : ldB E m v v = true := by
   have := List.find?_some hl
   exact this
  have p58 := round58 m hm E (by omega) hb v hvm hld
  rw [show nxV (some v) = ((v : Nat) : Int) from rfl]
  repeat (first | refine za5 ?_ | refine za0 rfl ?_ | refine za3 ?_ | refine za2 ?_ | refine zad ?_ | refine zbm rfl ?_ | refine za1 rfl ?_ | refine zaq rfl rfl rfl rfl ?_ | refine zef rfl rfl rfl ?_)
  refine zas rfl rfl p58 (fun h => Bool.noConfusion (show false = true from h)) ?_
  repeat (first | refine za3 ?_ | refine za2 ?_ | refine zat ?_ | refine za1 rfl ?_)
  exact zao ⟨.inr rfl, _, rfl, rfl⟩
end Go.Proofs.Ytoagikifehmlpaa
