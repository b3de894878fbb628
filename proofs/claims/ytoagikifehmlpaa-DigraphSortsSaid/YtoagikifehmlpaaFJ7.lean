/-
  THE REFERENCE's PATHS: Way walked.
-/
import Derived.Test.YtoagikifehmlpaaFJ6
import Derived.Test.YtoagikifehmlpaaFJ2
import Derived.Test.YtoagikifehmlpaaFG2
namespace Go.Proofs.Ytoagikifehmlpaa
open Go Go.Am
def b55_2 : IC := .seq (.seq (.region [⟨(some 26), .mov (.t 10), none⟩,
  ⟨(some 27), .bin .geq (.t 26) (.c (.int .i64 0)), none⟩] none)
 (.cond (.t 27) (.skip)
 (.exit 2)))
 (.seq (.block 3 (.seq (.region [⟨(some 30), .load (some 2) (.t 3), none⟩,
  ⟨(some 31), .mov (.t 8), none⟩,
  ⟨(some 32), .mov (.t 10), none⟩,
  ⟨(some 33), .call (.c (.fn 68 [] [])) [(.t 30), (.t 31), (.t 32)], none⟩,
  ⟨(some 34), .mov (.t 33), none⟩,
  ⟨(some 35), .load (some 2) (.t 3), some (34, true)⟩,
  ⟨(some 36), .mov (.t 10), some (34, true)⟩,
  ⟨(some 37), .call (.c (.fn 54 [] [])) [(.t 35), (.t 36)], some (34, true)⟩,
  ⟨(some 38), .mov (.t 2), some (34, true)⟩,
  ⟨(some 39), .idxs 1 (.t 37) (.t 38), some (34, true)⟩,
  ⟨(some 40), .load none (.t 39), some (34, true)⟩,
  ⟨(some 41), .bin .geq (.t 40) (.c (.int .i64 0)), some (34, true)⟩,
  ⟨(some 42), .pick (.t 34) (.t 41) (.c (.bool false)), none⟩,
  ⟨(some 43), .mov (.t 42), none⟩,
  ⟨(some 44), .load (some 2) (.t 3), some (43, true)⟩,
  ⟨(some 45), .mov (.t 10), some (43, true)⟩,
  ⟨(some 46), .call (.c (.fn 54 [] [])) [(.t 44), (.t 45)], some (43, true)⟩,
  ⟨(some 47), .mov (.t 2), some (43, true)⟩,
  ⟨(some 48), .idxs 1 (.t 46) (.t 47), some (43, true)⟩,
  ⟨(some 49), .load none (.t 48), some (43, true)⟩,
  ⟨(some 50), .load (some 2) (.t 3), some (43, true)⟩,
  ⟨(some 51), .mov (.t 8), some (43, true)⟩,
  ⟨(some 52), .call (.c (.fn 54 [] [])) [(.t 50), (.t 51)], some (43, true)⟩,
  ⟨(some 53), .mov (.t 2), some (43, true)⟩,
  ⟨(some 54), .idxs 1 (.t 52) (.t 53), some (43, true)⟩,
  ⟨(some 55), .load none (.t 54), some (43, true)⟩,
  ⟨(some 56), .bin .sub (.t 55) (.c (.int .i64 1)), some (43, true)⟩,
  ⟨(some 57), .bin .eql (.t 49) (.t 56), some (43, true)⟩,
  ⟨(some 58), .pick (.t 43) (.t 57) (.c (.bool false)), none⟩] (some [[], [], [], [0, 1, 2], [3, 3], [4], [4], [5, 6, 4, 4], [4], [7, 8, 4], [9, 4], [10, 4], [4, 11], [12, 7], [13], [13], [14, 15, 13, 13], [13], [16, 17, 13], [18, 13], [13], [13], [20, 21, 16, 13], [13], [22, 23, 13], [24, 13], [25, 13], [19, 26, 13], [13, 27]]))
 (.cond (.t 58) (.region [⟨(some 59), .mov (.t 10), none⟩,
  ⟨(some 9), .mov (.t 59), none⟩] none)
 (.skip))))
 (.region [⟨(some 28), .mov (.t 10), none⟩,
  ⟨(some 29), .bin .sub (.t 28) (.c (.int .i64 1)), none⟩,
  ⟨(some 10), .mov (.t 29), none⟩] none))
def b55_0 : IC := .seq (.seq (.region [⟨(some 14), .mov (.t 8), none⟩,
  ⟨(some 15), .mov (.t 2), none⟩,
  ⟨(some 16), .bin .neq (.t 14) (.t 15), none⟩] none)
 (.cond (.t 16) (.skip)
 (.exit 0)))
 (.seq (.block 1 (.seq (.region [⟨(some 9), .mov (.c (.int .i64 (-1))), none⟩] none)
 (.seq (.seq (.region [⟨(some 23), .faddr 0 (.t 3), none⟩,
  ⟨(some 24), .load none (.t 23), none⟩,
  ⟨(some 25), .bin .sub (.t 24) (.c (.int .i64 1)), none⟩,
  ⟨(some 10), .mov (.t 25), none⟩] none)
 (.block 2 (.loop b55_2)))
 (.region [⟨(some 60), .mov (.t 7), none⟩,
  ⟨(some 61), .mov (.t 9), none⟩,
  ⟨(some 62), .bslice 1 1 [.int .i64 0] [(0, 1, (.t 61))], none⟩,
  ⟨(some 63), .append 1 8 [.int .i64 0] (.t 60) (.t 62), none⟩,
  ⟨(some 7), .mov (.t 63), none⟩] none))))
 (.region [⟨(some 17), .mov (.t 7), none⟩,
  ⟨(some 18), .mov (.t 7), none⟩,
  ⟨(some 19), .len false (.t 18), none⟩,
  ⟨(some 20), .bin .sub (.t 19) (.c (.int .i64 1)), none⟩,
  ⟨(some 21), .idxs 1 (.t 17) (.t 20), none⟩,
  ⟨(some 22), .load none (.t 21), none⟩,
  ⟨(some 8), .mov (.t 22), none⟩] none))
-- pneumatic/pneumaticref10.Way
def ic55 : IC := .seq (.region [⟨(some 3), .box (.t 0), none⟩,
  ⟨(some 6), .mov (.c (.nils)), none⟩] none)
 (.seq (.region [⟨(some 11), .mov (.t 1), none⟩,
  ⟨(some 12), .bslice 1 1 [.int .i64 0] [(0, 1, (.t 11))], none⟩,
  ⟨(some 7), .mov (.t 12), none⟩] none)
 (.seq (.seq (.region [⟨(some 13), .mov (.t 1), none⟩,
  ⟨(some 8), .mov (.t 13), none⟩] none)
 (.block 0 (.loop b55_0)))
 (.seq (.region [⟨(some 64), .mov (.t 7), none⟩,
  ⟨(some 6), .mov (.t 64), none⟩] none)
 (.ret))))
theorem fn55 : env0.fn 55 = some ⟨65, ic55, [.t 6]⟩ := by kernel_rfl
set_option maxRecDepth 100000 in
set_option maxHeartbeats 8000000 in
theorem way55 (m : Nat) (hm : m ≤ 256) (E : List (Nat × Nat)) (hE : E.length ≤ 5000) (hb : ∀ u v, (u, v) ∈ E → u < m ∧ v < m) (f t : Nat) (hf : f < m) (ht : t < m) (back : List Int) (hL : Lab (rvE E) m t back) (h0 : 0 ≤ gI back f) (hR : ∀ v, v < m → gI (zcj E m v m) t = gI back v) :
  PF Try.prog 55 [cG (m : Nat) (zai E), .int .i64 (f : Nat), .int .i64 (t : Nat)] (vsI (iL (f :: zck E m back (gI back f).toNat f))) := by
 have hbt : ∀ v, gI back v < m := zhw hL.len hL.down
 refine zav env0_ok fn55 [(0, .agg [.int .i64 (m : Nat), .vs (cE (zai E))]), (1, .int .i64 (f : Nat)), (2, .int .i64 (t : Nat))] (by show 3 ≤ 65; decide) rfl fun w0 N0 => ?_
 unfold ic55
 refine za5 (za0 rfl (zd3 rfl rfl (za1 rfl (za3 (za2 ?_)))))
 refine zbf [] [(0, 0, [.int .i64 (m : Nat), .vs (cE (zai E))])] [(1, .int .i64 (f : Nat)), (2, .int .i64 (t : Nat)), (3, .vptr [.int .i64 (m : Nat), .vs (cE (zai E))])] rfl (.cons rfl rfl .nil) .nil (.cons rfl (.same rfl) (.cons rfl (.same rfl) (.cons rfl (.fptr rfl rfl) .nil))) ?_
 repeat (first | refine za5 ?_ | refine za0 rfl ?_ | refine za3 ?_ | refine za2 ?_ | refine zaa ?_ | refine za1 rfl ?_ | refine zby rfl rfl ?_)
 have hK : (iL (f :: zck E m back (gI back f).toNat f)).length ≤ 257 := by
  have := hbt f
  unfold iL
  rw [List.length_map, List.length_cons, zep]
  omega
 generalize hT : iL (f :: zck E m back (gI back f).toNat f) = T at *
 refine zba (fun mm S => ∃ v q qv hp nx ck, mm = (gI back v).toNat ∧ v < m ∧ 0 ≤ gI back v ∧ q ++ iL (zck E m back (gI back v).toNat v) = T ∧ Wq hp nx q qv ∧ S = st 65 [(2, .int .i64 (t : Nat)), (3, .vptr [.int .i64 (m : Nat), .vs (cE (zai E))]), (7, qv), (8, .int .i64 (v : Nat))] hp nx ck) (gI back f).toNat
  (za7 (.cons rfl (.cons rfl (.cons rfl (.cons rfl .nil))))) ⟨f, [(f : Nat)], .ms 0 1 1 0 1 (some 1), _, _, _, rfl, hf, h0, hT, .lit _ rfl rfl (by decide), rfl⟩ ?_
 rintro mm S ⟨v, q, qv, hp, nx, ck, rfl, hv, h1, hq, hF, rfl⟩
 have hql : q.length ≤ 257 := by
  rw [← hq, List.length_append] at hK
  omega
 unfold b55_0
 repeat (first | refine za5 ?_ | refine za0 rfl ?_ | refine za1 rfl ?_)
 refine zam rfl rfl rfl (fun h3 => ?_) fun h3 => ?_
 ·have hne : ¬ ((v : Nat) : Int) = ((t : Nat) : Int) := by simpa using h3
  have hpos : 0 < gI back v := by
   have : gI back v ≠ 0 := fun e => hne (by rw [hL.root v e])
   omega
  obtain ⟨hfi, hed, hwm, hbw⟩ := nxt_ok hL hb hpos
  have hdn := dnx_nxt hfi
  have hrs : zck E m back (gI back v).toNat v = nxt E m back v :: zck E m back (gI back (nxt E m back v)).toNat (nxt E m back v) := by
   obtain ⟨k, hk⟩ : ∃ k : Nat, gI back v = ((k + 1 : Nat) : Int) := ⟨(gI back v).toNat - 1, by omega⟩
   have e1 : (gI back v).toNat = k + 1 := by omega
   have e2 : (gI back (nxt E m back v)).toNat = k := by omega
   rw [e1, e2, zck]
  generalize nxt E m back v = x at *
  have w0m : IntKind.wrap .i64 (((m : Nat) : Int) - 1) = ((m : Nat) : Int) - 1 := zch _ (by omega) (by omega)
  repeat (first | refine za5 ?_ | refine za0 rfl ?_ | refine za3 ?_ | refine za2 ?_ | refine zaa ?_ | refine zad ?_ | refine zbt rfl ?_ | refine za1 rfl ?_ | refine zaf rfl rfl ?_ | refine zac rfl rfl rfl ?_ | refine zaz (op := .sub) rfl rfl rfl ?_)
  rw [w0m]
  refine zba (fun mm S => ∃ i, mm = i ∧ i ≤ m ∧ S = st 65 [(2, .int .i64 (t : Nat)), (3, .vptr [.int .i64 (m : Nat), .vs (cE (zai E))]), (7, qv), (8, .int .i64 (v : Nat)), (9, .int .i64 (dnx (fun w => E.contains (v, w) && prB back v w) m i)), (10, .int .i64 (((i : Nat) : Int) - 1))] hp nx ck) m
   (za7 (.cons rfl (.cons rfl (.cons rfl (.cons rfl (.cons (by rw [zhi]; rfl) (.cons rfl .nil))))))) ⟨m, rfl, Nat.le_refl _, rfl⟩ ?_
  rintro mm S ⟨i, rfl, hi, rfl⟩
  unfold b55_2
  repeat (first | refine za5 ?_ | refine za0 rfl ?_ | refine za1 rfl ?_)
  refine zam rfl rfl rfl (fun h4 => ?_) fun h4 => ?_
  ·have h4 : ((mm : Nat) : Int) - 1 ≥ 0 := of_decide_eq_true h4
   obtain ⟨w, rfl⟩ : ∃ w, mm = w + 1 := ⟨mm - 1, by omega⟩
   have ew : ((w + 1 : Nat) : Int) - 1 = ((w : Nat) : Int) := by omega
   rw [ew]
   have hwlt : w < m := hi
   have w1 : IntKind.wrap .i64 (((w : Nat) : Int) - 1) = ((w : Nat) : Int) - 1 := zch _ (by omega) (by omega)
   have p68 := zoj m E (by omega) v w
   have p54w := far54 m hm E hE hb w hwlt
   have p54v := far54 m hm E hE hb v hv
   have dw := hR w hwlt
   have dv := hR v hv
   have lw := zev E m w m
   have lv := zev E m v m
   have same : v = w → zcj E m v m = zcj E m w m := fun e => by rw [e]
   generalize zcj E m w m = ow at *
   generalize zcj E m v m = ov at *
   have hgw : (ow.map fun z => ([.int .i64 z] : List AV))[((t : Nat) : Int).toNat]? = some [.int .i64 (gI ow t)] := by rw [zcv (by omega), zpo]
   have hgv : (ov.map fun z => ([.int .i64 z] : List AV))[((t : Nat) : Int).toNat]? = some [.int .i64 (gI ov t)] := by rw [zcv (by omega), zpo]
   have w2 : IntKind.wrap .i64 (gI ov t - 1) = gI ov t - 1 := zch _ (by rw [dv]; omega) (by rw [dv]; have := hbt v; omega)
   have hP : (E.contains (v, w) && prB back v w) = (E.contains (v, w) && (decide (gI ow t ≥ 0) && (gI ow t == gI ov t - 1))) := by
    unfold prB
    rw [dw, dv]
   have hst : dnx (fun w => E.contains (v, w) && prB back v w) m w = if (E.contains (v, w) && (decide (gI ow t ≥ 0) && (gI ow t == gI ov t - 1))) = true then ((w : Nat) : Int) else dnx (fun w => E.contains (v, w) && prB back v w) m (w + 1) := by
    rw [← hP]
    exact zfr hwlt
   repeat (first | refine za5 ?_ | refine za3 ?_ | refine za2 ?_ | refine zaa ?_ | refine zad ?_ | refine zbt rfl ?_)
   refine zkw env0_ok [(68, [cG (m : Nat) (zai E), .int .i64 (v : Nat), .int .i64 (w : Nat)], .bool (E.contains (v, w))), (54, [cG (m : Nat) (zai E), .int .i64 (w : Nat)], vsI ow), (54, [cG (m : Nat) (zai E), .int .i64 (v : Nat)], vsI ov)] (fun x hx => by
    rcases List.mem_cons.1 hx with rfl | hx
    ·exact p68
    rcases List.mem_cons.1 hx with rfl | hx
    ·exact p54w
    obtain rfl := List.mem_singleton.1 hx
    exact p54v) (fun f => Nat.beq f 68 || Nat.beq f 54) rfl rfl rfl ?_
   have lkv : ze4 [(54, [cG (m : Nat) (zai E), .int .i64 (w : Nat)], vsI ow), (54, [cG (m : Nat) (zai E), .int .i64 (v : Nat)], vsI ov)] 54 [cG (m : Nat) (zai E), .int .i64 (v : Nat)] = some (vsI ov) := by
    by_cases hvw : v = w
    ·rw [same hvw, hvw]
     exact zbv
    ·exact ziv (fun e => hvw (by injection e with _ e; injection e with e; injection e with _ e; exact (Int.ofNat_inj.1 e).symm)) zbv
   repeat (first | refine za1 rfl ?_ | refine zaq rfl rfl rfl rfl ?_)
   refine zas rfl rfl zbv (fun h => Bool.noConfusion (show false = true from h)) ?_
   cases ec : E.contains (v, w) with
   | false =>
    rw [ec, Bool.false_and, if_neg Bool.false_ne_true] at hst
    repeat (first | refine za0 rfl ?_ | refine za3 ?_ | refine za2 ?_ | refine zb7 ?_ | refine zad ?_ | refine zbm rfl ?_ | refine zik rfl rfl ?_ | refine za1 rfl ?_ | refine zax rfl rfl ?_ | refine zaz (op := .sub) rfl rfl rfl ?_)
    rw [w1]
    exact zaj (Nat.lt_succ_self w) (za7 (.cons rfl (.cons rfl (.cons rfl (.cons rfl (.cons rfl (.cons rfl .nil))))))) ⟨w, rfl, by omega, by rw [hst]⟩
   | true =>
   rw [ec, Bool.true_and] at hst
   repeat (first | refine zd4 rfl ?_ | refine za1 rfl ?_ | refine zaq rfl rfl rfl rfl ?_)
   refine zas rfl rfl (zgb (by decide) zbv) (fun h => Bool.noConfusion (show false = true from h)) ?_
   repeat (first | refine zd4 rfl ?_ | refine za1 rfl ?_ | refine zaf rfl rfl ?_ | refine zb1 rfl rfl (by omega) (by assumption) rfl ?_)
   refine zam rfl rfl rfl (fun h5 => ?_) fun h5 => ?_
   ·have h5 : decide (gI ow t ≥ 0) = true := h5
    rw [h5, Bool.true_and] at hst
    repeat (first | refine zd4 rfl ?_ | refine za1 rfl ?_ | refine zaq rfl rfl rfl rfl ?_ | refine zal rfl rfl ?_)
    refine zas rfl rfl (zgb (by decide) zbv) (fun h => Bool.noConfusion (show false = true from h)) ?_
    repeat (first | refine zd4 rfl ?_ | refine za1 rfl ?_ | refine zaf rfl rfl ?_ | refine zaq rfl rfl rfl rfl ?_ | refine zb1 rfl rfl (by omega) (by assumption) rfl ?_)
    refine zas rfl rfl (zgb (by decide) lkv) (fun h => Bool.noConfusion (show false = true from h)) ?_
    repeat (first | refine zd4 rfl ?_ | refine za1 rfl ?_ | refine zaf rfl rfl ?_ | refine zaz (op := .sub) rfl rfl rfl ?_ | refine zb1 rfl rfl (by omega) (by assumption) rfl ?_)
    rw [w2]
    refine zam rfl rfl rfl (fun h6 => ?_) fun h6 => ?_
    ·have h6 : (gI ow t == gI ov t - 1) = true := h6
     rw [h6, if_pos rfl] at hst
     repeat (first | refine za0 rfl ?_ | refine za3 ?_ | refine za2 ?_ | refine zb7 ?_ | refine zbt rfl ?_ | refine za1 rfl ?_ | refine zal rfl rfl ?_ | refine zaz (op := .sub) rfl rfl rfl ?_)
     rw [w1]
     exact zaj (Nat.lt_succ_self w) (za7 (.cons rfl (.cons rfl (.cons rfl (.cons rfl (.cons rfl (.cons rfl .nil))))))) ⟨w, rfl, by omega, by rw [hst]⟩
    ·have h6 : (gI ow t == gI ov t - 1) = false := h6
     rw [h6, if_neg Bool.false_ne_true] at hst
     repeat (first | refine za0 rfl ?_ | refine za3 ?_ | refine za2 ?_ | refine zb7 ?_ | refine zad ?_ | refine zbm rfl ?_ | refine za1 rfl ?_ | refine zal rfl rfl ?_ | refine zaz (op := .sub) rfl rfl rfl ?_)
     rw [w1]
     exact zaj (Nat.lt_succ_self w) (za7 (.cons rfl (.cons rfl (.cons rfl (.cons rfl (.cons rfl (.cons rfl .nil))))))) ⟨w, rfl, by omega, by rw [hst]⟩
   ·have h5 : decide (gI ow t ≥ 0) = false := h5
    rw [h5, Bool.false_and, if_neg Bool.false_ne_true] at hst
    repeat (first | refine za0 rfl ?_ | refine za3 ?_ | refine za2 ?_ | refine zb7 ?_ | refine zad ?_ | refine zbm rfl ?_ | refine zik rfl rfl ?_ | refine za1 rfl ?_ | refine zal rfl rfl ?_ | refine zax rfl rfl ?_ | refine zaz (op := .sub) rfl rfl rfl ?_)
    rw [w1]
    exact zaj (Nat.lt_succ_self w) (za7 (.cons rfl (.cons rfl (.cons rfl (.cons rfl (.cons rfl (.cons rfl .nil))))))) ⟨w, rfl, by omega, by rw [hst]⟩
  ·have hi0 : mm = 0 := by
    have h5 : ¬ ((mm : Nat) : Int) - 1 ≥ 0 := of_decide_eq_false h4
    omega
   subst hi0
   rw [hdn]
   repeat (first | refine za3 ?_ | refine za2 ?_ | refine zbm rfl ?_ | refine zb9 ?_ | refine zab ?_)
   refine zc8 ?_
   repeat (first | refine za0 rfl ?_ | refine za2 ?_ | refine zb8 ?_ | refine za1 rfl ?_ | refine zby rfl rfl ?_)
   refine o_wapp (hF.fresh ck (.cells [.int .i64 (x : Nat)])) (by omega) rfl rfl zb6 (by decide) fun id sp hp' nx' ck' hl hn => ?_
   repeat (first | refine za0 rfl ?_ | refine za3 ?_ | refine za2 ?_ | refine zb7 ?_ | refine za1 rfl ?_ | refine zbg rfl rfl ?_ | refine zaz (op := .sub) rfl rfl rfl ?_)
   have e1 : IntKind.wrap .i64 (((q.length + 1 : Nat) : Int) - 1) = ((q.length : Nat) : Int) := by rw [zch _ (by omega) (by omega)]; omega
   rw [e1]
   refine zb2 rfl rfl (by omega) (by omega) ?_
   have ez : 0 + ((q.length : Nat) : Int).toNat * 1 = q.length := by simp
   rw [ez]
   refine zau (id := id) (sp := sp) (off := q.length) rfl hl hn (by rw [List.map_append, List.getElem?_append_right (by rw [List.length_map]; exact Nat.le_refl _), List.length_map, Nat.sub_self]; rfl) ?_
   repeat (first | refine za3 ?_ | refine za1 rfl ?_)
   exact zaj (show (gI back x).toNat < (gI back v).toNat by omega) (za7 (.cons rfl (.cons rfl (.cons rfl (.cons rfl .nil))))) ⟨x, q ++ [((x : Nat) : Int)], .ms id sp 1 0 (q.length + 1) none, hp', nx', ck', rfl, hwm, by omega, by rw [← hq, hrs, List.append_assoc]; rfl, .gen (by rw [List.length_append]; rfl) hl hn, rfl⟩
 ·have hvt : ((v : Nat) : Int) = ((t : Nat) : Int) := by simpa using h3
  have hv2 : v = t := Int.ofNat_inj.1 hvt
  subst hv2
  rw [hL.zero] at hq
  have hq : q = T := by simpa [zck, iL] using hq
  repeat (first | refine za3 ?_ | refine za2 ?_ | refine zbm rfl ?_ | refine zb9 ?_ | refine zab ?_)
  refine zc8 ?_
  repeat (first | refine za5 ?_ | refine za0 rfl ?_ | refine za3 ?_ | refine za2 ?_ | refine zat ?_ | refine zb8 ?_ | refine za1 rfl ?_)
  refine zao ⟨.inr rfl, _, rfl, ?_⟩
  rw [← hq]
  exact hF.view
end Go.Proofs.Ytoagikifehmlpaa
