/-
  THE LAW's CALLEES: Reach, SameInts.
-/
import Derived.Test.YtoagikifehmlpaaDG1
namespace Go.Proofs.Ytoagikifehmlpaa
open Go Go.Am
def zl4 (o : List Int) (i : Nat) : List Int := ((List.range i).filter fun v => decide (gI o v ≥ 0)).map fun v => ((v : Nat) : Int)
theorem zkw (o : List Int) (i : Nat) : zl4 o (i + 1) = if gI o i ≥ 0 then zl4 o i ++ [((i : Nat) : Int)] else zl4 o i := by
 unfold zl4
 rw [List.range_succ, List.filter_append, List.map_append, List.filter_cons]
 by_cases h : gI o i ≥ 0
 ·rw [if_pos (decide_eq_true h), if_pos h]
  rfl
 ·rw [if_neg (by rw [decide_eq_true_eq]; exact h), if_neg h, List.filter_nil, List.map_nil, List.append_nil]
theorem zji (o : List Int) (i : Nat) : (zl4 o i).length ≤ i := by
 unfold zl4
 rw [List.length_map]
 exact Nat.le_trans (List.length_filter_le ..) (by rw [List.length_range]; exact Nat.le_refl _)
def rchV (n : Int) (es : List (Int × Int)) (v : Int) : AV := if zfw n es [v] = 0 then .tup [vsI (zl4 (zhq (es.map fun e => (e.1.toNat, e.2.toNat)) n.toNat v.toNat n.toNat) n.toNat), .int .i64 0] else .tup [.vs [], .int .i64 (zfw n es [v])]
theorem zrj {m f : Nat} {E : List (Nat × Nat)} (h : zfw m (zb8 E) [(f : Int)] = 0) : rchV m (zb8 E) f = .tup [vsI (zl4 (zhq E m f m) m), .int .i64 0] := by
 unfold rchV
 rw [if_pos h, zgl]
 rfl
theorem znf {n : Int} {es : List (Int × Int)} {v : Int} (h : zfw n es [v] ≠ 0) : rchV n es v = .tup [.vs [], .int .i64 (zfw n es [v])] := if_neg h
theorem gI_at {o : List Int} {i : Nat} (h : i < o.length) : o[i] = gI o i := by
 unfold gI
 rw [List.getD_eq_getElem?_getD, List.getElem?_eq_getElem h]
 rfl
def b31_0 : IC := .seq (.region [⟨(some 26), .bin .lss (.t 25) (.t 24), none⟩] none)
 (.seq (.cond (.t 26) (.skip)
 (.exit 0))
 (.seq (.block 1 (.seq (.region [⟨(some 27), .mov (.t 25), none⟩,
  ⟨(some 28), .idxs 1 (.t 23) (.t 25), none⟩,
  ⟨(some 29), .load none (.t 28), none⟩,
  ⟨(some 9), .mov (.t 27), none⟩,
  ⟨(some 10), .mov (.t 29), none⟩] none)
 (.seq (.region [⟨(some 30), .mov (.t 10), none⟩,
  ⟨(some 31), .bin .geq (.t 30) (.c (.int .i64 0)), none⟩] none)
 (.cond (.t 31) (.region [⟨(some 32), .mov (.t 8), none⟩,
  ⟨(some 33), .mov (.t 9), none⟩,
  ⟨(some 34), .bslice 1 1 [.int .i64 0] [(0, 1, (.t 33))], none⟩,
  ⟨(some 35), .append 1 8 [.int .i64 0] (.t 32) (.t 34), none⟩,
  ⟨(some 8), .mov (.t 35), none⟩] none)
 (.skip)))))
 (.region [⟨(some 36), .bin .add (.t 25) (.c (.int .i64 1)), none⟩,
  ⟨(some 25), .mov (.t 36), none⟩] none)))
-- pneumatic/digraph.Reach
def ic31 : IC := .seq (.region [⟨(some 2), .box (.t 0), none⟩,
  ⟨(some 4), .mov (.c (.nils)), none⟩,
  ⟨(some 5), .mov (.c (.int .i64 0)), none⟩] none)
 (.seq (.region [⟨(some 12), .load (some 2) (.t 2), none⟩,
  ⟨(some 13), .mov (.t 1), none⟩,
  ⟨(some 14), .bslice 1 1 [.int .i64 0] [(0, 1, (.t 13))], none⟩,
  ⟨(some 15), .call (.c (.fn 46 [] [])) [(.t 12), (.t 14)], none⟩,
  ⟨(some 11), .mov (.t 15), none⟩,
  ⟨(some 16), .extract (.t 11) 0, none⟩,
  ⟨(some 17), .extract (.t 11) 1, none⟩,
  ⟨(some 6), .mov (.t 16), none⟩,
  ⟨(some 7), .mov (.t 17), none⟩] none)
 (.seq (.seq (.region [⟨(some 18), .mov (.t 7), none⟩,
  ⟨(some 19), .bin .neq (.t 18) (.c (.int .i64 0)), none⟩] none)
 (.cond (.t 19) (.seq (.region [⟨(some 20), .mov (.t 7), none⟩,
  ⟨(some 4), .mov (.c (.nils)), none⟩,
  ⟨(some 5), .mov (.t 20), none⟩] none)
 (.ret))
 (.skip)))
 (.seq (.region [⟨(some 8), .mov (.c (.nils)), none⟩] none)
 (.seq (.seq (.region [⟨(some 21), .mov (.t 6), none⟩,
  ⟨(some 22), .mov (.t 1), none⟩,
  ⟨(some 23), .call (.c (.fn 48 [] [])) [(.t 21), (.t 22)], none⟩,
  ⟨(some 24), .len false (.t 23), none⟩,
  ⟨(some 25), .mov (.c (.int .i64 0)), none⟩] none)
 (.block 0 (.loop b31_0)))
 (.seq (.region [⟨(some 37), .mov (.t 8), none⟩,
  ⟨(some 4), .mov (.t 37), none⟩,
  ⟨(some 5), .mov (.c (.int .i64 0)), none⟩] none)
 (.ret))))))
theorem fn31 : env0.fn 31 = some ⟨38, ic31, [.t 4, .t 5]⟩ := by kernel_rfl
set_option maxHeartbeats 2000000 in
theorem reach31 (n : Int) (es : List (Int × Int)) (hn : zel n es = 0 → n ≤ 12) (v : Int) : PF Try.prog 31 [cG n es, .int .i64 v] (rchV n es v) := by
 have p46 := zqe n es [v] (by simp)
 refine zbk env0_ok fn31 [(0, .agg [.int .i64 n, .vs (cE es)]), (1, .int .i64 v)] (by show 2 ≤ 38; decide) rfl fun w0 N0 => ?_
 unfold ic31
 refine za7 (za0 rfl (zeo rfl rfl (za3 rfl (za3 rfl (za5 (za4 ?_))))))
 refine zc5 [] [(0, 0, [.int .i64 n, .vs (cE es)])] [(1, .int .i64 v), (2, .vptr [.int .i64 n, .vs (cE es)])] rfl (.cons rfl rfl .nil) .nil (.cons rfl (.same rfl) (.cons rfl (.fptr rfl rfl) .nil)) ?_
 repeat (first | refine za7 ?_ | refine za0 rfl ?_ | refine za3 rfl ?_ | refine zat rfl rfl rfl rfl ?_)
 refine o_fsl [[.int .i64 v]] rfl rfl rfl rfl ?_
 refine zaw rfl rfl p46 (fun h => Bool.noConfusion (show false = true from h)) ?_
 by_cases hg : zfw n es [v] = 0
 ·obtain ⟨hc, hv⟩ := zhz hg
  obtain ⟨v0, v1⟩ := zjq hv v (by simp)
  have hn := hn hc
  obtain ⟨m, E, rfl, rfl, hm, _, hE, hb⟩ := zk7 hc
  obtain ⟨f, rfl⟩ := Int.eq_ofNat_of_zero_le v0
  rw [zll hg, zrj hg]
  have p48 := far48 m (by omega) E hb f (by omega)
  have hol := zf5 E m f m
  generalize zhq E m f m = o at *
  have hol2 : (o.map fun z => ([.int .i64 z] : List AV)).length = m := by rw [List.length_map]; exact hol
  repeat (first | refine za7 ?_ | refine za0 rfl ?_ | refine za5 ?_ | refine za4 ?_ | refine zao ?_ | refine zdw rfl ?_ | refine za3 rfl ?_ | refine zcg rfl rfl ?_ | refine zfb rfl rfl rfl ?_)
  refine zaw rfl rfl p48 (fun h => Bool.noConfusion (show false = true from h)) ?_
  repeat (first | refine za5 ?_ | refine za4 ?_ | refine zan ?_ | refine za3 rfl ?_ | refine zct rfl rfl ?_)
  refine z_grow 8 1 rfl ?_
  refine zde (fun mm S => ∃ i, mm = m - i ∧ i ≤ m ∧ S = st 38 [(8, .ms 0 0 1 0 (zl4 o i).length none), (23, vsI o), (24, .int .i64 (m : Nat)), (25, .int .i64 (i : Nat))] [(0, 0, .cells ((zl4 o i).map (AV.int .i64)))] 1 1) m
   (zee [(some (0, 1), [])] [] rfl rfl rfl .nil (.cons rfl .nil .nil) (l' := [(8, .ms 0 0 1 0 0 none), (23, vsI o), (24, .int .i64 ((o.map fun z => ([.int .i64 z] : List AV)).length : Nat)), (25, .int .i64 ((0 : Nat) : Int))]) (.cons rfl (.ms rfl) (.cons rfl (.same rfl) (.cons rfl (.same rfl) (.cons rfl (.same rfl) .nil))))) ⟨0, rfl, Nat.zero_le _, by rw [hol2]; rfl⟩ ?_
  rintro mm S ⟨i, rfl, hi, rfl⟩
  have hsl := zji o i
  have hss := zkw o i
  unfold b31_0
  repeat (first | refine za7 ?_ | refine za0 rfl ?_)
  refine zax rfl rfl rfl (fun h3 => ?_) fun h3 => ?_
  ·have hlt : i < m := Int.ofNat_lt.1 (of_decide_eq_true h3)
   have w1 : IntKind.wrap .i64 (((i : Nat) : Int) + 1) = ((i + 1 : Nat) : Int) := zbb i (by omega)
   have hgt : (o.map fun z => ([.int .i64 z] : List AV))[((i : Nat) : Int).toNat]? = some [.int .i64 (gI o i)] := by
    rw [zjv (by omega), gI_at]
   repeat (first | refine za7 ?_ | refine za0 rfl ?_ | refine za5 ?_ | refine za4 ?_ | refine zan ?_ | refine zao ?_ | refine zdu rfl ?_ | refine za3 rfl ?_ | refine zal rfl rfl ?_ | refine ze1 rfl rfl (by omega) (by assumption) rfl ?_)
   refine zax rfl rfl rfl (fun h => ?_) fun h => ?_
   ·have h : gI o i ≥ 0 := of_decide_eq_true h
    rw [if_pos h] at hss
    repeat (first | refine za0 rfl ?_ | refine za5 ?_ | refine za4 ?_ | refine zdu rfl ?_ | refine za3 rfl ?_ | refine zdm rfl rfl ?_)
    refine zhc [[.int .i64 (i : Nat)]] rfl rfl (zf2 (ys := []) zcd rfl (fun x hx => by obtain rfl := List.mem_singleton.1 hx; rfl)) (fun h => Nat.noConfusion h) rfl (by decide) (by (repeat (first | rw [za8, if_pos rfl] | rw [za8, if_neg (by omega)])); try rfl) (by rw [List.length_map, Nat.mul_one]) (by show _ + 1 ≤ _; omega) ?_
    repeat (first | refine za0 rfl ?_ | refine za5 ?_ | refine za4 ?_ | refine zd3 ?_ | refine za3 rfl ?_ | refine zd7 (op := .add) rfl rfl rfl ?_)
    rw [w1]
    exact zbe (show m - (i + 1) < m - i by omega) (zee [(some (0, 2), (zl4 o i ++ [((i : Nat) : Int)]).map (AV.int .i64))] [] rfl rfl rfl .nil (.cons (by rw [za6, if_pos rfl]; rw [List.map_append]; rfl) (.keep (zea _)) .nil) (l' := [(8, .ms 0 0 1 0 ((zl4 o i).length + 1) none), (23, vsI o), (24, .int .i64 (m : Nat)), (25, .int .i64 ((i + 1 : Nat) : Int))]) (.cons rfl (.ms rfl) (.cons rfl (.same rfl) (.cons rfl (.same rfl) (.cons rfl (.same rfl) .nil))))) ⟨i + 1, rfl, hlt, by rw [hss, List.length_append]; rfl⟩
   ·have h : ¬ gI o i ≥ 0 := of_decide_eq_false h
    rw [if_neg h] at hss
    repeat (first | refine za0 rfl ?_ | refine za5 ?_ | refine za4 ?_ | refine zd3 ?_ | refine zao ?_ | refine zdw rfl ?_ | refine za3 rfl ?_ | refine zd7 (op := .add) rfl rfl rfl ?_)
    rw [w1]
    exact zbe (show m - (i + 1) < m - i by omega) (zaf (.cons rfl (.cons rfl (.cons rfl (.cons rfl .nil))))) ⟨i + 1, rfl, hlt, by rw [hss]⟩
  ·have hi2 : i = m := by
    have : ¬ i < m := fun h => of_decide_eq_false h3 (Int.ofNat_lt.2 h)
    omega
   subst hi2
   repeat (first | refine za7 ?_ | refine za5 ?_ | refine za4 ?_ | refine zdw rfl ?_ | refine zdd ?_ | refine zas ?_)
   refine zfu ?_
   repeat (first | refine za7 ?_ | refine za0 rfl ?_ | refine za5 ?_ | refine za4 ?_ | refine zau ?_ | refine zdb ?_ | refine za3 rfl ?_)
   refine zar ⟨.inr rfl, _, rfl, ?_⟩
   exact congrArg AV.tup (zrc (zfi (d := 2) (sp := 0) _ rfl rfl) rfl)
 ·rw [zg4 hg, znf hg]
  repeat (first | refine za7 ?_ | refine za0 rfl ?_ | refine za5 ?_ | refine za4 ?_ | refine za3 rfl ?_ | refine zcg rfl rfl ?_)
  refine zax rfl rfl rfl (fun h => ?_) fun h => absurd (by simpa using h) hg
  repeat (first | refine za7 ?_ | refine za0 rfl ?_ | refine za5 ?_ | refine za4 ?_ | refine zdu rfl ?_ | refine zau ?_ | refine zah ?_ | refine za3 rfl ?_)
  exact zar ⟨.inr rfl, _, rfl, rfl⟩
def b32_0 : IC := .seq (.seq (.region [⟨(some 19), .mov (.t 9), none⟩,
  ⟨(some 20), .faddr 0 (.t 2), none⟩,
  ⟨(some 21), .load none (.t 20), none⟩,
  ⟨(some 22), .bin .lss (.t 19) (.t 21), none⟩] none)
 (.cond (.t 22) (.skip)
 (.exit 0)))
 (.seq (.block 1 (.seq (.region [⟨(some 25), .mov (.t 7), none⟩,
  ⟨(some 26), .mov (.t 9), none⟩,
  ⟨(some 27), .idxs 1 (.t 25) (.t 26), none⟩,
  ⟨(some 28), .load none (.t 27), none⟩,
  ⟨(some 29), .bin .geq (.t 28) (.c (.int .i64 0)), none⟩] none)
 (.cond (.t 29) (.region [⟨(some 30), .mov (.t 8), none⟩,
  ⟨(some 31), .mov (.t 9), none⟩,
  ⟨(some 32), .bslice 1 1 [.int .i64 0] [(0, 1, (.t 31))], none⟩,
  ⟨(some 33), .append 1 8 [.int .i64 0] (.t 30) (.t 32), none⟩,
  ⟨(some 8), .mov (.t 33), none⟩] none)
 (.skip))))
 (.region [⟨(some 23), .mov (.t 9), none⟩,
  ⟨(some 24), .bin .add (.t 23) (.c (.int .i64 1)), none⟩,
  ⟨(some 9), .mov (.t 24), none⟩] none))
-- pneumatic/pneumaticref10.Reach
def ic32 : IC := .seq (.region [⟨(some 2), .box (.t 0), none⟩,
  ⟨(some 4), .mov (.c (.nils)), none⟩,
  ⟨(some 5), .mov (.c (.int .i64 0)), none⟩] none)
 (.seq (.seq (.region [⟨(some 10), .load (some 2) (.t 2), none⟩,
  ⟨(some 11), .mov (.t 1), none⟩,
  ⟨(some 12), .call (.c (.fn 52 [] [])) [(.t 10), (.t 11)], none⟩,
  ⟨(some 6), .mov (.t 12), none⟩] none)
 (.seq (.region [⟨(some 13), .mov (.t 6), none⟩,
  ⟨(some 14), .bin .neq (.t 13) (.c (.int .i64 0)), none⟩] none)
 (.cond (.t 14) (.seq (.region [⟨(some 15), .mov (.t 6), none⟩,
  ⟨(some 4), .mov (.c (.nils)), none⟩,
  ⟨(some 5), .mov (.t 15), none⟩] none)
 (.ret))
 (.skip))))
 (.seq (.region [⟨(some 16), .load (some 2) (.t 2), none⟩,
  ⟨(some 17), .mov (.t 1), none⟩,
  ⟨(some 18), .call (.c (.fn 54 [] [])) [(.t 16), (.t 17)], none⟩,
  ⟨(some 7), .mov (.t 18), none⟩] none)
 (.seq (.region [⟨(some 8), .mov (.c (.nils)), none⟩] none)
 (.seq (.seq (.region [⟨(some 9), .mov (.c (.int .i64 0)), none⟩] none)
 (.block 0 (.loop b32_0)))
 (.seq (.region [⟨(some 34), .mov (.t 8), none⟩,
  ⟨(some 4), .mov (.t 34), none⟩,
  ⟨(some 5), .mov (.c (.int .i64 0)), none⟩] none)
 (.ret))))))
theorem fn32 : env0.fn 32 = some ⟨35, ic32, [.t 4, .t 5]⟩ := by kernel_rfl
set_option maxHeartbeats 2000000 in
theorem reach32 (n : Int) (es : List (Int × Int)) (v : Int) : PF Try.prog 32 [cG n es, .int .i64 v] (rchV n es v) := by
 have p52 := zqf n es v
 refine zbk env0_ok fn32 [(0, .agg [.int .i64 n, .vs (cE es)]), (1, .int .i64 v)] (by show 2 ≤ 35; decide) rfl fun w0 N0 => ?_
 unfold ic32
 refine za7 (za0 rfl (zeo rfl rfl (za3 rfl (za3 rfl (za5 (za4 ?_))))))
 refine zc5 [] [(0, 0, [.int .i64 n, .vs (cE es)])] [(1, .int .i64 v), (2, .vptr [.int .i64 n, .vs (cE es)])] rfl (.cons rfl rfl .nil) .nil (.cons rfl (.same rfl) (.cons rfl (.fptr rfl rfl) .nil)) ?_
 repeat (first | refine za7 ?_ | refine za0 rfl ?_ | refine za3 rfl ?_ | refine zat rfl rfl rfl rfl ?_)
 refine zaw rfl rfl p52 (fun h => Bool.noConfusion (show false = true from h)) ?_
 repeat (first | refine za7 ?_ | refine za0 rfl ?_ | refine za5 ?_ | refine za4 ?_ | refine za3 rfl ?_)
 by_cases hg : zfw n es [v] = 0
 ·obtain ⟨hc, hv⟩ := zhz hg
  obtain ⟨v0, v1⟩ := zjq hv v (by simp)
  obtain ⟨m, E, rfl, rfl, hm, _, hE, hb⟩ := zk7 hc
  obtain ⟨f, rfl⟩ := Int.eq_ofNat_of_zero_le v0
  rw [zrj hg, hg]
  have p54 := far54 m hm E (by omega) hb f (by omega)
  have hol := zf5 E m f m
  generalize zhq E m f m = o at *
  repeat (first | refine za7 ?_ | refine za0 rfl ?_ | refine za5 ?_ | refine za4 ?_ | refine zao ?_ | refine zdw rfl ?_ | refine za3 rfl ?_ | refine zat rfl rfl rfl rfl ?_ | refine zfb rfl rfl rfl ?_)
  refine zaw rfl rfl p54 (fun h => Bool.noConfusion (show false = true from h)) ?_
  repeat (first | refine za7 ?_ | refine za0 rfl ?_ | refine za5 ?_ | refine za4 ?_ | refine zan ?_ | refine za3 rfl ?_)
  refine z_grow 8 1 rfl ?_
  refine zde (fun mm S => ∃ i, mm = m - i ∧ i ≤ m ∧ S = st 35 [(2, .vptr [.int .i64 (m : Nat), .vs (cE (zb8 E))]), (7, vsI o), (8, .ms 0 0 1 0 (zl4 o i).length none), (9, .int .i64 (i : Nat))] [(0, 0, .cells ((zl4 o i).map (AV.int .i64)))] 1 1) m
   (zee [(some (0, 1), [])] [] rfl rfl rfl .nil (.cons rfl .nil .nil) (l' := [(2, .vptr [.int .i64 (m : Nat), .vs (cE (zb8 E))]), (7, vsI o), (8, .ms 0 0 1 0 0 none), (9, .int .i64 ((0 : Nat) : Int))]) (.cons rfl (.same rfl) (.cons rfl (.same rfl) (.cons rfl (.ms rfl) (.cons rfl (.same rfl) .nil))))) ⟨0, rfl, Nat.zero_le _, rfl⟩ ?_
  rintro mm S ⟨i, rfl, hi, rfl⟩
  have hsl := zji o i
  have hss := zkw o i
  unfold b32_0
  repeat (first | refine za7 ?_ | refine za0 rfl ?_ | refine za3 rfl ?_ | refine zal rfl rfl ?_ | refine zae rfl rfl rfl ?_)
  refine zax rfl rfl rfl (fun h3 => ?_) fun h3 => ?_
  ·have hlt : i < m := Int.ofNat_lt.1 (of_decide_eq_true h3)
   have w1 : IntKind.wrap .i64 (((i : Nat) : Int) + 1) = ((i + 1 : Nat) : Int) := zbb i (by omega)
   have hgt : (o.map fun z => ([.int .i64 z] : List AV))[((i : Nat) : Int).toNat]? = some [.int .i64 (gI o i)] := by
    rw [zjv (by omega), gI_at]
   repeat (first | refine za7 ?_ | refine za0 rfl ?_ | refine za5 ?_ | refine za4 ?_ | refine zan ?_ | refine zao ?_ | refine zdu rfl ?_ | refine za3 rfl ?_ | refine zal rfl rfl ?_ | refine ze1 rfl rfl (by omega) (by assumption) rfl ?_)
   refine zax rfl rfl rfl (fun h => ?_) fun h => ?_
   ·have h : gI o i ≥ 0 := of_decide_eq_true h
    rw [if_pos h] at hss
    repeat (first | refine za0 rfl ?_ | refine za5 ?_ | refine za4 ?_ | refine zdu rfl ?_ | refine za3 rfl ?_ | refine zdm rfl rfl ?_)
    refine zhc [[.int .i64 (i : Nat)]] rfl rfl (zf2 (ys := []) zcd rfl (fun x hx => by obtain rfl := List.mem_singleton.1 hx; rfl)) (fun h => Nat.noConfusion h) rfl (by decide) (by (repeat (first | rw [za8, if_pos rfl] | rw [za8, if_neg (by omega)])); try rfl) (by rw [List.length_map, Nat.mul_one]) (by show _ + 1 ≤ _; omega) ?_
    repeat (first | refine za0 rfl ?_ | refine za5 ?_ | refine za4 ?_ | refine zd3 ?_ | refine za3 rfl ?_ | refine zd7 (op := .add) rfl rfl rfl ?_)
    rw [w1]
    exact zbe (show m - (i + 1) < m - i by omega) (zee [(some (0, 2), (zl4 o i ++ [((i : Nat) : Int)]).map (AV.int .i64))] [] rfl rfl rfl .nil (.cons (by rw [za6, if_pos rfl]; rw [List.map_append]; rfl) (.keep (zea _)) .nil) (l' := [(2, .vptr [.int .i64 (m : Nat), .vs (cE (zb8 E))]), (7, vsI o), (8, .ms 0 0 1 0 ((zl4 o i).length + 1) none), (9, .int .i64 ((i + 1 : Nat) : Int))]) (.cons rfl (.same rfl) (.cons rfl (.same rfl) (.cons rfl (.ms rfl) (.cons rfl (.same rfl) .nil))))) ⟨i + 1, rfl, hlt, by rw [hss, List.length_append]; rfl⟩
   ·have h : ¬ gI o i ≥ 0 := of_decide_eq_false h
    rw [if_neg h] at hss
    repeat (first | refine za0 rfl ?_ | refine za5 ?_ | refine za4 ?_ | refine zd3 ?_ | refine zao ?_ | refine zdw rfl ?_ | refine za3 rfl ?_ | refine zd7 (op := .add) rfl rfl rfl ?_)
    rw [w1]
    exact zbe (show m - (i + 1) < m - i by omega) (zaf (.cons rfl (.cons rfl (.cons rfl (.cons rfl .nil))))) ⟨i + 1, rfl, hlt, by rw [hss]⟩
  ·have hi2 : i = m := by
    have : ¬ i < m := fun h => of_decide_eq_false h3 (Int.ofNat_lt.2 h)
    omega
   subst hi2
   repeat (first | refine za5 ?_ | refine za4 ?_ | refine zdw rfl ?_ | refine zdd ?_ | refine zas ?_)
   refine zfu ?_
   repeat (first | refine za7 ?_ | refine za0 rfl ?_ | refine za5 ?_ | refine za4 ?_ | refine zau ?_ | refine zdb ?_ | refine za3 rfl ?_)
   refine zar ⟨.inr rfl, _, rfl, ?_⟩
   exact congrArg AV.tup (zrc (zfi (d := 2) (sp := 0) _ rfl rfl) rfl)
 ·rw [znf hg]
  refine zax rfl rfl rfl (fun h => ?_) fun h => absurd (by simpa using h) hg
  repeat (first | refine za7 ?_ | refine za0 rfl ?_ | refine za5 ?_ | refine za4 ?_ | refine zdu rfl ?_ | refine zau ?_ | refine zah ?_ | refine za3 rfl ?_)
  exact zar ⟨.inr rfl, _, rfl, rfl⟩
def b19_0 : IC := .seq (.seq (.region [⟨(some 11), .mov (.t 5), none⟩,
  ⟨(some 12), .mov (.t 0), none⟩,
  ⟨(some 13), .len false (.t 12), none⟩,
  ⟨(some 14), .bin .lss (.t 11) (.t 13), none⟩] none)
 (.cond (.t 14) (.skip)
 (.exit 0)))
 (.seq (.block 1 (.seq (.region [⟨(some 17), .mov (.t 0), none⟩,
  ⟨(some 18), .mov (.t 5), none⟩,
  ⟨(some 19), .idxs 1 (.t 17) (.t 18), none⟩,
  ⟨(some 20), .load none (.t 19), none⟩,
  ⟨(some 21), .mov (.t 1), none⟩,
  ⟨(some 22), .mov (.t 5), none⟩,
  ⟨(some 23), .idxs 1 (.t 21) (.t 22), none⟩,
  ⟨(some 24), .load none (.t 23), none⟩,
  ⟨(some 25), .bin .neq (.t 20) (.t 24), none⟩] (some [[], [], [0, 1], [2], [], [], [4, 5], [6], [3, 7]]))
 (.cond (.t 25) (.seq (.region [⟨(some 4), .mov (.c (.bool false)), none⟩] none)
 (.ret))
 (.skip))))
 (.region [⟨(some 15), .mov (.t 5), none⟩,
  ⟨(some 16), .bin .add (.t 15) (.c (.int .i64 1)), none⟩,
  ⟨(some 5), .mov (.t 16), none⟩] none))
-- pneumatic/pneumaticref10.SameInts
def ic19 : IC := .seq (.region [⟨(some 4), .mov (.c (.bool false)), none⟩] none)
 (.seq (.seq (.region [⟨(some 6), .mov (.t 0), none⟩,
  ⟨(some 7), .len false (.t 6), none⟩,
  ⟨(some 8), .mov (.t 1), none⟩,
  ⟨(some 9), .len false (.t 8), none⟩,
  ⟨(some 10), .bin .neq (.t 7) (.t 9), none⟩] none)
 (.cond (.t 10) (.seq (.region [⟨(some 4), .mov (.c (.bool false)), none⟩] none)
 (.ret))
 (.skip)))
 (.seq (.seq (.region [⟨(some 5), .mov (.c (.int .i64 0)), none⟩] none)
 (.block 0 (.loop b19_0)))
 (.seq (.region [⟨(some 4), .mov (.c (.bool true)), none⟩] none)
 (.ret))))
theorem fn19 : env0.fn 19 = some ⟨26, ic19, [.t 4]⟩ := by kernel_rfl
set_option maxRecDepth 100000 in
theorem same19 (a : List Int) (ha : a.length ≤ 1000000) : PF Try.prog 19 [vsI a, vsI a] (.bool true) := by
 have hva : (a.map fun z => ([.int .i64 z] : List AV)).length = a.length := List.length_map ..
 refine zbk env0_ok fn19 [(0, vsI a), (1, vsI a)] (by show 2 ≤ 26; decide) rfl fun w0 N0 => ?_
 unfold ic19
 repeat (first | refine za7 ?_ | refine za0 rfl ?_ | refine za5 ?_ | refine za4 ?_ | refine za3 rfl ?_ | refine zct rfl rfl ?_)
 refine zfb rfl rfl (by show some (AV.bool (!(_ == _))) = _; simp) ?_
 repeat (first | refine za7 ?_ | refine za0 rfl ?_ | refine za5 ?_ | refine za4 ?_ | refine zan ?_ | refine zao ?_ | refine zdw rfl ?_ | refine za3 rfl ?_)
 refine zde (fun mm S => ∃ i, mm = a.length - i ∧ i ≤ a.length ∧ S = st 26 [(0, vsI a), (1, vsI a), (5, .int .i64 (i : Nat))] [] 0 0) a.length
  (zaf (.cons rfl (.cons rfl (.cons rfl .nil)))) ⟨0, rfl, Nat.zero_le _, rfl⟩ ?_
 rintro mm S ⟨i, rfl, hi, rfl⟩
 unfold b19_0 vsI
 repeat (first | refine za7 ?_ | refine za0 rfl ?_ | refine za3 rfl ?_ | refine zct rfl rfl ?_)
 refine zax rfl rfl (by show some (AV.bool (decide (((i : Nat) : Int) < ((a.map fun z => ([.int .i64 z] : List AV)).length : Nat)))) = _; rw [hva]) (fun h3 => ?_) fun h3 => ?_
 ·have hlt : i < a.length := Int.ofNat_lt.1 (of_decide_eq_true h3)
  have hg := zjv hlt
  repeat (first | refine za7 ?_ | refine za5 ?_ | refine za4 ?_ | refine zan ?_ | refine zao ?_ | refine zdu rfl ?_ | refine za3 rfl ?_ | refine zal rfl rfl ?_ | refine z_drawn0 env0_ok rfl rfl rfl ?_ | refine ze1 rfl rfl (by omega) (by assumption) rfl ?_)
  refine zfb rfl rfl (by show some (AV.bool (!(a[i] == a[i]))) = _; simp) ?_
  repeat (first | refine za0 rfl ?_ | refine za5 ?_ | refine za4 ?_ | refine zd3 ?_ | refine zao ?_ | refine zdw rfl ?_ | refine za3 rfl ?_ | refine zd7 (op := .add) rfl rfl rfl ?_)
  rw [zbb i (by omega)]
  exact zbe (show a.length - (i + 1) < a.length - i by omega) (zaf (.cons rfl (.cons rfl (.cons rfl .nil)))) ⟨i + 1, rfl, hlt, rfl⟩
 ·repeat (first | refine za5 ?_ | refine za4 ?_ | refine zdw rfl ?_ | refine zdd ?_ | refine zas ?_)
  refine zfu ?_
  repeat (first | refine za7 ?_ | refine za0 rfl ?_ | refine za5 ?_ | refine za4 ?_ | refine zau ?_ | refine zdb ?_ | refine za3 rfl ?_)
  exact zar ⟨.inr rfl, _, rfl, rfl⟩
end Go.Proofs.Ytoagikifehmlpaa
