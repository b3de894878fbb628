/-
  THE LAW's CALLEES: Reach, SameInts.
-/
import Derived.Test.YtoagikifehmlpaaQG1
namespace Go.Proofs.Ytoagikifehmlpaa
open Go Go.Am
def zm0 (o : List Int) (i : Nat) : List Int := ((List.range i).filter fun v => decide (gI o v ≥ 0)).map fun v => ((v : Nat) : Int)
theorem zsz (o : List Int) (i : Nat) : zm0 o (i + 1) = if gI o i ≥ 0 then zm0 o i ++ [((i : Nat) : Int)] else zm0 o i := by
 unfold zm0
 rw [List.range_succ, List.filter_append, List.map_append, List.filter_cons]
 by_cases h : gI o i ≥ 0
 ·rw [if_pos (decide_eq_true h), if_pos h]
  rfl
 ·rw [if_neg (by rw [decide_eq_true_eq]; exact h), if_neg h, List.filter_nil, List.map_nil, List.append_nil]
theorem zon (o : List Int) (i : Nat) : (zm0 o i).length ≤ i := by
 unfold zm0
 rw [List.length_map]
 exact Nat.le_trans (List.length_filter_le ..) (by rw [List.length_range]; exact Nat.le_refl _)
def rchV (n : Int) (es : List (Int × Int)) (v : Int) : AV := if zel n es [v] = 0 then .tup [vsI (zm0 (zcx (es.map fun e => (e.1.toNat, e.2.toNat)) n.toNat v.toNat n.toNat) n.toNat), .int .i64 0] else .tup [.vs [], .int .i64 (zel n es [v])]
theorem zt0 {m f : Nat} {E : List (Nat × Nat)} (h : zel m (zal E) [(f : Int)] = 0) : rchV m (zal E) f = .tup [vsI (zm0 (zcx E m f m) m), .int .i64 0] := by
 unfold rchV
 rw [if_pos h, zdp]
 rfl
theorem rchV_err {n : Int} {es : List (Int × Int)} {v : Int} (h : zel n es [v] ≠ 0) : rchV n es v = .tup [.vs [], .int .i64 (zel n es [v])] := if_neg h
theorem zrq {o : List Int} {i : Nat} (h : i < o.length) : o[i] = gI o i := by
 unfold gI
 rw [List.getD_eq_getElem?_getD, List.getElem?_eq_getElem h]
 rfl
def b31_0 : IC := .seq (.region [⟨(some 26), .bin .lss (.t 25) (.t 24), none⟩] none)
 (.seq (.cond (.t 26) (.skip)
 (.exit 0))
 (.seq (.block 1 (.seq (.region [⟨(some 27), .mov (.t 25), none⟩,
  ⟨(some 28), .idxs 1 (.t 23) (.t 25), none⟩,
  ⟨(some 29), .load none (.t 28), none⟩,
  ⟨(some 9), .mov (.t 27), none⟩,
  ⟨(some 10), .mov (.t 29), none⟩] none)
 (.seq (.region [⟨(some 30), .mov (.t 10), none⟩,
  ⟨(some 31), .bin .geq (.t 30) (.c (.int .i64 0)), none⟩] none)
 (.cond (.t 31) (.region [⟨(some 32), .mov (.t 8), none⟩,
  ⟨(some 33), .mov (.t 9), none⟩,
  ⟨(some 34), .bslice 1 1 [.int .i64 0] [(0, 1, (.t 33))], none⟩,
  ⟨(some 35), .append 1 8 [.int .i64 0] (.t 32) (.t 34), none⟩,
  ⟨(some 8), .mov (.t 35), none⟩] none)
 (.skip)))))
 (.region [⟨(some 36), .bin .add (.t 25) (.c (.int .i64 1)), none⟩,
  ⟨(some 25), .mov (.t 36), none⟩] none)))
-- pneumatic/digraph.Reach
def ic31 : IC := .seq (.region [⟨(some 2), .box (.t 0), none⟩,
  ⟨(some 4), .mov (.c (.nils)), none⟩,
  ⟨(some 5), .mov (.c (.int .i64 0)), none⟩] none)
 (.seq (.region [⟨(some 12), .load (some 2) (.t 2), none⟩,
  ⟨(some 13), .mov (.t 1), none⟩,
  ⟨(some 14), .bslice 1 1 [.int .i64 0] [(0, 1, (.t 13))], none⟩,
  ⟨(some 15), .call (.c (.fn 46 [] [])) [(.t 12), (.t 14)], none⟩,
  ⟨(some 11), .mov (.t 15), none⟩,
  ⟨(some 16), .extract (.t 11) 0, none⟩,
  ⟨(some 17), .extract (.t 11) 1, none⟩,
  ⟨(some 6), .mov (.t 16), none⟩,
  ⟨(some 7), .mov (.t 17), none⟩] none)
 (.seq (.seq (.region [⟨(some 18), .mov (.t 7), none⟩,
  ⟨(some 19), .bin .neq (.t 18) (.c (.int .i64 0)), none⟩] none)
 (.cond (.t 19) (.seq (.region [⟨(some 20), .mov (.t 7), none⟩,
  ⟨(some 4), .mov (.c (.nils)), none⟩,
  ⟨(some 5), .mov (.t 20), none⟩] none)
 (.ret))
 (.skip)))
 (.seq (.region [⟨(some 8), .mov (.c (.nils)), none⟩] none)
 (.seq (.seq (.region [⟨(some 21), .mov (.t 6), none⟩,
  ⟨(some 22), .mov (.t 1), none⟩,
  ⟨(some 23), .call (.c (.fn 48 [] [])) [(.t 21), (.t 22)], none⟩,
  ⟨(some 24), .len false (.t 23), none⟩,
  ⟨(some 25), .mov (.c (.int .i64 0)), none⟩] none)
 (.block 0 (.loop b31_0)))
 (.seq (.region [⟨(some 37), .mov (.t 8), none⟩,
  ⟨(some 4), .mov (.t 37), none⟩,
  ⟨(some 5), .mov (.c (.int .i64 0)), none⟩] none)
 (.ret))))))
theorem fn31 : env0.fn 31 = some ⟨38, ic31, [.t 4, .t 5]⟩ := by kernel_rfl
set_option maxHeartbeats 2000000 in
theorem reach31 (n : Int) (es : List (Int × Int)) (hn : zdx n es = 0 → n ≤ 12) (v : Int) : PF Try.prog 31 [cG n es, .int .i64 v] (rchV n es v) := by
 have p46 := zhu n es [v] (by simp)
 refine zb4 env0_ok fn31 [(0, .agg [.int .i64 n, .vs (cE es)]), (1, .int .i64 v)] (by show 2 ≤ 38; decide) rfl fun w0 N0 => ?_
 unfold ic31
 refine za6 (za0 rfl (ze8 rfl rfl (za2 rfl (za2 rfl (za5 (za3 ?_))))))
 refine zby [] [(0, 0, [.int .i64 n, .vs (cE es)])] [(1, .int .i64 v), (2, .vptr [.int .i64 n, .vs (cE es)])] rfl (.cons rfl rfl .nil) .nil (.cons rfl (.same rfl) (.cons rfl (.fptr rfl rfl) .nil)) ?_
 repeat (first | refine za6 ?_ | refine za0 rfl ?_ | refine za2 rfl ?_ | refine zax rfl rfl rfl rfl ?_)
 refine o_fsl [[.int .i64 v]] rfl rfl rfl rfl ?_
 refine zak rfl rfl p46 (fun h => Bool.noConfusion (show false = true from h)) ?_
 by_cases hg : zel n es [v] = 0
 ·obtain ⟨hc, hv⟩ := zru hg
  obtain ⟨v0, v1⟩ := zkl hv v (by simp)
  have hn := hn hc
  obtain ⟨m, E, rfl, rfl, hm, _, hE, hb⟩ := zhe hc
  obtain ⟨f, rfl⟩ := Int.eq_ofNat_of_zero_le v0
  rw [zg4 hg, zt0 hg]
  have p48 := far48 m (by omega) E hb f (by omega)
  have hol := farR_len E m f m
  generalize zcx E m f m = o at *
  have hol2 : (o.map fun z => ([.int .i64 z] : List AV)).length = m := by rw [List.length_map]; exact hol
  repeat (first | refine za6 ?_ | refine za0 rfl ?_ | refine za5 ?_ | refine za3 ?_ | refine zad ?_ | refine zce rfl ?_ | refine za2 rfl ?_ | refine zav rfl rfl ?_ | refine zc0 rfl rfl rfl ?_)
  refine zak rfl rfl p48 (fun h => Bool.noConfusion (show false = true from h)) ?_
  repeat (first | refine za5 ?_ | refine za3 ?_ | refine zae ?_ | refine za2 rfl ?_ | refine zbf rfl rfl ?_)
  refine z_grow 8 1 rfl ?_
  refine zbx (fun mm S => ∃ i, mm = m - i ∧ i ≤ m ∧ S = st 38 [(8, .ms 0 0 1 0 (zm0 o i).length none), (23, vsI o), (24, .int .i64 (m : Nat)), (25, .int .i64 (i : Nat))] [(0, 0, .cells ((zm0 o i).map (AV.int .i64)))] 1 1) m
   (zh2 [(some (0, 1), [])] [] rfl rfl rfl .nil (.cons rfl .nil .nil) (l' := [(8, .ms 0 0 1 0 0 none), (23, vsI o), (24, .int .i64 ((o.map fun z => ([.int .i64 z] : List AV)).length : Nat)), (25, .int .i64 ((0 : Nat) : Int))]) (.cons rfl (.ms rfl) (.cons rfl (.same rfl) (.cons rfl (.same rfl) (.cons rfl (.same rfl) .nil))))) ⟨0, rfl, Nat.zero_le _, by rw [hol2]; rfl⟩ ?_
  rintro mm S ⟨i, rfl, hi, rfl⟩
  have hsl := zon o i
  have hss := zsz o i
  unfold b31_0
  repeat (first | refine za6 ?_ | refine za0 rfl ?_)
  refine zau rfl rfl rfl (fun h3 => ?_) fun h3 => ?_
  ·have hlt : i < m := Int.ofNat_lt.1 (of_decide_eq_true h3)
   have w1 : IntKind.wrap .i64 (((i : Nat) : Int) + 1) = ((i + 1 : Nat) : Int) := zar i (by omega)
   have hgt : (o.map fun z => ([.int .i64 z] : List AV))[((i : Nat) : Int).toNat]? = some [.int .i64 (gI o i)] := by
    rw [zdn (by omega), zrq]
   repeat (first | refine za6 ?_ | refine za0 rfl ?_ | refine za5 ?_ | refine za3 ?_ | refine zae ?_ | refine zad ?_ | refine zcp rfl ?_ | refine za2 rfl ?_ | refine zaf rfl rfl ?_ | refine zaw rfl rfl (by omega) (by assumption) rfl ?_)
   refine zau rfl rfl rfl (fun h => ?_) fun h => ?_
   ·have h : gI o i ≥ 0 := of_decide_eq_true h
    rw [if_pos h] at hss
    repeat (first | refine za0 rfl ?_ | refine za5 ?_ | refine za3 ?_ | refine zcp rfl ?_ | refine za2 rfl ?_ | refine zcl rfl rfl ?_)
    refine ze7 [[.int .i64 (i : Nat)]] rfl rfl (zdc (ys := []) zb5 rfl (fun x hx => by obtain rfl := List.mem_singleton.1 hx; rfl)) (fun h => Nat.noConfusion h) rfl (by decide) (by (repeat (first | rw [za8, if_pos rfl] | rw [za8, if_neg (by omega)])); try rfl) (by rw [List.length_map, Nat.mul_one]) (by show _ + 1 ≤ _; omega) ?_
    repeat (first | refine za0 rfl ?_ | refine za5 ?_ | refine za3 ?_ | refine zcb ?_ | refine za2 rfl ?_ | refine zbe (op := .add) rfl rfl rfl ?_)
    rw [w1]
    exact zay (show m - (i + 1) < m - i by omega) (zh2 [(some (0, 2), (zm0 o i ++ [((i : Nat) : Int)]).map (AV.int .i64))] [] rfl rfl rfl .nil (.cons (by rw [za7, if_pos rfl]; rw [List.map_append]; rfl) (.keep (zg6 _)) .nil) (l' := [(8, .ms 0 0 1 0 ((zm0 o i).length + 1) none), (23, vsI o), (24, .int .i64 (m : Nat)), (25, .int .i64 ((i + 1 : Nat) : Int))]) (.cons rfl (.ms rfl) (.cons rfl (.same rfl) (.cons rfl (.same rfl) (.cons rfl (.same rfl) .nil))))) ⟨i + 1, rfl, hlt, by rw [hss, List.length_append]; rfl⟩
   ·have h : ¬ gI o i ≥ 0 := of_decide_eq_false h
    rw [if_neg h] at hss
    repeat (first | refine za0 rfl ?_ | refine za5 ?_ | refine za3 ?_ | refine zcb ?_ | refine zad ?_ | refine zce rfl ?_ | refine za2 rfl ?_ | refine zbe (op := .add) rfl rfl rfl ?_)
    rw [w1]
    exact zay (show m - (i + 1) < m - i by omega) (za9 (.cons rfl (.cons rfl (.cons rfl (.cons rfl .nil))))) ⟨i + 1, rfl, hlt, by rw [hss]⟩
  ·have hi2 : i = m := by
    have : ¬ i < m := fun h => of_decide_eq_false h3 (Int.ofNat_lt.2 h)
    omega
   subst hi2
   repeat (first | refine za6 ?_ | refine za5 ?_ | refine za3 ?_ | refine zce rfl ?_ | refine zbw ?_ | refine zag ?_)
   refine zdb ?_
   repeat (first | refine za6 ?_ | refine za0 rfl ?_ | refine za5 ?_ | refine za3 ?_ | refine zaq ?_ | refine zbv ?_ | refine za2 rfl ?_)
   refine zao ⟨.inr rfl, _, rfl, ?_⟩
   exact congrArg AV.tup (zgb (zco (d := 2) (sp := 0) _ rfl rfl) rfl)
 ·rw [ze0 hg, rchV_err hg]
  repeat (first | refine za6 ?_ | refine za0 rfl ?_ | refine za5 ?_ | refine za3 ?_ | refine za2 rfl ?_ | refine zav rfl rfl ?_)
  refine zau rfl rfl rfl (fun h => ?_) fun h => absurd (by simpa using h) hg
  repeat (first | refine za6 ?_ | refine za0 rfl ?_ | refine za5 ?_ | refine za3 ?_ | refine zcp rfl ?_ | refine zaq ?_ | refine zac ?_ | refine za2 rfl ?_)
  exact zao ⟨.inr rfl, _, rfl, rfl⟩
end Go.Proofs.Ytoagikifehmlpaa
