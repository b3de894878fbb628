/-
  PATHS: Path on both sides.
-/
import Derived.Test.YtoagikifehmlpaaEJ7
import Derived.Test.YtoagikifehmlpaaEJ5
namespace Go.Proofs.Ytoagikifehmlpaa
open Go Go.Am
theorem swE_cast (E : List (Nat × Nat)) : swE (zas E) = zas (rvE E) := by
 unfold swE zas rvE
 rw [List.map_map, List.map_map]
 rfl
def ptN (m : Nat) (E : List (Nat × Nat)) (f t : Nat) : AV := if gI (zet (rvE E) m t m) f < 0 then .tup [.vs [], .int .i64 6] else .tup [vsI (iL (f :: zdl E m (zet (rvE E) m t m) (gI (zet (rvE E) m t m) f).toNat f)), .int .i64 0]
def pthV (n : Int) (es : List (Int × Int)) (f t : Int) : AV := if zgg n es [f, t] = 0 then ptN n.toNat (es.map fun e => (e.1.toNat, e.2.toNat)) f.toNat t.toNat else .tup [.vs [], .int .i64 (zgg n es [f, t])]
theorem zmh {m f t : Nat} {E : List (Nat × Nat)} (h : zgg m (zas E) [(f : Int), (t : Int)] = 0) : pthV m (zas E) f t = ptN m E f t := by
 unfold pthV
 rw [if_pos h, zkk]
 rfl
theorem zgn {n : Int} {es : List (Int × Int)} {f t : Int} (h : zgg n es [f, t] ≠ 0) : pthV n es f t = .tup [.vs [], .int .i64 (zgg n es [f, t])] := if_neg h
-- pneumatic/digraph.Path
def ic27 : IC := .seq (.region [⟨(some 3), .box (.t 0), none⟩,
  ⟨(some 6), .mov (.c (.nils)), none⟩,
  ⟨(some 7), .mov (.c (.int .i64 0)), none⟩] none)
 (.seq (.region [⟨(some 12), .load (some 2) (.t 3), none⟩,
  ⟨(some 13), .mov (.t 1), none⟩,
  ⟨(some 14), .mov (.t 2), none⟩,
  ⟨(some 15), .bslice 1 2 [.int .i64 0, .int .i64 0] [(0, 1, (.t 13)), (1, 1, (.t 14))], none⟩,
  ⟨(some 16), .call (.c (.fn 46 [] [])) [(.t 12), (.t 15)], none⟩,
  ⟨(some 11), .mov (.t 16), none⟩,
  ⟨(some 17), .extract (.t 11) 0, none⟩,
  ⟨(some 18), .extract (.t 11) 1, none⟩,
  ⟨(some 8), .mov (.t 17), none⟩,
  ⟨(some 9), .mov (.t 18), none⟩] none)
 (.seq (.seq (.region [⟨(some 19), .mov (.t 9), none⟩,
  ⟨(some 20), .bin .neq (.t 19) (.c (.int .i64 0)), none⟩] none)
 (.cond (.t 20) (.seq (.region [⟨(some 21), .mov (.t 9), none⟩,
  ⟨(some 6), .mov (.c (.nils)), none⟩,
  ⟨(some 7), .mov (.t 21), none⟩] none)
 (.ret))
 (.skip)))
 (.seq (.region [⟨(some 22), .load (some 2) (.t 3), none⟩,
  ⟨(some 23), .call (.c (.fn 47 [] [])) [(.t 22)], none⟩,
  ⟨(some 24), .call (.c (.fn 45 [] [])) [(.t 23)], none⟩,
  ⟨(some 25), .mov (.t 2), none⟩,
  ⟨(some 26), .call (.c (.fn 48 [] [])) [(.t 24), (.t 25)], none⟩,
  ⟨(some 10), .mov (.t 26), none⟩] none)
 (.seq (.seq (.region [⟨(some 27), .mov (.t 10), none⟩,
  ⟨(some 28), .mov (.t 1), none⟩,
  ⟨(some 29), .idxs 1 (.t 27) (.t 28), none⟩,
  ⟨(some 30), .load none (.t 29), none⟩,
  ⟨(some 31), .bin .lss (.t 30) (.c (.int .i64 0)), none⟩] none)
 (.cond (.t 31) (.seq (.region [⟨(some 6), .mov (.c (.nils)), none⟩,
  ⟨(some 7), .mov (.c (.int .i64 6)), none⟩] none)
 (.ret))
 (.skip)))
 (.seq (.region [⟨(some 32), .mov (.t 8), none⟩,
  ⟨(some 33), .mov (.t 1), none⟩,
  ⟨(some 34), .mov (.t 2), none⟩,
  ⟨(some 35), .mov (.t 10), none⟩,
  ⟨(some 36), .call (.c (.fn 49 [] [])) [(.t 32), (.t 33), (.t 34), (.t 35)], none⟩,
  ⟨(some 6), .mov (.t 36), none⟩,
  ⟨(some 7), .mov (.c (.int .i64 0)), none⟩] none)
 (.ret))))))
theorem fn27 : env0.fn 27 = some ⟨37, ic27, [.t 6, .t 7]⟩ := by kernel_rfl
set_option maxHeartbeats 2000000 in
theorem path27 (n : Int) (es : List (Int × Int)) (hn : zes n es = 0 → n ≤ 12) (f t : Int) : PF Try.prog 27 [cG n es, .int .i64 f, .int .i64 t] (pthV n es f t) := by
 have p46 := given46 n es [f, t] (by simp)
 refine zb1 env0_ok fn27 [(0, .agg [.int .i64 n, .vs (cE es)]), (1, .int .i64 f), (2, .int .i64 t)] (by show 3 ≤ 37; decide) rfl fun w0 N0 => ?_
 unfold ic27
 refine za7 (za0 rfl (zdf rfl rfl (za3 rfl (za3 rfl (za5 (za4 ?_))))))
 refine zbm [] [(0, 0, [.int .i64 n, .vs (cE es)])] [(1, .int .i64 f), (2, .int .i64 t), (3, .vptr [.int .i64 n, .vs (cE es)])] rfl (.cons rfl rfl .nil) .nil (.cons rfl (.same rfl) (.cons rfl (.same rfl) (.cons rfl (.fptr rfl rfl) .nil))) ?_
 repeat (first | refine za7 ?_ | refine za0 rfl ?_ | refine za3 rfl ?_ | refine zan rfl rfl rfl rfl ?_)
 refine o_fsl [[.int .i64 f], [.int .i64 t]] rfl rfl rfl rfl ?_
 refine zax rfl rfl p46 (fun h => Bool.noConfusion (show false = true from h)) ?_
 by_cases hg : zgg n es [f, t] = 0
 ·obtain ⟨hc, hv⟩ := zqu hg
  obtain ⟨f0, f1⟩ := zg6 hv f (by simp)
  obtain ⟨t0, t1⟩ := zg6 hv t (by simp)
  have hn := hn hc
  obtain ⟨m, E, rfl, rfl, hm, _, hE, hb⟩ := zkm hc
  obtain ⟨f, rfl⟩ := Int.eq_ofNat_of_zero_le f0
  obtain ⟨t, rfl⟩ := Int.eq_ofNat_of_zero_le t0
  have f1 : f < m := by omega
  have t1 : t < m := by omega
  rw [zqt hg, zmh hg]
  have p47 := ziu (m : Nat) (zas E) (by unfold zas; rw [List.length_map]; omega)
  rw [swE_cast] at p47
  have p45 := zel m hm (rvE E) (by rw [rvE_len]; omega) (ziw hb)
  have p48 := far48 m (by omega) (rvE E) (ziw hb) t t1
  have hL := zej (es := rvE E) t1 fun u v h => (ziw hb u v h).2
  unfold ptN
  generalize zet (rvE E) m t m = back at *
  have hgf : (back.map fun z => ([.int .i64 z] : List AV))[((f : Nat) : Int).toNat]? = some [.int .i64 (gI back f)] := by rw [zeg (by rw [hL.len]; exact f1), gI_at]
  repeat (first | refine za7 ?_ | refine za0 rfl ?_ | refine za5 ?_ | refine za4 ?_ | refine zai ?_ | refine zcx rfl ?_ | refine za3 rfl ?_ | refine zan rfl rfl rfl rfl ?_ | refine zdj rfl rfl ?_ | refine zfj rfl rfl rfl ?_)
  refine zax rfl rfl p47 (fun h => Bool.noConfusion (show false = true from h)) ?_
  refine zax rfl rfl p45 (fun h => Bool.noConfusion (show false = true from h)) ?_
  repeat (first | refine za3 rfl ?_)
  refine zax rfl rfl p48 (fun h => Bool.noConfusion (show false = true from h)) ?_
  repeat (first | refine za7 ?_ | refine za0 rfl ?_ | refine za5 ?_ | refine za4 ?_ | refine za3 rfl ?_ | refine zad rfl rfl ?_ | refine zbf rfl rfl (by omega) (by assumption) rfl ?_)
  refine zav rfl rfl rfl (fun h => ?_) fun h => ?_
  ·rw [if_pos (of_decide_eq_true h)]
   repeat (first | refine za7 ?_ | refine za0 rfl ?_ | refine za5 ?_ | refine za4 ?_ | refine zd3 rfl ?_ | refine zar ?_ | refine zah ?_ | refine za3 rfl ?_)
   exact zal ⟨.inr rfl, _, rfl, rfl⟩
  ·have h : ¬ gI back f < 0 := of_decide_eq_false h
   rw [if_neg h]
   have p49 := led49 m hm E hb f t f1 t1 back hL (by omega)
   repeat (first | refine za7 ?_ | refine za0 rfl ?_ | refine za5 ?_ | refine za4 ?_ | refine zai ?_ | refine zcx rfl ?_ | refine za3 rfl ?_)
   refine zax rfl rfl p49 (fun h => Bool.noConfusion (show false = true from h)) ?_
   repeat (first | refine za5 ?_ | refine za4 ?_ | refine zar ?_ | refine za3 rfl ?_)
   exact zal ⟨.inr rfl, _, rfl, rfl⟩
 ·rw [zjf hg, zgn hg]
  repeat (first | refine za7 ?_ | refine za0 rfl ?_ | refine za5 ?_ | refine za4 ?_ | refine za3 rfl ?_ | refine zdj rfl rfl ?_)
  refine zav rfl rfl rfl (fun h => ?_) fun h => absurd (by simpa using h) hg
  repeat (first | refine za7 ?_ | refine za0 rfl ?_ | refine za5 ?_ | refine za4 ?_ | refine zd3 rfl ?_ | refine zar ?_ | refine zah ?_ | refine za3 rfl ?_)
  exact zal ⟨.inr rfl, _, rfl, rfl⟩
-- pneumatic/pneumaticref10.Path
def ic28 : IC := .seq (.region [⟨(some 3), .box (.t 0), none⟩,
  ⟨(some 6), .mov (.c (.nils)), none⟩,
  ⟨(some 7), .mov (.c (.int .i64 0)), none⟩] none)
 (.seq (.seq (.region [⟨(some 9), .load (some 2) (.t 3), none⟩,
  ⟨(some 10), .mov (.t 1), none⟩,
  ⟨(some 11), .call (.c (.fn 52 [] [])) [(.t 9), (.t 10)], none⟩,
  ⟨(some 8), .mov (.t 11), none⟩] none)
 (.seq (.region [⟨(some 12), .mov (.t 8), none⟩,
  ⟨(some 13), .bin .neq (.t 12) (.c (.int .i64 0)), none⟩] none)
 (.cond (.t 13) (.seq (.region [⟨(some 14), .mov (.t 8), none⟩,
  ⟨(some 6), .mov (.c (.nils)), none⟩,
  ⟨(some 7), .mov (.t 14), none⟩] none)
 (.ret))
 (.skip))))
 (.seq (.seq (.region [⟨(some 15), .load (some 2) (.t 3), none⟩,
  ⟨(some 16), .mov (.t 2), none⟩,
  ⟨(some 17), .call (.c (.fn 53 [] [])) [(.t 15), (.t 16)], none⟩,
  ⟨(some 18), .un .not (.t 17), none⟩] none)
 (.cond (.t 18) (.seq (.region [⟨(some 6), .mov (.c (.nils)), none⟩,
  ⟨(some 7), .mov (.c (.int .i64 2)), none⟩] none)
 (.ret))
 (.skip)))
 (.seq (.seq (.region [⟨(some 19), .load (some 2) (.t 3), none⟩,
  ⟨(some 20), .mov (.t 1), none⟩,
  ⟨(some 21), .call (.c (.fn 54 [] [])) [(.t 19), (.t 20)], none⟩,
  ⟨(some 22), .mov (.t 2), none⟩,
  ⟨(some 23), .idxs 1 (.t 21) (.t 22), none⟩,
  ⟨(some 24), .load none (.t 23), none⟩,
  ⟨(some 25), .bin .lss (.t 24) (.c (.int .i64 0)), none⟩] none)
 (.cond (.t 25) (.seq (.region [⟨(some 6), .mov (.c (.nils)), none⟩,
  ⟨(some 7), .mov (.c (.int .i64 6)), none⟩] none)
 (.ret))
 (.skip)))
 (.seq (.region [⟨(some 26), .load (some 2) (.t 3), none⟩,
  ⟨(some 27), .mov (.t 1), none⟩,
  ⟨(some 28), .mov (.t 2), none⟩,
  ⟨(some 29), .call (.c (.fn 55 [] [])) [(.t 26), (.t 27), (.t 28)], none⟩,
  ⟨(some 6), .mov (.t 29), none⟩,
  ⟨(some 7), .mov (.c (.int .i64 0)), none⟩] none)
 (.ret)))))
theorem fn28 : env0.fn 28 = some ⟨30, ic28, [.t 6, .t 7]⟩ := by kernel_rfl
theorem giv_two (n : Int) (es : List (Int × Int)) (f t : Int) : zgg n es [f, t] = if zgg n es [f] = 0 then (if zeh n t = true then 2 else 0) else zgg n es [f] := by
 unfold zgg
 by_cases hc : zes n es = 0
 ·rw [if_pos hc, if_pos hc]
  unfold zgs
  rw [List.any_cons, List.any_cons, List.any_cons, List.any_nil, Bool.or_false, Bool.or_false]
  cases zeh n f <;> cases zeh n t <;> rfl
 ·rw [if_neg hc, if_neg hc, if_neg hc]
set_option maxHeartbeats 2000000 in
theorem path28 (n : Int) (es : List (Int × Int)) (f t : Int) : PF Try.prog 28 [cG n es, .int .i64 f, .int .i64 t] (pthV n es f t) := by
 have p52 := given52 n es f
 have p53 := zgt n es t
 have h2 := giv_two n es f t
 refine zb1 env0_ok fn28 [(0, .agg [.int .i64 n, .vs (cE es)]), (1, .int .i64 f), (2, .int .i64 t)] (by show 3 ≤ 30; decide) rfl fun w0 N0 => ?_
 unfold ic28
 refine za7 (za0 rfl (zdf rfl rfl (za3 rfl (za3 rfl (za5 (za4 ?_))))))
 refine zbm [] [(0, 0, [.int .i64 n, .vs (cE es)])] [(1, .int .i64 f), (2, .int .i64 t), (3, .vptr [.int .i64 n, .vs (cE es)])] rfl (.cons rfl rfl .nil) .nil (.cons rfl (.same rfl) (.cons rfl (.same rfl) (.cons rfl (.fptr rfl rfl) .nil))) ?_
 repeat (first | refine za7 ?_ | refine za0 rfl ?_ | refine za3 rfl ?_ | refine zan rfl rfl rfl rfl ?_)
 refine zax rfl rfl p52 (fun h => Bool.noConfusion (show false = true from h)) ?_
 repeat (first | refine za7 ?_ | refine za0 rfl ?_ | refine za5 ?_ | refine za4 ?_ | refine za3 rfl ?_)
 by_cases hg1 : zgg n es [f] = 0
 ·rw [if_pos hg1] at h2
  rw [hg1]
  repeat (first | refine za7 ?_ | refine za0 rfl ?_ | refine za5 ?_ | refine za4 ?_ | refine zai ?_ | refine zcx rfl ?_ | refine za3 rfl ?_ | refine zan rfl rfl rfl rfl ?_ | refine zfj rfl rfl rfl ?_)
  refine zax rfl rfl p53 (fun h => Bool.noConfusion (show false = true from h)) ?_
  cases hbt : zeh n t with
  | true =>
   rw [hbt, if_pos rfl] at h2
   rw [zgn (by rw [h2]; decide), h2]
   repeat (first | refine za7 ?_ | refine za0 rfl ?_ | refine za5 ?_ | refine za4 ?_ | refine zd3 rfl ?_ | refine zar ?_ | refine zah ?_ | refine za3 rfl ?_ | refine o_un rfl rfl ?_)
   exact zal ⟨.inr rfl, _, rfl, rfl⟩
  | false =>
  rw [hbt, if_neg Bool.false_ne_true] at h2
  obtain ⟨hc, hv⟩ := zqu h2
  obtain ⟨f0, f1⟩ := zg6 hv f (by simp)
  obtain ⟨t0, t1⟩ := zg6 hv t (by simp)
  obtain ⟨m, E, rfl, rfl, hm, _, hE, hb⟩ := zkm hc
  obtain ⟨f, rfl⟩ := Int.eq_ofNat_of_zero_le f0
  obtain ⟨t, rfl⟩ := Int.eq_ofNat_of_zero_le t0
  have f1 : f < m := by omega
  have t1 : t < m := by omega
  rw [zmh h2]
  have p54 := far54 m hm E (by omega) hb f f1
  have hR : ∀ v, v < m → gI (zet E m v m) t = gI (zet (rvE E) m t m) v := fun v hv => (far_rev hb t1 hv).symm
  have hL := zej (es := rvE E) t1 fun u v h => (ziw hb u v h).2
  have hlf := zfe E m f m
  have p55 := way55 m hm E (by omega) hb f t f1 t1 _ hL
  unfold ptN
  generalize zet (rvE E) m t m = back at *
  have hRf := hR f f1
  generalize zet E m f m = of at *
  have hgf : (of.map fun z => ([.int .i64 z] : List AV))[((t : Nat) : Int).toNat]? = some [.int .i64 (gI back f)] := by rw [zeg (by rw [hlf]; exact t1), gI_at, hRf]
  repeat (first | refine za7 ?_ | refine za0 rfl ?_ | refine za5 ?_ | refine za4 ?_ | refine zai ?_ | refine zcx rfl ?_ | refine za3 rfl ?_ | refine zan rfl rfl rfl rfl ?_ | refine o_un rfl rfl ?_)
  refine zax rfl rfl p54 (fun h => Bool.noConfusion (show false = true from h)) ?_
  repeat (first | refine za3 rfl ?_ | refine zad rfl rfl ?_ | refine zbf rfl rfl (by omega) (by assumption) rfl ?_)
  refine zav rfl rfl rfl (fun h => ?_) fun h => ?_
  ·rw [if_pos (of_decide_eq_true h)]
   repeat (first | refine za7 ?_ | refine za0 rfl ?_ | refine za5 ?_ | refine za4 ?_ | refine zd3 rfl ?_ | refine zar ?_ | refine zah ?_ | refine za3 rfl ?_)
   exact zal ⟨.inr rfl, _, rfl, rfl⟩
  ·have h : ¬ gI back f < 0 := of_decide_eq_false h
   rw [if_neg h]
   have p55 := p55 (by omega) hR
   repeat (first | refine za7 ?_ | refine za0 rfl ?_ | refine za5 ?_ | refine za4 ?_ | refine zai ?_ | refine zcx rfl ?_ | refine za3 rfl ?_ | refine zan rfl rfl rfl rfl ?_)
   refine zax rfl rfl p55 (fun h => Bool.noConfusion (show false = true from h)) ?_
   repeat (first | refine za5 ?_ | refine za4 ?_ | refine zar ?_ | refine za3 rfl ?_)
   exact zal ⟨.inr rfl, _, rfl, rfl⟩
 ·rw [if_neg hg1] at h2
  rw [zgn (by rw [h2]; exact hg1), h2]
  refine zav rfl rfl rfl (fun h => ?_) fun h => absurd (by simpa using h) hg1
  repeat (first | refine za7 ?_ | refine za0 rfl ?_ | refine za5 ?_ | refine za4 ?_ | refine zd3 rfl ?_ | refine zar ?_ | refine zah ?_ | refine za3 rfl ?_)
  exact zal ⟨.inr rfl, _, rfl, rfl⟩
end Go.Proofs.Ytoagikifehmlpaa
