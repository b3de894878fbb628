/-
  PATHS: Path on both sides.
-/
import Derived.Test.YtoagikifehmlpaaQJ6
import Derived.Test.YtoagikifehmlpaaQJ2
import Derived.Test.YtoagikifehmlpaaQG2
import Derived.Test.YtoagikifehmlpaaQJ3
namespace Go.Proofs.Ytoagikifehmlpaa
open Go Go.Am
theorem zox (E : List (Nat × Nat)) : swE (zal E) = zal (rvE E) := by
 unfold swE zal rvE
 rw [List.map_map, List.map_map]
 rfl
def ptN (m : Nat) (E : List (Nat × Nat)) (f t : Nat) : AV := if gI (zcx (rvE E) m t m) f < 0 then .tup [.vs [], .int .i64 6] else .tup [vsI (iL (f :: zcm E m (zcx (rvE E) m t m) (gI (zcx (rvE E) m t m) f).toNat f)), .int .i64 0]
def pthV (n : Int) (es : List (Int × Int)) (f t : Int) : AV := if zel n es [f, t] = 0 then ptN n.toNat (es.map fun e => (e.1.toNat, e.2.toNat)) f.toNat t.toNat else .tup [.vs [], .int .i64 (zel n es [f, t])]
theorem zst {m f t : Nat} {E : List (Nat × Nat)} (h : zel m (zal E) [(f : Int), (t : Int)] = 0) : pthV m (zal E) f t = ptN m E f t := by
 unfold pthV
 rw [if_pos h, zdp]
 rfl
theorem pthV_err {n : Int} {es : List (Int × Int)} {f t : Int} (h : zel n es [f, t] ≠ 0) : pthV n es f t = .tup [.vs [], .int .i64 (zel n es [f, t])] := if_neg h
-- pneumatic/digraph.Path
def ic27 : IC := .seq (.region [⟨(some 3), .box (.t 0), none⟩,
  ⟨(some 6), .mov (.c (.nils)), none⟩,
  ⟨(some 7), .mov (.c (.int .i64 0)), none⟩] none)
 (.seq (.region [⟨(some 12), .load (some 2) (.t 3), none⟩,
  ⟨(some 13), .mov (.t 1), none⟩,
  ⟨(some 14), .mov (.t 2), none⟩,
  ⟨(some 15), .bslice 1 2 [.int .i64 0, .int .i64 0] [(0, 1, (.t 13)), (1, 1, (.t 14))], none⟩,
  ⟨(some 16), .call (.c (.fn 46 [] [])) [(.t 12), (.t 15)], none⟩,
  ⟨(some 11), .mov (.t 16), none⟩,
  ⟨(some 17), .extract (.t 11) 0, none⟩,
  ⟨(some 18), .extract (.t 11) 1, none⟩,
  ⟨(some 8), .mov (.t 17), none⟩,
  ⟨(some 9), .mov (.t 18), none⟩] none)
 (.seq (.seq (.region [⟨(some 19), .mov (.t 9), none⟩,
  ⟨(some 20), .bin .neq (.t 19) (.c (.int .i64 0)), none⟩] none)
 (.cond (.t 20) (.seq (.region [⟨(some 21), .mov (.t 9), none⟩,
  ⟨(some 6), .mov (.c (.nils)), none⟩,
  ⟨(some 7), .mov (.t 21), none⟩] none)
 (.ret))
 (.skip)))
 (.seq (.region [⟨(some 22), .load (some 2) (.t 3), none⟩,
  ⟨(some 23), .call (.c (.fn 47 [] [])) [(.t 22)], none⟩,
  ⟨(some 24), .call (.c (.fn 45 [] [])) [(.t 23)], none⟩,
  ⟨(some 25), .mov (.t 2), none⟩,
  ⟨(some 26), .call (.c (.fn 48 [] [])) [(.t 24), (.t 25)], none⟩,
  ⟨(some 10), .mov (.t 26), none⟩] none)
 (.seq (.seq (.region [⟨(some 27), .mov (.t 10), none⟩,
  ⟨(some 28), .mov (.t 1), none⟩,
  ⟨(some 29), .idxs 1 (.t 27) (.t 28), none⟩,
  ⟨(some 30), .load none (.t 29), none⟩,
  ⟨(some 31), .bin .lss (.t 30) (.c (.int .i64 0)), none⟩] none)
 (.cond (.t 31) (.seq (.region [⟨(some 6), .mov (.c (.nils)), none⟩,
  ⟨(some 7), .mov (.c (.int .i64 6)), none⟩] none)
 (.ret))
 (.skip)))
 (.seq (.region [⟨(some 32), .mov (.t 8), none⟩,
  ⟨(some 33), .mov (.t 1), none⟩,
  ⟨(some 34), .mov (.t 2), none⟩,
  ⟨(some 35), .mov (.t 10), none⟩,
  ⟨(some 36), .call (.c (.fn 49 [] [])) [(.t 32), (.t 33), (.t 34), (.t 35)], none⟩,
  ⟨(some 6), .mov (.t 36), none⟩,
  ⟨(some 7), .mov (.c (.int .i64 0)), none⟩] none)
 (.ret))))))
theorem fn27 : env0.fn 27 = some ⟨37, ic27, [.t 6, .t 7]⟩ := by kernel_rfl
set_option maxHeartbeats 2000000 in
theorem path27 (n : Int) (es : List (Int × Int)) (hn : zdx n es = 0 → n ≤ 12) (f t : Int) : PF Try.prog 27 [cG n es, .int .i64 f, .int .i64 t] (pthV n es f t) := by
 have p46 := zhu n es [f, t] (by simp)
 refine zb4 env0_ok fn27 [(0, .agg [.int .i64 n, .vs (cE es)]), (1, .int .i64 f), (2, .int .i64 t)] (by show 3 ≤ 37; decide) rfl fun w0 N0 => ?_
 unfold ic27
 refine za6 (za0 rfl (ze8 rfl rfl (za2 rfl (za2 rfl (za5 (za3 ?_))))))
 refine zby [] [(0, 0, [.int .i64 n, .vs (cE es)])] [(1, .int .i64 f), (2, .int .i64 t), (3, .vptr [.int .i64 n, .vs (cE es)])] rfl (.cons rfl rfl .nil) .nil (.cons rfl (.same rfl) (.cons rfl (.same rfl) (.cons rfl (.fptr rfl rfl) .nil))) ?_
 repeat (first | refine za6 ?_ | refine za0 rfl ?_ | refine za2 rfl ?_ | refine zax rfl rfl rfl rfl ?_)
 refine o_fsl [[.int .i64 f], [.int .i64 t]] rfl rfl rfl rfl ?_
 refine zak rfl rfl p46 (fun h => Bool.noConfusion (show false = true from h)) ?_
 by_cases hg : zel n es [f, t] = 0
 ·obtain ⟨hc, hv⟩ := zru hg
  obtain ⟨f0, f1⟩ := zkl hv f (by simp)
  obtain ⟨t0, t1⟩ := zkl hv t (by simp)
  have hn := hn hc
  obtain ⟨m, E, rfl, rfl, hm, _, hE, hb⟩ := zhe hc
  obtain ⟨f, rfl⟩ := Int.eq_ofNat_of_zero_le f0
  obtain ⟨t, rfl⟩ := Int.eq_ofNat_of_zero_le t0
  have f1 : f < m := by omega
  have t1 : t < m := by omega
  rw [zg4 hg, zst hg]
  have p47 := zj9 (m : Nat) (zal E) (by unfold zal; rw [List.length_map]; omega)
  rw [zox] at p47
  have p45 := ze3 m hm (rvE E) (by rw [ztc]; omega) (zfu hb)
  have p48 := far48 m (by omega) (rvE E) (zfu hb) t t1
  have hL := zd4 (es := rvE E) t1 fun u v h => (zfu hb u v h).2
  unfold ptN
  generalize zcx (rvE E) m t m = back at *
  have hgf : (back.map fun z => ([.int .i64 z] : List AV))[((f : Nat) : Int).toNat]? = some [.int .i64 (gI back f)] := by rw [zdn (by rw [hL.len]; exact f1), zrq]
  repeat (first | refine za6 ?_ | refine za0 rfl ?_ | refine za5 ?_ | refine za3 ?_ | refine zad ?_ | refine zce rfl ?_ | refine za2 rfl ?_ | refine zax rfl rfl rfl rfl ?_ | refine zav rfl rfl ?_ | refine zc0 rfl rfl rfl ?_)
  refine zak rfl rfl p47 (fun h => Bool.noConfusion (show false = true from h)) ?_
  refine zak rfl rfl p45 (fun h => Bool.noConfusion (show false = true from h)) ?_
  repeat (first | refine za2 rfl ?_)
  refine zak rfl rfl p48 (fun h => Bool.noConfusion (show false = true from h)) ?_
  repeat (first | refine za6 ?_ | refine za0 rfl ?_ | refine za5 ?_ | refine za3 ?_ | refine za2 rfl ?_ | refine zaf rfl rfl ?_ | refine zaw rfl rfl (by omega) (by assumption) rfl ?_)
  refine zau rfl rfl rfl (fun h => ?_) fun h => ?_
  ·rw [if_pos (of_decide_eq_true h)]
   repeat (first | refine za6 ?_ | refine za0 rfl ?_ | refine za5 ?_ | refine za3 ?_ | refine zcp rfl ?_ | refine zaq ?_ | refine zac ?_ | refine za2 rfl ?_)
   exact zao ⟨.inr rfl, _, rfl, rfl⟩
  ·have h : ¬ gI back f < 0 := of_decide_eq_false h
   rw [if_neg h]
   have p49 := led49 m hm E hb f t f1 t1 back hL (by omega)
   repeat (first | refine za6 ?_ | refine za0 rfl ?_ | refine za5 ?_ | refine za3 ?_ | refine zad ?_ | refine zce rfl ?_ | refine za2 rfl ?_)
   refine zak rfl rfl p49 (fun h => Bool.noConfusion (show false = true from h)) ?_
   repeat (first | refine za5 ?_ | refine za3 ?_ | refine zaq ?_ | refine za2 rfl ?_)
   exact zao ⟨.inr rfl, _, rfl, rfl⟩
 ·rw [ze0 hg, pthV_err hg]
  repeat (first | refine za6 ?_ | refine za0 rfl ?_ | refine za5 ?_ | refine za3 ?_ | refine za2 rfl ?_ | refine zav rfl rfl ?_)
  refine zau rfl rfl rfl (fun h => ?_) fun h => absurd (by simpa using h) hg
  repeat (first | refine za6 ?_ | refine za0 rfl ?_ | refine za5 ?_ | refine za3 ?_ | refine zcp rfl ?_ | refine zaq ?_ | refine zac ?_ | refine za2 rfl ?_)
  exact zao ⟨.inr rfl, _, rfl, rfl⟩
end Go.Proofs.Ytoagikifehmlpaa
