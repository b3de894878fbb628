/-
  THE ORDER: Order and Layers walked.
-/
import Derived.Test.YtoagikifehmlpaaFK2
import Derived.Test.YtoagikifehmlpaaFG1
namespace Go.Proofs.Ytoagikifehmlpaa
open Go Go.Am
def ordN (m : Nat) (E : List (Nat × Nat)) : AV := match zgr E m m [] with
 | some l => .tup [vsI (iL l), .int .i64 0]
 | none => .tup [.vs [], .int .i64 20]
def ordV (n : Int) (es : List (Int × Int)) : AV := if zd7 n es = 0 then ordN n.toNat (es.map fun e => (e.1.toNat, e.2.toNat)) else .tup [.vs [], .int .i64 (zd7 n es)]
theorem zne {m : Nat} {E : List (Nat × Nat)} (h : zd7 m (zai E) = 0) : ordV m (zai E) = ordN m E := by
 unfold ordV
 rw [if_pos h, zfp]
 rfl
theorem zke {n : Int} {es : List (Int × Int)} (h : zd7 n es ≠ 0) : ordV n es = .tup [.vs [], .int .i64 (zd7 n es)] := if_neg h
def layN (m : Nat) (E : List (Nat × Nat)) : AV := match zgr E m m [] with
 | some l => .tup [vsI (zsn E m l), .int .i64 0]
 | none => .tup [.vs [], .int .i64 20]
def layV (n : Int) (es : List (Int × Int)) : AV := if zd7 n es = 0 then layN n.toNat (es.map fun e => (e.1.toNat, e.2.toNat)) else .tup [.vs [], .int .i64 (zd7 n es)]
theorem zn6 {m : Nat} {E : List (Nat × Nat)} (h : zd7 m (zai E) = 0) : layV m (zai E) = layN m E := by
 unfold layV
 rw [if_pos h, zfp]
 rfl
theorem zk4 {n : Int} {es : List (Int × Int)} (h : zd7 n es ≠ 0) : layV n es = .tup [.vs [], .int .i64 (zd7 n es)] := if_neg h
theorem ze1 (n : Int) (es : List (Int × Int)) : zqd n es [] = zd7 n es := by
 unfold zqd
 split
 ·rename_i h
  rw [h]
  rfl
 ·rfl
-- pneumatic/digraph.Order
def ic23 : IC := .seq (.region [⟨(some 1), .box (.t 0), none⟩,
  ⟨(some 2), .mov (.c (.nils)), none⟩,
  ⟨(some 3), .mov (.c (.int .i64 0)), none⟩] none)
 (.seq (.region [⟨(some 9), .load (some 2) (.t 1), none⟩,
  ⟨(some 10), .call (.c (.fn 46 [] [])) [(.t 9), (.c (.nils))], none⟩,
  ⟨(some 8), .mov (.t 10), none⟩,
  ⟨(some 11), .extract (.t 8) 0, none⟩,
  ⟨(some 12), .extract (.t 8) 1, none⟩,
  ⟨(some 4), .mov (.t 11), none⟩,
  ⟨(some 5), .mov (.t 12), none⟩] none)
 (.seq (.seq (.region [⟨(some 13), .mov (.t 5), none⟩,
  ⟨(some 14), .bin .neq (.t 13) (.c (.int .i64 0)), none⟩] none)
 (.cond (.t 14) (.seq (.region [⟨(some 15), .mov (.t 5), none⟩,
  ⟨(some 2), .mov (.c (.nils)), none⟩,
  ⟨(some 3), .mov (.t 15), none⟩] none)
 (.ret))
 (.skip)))
 (.seq (.region [⟨(some 17), .mov (.t 4), none⟩,
  ⟨(some 18), .call (.c (.fn 50 [] [])) [(.t 17)], none⟩,
  ⟨(some 16), .mov (.t 18), none⟩,
  ⟨(some 19), .extract (.t 16) 0, none⟩,
  ⟨(some 20), .extract (.t 16) 1, none⟩,
  ⟨(some 6), .mov (.t 19), none⟩,
  ⟨(some 7), .mov (.t 20), none⟩] none)
 (.seq (.seq (.region [⟨(some 21), .mov (.t 7), none⟩,
  ⟨(some 22), .un .not (.t 21), none⟩] none)
 (.cond (.t 22) (.seq (.region [⟨(some 2), .mov (.c (.nils)), none⟩,
  ⟨(some 3), .mov (.c (.int .i64 20)), none⟩] none)
 (.ret))
 (.skip)))
 (.seq (.region [⟨(some 23), .mov (.t 6), none⟩,
  ⟨(some 2), .mov (.t 23), none⟩,
  ⟨(some 3), .mov (.c (.int .i64 0)), none⟩] none)
 (.ret))))))
theorem fn23 : env0.fn 23 = some ⟨24, ic23, [.t 2, .t 3]⟩ := by kernel_rfl
set_option maxHeartbeats 1000000 in
theorem order23 (n : Int) (es : List (Int × Int)) : PF Try.prog 23 [cG n es] (ordV n es) := by
 have p46 := zmt n es [] (Nat.zero_le _)
 refine zav env0_ok fn23 [(0, .agg [.int .i64 n, .vs (cE es)])] (by show 1 ≤ 24; decide) rfl fun w0 N0 => ?_
 unfold ic23
 refine za5 (za0 rfl (zd3 rfl rfl (za1 rfl (za1 rfl (za3 (za2 ?_))))))
 refine zbf [] [(0, 0, [.int .i64 n, .vs (cE es)])] [(1, .vptr [.int .i64 n, .vs (cE es)])] rfl (.cons rfl rfl .nil) .nil (.cons rfl (.fptr rfl rfl) .nil) ?_
 repeat (first | refine za5 ?_ | refine za0 rfl ?_ | refine zaq rfl rfl rfl rfl ?_)
 refine zas rfl rfl p46 (fun h => Bool.noConfusion (show false = true from h)) ?_
 by_cases hg : zd7 n es = 0
 ·obtain ⟨m, E, rfl, rfl, hm, _, hE, hb⟩ := zf5 hg
  rw [zjs ((ze1 _ _).trans hg), zne hg]
  have p50 := zp4 m hm E hb
  unfold srtV at p50
  unfold ordN
  repeat (first | refine za5 ?_ | refine za0 rfl ?_ | refine za3 ?_ | refine za2 ?_ | refine zad ?_ | refine zbm rfl ?_ | refine za1 rfl ?_ | refine zbc rfl rfl ?_ | refine zef rfl rfl rfl ?_)
  refine zas rfl rfl p50 (fun h => Bool.noConfusion (show false = true from h)) ?_
  cases zgr E m m [] with
  | none =>
   repeat (first | refine za5 ?_ | refine za0 rfl ?_ | refine za3 ?_ | refine za2 ?_ | refine zbt rfl ?_ | refine zat ?_ | refine zag ?_ | refine za1 rfl ?_ | refine zpx rfl rfl ?_ | refine zbc rfl rfl ?_)
   exact zao ⟨.inr rfl, _, rfl, rfl⟩
  | some l =>
   repeat (first | refine za5 ?_ | refine za0 rfl ?_ | refine za3 ?_ | refine za2 ?_ | refine zad ?_ | refine zbm rfl ?_ | refine zat ?_ | refine za1 rfl ?_ | refine zpx rfl rfl ?_ | refine zbc rfl rfl ?_)
   exact zao ⟨.inr rfl, _, rfl, rfl⟩
 ·have hg2 : ¬ zqd n es [] = 0 := by rw [ze1]; exact hg
  rw [zfu hg2, zke hg, ze1]
  repeat (first | refine za5 ?_ | refine za0 rfl ?_ | refine za3 ?_ | refine za2 ?_ | refine za1 rfl ?_ | refine zbc rfl rfl ?_)
  refine zam rfl rfl rfl (fun h => ?_) fun h => absurd (by simpa using h) hg
  repeat (first | refine za5 ?_ | refine za0 rfl ?_ | refine za3 ?_ | refine za2 ?_ | refine zbt rfl ?_ | refine zat ?_ | refine zag ?_ | refine za1 rfl ?_)
  exact zao ⟨.inr rfl, _, rfl, rfl⟩
def b38_2 : IC := .seq (.region [⟨(some 43), .bin .lss (.t 42) (.t 41), none⟩] none)
 (.seq (.cond (.t 43) (.skip)
 (.exit 2))
 (.seq (.block 3 (.seq (.region [⟨(some 44), .idxs 1 (.t 40) (.t 42), none⟩,
  ⟨(some 45), .load none (.t 44), none⟩,
  ⟨(some 12), .mov (.t 45), none⟩] none)
 (.region [⟨(some 46), .mov (.t 8), none⟩,
  ⟨(some 47), .mov (.t 12), none⟩,
  ⟨(some 48), .mov (.t 8), none⟩,
  ⟨(some 49), .mov (.t 12), none⟩,
  ⟨(some 50), .idxs 1 (.t 48) (.t 49), none⟩,
  ⟨(some 51), .load none (.t 50), none⟩,
  ⟨(some 52), .mov (.t 8), none⟩,
  ⟨(some 53), .mov (.t 10), none⟩,
  ⟨(some 54), .idxs 1 (.t 52) (.t 53), none⟩,
  ⟨(some 55), .load none (.t 54), none⟩,
  ⟨(some 56), .bin .add (.t 55) (.c (.int .i64 1)), none⟩,
  ⟨(some 57), .minmax true [(.t 51), (.t 56)], none⟩,
  ⟨(some 58), .idxs 1 (.t 46) (.t 47), none⟩,
  ⟨none, .store 1 (.t 58) (.t 57), none⟩] (some [[], [], [], [], [2, 3], [4], [], [], [6, 7], [8], [9], [5, 10], [0, 1, 0, 1, 2, 3, 4, 5, 6, 7, 8, 9, 10, 11], [12, 11, 0, 1, 2, 3, 4, 5, 6, 7, 8, 9, 10, 11]]))))
 (.region [⟨(some 59), .bin .add (.t 42) (.c (.int .i64 1)), none⟩,
  ⟨(some 42), .mov (.t 59), none⟩] none)))
def b38_0 : IC := .seq (.region [⟨(some 34), .bin .lss (.t 33) (.t 32), none⟩] none)
 (.seq (.cond (.t 34) (.skip)
 (.exit 0))
 (.seq (.block 1 (.seq (.region [⟨(some 35), .idxs 1 (.t 31) (.t 33), none⟩,
  ⟨(some 36), .load none (.t 35), none⟩,
  ⟨(some 10), .mov (.t 36), none⟩] none)
 (.seq (.region [⟨(some 37), .mov (.t 4), none⟩,
  ⟨(some 38), .mov (.t 10), none⟩,
  ⟨(some 39), .idxs 1 (.t 37) (.t 38), none⟩,
  ⟨(some 40), .load none (.t 39), none⟩,
  ⟨(some 41), .len false (.t 40), none⟩,
  ⟨(some 42), .mov (.c (.int .i64 0)), none⟩] none)
 (.block 2 (.loop b38_2)))))
 (.region [⟨(some 60), .bin .add (.t 33) (.c (.int .i64 1)), none⟩,
  ⟨(some 33), .mov (.t 60), none⟩] none)))
-- pneumatic/digraph.Layers
def ic38 : IC := .seq (.region [⟨(some 1), .box (.t 0), none⟩,
  ⟨(some 2), .mov (.c (.nils)), none⟩,
  ⟨(some 3), .mov (.c (.int .i64 0)), none⟩] none)
 (.seq (.region [⟨(some 14), .load (some 2) (.t 1), none⟩,
  ⟨(some 15), .call (.c (.fn 46 [] [])) [(.t 14), (.c (.nils))], none⟩,
  ⟨(some 13), .mov (.t 15), none⟩,
  ⟨(some 16), .extract (.t 13) 0, none⟩,
  ⟨(some 17), .extract (.t 13) 1, none⟩,
  ⟨(some 4), .mov (.t 16), none⟩,
  ⟨(some 5), .mov (.t 17), none⟩] none)
 (.seq (.seq (.region [⟨(some 18), .mov (.t 5), none⟩,
  ⟨(some 19), .bin .neq (.t 18) (.c (.int .i64 0)), none⟩] none)
 (.cond (.t 19) (.seq (.region [⟨(some 20), .mov (.t 5), none⟩,
  ⟨(some 2), .mov (.c (.nils)), none⟩,
  ⟨(some 3), .mov (.t 20), none⟩] none)
 (.ret))
 (.skip)))
 (.seq (.region [⟨(some 22), .mov (.t 4), none⟩,
  ⟨(some 23), .call (.c (.fn 50 [] [])) [(.t 22)], none⟩,
  ⟨(some 21), .mov (.t 23), none⟩,
  ⟨(some 24), .extract (.t 21) 0, none⟩,
  ⟨(some 25), .extract (.t 21) 1, none⟩,
  ⟨(some 6), .mov (.t 24), none⟩,
  ⟨(some 7), .mov (.t 25), none⟩] none)
 (.seq (.seq (.region [⟨(some 26), .mov (.t 7), none⟩,
  ⟨(some 27), .un .not (.t 26), none⟩] none)
 (.cond (.t 27) (.seq (.region [⟨(some 2), .mov (.c (.nils)), none⟩,
  ⟨(some 3), .mov (.c (.int .i64 20)), none⟩] none)
 (.ret))
 (.skip)))
 (.seq (.region [⟨(some 28), .faddr 0 (.t 1), none⟩,
  ⟨(some 29), .load none (.t 28), none⟩,
  ⟨(some 30), .mkslice 1 8 [.int .i64 0] (.t 29) (.t 29), none⟩,
  ⟨(some 8), .mov (.t 30), none⟩] none)
 (.seq (.seq (.region [⟨(some 31), .mov (.t 6), none⟩,
  ⟨(some 32), .len false (.t 31), none⟩,
  ⟨(some 33), .mov (.c (.int .i64 0)), none⟩] none)
 (.block 0 (.loop b38_0)))
 (.seq (.region [⟨(some 61), .mov (.t 8), none⟩,
  ⟨(some 2), .mov (.t 61), none⟩,
  ⟨(some 3), .mov (.c (.int .i64 0)), none⟩] none)
 (.ret))))))))
theorem fn38 : env0.fn 38 = some ⟨62, ic38, [.t 2, .t 3]⟩ := by kernel_rfl
theorem zox (x : Nat) : ∀ (d : List Nat) (o : List Int), (d.foldl (fun o w => rlx o (x, w)) o).length = o.length
 | [], _ => rfl
 | w :: d, o => by rw [List.foldl_cons, zox x d, zkj]
theorem zk5 (E : List (Nat × Nat)) (m : Nat) : ∀ (l : List Nat) (o : List Int), (l.foldl (fun o x => (nbr E m x).foldl (fun o w => rlx o (x, w)) o) o).length = o.length
 | [], _ => rfl
 | x :: l, o => by rw [List.foldl_cons, zk5 E m l, zox]
set_option maxHeartbeats 8000000 in
theorem layers38 (n : Int) (es : List (Int × Int)) : PF Try.prog 38 [cG n es] (layV n es) := by
 have ez : ∀ o : Nat, 0 + ((o : Nat) : Int).toNat * 1 = o := fun o => by simp
 have p46 := zmt n es [] (Nat.zero_le _)
 refine zav env0_ok fn38 [(0, .agg [.int .i64 n, .vs (cE es)])] (by show 1 ≤ 62; decide) rfl fun w0 N0 => ?_
 unfold ic38
 refine za5 (za0 rfl (zd3 rfl rfl (za1 rfl (za1 rfl (za3 (za2 ?_))))))
 refine zbf [] [(0, 0, [.int .i64 n, .vs (cE es)])] [(1, .vptr [.int .i64 n, .vs (cE es)])] rfl (.cons rfl rfl .nil) .nil (.cons rfl (.fptr rfl rfl) .nil) ?_
 repeat (first | refine za5 ?_ | refine za0 rfl ?_ | refine zaq rfl rfl rfl rfl ?_)
 refine zas rfl rfl p46 (fun h => Bool.noConfusion (show false = true from h)) ?_
 by_cases hg : zd7 n es = 0
 ·obtain ⟨m, E, rfl, rfl, hm, _, hE, hb⟩ := zf5 hg
  rw [zjs ((ze1 _ _).trans hg), zn6 hg]
  have p50 := zp4 m hm E hb
  unfold srtV at p50
  unfold layN
  have hb2 := fun u v h => (hb u v h).2
  repeat (first | refine za5 ?_ | refine za0 rfl ?_ | refine za3 ?_ | refine za2 ?_ | refine zad ?_ | refine zbm rfl ?_ | refine za1 rfl ?_ | refine zbc rfl rfl ?_ | refine zef rfl rfl rfl ?_)
  refine zas rfl rfl p50 (fun h => Bool.noConfusion (show false = true from h)) ?_
  cases hs : zgr E m m [] with
  | none =>
   repeat (first | refine za5 ?_ | refine za0 rfl ?_ | refine za3 ?_ | refine za2 ?_ | refine zbt rfl ?_ | refine zat ?_ | refine zag ?_ | refine za1 rfl ?_ | refine zpx rfl rfl ?_ | refine zbc rfl rfl ?_)
   exact zao ⟨.inr rfl, _, rfl, rfl⟩
  | some l =>
   obtain ⟨hT, hll, _⟩ := zh4 hs
   repeat (first | refine za5 ?_ | refine za0 rfl ?_ | refine za3 ?_ | refine za2 ?_ | refine zad ?_ | refine zbm rfl ?_ | refine za1 rfl ?_ | refine zaf rfl rfl ?_ | refine zac rfl rfl rfl ?_ | refine zpx rfl rfl ?_ | refine zbc rfl rfl ?_)
   refine zt2 rfl rfl ⟨Int.natCast_nonneg m, Int.le_refl _, by omega, by decide⟩ ?_
   repeat (first | refine za5 ?_ | refine za0 rfl ?_ | refine za3 ?_ | refine za2 ?_ | refine zaa ?_ | refine za1 rfl ?_ | refine zbg rfl rfl ?_)
   have hpre := zol hb hT
   have hvl : ((iL l).map fun z => ([.int .i64 z] : List AV)).length = m := by rw [List.length_map, zee, hll]
   refine zba (fun mm S => ∃ i hp nx ck, mm = m - i ∧ i ≤ m ∧ 0 < nx ∧ Am.look 0 hp = some (1, .cells ((zsn E m (l.take i)).map (AV.int .i64))) ∧ S = st 62 [(4, cN E m), (8, .ms 0 1 1 0 m (some m)), (31, vsI (iL l)), (32, .int .i64 (m : Nat)), (33, .int .i64 (i : Nat))] hp nx ck) m
    (za7 (.cons rfl (.cons rfl (.cons rfl (.cons (by exact congrArg (fun z : Nat => some (AV.int .i64 (z : Nat))) hvl) (.cons rfl .nil)))))) ⟨0, _, _, _, rfl, Nat.zero_le _, Nat.zero_lt_one, by rw [List.take_zero]; show some (1, AObj.cells (zeo m [.int .i64 0])) = _; rw [zi9]; rfl, rfl⟩ ?_
   rintro mm S ⟨i, hp, nx, ck, rfl, hi, hnx, hk, rfl⟩
   unfold b38_0
   repeat (first | refine za5 ?_ | refine za0 rfl ?_)
   refine zam rfl rfl rfl (fun h3 => ?_) fun h3 => ?_
   ·have hlt : i < m := Int.ofNat_lt.1 (of_decide_eq_true h3)
    have w1 : IntKind.wrap .i64 (((i : Nat) : Int) + 1) = ((i + 1 : Nat) : Int) := zak i (by omega)
    have hltl : i < l.length := by omega
    have hgx : ((iL l).map fun z => ([.int .i64 z] : List AV))[((i : Nat) : Int).toNat]? = some [.int .i64 (l[i] : Nat)] := by
     rw [zcv (by rw [zee]; exact hltl)]
     unfold iL
     rw [List.getElem_map]
    have hxm := hT.lt l[i] (List.getElem_mem hltl)
    have hts : zsn E m (l.take (i + 1)) = (nbr E m l[i]).foldl (fun o w => rlx o (l[i], w)) (zsn E m (l.take i)) := zdv (fun o x => (nbr E m x).foldl (fun o w => rlx o (x, w)) o) (List.replicate m 0) hltl
    have hp1 := hpre (l.take i) (l.drop i) (List.take_append_drop i l).symm
    generalize l[i] = x at *
    generalize zsn E m (l.take i) = o at *
    have hgN := znz (E := E) hxm
    have hnl := zkb E m x
    have hin : ∀ w ∈ nbr E m x, w < m := fun w hw => hb2 _ _ ((zc4 hb2).1 hw)
    have hxx : x ∉ nbr E m x := fun h => by
     have := hT.walk (Wk.step (.refl x) ((zc4 hb2).1 h)) (zqr hT.nd hT.lt (Nat.le_of_eq hll.symm) x hxm)
     omega
    have hst := fun j => lyq (E := E) (x := x) hp1.len ((nbr E m x).take j) (fun h => hxx (List.mem_of_mem_take h)) fun w hw => hin w (List.mem_of_mem_take hw)
    have hle := hp1.le
    have hlo := hp1.low
    generalize nbr E m x = d at *
    repeat (first | refine za5 ?_ | refine za0 rfl ?_ | refine za3 ?_ | refine za2 ?_ | refine zaa ?_ | refine zad ?_ | refine zbt rfl ?_ | refine za1 rfl ?_ | refine zaf rfl rfl ?_ | refine zbg rfl rfl ?_ | refine zb1 rfl rfl (by omega) (by assumption) rfl ?_)
    refine zba (fun mm S => ∃ j hp, mm = d.length - j ∧ j ≤ d.length ∧ Am.look 0 hp = some (1, .cells (((d.take j).foldl (fun o w => rlx o (x, w)) o).map (AV.int .i64))) ∧ S = st 62 [(4, cN E m), (8, .ms 0 1 1 0 m (some m)), (31, vsI (iL l)), (32, .int .i64 (m : Nat)), (33, .int .i64 (i : Nat)), (10, .int .i64 (x : Nat)), (40, vN d), (41, .int .i64 ((d.map fun w => ([.int .i64 (w : Nat)] : List AV)).length : Nat)), (42, .int .i64 (j : Nat))] hp nx ck) d.length
     (za7 (.cons rfl (.cons rfl (.cons rfl (.cons rfl (.cons rfl (.cons rfl (.cons rfl (.cons rfl (.cons rfl .nil)))))))))) ⟨0, _, rfl, Nat.zero_le _, hk, rfl⟩ ?_
    rintro mm S ⟨j, hp, rfl, hj, hk, rfl⟩
    have hsj := hst j
    unfold b38_2
    repeat (first | refine za5 ?_ | refine za0 rfl ?_)
    refine zam rfl rfl rfl (fun h4 => ?_) fun h4 => ?_
    ·have hlt2 : j < d.length := by
      have h5 : ((j : Nat) : Int) < (((d.map fun w => ([.int .i64 (w : Nat)] : List AV)).length : Nat) : Int) := of_decide_eq_true h4
      rw [List.length_map] at h5
      exact Int.ofNat_lt.1 h5
     have w2 : IntKind.wrap .i64 (((j : Nat) : Int) + 1) = ((j + 1 : Nat) : Int) := zak j (by omega)
     have hgv := zjc hlt2
     have hym := hin d[j] (List.getElem_mem hlt2)
     have hts2 := zdv (fun o w => rlx o (x, w)) o hlt2
     have hox := hsj.same x fun h => hxx (List.mem_of_mem_take h)
     have hol2 := hsj.len
     generalize (d.take j).foldl (fun o w => rlx o (x, w)) o = o2 at *
     generalize d[j] = y at *
     have w3 : IntKind.wrap .i64 (gZ o2 x + 1) = gZ o2 x + 1 := zch _ (by have := hle x; have := hlo x; omega) (by have := hle x; have := hlo x; omega)
     repeat (first | refine za5 ?_ | refine za0 rfl ?_ | refine za3 ?_ | refine za2 ?_ | refine zaa ?_ | refine zad ?_ | refine zbt rfl ?_ | refine za1 rfl ?_ | refine zaf rfl rfl ?_ | refine zg5 env0_ok rfl rfl rfl ?_ | refine zb1 rfl rfl (by omega) (by assumption) rfl ?_ | refine zb2 rfl rfl (by omega) (by omega) ?_)
     rw [ez]
     refine zau (id := 0) (sp := 1) (off := y) rfl hk hnx (ziq (by omega)) ?_
     repeat (first | refine za1 rfl ?_ | refine zb2 rfl rfl (by omega) (by omega) ?_)
     rw [ez]
     refine zau (id := 0) (sp := 1) (off := x) rfl hk hnx (ziq (by omega)) ?_
     repeat (first | refine zlw rfl rfl rfl ?_ | refine zaz (op := .add) rfl rfl rfl ?_ | refine zb2 rfl rfl (by omega) (by omega) ?_)
     rw [ez, w3, if_pos rfl, show (if gZ o2 x + 1 > gZ o2 y then gZ o2 x + 1 else gZ o2 y) = max (gZ o2 y) (gZ o2 x + 1) from by split <;> omega]
     refine zc7 (id := 0) (sp := 1) (off := y) rfl rfl rfl hk (by simp; omega) rfl ?_
     repeat (first | refine za0 rfl ?_ | refine za3 ?_ | refine za2 ?_ | refine zb7 ?_ | refine za1 rfl ?_ | refine zaz (op := .add) rfl rfl rfl ?_)
     rw [w2]
     exact zaj (show d.length - (j + 1) < d.length - j by omega) (za7 (.cons rfl (.cons rfl (.cons rfl (.cons rfl (.cons rfl (.cons rfl (.cons rfl (.cons rfl (.cons rfl .nil)))))))))) ⟨j + 1, _, rfl, hlt2, by rw [za8, if_pos rfl, ← List.map_set, hts2]; rfl, rfl⟩
    ·have hje : j = d.length := by
      have h5 : ¬ ((j : Nat) : Int) < (((d.map fun w => ([.int .i64 (w : Nat)] : List AV)).length : Nat) : Int) := of_decide_eq_false h4
      rw [List.length_map] at h5
      omega
     subst hje
     rw [List.take_length] at hk
     repeat (first | refine za5 ?_ | refine za3 ?_ | refine za2 ?_ | refine zbm rfl ?_ | refine zb9 ?_ | refine zab ?_)
     refine zc8 ?_
     repeat (first | refine za0 rfl ?_ | refine za3 ?_ | refine za2 ?_ | refine zb7 ?_ | refine zb8 ?_ | refine za1 rfl ?_ | refine zaz (op := .add) rfl rfl rfl ?_)
     rw [w1]
     exact zaj (show m - (i + 1) < m - i by omega) (za7 (.cons rfl (.cons rfl (.cons rfl (.cons rfl (.cons rfl .nil)))))) ⟨i + 1, _, _, _, rfl, hlt, hnx, by rw [hts]; exact hk, rfl⟩
   ·have hie : i = m := by
     have h4 : ¬ ((i : Nat) : Int) < ((m : Nat) : Int) := of_decide_eq_false h3
     omega
    subst hie
    rw [List.take_of_length_le (Nat.le_of_eq hll)] at hk
    repeat (first | refine za5 ?_ | refine za3 ?_ | refine za2 ?_ | refine zbm rfl ?_ | refine zb9 ?_ | refine zab ?_)
    refine zc8 ?_
    repeat (first | refine za5 ?_ | refine za0 rfl ?_ | refine za3 ?_ | refine za2 ?_ | refine zat ?_ | refine zb8 ?_ | refine za1 rfl ?_)
    refine zao ⟨.inr rfl, _, rfl, ?_⟩
    have hfl := zk5 E i l (List.replicate i 0)
    rw [List.length_replicate] at hfl
    exact congrArg AV.tup (zfe (zbl _ hfl hk) rfl)
 ·have hg2 : ¬ zqd n es [] = 0 := by rw [ze1]; exact hg
  rw [zfu hg2, zk4 hg, ze1]
  repeat (first | refine za5 ?_ | refine za0 rfl ?_ | refine za3 ?_ | refine za2 ?_ | refine za1 rfl ?_ | refine zbc rfl rfl ?_)
  refine zam rfl rfl rfl (fun h => ?_) fun h => absurd (by simpa using h) hg
  repeat (first | refine za5 ?_ | refine za0 rfl ?_ | refine za3 ?_ | refine za2 ?_ | refine zbt rfl ?_ | refine zat ?_ | refine zag ?_ | refine za1 rfl ?_)
  exact zao ⟨.inr rfl, _, rfl, rfl⟩
end Go.Proofs.Ytoagikifehmlpaa
