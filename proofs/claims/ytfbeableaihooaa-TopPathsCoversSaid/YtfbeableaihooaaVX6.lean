/-
  TopPathsCovers: its walk.; WHAT EVERY LAW OF THE SEAT SHARES.; READING THE ARGUMENTS: graphs, numbers.
-/
import Derived.Test.YtfbeableaihooaaVX5
import Derived.Test.YtfbeableaihooaaRows
import Derived.JoinedCond
namespace Go.Proofs.Ytfbeableaihooaa
open Go Go.Am
def b4_2 : IC := .seq (.region [oM 40 (.bin .lss (.t 39) (.t 38))] none)
 (.seq (.cond (.t 40) (.skip)
 (.exit 2))
 (.seq (.block 3 (.seq (.region [oM 41 (.idxs 1 (.t 37) (.t 39)),
  oN 42 41,
  oT 9 42] none)
 (.seq (.seq (.region [oT 43 9,
  oM 44 (.bin .lss (.t 43) (.c (.int .i64 0))),
  oT 45 44,
  ⟨(some 46), .mov (.t 9), some (45, false)⟩,
  ⟨(some 47), .faddr 0 (.t 1), some (45, false)⟩,
  ⟨(some 48), .load none (.t 47), some (45, false)⟩,
  ⟨(some 49), .bin .geq (.t 46) (.t 48), some (45, false)⟩,
  oM 50 (.pick (.t 45) (.c (.bool true)) (.t 49))] none)
 (.cond (.t 50) (.seq (.region [oM 2 (.mov (.c (.bool false)))] none)
 (.ret))
 (.skip)))
 (.region [oT 51 7,
  oT 52 9,
  oM 53 (.bin .shl (.c (.int .u64 1)) (.t 52)),
  oM 54 (.bin .or (.t 51) (.t 53)),
  oT 7 54] none))))
 (.region [oM 55 (.bin .add (.t 39) (.c (.int .i64 1))),
  oT 39 55] none)))
def b4_0 : IC := .seq (.region [oM 27 (.bin .lss (.t 26) (.t 25))] none)
 (.seq (.cond (.t 27) (.skip)
 (.exit 0))
 (.seq (.block 1 (.seq (.region [oT 28 26,
  oT 4 28] none)
 (.seq (.region [oL 30 2 1,
  oT 31 4,
  oM 32 (.call (.c (.fn 13 [] [])) [(.t 30), (.t 31)]),
  oT 29 32,
  oM 33 (.extract (.t 29) 0),
  oM 34 (.extract (.t 29) 1),
  oT 5 33,
  oT 6 34] none)
 (.seq (.seq (.region [oT 35 6,
  oM 36 (.bin .neq (.t 35) (.c (.int .i64 0)))] none)
 (.cond (.t 36) (.seq (.region [oM 2 (.mov (.c (.bool false)))] none)
 (.ret))
 (.skip)))
 (.seq (.region [oM 7 (.mov (.c (.int .u64 0)))] none)
 (.seq (.seq (.region [oT 37 5,
  oM 38 (.len false (.t 37)),
  oM 39 (.mov (.c (.int .i64 0)))] none)
 (.block 2 (.loop b4_2)))
 (.region [oF 56 1 3,
  oN 57 56,
  oT 58 7,
  oM 59 (.bslice 1 1 [.int .u64 0] [(0, 1, (.t 58))]),
  oM 60 (.append 1 8 [.int .u64 0] (.t 57) (.t 59)),
  oF 61 1 3,
  ⟨none, .store 1 (.t 61) (.t 60), none⟩] none)))))))
 (.region [oM 62 (.bin .add (.t 26) (.c (.int .i64 1))),
  oT 26 62] none)))
def b4_4 : IC := .seq (.region [oM 90 (.bin .lss (.t 89) (.t 88))] none)
 (.seq (.cond (.t 90) (.skip)
 (.exit 4))
 (.seq (.block 5 (.seq (.region [oT 91 89,
  oM 16 (.alloc [.int .i64 0]),
  ⟨none, .store 1 (.t 16) (.t 91), none⟩] none)
 (.seq (.seq (.region [oF 92 1 12,
  oN 93 92,
  oM 94 (.mkfn 17 [] [(.t 16)]),
  oM 95 (.call (.c (.fn 16 [] [])) [(.t 93), (.t 94)])] none)
 (.cond (.t 95) (.exit 5)
 (.skip)))
 (.seq (.region [oT 96 15,
  oM 97 (.bin .add (.t 96) (.c (.int .i64 1))),
  oT 15 97] none)
 (.seq (.region [oT 98 10,
  oM 99 (.mkfn 19 [] [(.t 1), (.t 13), (.t 16)]),
  oM 100 (.call (.c (.fn 18 [] [])) [(.t 98), (.t 99)]),
  oM 101 (.un .not (.t 100))] none)
 (.cond (.t 101) (.seq (.region [oM 2 (.mov (.c (.bool false)))] none)
 (.ret))
 (.skip)))))))
 (.region [oM 102 (.bin .add (.t 89) (.c (.int .i64 1))),
  oT 89 102] none)))
-- pneumatic/pneumatictop.TopPathsCovers
def ic4 : IC := .seq (.region [oM 1 (.box (.t 0)),
  oM 2 (.mov (.c (.bool false)))] none)
 (.seq (.seq (.region [oL 17 2 1,
  oM 18 (.call (.c (.fn 6 [] [])) [(.t 17)]),
  oM 19 (.un .not (.t 18))] none)
 (.cond (.t 19) (.seq (.region [oM 20 (.call (.c (.fn 7 [] [])) []),
  oT 2 20] none)
 (.ret))
 (.skip)))
 (.seq (.region [oF 21 0 1,
  oN 22 21,
  oM 23 (.build [.int .i64 0, .nils] [(0, 1, (.t 22))]),
  oM 3 (.alloc [.int .i64 0, .nils]),
  ⟨none, .store 2 (.t 3) (.t 23), none⟩] none)
 (.seq (.seq (.region [oF 24 0 1,
  oN 25 24,
  oM 26 (.mov (.c (.int .i64 0)))] none)
 (.block 0 (.loop b4_0)))
 (.seq (.region [oL 64 2 3,
  oM 65 (.call (.c (.fn 14 [] [])) [(.t 64)]),
  oT 63 65,
  oM 66 (.extract (.t 63) 0),
  oM 67 (.extract (.t 63) 1),
  oT 10 66,
  oT 11 67] none)
 (.seq (.region [oL 69 2 1,
  oM 70 (.call (.c (.fn 15 [] [])) [(.t 69)]),
  oT 68 70,
  oM 71 (.extract (.t 68) 0),
  oM 72 (.extract (.t 68) 1),
  oM 73 (.extract (.t 68) 2),
  oM 12 (.alloc [.int .i64 0, .nils]),
  oM 13 (.alloc [.nils]),
  ⟨none, .store 2 (.t 12) (.t 71), none⟩,
  ⟨none, .store 1 (.t 13) (.t 72), none⟩,
  oT 14 73] none)
 (.seq (.seq (.region [oT 74 11,
  oM 75 (.bin .neq (.t 74) (.c (.int .i64 0))),
  oT 76 75,
  ⟨(some 77), .mov (.t 14), some (76, false)⟩,
  ⟨(some 78), .bin .neq (.t 77) (.c (.int .i64 0)), some (76, false)⟩,
  oM 79 (.pick (.t 76) (.c (.bool true)) (.t 78)),
  oT 80 79,
  ⟨(some 81), .load none (.t 13), some (80, false)⟩,
  ⟨(some 82), .len false (.t 81), some (80, false)⟩,
  ⟨(some 83), .faddr 0 (.t 1), some (80, false)⟩,
  ⟨(some 84), .load none (.t 83), some (80, false)⟩,
  ⟨(some 85), .bin .neq (.t 82) (.t 84), some (80, false)⟩,
  oM 86 (.pick (.t 80) (.c (.bool true)) (.t 85))] none)
 (.cond (.t 86) (.seq (.region [oM 2 (.mov (.c (.bool false)))] none)
 (.ret))
 (.skip)))
 (.seq (.region [oM 15 (.mov (.c (.int .i64 0)))] none)
 (.seq (.seq (.region [oF 87 0 12,
  oN 88 87,
  oM 89 (.mov (.c (.int .i64 0)))] none)
 (.block 4 (.loop b4_4)))
 (.seq (.region [oT 103 10,
  oM 104 (.len false (.t 103)),
  oT 105 15,
  oM 106 (.bin .eql (.t 104) (.t 105)),
  oT 107 106,
  ⟨(some 108), .call (.c (.fn 7 [] [])) [], some (107, true)⟩,
  oM 109 (.pick (.t 107) (.t 108) (.c (.bool false))),
  oT 2 109] none)
 (.ret))))))))))
theorem fn4 : env0.fn 4 = some ⟨110, ic4, [.t 2]⟩ := by kernel_rfl
theorem rchL_lt {o : List Int} {m : Nat} {z : Int} (h : z ∈ zkn o m) : ∃ v : Nat, z = (v : Nat) ∧ v < m := by
 unfold zkn at h
 obtain ⟨v, hv, rfl⟩ := y0o.1 h
 exact ⟨v, rfl, y0g.1 (y0t.1 hv).1⟩
theorem zwz {l : List Int} {j : Nat} (h : j < l.length) : setS (l.take (j + 1)) = setS (l.take j) ||| (1#64 <<< l[j].toNat) := by
 unfold setS
 rw [y1x, y06 h, y1t]
 rfl
theorem zue (E : List (Nat × Nat)) (m i : Nat) : zi0 E m (i + 1) = zi0 E m i ++ [setS (zkn (zgn E m i m) m)] := by
 unfold zi0
 rw [y2k, y16]
 rfl
theorem zuf (l : List (BitVec 64)) : hasM.hasML (l.map cU) = false := by
 induction l with
 | nil => rfl
 | cons p L ih =>
  show hasM.hasML (cU p :: L.map cU) = false
  simp only [hasM.hasML, ih]
  rfl
theorem giv_one {m i : Nat} {es : List (Int × Int)} (hc : zgc (m : Nat) es = 0) (h : i < m) : zi3 (m : Nat) es [((i : Nat) : Int)] = 0 := by
 unfold zi3
 rw [if_pos hc, znz]
 unfold zgb
 rw [decide_eq_false (by omega), decide_eq_false (by omega)]
 rfl
theorem few_ok {E : List (Nat × Nat)} {m : Nat} (hb : ∀ u v, (u, v) ∈ E → u < m ∧ v < m) (h8 : m ≤ 8) : ∃ c : List Int, Sc.fewV (m : Nat) (zi0 E m m) = .tup [vsI c, .int .i64 0] ∧ (∀ k, k < (rps E m m).length → znw E m k = true → ∃ z ∈ c, 0 ≤ z ∧ z < m ∧ cpN E m z.toNat = k) ∧ c.length = (srcL E m).length := by
 have hs := zrz hb (show m ≤ 12 by omega)
 obtain ⟨c, hc⟩ := Option.isSome_iff_exists.1 hs
 have hk : Sc.chkF (m : Nat) (zi0 E m m) = 0 := by
  unfold Sc.chkF Sc.setC
  rw [if_neg (by omega), if_neg (by omega), ze2, if_neg (by omega), if_neg ?_]
  rw [Bool.not_eq_true, List.any_eq_false]
  intro x hx h
  rw [fam_bad hb hx (by omega)] at h
  cases h
 refine ⟨c, ?_, zu3 hb (show m ≤ 12 by omega) hc⟩
 have hl : Sc.limE (m : Nat) (zi0 E m m) = 0 := by
  unfold Sc.limE
  rw [if_pos hk, ze2, if_neg (by omega)]
 unfold Sc.fewV
 rw [if_pos hl, hc]
 rfl
theorem cUs_flat (l : List (BitVec 64)) : l.map cU = (Sc.cUs l).flatten := by
 induction l with
 | nil => rfl
 | cons x l ih =>
  show cU x :: l.map cU = [cU x] ++ (Sc.cUs l).flatten
  rw [ih]
  rfl
theorem cast_any (l : List (Nat × Nat)) (k : Nat) : ((zav l).any fun e => e.2 == ((k : Nat) : Int)) = l.any fun e => e.2 == k := by
 unfold zav
 rw [List.any_map]
 refine congrArg (fun z => l.any z) (funext fun e => ?_)
 show (((e.2 : Nat) : Int) == ((k : Nat) : Int)) = _
 rw [y2u, beq_iff_eq, beq_iff_eq]
 omega
theorem at_get (E : List (Nat × Nat)) (m v : Nat) (h : v < m) : gI (iL ((List.range m).map (cpN E m))) v = (cpN E m v : Nat) := by
 unfold gI iL
 rw [y0c, y0f, y0f, y2j h]
 rfl
def zst (E : List (Nat × Nat)) (m k : Nat) : Nat := ((List.range k).filter (znw E m)).length
theorem cnt_succ (E : List (Nat × Nat)) (m k : Nat) : zst E m (k + 1) = if znw E m k = true then zst E m k + 1 else zst E m k := by
 unfold zst
 rw [y2k, List.filter_append, y0k, y14]
 split
 ·rfl
 ·rfl
theorem zmu (E : List (Nat × Nat)) (m k : Nat) : zst E m k ≤ k := y0s (y1h ..) (by rw [y0v]; exact y0b _)
def lC (i nc : Nat) (es ces : List (Int × Int)) (c at_ : List Int) (q k : Int) : List (Nat × AV) := [(1, .vptr [.int .i64 (i : Nat), .vs (cE es)]), (2, .bool false), (10, vsI c), (12, .vptr [.int .i64 (nc : Nat), .vs (cE ces)]), (13, .vptr [vsI at_]), (15, .int .i64 q), (88, .int .i64 (nc : Nat)), (89, .int .i64 k)]
set_option maxHeartbeats 4000000 in
theorem law4 (n : Int) (es : List (Int × Int)) : PF Try.prog 4 [cG n es] (.bool true) := by
 have q6 := small6 n es
 refine zb0 env0_ok fn4 [(0, .agg [.int .i64 n, .vs (cE es)])] (by show 1 ≤ 110; decide) rfl fun w0 N0 => ?_
 unfold ic4
 refine zsr rfl (zcz rfl rfl (za3 rfl (onu (za7 (zsr rfl (zb2 rfl rfl rfl rfl ?_))))))
 refine zb9 rfl rfl q6 noC ?_
 cases hs : zrb n es with
 | false =>
  refine zmd rfl rfl (onu (zc8 rfl (zsr rfl ?_)))
  refine zb9 rfl rfl graph7 noC ?_
  refine za3 rfl (onu (zao (za9 ?_)))
  exact zak ⟨.inr rfl, _, rfl, rfl⟩
 | true =>
 unfold zrb at hs
 simp only [y0h, decide_eq_true_eq, beq_iff_eq] at hs
 obtain ⟨n1, n8, e20, hc⟩ := hs
 obtain ⟨m, E, rfl, rfl, -, hel, -, hb⟩ := zit hc
 have m1 : 1 ≤ m := by omega
 have m8 : m ≤ 8 := by omega
 have hnc := (zwm E m m)
 have hcon := zl6 (zjy E m E) (rps E m m).length (rps E m m).length
 refine zmd rfl rfl (onu (zc7 rfl (zaf (za4 (zsr rfl (zar rfl (zad rfl rfl (zbz rfl rfl (zba (zb3 rfl rfl rfl rfl rfl rfl rfl (za5 ?_)))))))))))
 refine za4 (za7 (zsr rfl (zar rfl (zad rfl rfl (za3 rfl (onu (zab ?_)))))))
 refine zbm [(some (1, 1), [.int .i64 (m : Nat), .ms 1 0 1 0 0 none]), (none, [])] [(0, 0, [.int .i64 (m : Nat), .vs (cE (zav E))])] [(1, .vptr [.int .i64 (m : Nat), .vs (cE (zav E))]), (2, .bool false), (3, .mptr 0 0 0), (25, .int .i64 (m : Nat)), (26, .int .i64 0)] rfl (.cons rfl rfl .nil)
  (.cons rfl (.cons (.same rfl) (.cons (.grow rfl) .nil)) (.new .nil))
  (.cons rfl (.fptr rfl rfl) (.cons rfl (.same rfl) (.cons rfl (.mptr rfl) (.cons rfl (.same rfl) (.cons rfl (.same rfl) .nil))))) ?_
 refine zbv (fun mm S => ∃ i s hp nx ck, mm = m - i ∧ i ≤ m ∧ Am.look 0 hp = some (0, .cells [.int .i64 (m : Nat), .ms 1 s 1 0 i none]) ∧ Am.look 1 hp = some (s, .cells ((zi0 E m i).map cU)) ∧ 1 < nx ∧
   S = st 110 [(1, .vptr [.int .i64 (m : Nat), .vs (cE (zav E))]), (2, .bool false), (3, .mptr 0 0 0), (25, .int .i64 (m : Nat)), (26, .int .i64 (i : Nat))] hp nx ck) m
  (zaa (.cons rfl (.cons rfl (.cons rfl (.cons rfl (.cons rfl .nil)))))) ⟨0, 0, _, _, _, rfl, y12 _, rfl, rfl, by show 1 < 2; decide, rfl⟩ ?_
 rintro mm S ⟨i, s, hp, nx, ck, rfl, hi, h0, h1, hnx, rfl⟩
 unfold b4_0
 refine zsr rfl ?_
 refine zax rfl rfl rfl (fun hk => ?_) fun hk => ?_
 ·have hlt : i < m := y1i.1 (of_decide_eq_true hk)
  have hgv : zi3 (m : Nat) (zav E) [((i : Nat) : Int)] = 0 := giv_one hc hlt
  have p13 := reach31 (m : Nat) (zav E) (fun _ => by omega) (i : Nat)
  rw [zwe hgv] at p13
  have hfs := zue E m i
  have hrl := zqu (zgn E m i m) m
  have hrm : ∀ z ∈ zkn (zgn E m i m) m, ∃ v : Nat, z = (v : Nat) ∧ v < m := fun z hz => rchL_lt hz
  generalize zkn (zgn E m i m) m = l at p13 hfs hrl hrm
  have hvl : (l.map fun z => ([.int .i64 z] : List AV)).length = l.length := y07 ..
  repeat (first | refine za7 ?_ | refine za0 rfl ?_ | refine za5 ?_ | refine za4 ?_ | refine zab ?_ | refine zaf ?_ | refine zc8 rfl ?_ | refine za3 rfl ?_ | refine zb2 rfl rfl rfl rfl ?_)
  refine zb9 rfl rfl p13 noC ?_
  repeat (first | refine za7 ?_ | refine za0 rfl ?_ | refine za5 ?_ | refine za4 ?_ | refine zab ?_ | refine zaf ?_ | refine zc7 rfl ?_ | refine za3 rfl ?_ | refine zbo rfl rfl ?_ | refine zb5 rfl rfl ?_ | refine zd5 rfl rfl rfl ?_)
  rw [hvl]
  refine zbv (fun mm S => ∃ j, mm = l.length - j ∧ j ≤ l.length ∧
    S = st 110 [(1, .vptr [.int .i64 (m : Nat), .vs (cE (zav E))]), (2, .bool false), (3, .mptr 0 0 0), (25, .int .i64 (m : Nat)), (26, .int .i64 (i : Nat)), (7, cU (setS (l.take j))), (37, vsI l), (38, .int .i64 (l.length : Nat)), (39, .int .i64 (j : Nat))] hp nx ck) l.length
   (zaa (.cons rfl (.cons rfl (.cons rfl (.cons rfl (.cons rfl (.cons rfl (.cons rfl (.cons rfl (.cons rfl .nil)))))))))) ⟨0, rfl, y12 _, rfl⟩ ?_
  rintro mm S ⟨j, rfl, hj, rfl⟩
  unfold b4_2
  refine zsr rfl ?_
  refine zax rfl rfl rfl (fun hk2 => ?_) fun hk2 => ?_
  ·have hlt2 : j < l.length := y1i.1 (of_decide_eq_true hk2)
   have hge := zei hlt2
   have hst := zwz hlt2
   obtain ⟨v, hv, hvm⟩ := hrm _ (y0y hlt2)
   generalize l[j] = z at hge hst hv
   subst hv
   rw [y11] at hst
   repeat (first | refine za7 ?_ | refine za0 rfl ?_ | refine za5 ?_ | refine za4 ?_ | refine zab ?_ | refine zaf ?_ | refine zc8 rfl ?_ | refine zh4 rfl ?_ | refine za3 rfl ?_ | refine zad rfl rfl ?_ | refine zai rfl rfl rfl ?_ | refine zd5 rfl rfl rfl ?_ | refine zb7 rfl rfl (by omega) (by assumption) rfl ?_)
   refine zax rfl rfl rfl (fun hk4 => ?_) fun hk4 => ?_
   ·have := of_decide_eq_true hk4
    omega
   refine zbb rfl rfl (onu (zc7 rfl (zaf (za4 (za0 rfl (za3 rfl (za3 rfl ?_)))))))
   refine zb1 rfl rfl (zpx 1#64 (kd := .i64) (n := v) (by omega)) ?_
   refine zb1 rfl rfl (bin_or _ _) ?_
   rw [← hst]
   refine za3 rfl (za5 (zbl (za4 (za0 rfl (zb1 (op := .add) rfl rfl rfl (za3 rfl (za5 ?_)))))))
   rw [zam j (by omega)]
   exact zay (show l.length - (j + 1) < l.length - j by omega) (zaa (.cons rfl (.cons rfl (.cons rfl (.cons rfl (.cons rfl (.cons rfl (.cons rfl (.cons rfl (.cons rfl .nil)))))))))) ⟨j + 1, rfl, hlt2, rfl⟩
  have hj2 : j = l.length := by have := of_decide_eq_false hk2; omega
  subst hj2
  rw [y1k]
  have hfl : (zi0 E m i).length = i := ze2 E m i
  refine onu (za7 (zc7 rfl (zbg (zac ?_))))
  refine zdb ?_
  refine zbf (za4 (za0 rfl (zar rfl ?_)))
  refine zas (id := 0) (sp := 0) (off := 0 + 1) rfl h0 (by omega) rfl ?_
  refine za3 rfl ?_
  refine o_fsl [[cU (setS l)]] rfl rfl rfl rfl ?_
  refine ze4 [[cU (setS l)]] rfl rfl rfl (fun h => Nat.noConfusion h) rfl (by decide) h1 (by rw [y07, hfl, Nat.mul_one]) (by show i + 1 ≤ _; omega) ?_
  refine zar rfl ?_
  refine zce (id := 0) (sp := 0) (off := 0 + 1) (cs := [.int .i64 (m : Nat), .ms 1 s 1 0 i none]) rfl rfl rfl (by rw [za1, if_neg (by decide)]; exact h0) (y0m 1) rfl ?_
  refine za5 (zbl (za4 (za0 rfl (zb1 (op := .add) rfl rfl rfl (za3 rfl (za5 ?_))))))
  rw [zam i (by omega)]
  refine zay (show m - (i + 1) < m - i by omega) (zaa (.cons rfl (.cons rfl (.cons rfl (.cons rfl (.cons rfl .nil)))))) ⟨i + 1, ck, _, _, _, rfl, hlt, by rw [za1, if_pos rfl]; rfl, ?_, hnx, rfl⟩
  rw [za1, if_neg (by decide), za1, if_pos rfl, hfs, y16]
  rfl
 have hi2 : i = m := by have := of_decide_eq_false hk; omega
 subst hi2
 refine onu (za7 (zc7 rfl (zbg (zac ?_))))
 refine zdb ?_
 obtain ⟨c, hfew, hin, hcl⟩ := few_ok hb m8
 have p14 := Sc.fewest24 (i : Nat) (zi0 E i i)
 rw [hfew] at p14
 have p15 := zrw (i : Nat) (zav E) fun _ => by omega
 rw [zty hc] at p15
 unfold cndN at p15
 have hfl : (zi0 E i i).length = i := ze2 E i i
 refine zbf (za4 (za7 ?_))
 refine zbm [(some (0, 0), [.int .i64 (i : Nat), .vs (Sc.cUs (zi0 E i i))])] [(1, s, (zi0 E i i).map cU)] [(1, .vptr [.int .i64 (i : Nat), .vs (cE (zav E))]), (2, .bool false), (3, .mptr 0 0 0)] rfl (.cons h1 (zuf _) .nil)
  (.cons h0 (.cons (.same rfl) (.cons (.fms0 (by simp [fzl]) (by unfold Sc.cUs; rw [y07, hfl]) (fun x hx => by obtain ⟨v, _, rfl⟩ := y0o.1 hx; rfl) (cUs_flat _)) .nil)) .nil)
  (.cons rfl (.same rfl) (.cons rfl (.same rfl) (.cons rfl (.mptr rfl) .nil))) ?_
 refine za0 rfl ?_
 refine zb2 rfl rfl rfl rfl ?_
 refine zb9 rfl rfl p14 noC ?_
 refine za3 rfl (zb5 rfl rfl (zb5 rfl rfl (za3 rfl (za3 rfl (onr rfl (zb2 rfl rfl rfl rfl ?_))))))
 refine zb9 rfl rfl p15 noC ?_
 repeat (first | refine za7 ?_ | refine za0 rfl ?_ | refine za5 ?_ | refine za4 ?_ | refine zh4 rfl ?_ | refine za3 rfl ?_ | refine zad rfl rfl ?_ | refine zb3 rfl rfl rfl rfl rfl rfl rfl ?_ | refine zai rfl rfl rfl ?_ | refine zba ?_ | refine zbb rfl rfl ?_ | refine zbo rfl rfl ?_ | refine zb5 rfl rfl ?_ | refine zd5 rfl rfl rfl ?_)
 have hal : (iL ((List.range i).map (cpN E i))).length = i := by
  unfold iL
  rw [y07, y07, y0v]
 have hag := fun v => at_get E i v
 have han : ∀ k : Nat, ((zav (zo3 (zjy E i E) (rps E i i).length (rps E i i).length)).any fun e => e.2 == ((k : Nat) : Int)) = !(znw E i k) := fun k => by
  rw [cast_any]
  unfold znw
  rw [Bool.not_not]
 have hcl1 : (zav (zo3 (zjy E i E) (rps E i i).length (rps E i i).length)).length ≤ 64 := by
  rw [zio]
  exact y0s hcon (Nat.mul_le_mul (show _ ≤ 8 by omega) (show _ ≤ 8 by omega))
 have hcs : c.length = zst E i (rps E i i).length := hcl
 generalize iL ((List.range i).map (cpN E i)) = at_ at *
 generalize zav (zo3 (zjy E i E) (rps E i i).length (rps E i i).length) = ces at *
 have hcb := zmu E i (rps E i i).length
 generalize (rps E i i).length = nc at *
 have hav : (at_.map fun z => ([.int .i64 z] : List AV)).length = i := by rw [y07, hal]
 rw [hav]
 refine zax rfl rfl rfl (fun hk5 => ?_) fun hk5 => ?_
 ·have hk5 : (((i : Nat) : Int) != ((i : Nat) : Int)) = true := hk5
  rw [bne_self_eq_false] at hk5
  cases hk5
 refine zbb rfl rfl (onu (zc7 rfl (zaf (za4 (zsr rfl (za3 rfl (onu (za7 (zsr rfl ?_)))))))))
 refine zar rfl (zad rfl rfl (za3 rfl (onu (zab ?_))))
 refine zbm [] [(1, 1, [.int .i64 (nc : Nat), .vs (cE ces)]), (2, 2, [vsI at_])] (lC i nc (zav E) ces c at_ 0 0) rfl (.cons rfl rfl (.cons rfl rfl .nil)) .nil
  (.cons rfl (.same rfl) (.cons rfl (.same rfl) (.cons rfl (.same rfl) (.cons rfl (.fptr rfl rfl) (.cons rfl (.fptr rfl rfl) (.cons rfl (.same rfl) (.cons rfl (.same rfl) (.cons rfl (.same rfl) .nil)))))))) ?_
 refine zbv (fun mm S => ∃ k, mm = nc - k ∧ k ≤ nc ∧
   S = st 110 (lC i nc (zav E) ces c at_ (zst E i k : Nat) (k : Nat)) [] 0 1) nc
  (zaa (.cons rfl (.cons rfl (.cons rfl (.cons rfl (.cons rfl (.cons rfl (.cons rfl (.cons rfl .nil))))))))) ⟨0, rfl, y12 _, rfl⟩ ?_
 rintro mm S ⟨k, rfl, hkn, rfl⟩
 unfold b4_4 lC
 refine zsr rfl ?_
 refine zax rfl rfl rfl (fun hk6 => ?_) fun hk6 => ?_
 ·have hlt : k < nc := y1i.1 (of_decide_eq_true hk6)
  have p16 := zrx ces (by omega) (k : Nat)
  have p18 := zry c (by omega) i (cE (zav E)) at_ hal (by omega) (k : Nat)
  rw [han k] at p16
  have hcn := cnt_succ E i k
  have hle := zmu E i k
  refine onu (za7 (zc8 rfl (zaf (za4 (za7 (zab (zsr rfl (za3 rfl (zba (zb3 rfl rfl rfl rfl rfl rfl rfl (za5 ?_)))))))))))
  refine za4 (za7 (zsr rfl (zai rfl rfl rfl (zad rfl rfl (ze5 rfl rfl ?_)))))
  refine zb9 rfl rfl p16 (fun _ => rfl) ?_
  cases hsk : znw E i k with
  | false =>
   rw [hsk, if_neg Bool.false_ne_true] at hcn
   refine onu (zc8 rfl (zbg (zac (zbf (za4 (za0 rfl (zb1 (op := .add) rfl rfl rfl (za3 rfl (za5 ?_)))))))))
   rw [zam k (by omega), ← hcn]
   exact zay (show nc - (k + 1) < nc - k by omega) (zfv [] [] rfl rfl rfl .nil .nil (l' := lC i nc (zav E) ces c at_ (zst E i (k + 1) : Nat) ((k + 1 : Nat) : Int)) (.cons rfl (.same rfl) (.cons rfl (.same rfl) (.cons rfl (.same rfl) (.cons rfl (.same rfl) (.cons rfl (.same rfl) (.cons rfl (.same rfl) (.cons rfl (.same rfl) (.cons rfl (.same rfl) .nil))))))))) ⟨k + 1, rfl, hlt, rfl⟩
  | true =>
   rw [hsk, if_pos rfl] at hcn
   have hin2 : c.any (inC (i : Nat) at_ (k : Nat)) = true := by
    obtain ⟨z, hz, z0, z1, e⟩ := hin k hlt hsk
    refine y2v.2 ⟨z, hz, ?_⟩
    unfold inC
    rw [decide_eq_true z0, decide_eq_true z1, hag z.toNat (by omega), e, beq_self_eq_true]
    rfl
   rw [hin2] at p18
   refine onu (zc7 rfl (zaf (za4 (zsr rfl (za3 rfl (zb1 (op := .add) rfl rfl rfl (za3 rfl (onr rfl ?_))))))))
   refine za3 rfl (ze5 rfl rfl ?_)
   rw [zam _ (by omega), ← hcn]
   refine zb9 rfl rfl p18 (fun _ => rfl) ?_
   refine zmd rfl rfl (onu (zc7 rfl (zaf (zbl (za4 (za0 rfl (zb1 (op := .add) rfl rfl rfl (za3 rfl (za5 ?_)))))))))
   rw [zam k (by omega)]
   exact zay (show nc - (k + 1) < nc - k by omega) (zfv [] [] rfl rfl rfl .nil .nil (l' := lC i nc (zav E) ces c at_ (zst E i (k + 1) : Nat) ((k + 1 : Nat) : Int)) (.cons rfl (.same rfl) (.cons rfl (.same rfl) (.cons rfl (.same rfl) (.cons rfl (.same rfl) (.cons rfl (.same rfl) (.cons rfl (.same rfl) (.cons rfl (.same rfl) (.cons rfl (.same rfl) .nil))))))))) ⟨k + 1, rfl, hlt, rfl⟩
 have hk7 : k = nc := by have := of_decide_eq_false hk6; omega
 subst hk7
 have hcv : (c.map fun z => ([.int .i64 z] : List AV)).length = zst E i k := by rw [y07, hcs]
 refine onu (za7 (zc7 rfl (zbg (zac ?_))))
 refine zdb ?_
 refine zbf (za4 (zsr rfl (za3 rfl (zbo rfl rfl (za3 rfl ?_)))))
 rw [hcv]
 refine zax rfl rfl rfl (fun hk8 => ?_) fun hk8 => ?_
 ·refine za3 rfl (zh4 rfl ?_)
  refine zb9 rfl rfl graph7 noC ?_
  refine zbk rfl rfl (za3 rfl (onu (zao ?_)))
  exact zak ⟨.inr rfl, _, rfl, rfl⟩
 ·have hk8 : (((zst E i k : Nat) : Int) == ((zst E i k : Nat) : Int)) = false := hk8
  rw [beq_self_eq_true] at hk8
  cases hk8
open Go Go.Am Go.ChangeShapes Go.WideShapes Go.ChangeAt Go.RowKit
theorem own : ownKnob Try.prog.godebug = none := by kernel_rfl
theorem gok {W : World} : GOk (fun _ => True) W := fun _ hx => absurd hx y0i
theorem solid : zt1 Try.prog Try.prog.types.size := solid_of (by kernel_rfl)
open Go Go.Am Go.ChangeShapes Go.WideShapes Go.ChangeAt Go.RowKit Go.Deep
section
variable {H : Type} {enc : TypeId × Value → H} {w : World} {base : Nat} {spare : Nat → Bool} {held : Bool}
theorem rdN : Rd enc Try.prog w base spare held 3 (zmn .i64) := rd_int Try.underlying3 (by kernel_rfl)
theorem rdE : Rd enc Try.prog w base spare held 32 (zcp [zmn .i64, zmn .i64]) := by
 refine znq Try.underlying32 rfl (by kernel_rfl) fun i f g e1 e2 => ?_
 match i, e1, e2 with
 | 0, e1, e2 => injection e1 with e1; injection e2 with e2; subst e1 e2; exact rdN
 | 1, e1, e2 => injection e1 with e1; injection e2 with e2; subst e1 e2; exact rdN
 | i + 2, e1, e2 => simp at e1
theorem rdL : Rd enc Try.prog w base spare held 22 (zmo (zcp [zmn .i64, zmn .i64])) :=
 rd_slice Try.underlying22 (by kernel_rfl) (by rw [show Try.prog.cellsOf 32 = 2 from by kernel_rfl]; decide) rdE
theorem rdG : Rd enc Try.prog w base spare held 24 (zcp [zmn .i64, zmo (zcp [zmn .i64, zmn .i64])]) := by
 refine znq Try.underlying24 rfl (by kernel_rfl) fun i f g e1 e2 => ?_
 match i, e1, e2 with
 | 0, e1, e2 => injection e1 with e1; injection e2 with e2; subst e1 e2; exact rdN
 | 1, e1, e2 => injection e1 with e1; injection e2 with e2; subst e1 e2; exact rdL
 | i + 2, e1, e2 => simp at e1
def zub (d : DataW H) : List (Int × Int) := (zk6 ((zcc d).tail.headD .nil)).map fun x => (zve ((zcc x).headD .nil), zve ((zcc x).tail.headD .nil))
theorem zs1 {n : Nat} {cs : List Value} {d : DataW H} {p : List MemPlace} (h : DataW.trod enc Try.prog w base spare held n 32 cs = some (d, p)) : ∃ a b : DataW H, zcc d = [a, b] := by
 obtain ⟨xs, n', _, hx, hlen, hxl, hall⟩ := DataW.trod_struct Try.underlying32 h
 simp only [y09] at hx
 obtain ⟨rfl, rfl⟩ := hx
 obtain ⟨x0, x1, rfl⟩ : ∃ a b, xs = [a, b] := by
  match xs, hxl with
  | [a, b], _ => exact ⟨a, b, rfl⟩
 exact ⟨x0.1, x1.1, rfl⟩
theorem shapeG {n : Nat} {cs : List Value} {d : DataW H} {p : List MemPlace} (h : DataW.trod enc Try.prog w base spare held n 24 cs = some (d, p)) :
  ∃ d0 d1 : DataW H, zcc d = [d0, d1] ∧ ∀ x ∈ zk6 d1, ∃ a b : DataW H, zcc x = [a, b] := by
 obtain ⟨xs, n', _, hx, hlen, hxl, hall⟩ := DataW.trod_struct Try.underlying24 h
 simp only [y09] at hx
 obtain ⟨rfl, rfl⟩ := hx
 obtain ⟨x0, x1, rfl⟩ : ∃ a b, xs = [a, b] := by
  match xs, hxl with
  | [a, b], _ => exact ⟨a, b, rfl⟩
 have h2 := hall 1 _ rfl
 have h2' : _ = some x1 := h2
 refine ⟨x0.1, x1.1, rfl, ?_⟩
 rcases Deep.open_slice Try.underlying22 h2' with ⟨_, hx⟩ | ⟨a, len, cap, m, n2, D, Pl, _, hb, hle, hm, hmm, hx, hel⟩
 ·subst hx
  exact fun y hy => absurd hy y0i
 ·subst hx
  have hlm : len ≤ m := by rw [hmm]; split <;> omega
  intro x hx
  have hx' : x ∈ (List.range len).map D := hx
  obtain ⟨i, hi, rfl⟩ := y0o.1 hx'
  obtain ⟨cs', h1, h3⟩ := hel i (by have := y0g.1 hi; omega)
  exact zs1 h3
theorem cG_read {d d0 d1 : DataW H} (h : zcc d = [d0, d1]) (hr : ∀ x ∈ zk6 d1, ∃ a b : DataW H, zcc x = [a, b]) : cG (zve ((zcc d).headD .nil)) (zub d) = aggA (zcp [zmn .i64, zmo (zcp [zmn .i64, zmn .i64])]) d := by
 unfold cG zub aggA zcp
 rw [h]
 show AV.agg [.int .i64 (zve d0), .vs (cE ((zk6 d1).map fun x => (zve ((zcc x).headD .nil), zve ((zcc x).tail.headD .nil))))] = AV.agg [.int .i64 (zve d0), .vs ((zk6 d1).map (zcp [zmn .i64, zmn .i64]))]
 congr 3
 unfold cE
 rw [y26]
 refine congrArg AV.vs (y24 fun x hx => ?_)
 obtain ⟨a, b, e⟩ := hr x hx
 unfold zcp
 show [AV.int .i64 (zve ((zcc x).headD .nil)), AV.int .i64 (zve ((zcc x).tail.headD .nil))] = _
 rw [e]
 rfl
end
end Go.Proofs.Ytfbeableaihooaa
