/-
  SIGNALS THAT DO NOT DEPEND ON AN INPUT: the law.; WHAT EVERY LAW OF THE SEAT SHARES.; READING CONTROLS AND STATES AT THE ROW.
-/
import Derived.Test.YtdolbghhcijonaaGreatNX9
import Derived.Test.YtdolbghhcijonaaGreatRows
import Derived.JoinedCond
namespace Go.Proofs.YtdolbghhcijonaaGreat
open Go Go.Am
set_option maxRecDepth 100000
theorem least_of {P : Nat -> Prop} : ∀ n, P n -> ∃ m, m <= n /\ P m /\ ∀ j, j < m -> ¬ P j := by
 intro n
 induction n using Nat.strongRecOn with
 | _ n ih =>
  intro h;by_cases hx : ∃ j, j < n /\ P j
  ·obtain ⟨j, hj, hP⟩ := hx;obtain ⟨m, a, b, d⟩ := ih j hj hP;exact ⟨m, by omega, b, d⟩
  ·exact ⟨n, y08 _, h, fun j hj hP => hx ⟨j, hj, hP⟩⟩
theorem zkq {c : Ctl} {s : Sta} (h : Ct c) (hs : Ss c s) : (∃ n, itS c s (n + 1) = itS c s n /\ PF Tryz.prog 8 [.agg (cC c), .agg (cS s)] (.tup [.agg (cS (itS c s n)), vsI (badL c s (n + 1)), .int .i64 0])) \/ PF Tryz.prog 8 [.agg (cC c), .agg (cS s)] (.tup [z5, .vs [], .int .i64 21]) := by
 by_cases hx : ∃ n, n <= 64 /\ itS c s (n + 1) = itS c s n
 ·obtain ⟨n0, hn0, h0⟩ := hx;obtain ⟨n, hn, hP, hl⟩ := least_of (P := fun n => itS c s (n + 1) = itS c s n) n0 h0;refine .inl ⟨n, hP, zqe h hs (fun m hm hml hme => ?_) fun hb => absurd hP (hb n (by omega))⟩;have : m = n := by
   rcases Nat.lt_trichotomy m n with g | g | g
   ·exact absurd hme (hl m g)
   ·exact g
   ·exact absurd hP (hml n g)
  rw [this]
 ·exact .inr (zqe h hs (fun m hm hml hme => absurd ⟨m, hm, hme⟩ hx) fun _ => rfl)
def b3_0 : IC := sR [oM 98 (.bin .lss (.t 97) (.t 96))]
 (.seq (.cond (.t 98) (.skip)
 (.exit 0))
 (.seq (.block 1 (sR [oT 99 97,
  oT 15 99]
 (.seq (.region [oL 101 5 3,
  oL 102 5 3,
  oM 103 (.call (.c (.fn 11 [] [])) [(.t 102)]),
  oT 104 15,
  oM 105 (.bin .add (.t 103) (.t 104)),
  oM 106 (.call (.c (.fn 10 [] [])) [(.t 101), (.t 105)]),
  oT 100 106,
  oM 107 (.extract (.t 100) 0),
  oM 108 (.extract (.t 100) 1),
  oT 16 107,
  oT 17 108] (some [[], [], [1], [], [2, 3], [0, 4, 2], [5], [6], [6], [7, 5, 0, 1, 2, 3, 4, 5, 6, 7], [8, 9, 0, 1, 2, 3, 4, 5, 6, 7, 8, 9]]))
 (.seq (sR [oT 109 17,
  oM 110 (.un .not (.t 109))]
 (.cond (.t 110) (sR [oM 6 (.mov (.c (.bool false)))]
 (.ret))
 (.skip)))
 (.seq (.region [oT 111 16,
  oF 112 0 3,
  oN 113 112,
  oM 114 (.bin .mul (cI 2) (.t 113)),
  oT 115 7,
  oM 116 (.bin .add (.t 114) (.t 115)),
  oM 117 (.call (.c (.fn 12 [] [])) [(.t 111), (.t 116)]),
  oM 118 (.un .not (.t 117)),
  oT 119 118,
  ⟨(some 120), .faddr 3 (.t 9), some (119, true)⟩,
  ⟨(some 121), .load none (.t 120), some (119, true)⟩,
  ⟨(some 122), .mov (.t 15), some (119, true)⟩,
  ⟨(some 123), .idxs 1 (.t 121) (.t 122), some (119, true)⟩,
  ⟨(some 124), .load none (.t 123), some (119, true)⟩,
  ⟨(some 125), .faddr 3 (.t 12), some (119, true)⟩,
  ⟨(some 126), .load none (.t 125), some (119, true)⟩,
  ⟨(some 127), .mov (.t 15), some (119, true)⟩,
  ⟨(some 128), .idxs 1 (.t 126) (.t 127), some (119, true)⟩,
  ⟨(some 129), .load none (.t 128), some (119, true)⟩,
  ⟨(some 130), .eqb true (.t 124) (.t 129), some (119, true)⟩,
  ⟨(some 131), .mov (.t 130), some (119, true)⟩,
  ⟨(some 132), .faddr 4 (.t 9), some (131, false)⟩,
  ⟨(some 133), .load none (.t 132), some (131, false)⟩,
  ⟨(some 134), .mov (.t 15), some (131, false)⟩,
  ⟨(some 135), .idxs 1 (.t 133) (.t 134), some (131, false)⟩,
  ⟨(some 136), .load none (.t 135), some (131, false)⟩,
  ⟨(some 137), .faddr 4 (.t 12), some (131, false)⟩,
  ⟨(some 138), .load none (.t 137), some (131, false)⟩,
  ⟨(some 139), .mov (.t 15), some (131, false)⟩,
  ⟨(some 140), .idxs 1 (.t 138) (.t 139), some (131, false)⟩,
  ⟨(some 141), .load none (.t 140), some (131, false)⟩,
  ⟨(some 142), .bin .neq (.t 136) (.t 141), some (131, false)⟩,
  ⟨(some 143), .pick (.t 131) (.c (.bool true)) (.t 142), some (119, true)⟩,
  oM 144 (.pick (.t 119) (.t 143) (.c (.bool false)))] (some [[], [], [1], [2], [], [3, 4], [0, 5], [6], [7, 6], [8], [9, 8], [8], [10, 11, 8], [12, 8], [8], [14, 8], [8], [15, 16, 8], [17, 8], [13, 18, 8], [19, 8, 8], [20], [21, 20], [20], [22, 23, 20], [24, 20], [20], [26, 20], [20], [27, 28, 20], [29, 20], [25, 30, 20], [20, 31, 8], [8, 32]]))
 (.cond (.t 144) (sR [oM 6 (.mov (.c (.bool false)))]
 (.ret))
 (.skip)))))))
 (.region [oM 145 (.bin .add (.t 97) (cI 1)),
  oT 97 145] none)))
-- pneumatic/pneumatictop.TopSettleApart
def ic3 : IC := sR [oM 3 (.box (.t 0)),
  oM 4 (.box (.t 1)),
  oM 6 (.mov (.c (.bool false)))]
 (.seq (sR [oL 18 5 3,
  oL 19 5 4,
  oM 20 (.call (.c (.fn 5 [] [])) [(.t 18), (.t 19)]),
  oM 21 (.un .not (.t 20)),
  oT 22 21,
  ⟨(some 23), .faddr 1 (.t 3), some (22, false)⟩,
  ⟨(some 24), .load none (.t 23), some (22, false)⟩,
  ⟨(some 25), .len false (.t 24), some (22, false)⟩,
  ⟨(some 26), .bin .eql (.t 25) (cI 0), some (22, false)⟩,
  oM 27 (.pick (.t 22) (.c (.bool true)) (.t 26))]
 (.cond (.t 27) (sR [oM 28 (.call (.c (.fn 6 [] [])) []),
  oT 6 28]
 (.ret))
 (.skip)))
 (sR [oT 29 2,
  oM 30 (.conv .i64 (.t 29)),
  oF 31 1 3,
  oN 32 31,
  oM 33 (.len false (.t 32)),
  oM 34 (.bin .rem (.t 30) (.t 33)),
  oT 7 34]
 (sR [oL 35 5 4,
  oM 36 (.call (.c (.fn 7 [] [])) [(.t 35)]),
  oM 8 (.alloc [.nils, .nils, .nils, .nils, .nils]),
  ⟨none, .store 5 (.t 8) (.t 36), none⟩]
 (.seq (.region [oF 37 2 8,
  oN 38 37,
  oT 39 7,
  oF 40 2 8,
  oN 41 40,
  oT 42 7,
  oM 43 (.idxs 1 (.t 41) (.t 42)),
  oN 44 43,
  oM 45 (.un .not (.t 44)),
  oM 46 (.idxs 1 (.t 38) (.t 39)),
  ⟨none, .store 1 (.t 46) (.t 45), none⟩] (some [[], [0], [], [], [3], [], [4, 5], [6], [7], [1, 2, 0, 1, 2, 3, 4, 5, 6, 7, 8], [9, 8, 0, 1, 2, 3, 4, 5, 6, 7, 8]]))
 (sR [oL 48 5 3,
  oL 49 5 4,
  oM 50 (.call (.c (.fn 8 [] [])) [(.t 48), (.t 49)]),
  oT 47 50,
  oM 51 (.extract (.t 47) 0),
  oM 52 (.extract (.t 47) 1),
  oM 53 (.extract (.t 47) 2),
  oM 9 (.alloc [.nils, .nils, .nils, .nils, .nils]),
  ⟨none, .store 5 (.t 9) (.t 51), none⟩,
  oT 10 52,
  oT 11 53]
 (sR [oL 55 5 3,
  oL 56 5 8,
  oM 57 (.call (.c (.fn 8 [] [])) [(.t 55), (.t 56)]),
  oT 54 57,
  oM 58 (.extract (.t 54) 0),
  oM 59 (.extract (.t 54) 1),
  oM 60 (.extract (.t 54) 2),
  oM 12 (.alloc [.nils, .nils, .nils, .nils, .nils]),
  ⟨none, .store 5 (.t 12) (.t 58), none⟩,
  oT 13 59,
  oT 14 60]
 (.seq (sR [oT 61 11,
  oM 62 (.bin .neq (.t 61) (cI 0)),
  oT 63 62,
  ⟨(some 64), .mov (.t 14), some (63, false)⟩,
  ⟨(some 65), .bin .neq (.t 64) (cI 0), some (63, false)⟩,
  oM 66 (.pick (.t 63) (.c (.bool true)) (.t 65))]
 (.cond (.t 66) (sR [oT 67 11,
  oM 68 (.bin .eql (.t 67) (cI 0)),
  oT 69 68,
  ⟨(some 70), .mov (.t 11), some (69, false)⟩,
  ⟨(some 71), .bin .eql (.t 70) (cI 21), some (69, false)⟩,
  oM 72 (.pick (.t 69) (.c (.bool true)) (.t 71)),
  oT 73 72,
  ⟨(some 74), .mov (.t 14), some (73, true)⟩,
  ⟨(some 75), .bin .eql (.t 74) (cI 0), some (73, true)⟩,
  ⟨(some 76), .mov (.t 75), some (73, true)⟩,
  ⟨(some 77), .mov (.t 14), some (76, false)⟩,
  ⟨(some 78), .bin .eql (.t 77) (cI 21), some (76, false)⟩,
  ⟨(some 79), .pick (.t 76) (.c (.bool true)) (.t 78), some (73, true)⟩,
  oM 80 (.pick (.t 73) (.t 79) (.c (.bool false))),
  oT 81 80,
  ⟨(some 82), .call (.c (.fn 6 [] [])) [], some (81, true)⟩,
  oM 83 (.pick (.t 81) (.t 82) (.c (.bool false))),
  oT 6 83]
 (.ret))
 (.skip)))
 (.seq (sR [oL 84 5 3,
  oL 85 5 9,
  oM 86 (.call (.c (.fn 9 [] [])) [(.t 84), (.t 85)]),
  oM 87 (.bin .neq (.t 86) (cI 0)),
  oT 88 87,
  ⟨(some 89), .load (some 5) (.t 3), some (88, false)⟩,
  ⟨(some 90), .load (some 5) (.t 12), some (88, false)⟩,
  ⟨(some 91), .call (.c (.fn 9 [] [])) [(.t 89), (.t 90)], some (88, false)⟩,
  ⟨(some 92), .bin .neq (.t 91) (cI 0), some (88, false)⟩,
  oM 93 (.pick (.t 88) (.c (.bool true)) (.t 92))]
 (.cond (.t 93) (sR [oM 6 (.mov (.c (.bool false)))]
 (.ret))
 (.skip)))
 (.seq (sR [oF 94 2 3,
  oN 95 94,
  oM 96 (.len false (.t 95)),
  oM 97 (.mov (cI 0))]
 (.block 0 (.loop b3_0)))
 (sR [oM 146 (.call (.c (.fn 6 [] [])) []),
  oT 6 146]
 (.ret)))))))))))
theorem fn3 : env0.fn 3 = some ⟨147, ic3, [.t 6]⟩ := by kernel_rfl
set_option maxHeartbeats 16000000 in
set_option maxRecDepth 100000 in
theorem law3 {c : Ctl} {s : Sta} {u : Int} (hr : Rd c) (hu : 0 <= u /\ u <= 255) : PF Tryz.prog 3 [.agg (cC c), .agg (cS s), .int .u8 u] (.bool true) := by
 have p5 := zxb (s := s) hr;have p6 := tryLamp6;refine za6 env0_ok fn3 [(0, .agg (cC c)), (1, .agg (cS s)), (2, .int .u8 u)] (y04 rfl) rfl fun w0 N0 => ?_;unfold ic3;refine zsr rfl (zd6 rfl rfl (zd6 rfl rfl (zan rfl (onu ?_))));refine zc3 [] [(0, 0, cC c), (1, 1, cS s)] [(2, .int .u8 u), (3, .vptr (cC c)), (4, .vptr (cS s)), (6, .bool false)] rfl (.cons rfl rfl (.cons rfl rfl .nil)) .nil (.cons rfl (.same rfl) (.cons rfl (.fptr rfl rfl) (.cons rfl (.fptr rfl rfl) (.cons rfl (.same rfl) .nil)))) ?_;cases ht : tryB c s with
 | false =>
  rw [ht] at p5;refine ze6 ?_;exact uE
 | true =>
  rw [ht] at p5;obtain ⟨h, hs, hsx, hct⟩ := try_ok hr ht;have hil : (c.ins.map fun s => ([.str s] : List AV)).length = c.ins.length := y06 ..;have i16 := h.i16;have s16 := h.s16;have a6 := h.a6;have a1 := h.a1;obtain ⟨k1, k2, k3, k4, k5⟩ := hs.sh;refine zk5 ?_;refine za4 rfl rfl rfl (fun h0 => ?_) fun h0 => ?_
  ·refine zfk ?_;exact uE
  have h0 : 0 < c.ins.length := by
   have : ¬ (((c.ins.map fun s => ([.str s] : List AV)).length : Nat) : Int) = 0 := by simpa using h0
   rw [hil] at this;omega
  have hwu : IntKind.wrap .i64 u = u := zbb _ (by omega) (by omega);refine ze6 ?_;have hn0 : ((c.ins.length : Nat) : Int) ≠ 0 := by omega
  obtain ⟨i, hi, hiu⟩ : ∃ i : Nat, i < c.ins.length /\ u.tmod (c.ins.length : Nat) = (i : Nat) := by
   have g1 := Int.tmod_nonneg ((c.ins.length : Nat) : Int) hu.1;have g2 := Int.tmod_lt_of_pos u (show (0 : Int) < ((c.ins.length : Nat) : Int) by omega)
   exact ⟨(u.tmod (c.ins.length : Nat)).toNat, by omega, by omega⟩
  have hrem : Am.binOp .rem (.int .i64 u) (.int .i64 (c.ins.length : Nat)) = some (.int .i64 (i : Nat)) := by
   show (if ((c.ins.length : Nat) : Int) = 0 then none else some (AV.int .i64 (u.tmod (c.ins.length : Nat)))) = _;rw [if_neg hn0, hiu]
  rw [hwu, hil];refine zb3 rfl rfl hrem ?_;refine ggf2 ?_;refine zhh _ rfl rfl (zbk (copy7 hs.toSms.shs ⟨[], 0, _⟩)) (fun _ _ _ _ hm => absurd hm y0c) ?_;rintro v ⟨hp, nx, ck⟩ ⟨n, t, w, rfl, hC⟩;have hV := hC.v7;repeat (first | refine zce ?_)
  refine zaj rfl rfl rfl rfl za3 rfl (by show ([w 0, w 1, w 2, w 3, w 4] : List AV).all AV.isCell = true; simp only [y1s, y2l, hV.w0.isCell, hV.w1.isCell, hV.w2.isCell, hV.w3.isCell, hV.w4.isCell]; rfl) ?_
  rw [zc7];have hV1 := hV.keep (H' := ⟨(nx, ck, .cells [w 0, w 1, w 2, w 3, w 4]) :: hp, nx + 1, ck + 1⟩) (y0y _) (fun j hj => za5 hj);have hne : ∀ i, i < 5 -> n i < nx := fun i hi => by
   match i, hi with
   | 0, _ => exact hV.w0.hi
   | 1, _ => exact hV.w1.hi
   | 2, _ => exact hV.w2.hi
   | 3, _ => exact hV.w3.hi
   | 4, _ => exact hV.w4.hi
  have hlb : Am.look nx ((nx, ck, AObj.cells [w 0, w 1, w 2, w 3, w 4]) :: hp) = some (ck, .cells [w 0, w 1, w 2, w 3, w 4]) := za3;show Om _ _ _ _ _ _ (st 147 _ ((nx, ck, AObj.cells [w 0, w 1, w 2, w 3, w 4]) :: hp) (nx + 1) (ck + 1)) _ _;generalize ((nx, ck, AObj.cells [w 0, w 1, w 2, w 3, w 4]) :: hp) = hp1 at *;have hl2 := hV1.w2.lk;have hbl : (bC s.inp).length = s.inp.length := zd0 _;obtain ⟨cap, e2⟩ := hV1.w2.w;rw [hbl] at e2;have hdv : (bC s.inp).drop (0 + ((i : Nat) : Int).toNat * 1) = .bool (bA s.inp i) :: (bC s.inp).drop (i + 1) := by
   rw [show 0 + ((i : Nat) : Int).toNat * 1 = i by simp, y0q (by rw [zd0]; omega)]
   unfold bC;rw [List.getElem_map, bA_at (by omega)]
  repeat (first | refine zb5 ?_ | refine zay ?_ | refine zau ?_ | refine zae rfl ?_ | refine zgg env0_ok rfl rfl rfl ?_)
  refine zab rfl hlb (y07 _) rfl ?_;refine zk4 ?_;refine zab rfl hlb (y07 _) rfl ?_;rw [e2];refine ze6 ?_;refine zab rfl hl2 (y15 (hne 2 (by decide))) hdv ?_;refine ze6 ?_;rw [show 0 + ((i : Nat) : Int).toNat * 1 = i by simp]
  refine zgc (id := n 2) (sp := t 2) (off := i) (cs := bC s.inp) rfl rfl rfl hl2 (by rw [zd0]; omega) rfl ?_;rw [zld];have hV2 := hV1.put2 (v := s.inp.set i (!bA s.inp i)) (by rw [y24]);have hlb2 : Am.look nx (zap (n 2) (t 2, AObj.cells (bC (s.inp.set i (!bA s.inp i)))) hp1) = some (ck, .cells [w 0, w 1, w 2, w 3, w 4]) := by
   have := hne 2 (by decide);rw [za0, if_neg (by omega)];exact hlb
  have hts := zva hs i;have hTd : zh8 s i = ⟨s.en, s.va, s.inp.set i (!bA s.inp i), s.vals, s.tms⟩ := rfl;rw [<- hTd] at hV2;have hap : ∀ (L : List Int) (x y j : Nat), Clo c L -> 2 * c.act + ((i : Nat) : Int) ∉ L -> itS c s (x + 1) = itS c s x -> itS c (zh8 s i) (y + 1) = itS c (zh8 s i) y -> j < c.sg.length -> ((fsC c + j : Nat) : Int) ∈ L -> bA (itS c s x).vals j = bA (itS c (zh8 s i) y).vals j /\ zA (itS c s x).tms j = zA (itS c (zh8 s i) y).tms j := fun L x y j a b d e f g => zu4 h hs hi a b d e f g;generalize zh8 s i = T at *;refine onu ?_;refine zc3 [(some (nx, ck), cS T)] (fz7 T n t ++ []) [(2, .int .u8 u), (3, .vptr (cC c)), (4, .vptr (cS s)), (6, .bool false), (7, .int .i64 (i : Nat)), (8, .mptr 0 0 0)] ?_ (hV2.rnF .nil) (.cons hlb2 (hV2.rnC _) .nil) (.cons rfl (.same rfl) (.cons rfl (.same rfl) (.cons rfl (.same rfl) (.cons rfl (.same rfl) (.cons rfl (.same rfl) (.cons rfl (.mptr rfl) .nil)))))) ?_
  ·show (!zt2 nx [n 0, n 1, n 2, n 3, n 4] && true) = true;have f0 := hne 0 (by decide);have f1 := hne 1 (by decide);have f2 := hne 2 (by decide);have f3 := hne 3 (by decide);have f4 := hne 4 (by decide);rw [zq4 (fun h => by simp only [y0f, y0c, or_false] at h; omega)];rfl
  refine zc3 [] [(0, 0, cS T)] [(2, .int .u8 u), (3, .vptr (cC c)), (4, .vptr (cS s)), (6, .bool false), (7, .int .i64 (i : Nat)), (8, .vptr (cS T))] rfl (.cons rfl rfl .nil) .nil (.cons rfl (.same rfl) (.cons rfl (.same rfl) (.cons rfl (.same rfl) (.cons rfl (.same rfl) (.cons rfl (.same rfl) (.cons rfl (.fptr rfl rfl) .nil)))))) ?_;rcases zkq h hs with ⟨x, hfx, p8s⟩ | p8s
  ·rcases zkq h hts with ⟨y, hfy, p8t⟩ | p8t
   ·have hap := fun L j a b => hap L x y j a b hfx hfy;have p9x := zwp (s := itS c s x) hsx (zl7 hs x).toSms;have p9y := zwp (s := itS c T y) hsx (zl7 hts y).toSms;rw [rtE_ok hct (zl7 hs x)] at p9x;rw [rtE_ok hct (zl7 hts y)] at p9y;have hX := zl7 hs x;have hY := zl7 hts y;generalize itS c s x = X at *;generalize itS c T y = Y at *;obtain ⟨x1, x2, x3, x4, x5⟩ := hX.sh;obtain ⟨y1, y2, y3, y4, y5⟩ := hY.sh;have hg := zel c.sg;have p11 := zhm h.toSm;refine ze6 ?_;refine zc3 [] [(0, 1, cS X), (1, 2, cS Y)] [(3, .vptr (cC c)), (6, .bool false), (7, .int .i64 (i : Nat)), (9, .vptr (cS X)), (12, .vptr (cS Y)), (95, vsG c.sg), (96, .int .i64 (c.sg.length : Nat)), (97, .int .i64 (0 : Nat))] rfl (.cons rfl rfl (.cons rfl rfl .nil)) .nil (.cons rfl (.same rfl) (.cons rfl (.same rfl) (.cons rfl (.same rfl) (.cons rfl (.fptr rfl rfl) (.cons rfl (.fptr rfl rfl) (.cons rfl (.same rfl) (.cons (by rw [<- hg]; rfl) (.same rfl) (.cons rfl (.same rfl) .nil)))))))) ?_;refine zav (fun mm S => ∃ k : Nat, mm = c.sg.length - k /\ k <= c.sg.length /\ S = st 147 [(3, .vptr (cC c)), (6, .bool false), (7, .int .i64 (i : Nat)), (9, .vptr (cS X)), (12, .vptr (cS Y)), (95, vsG c.sg), (96, .int .i64 (c.sg.length : Nat)), (97, .int .i64 (k : Nat))] [] 0 1) c.sg.length
     skp ⟨0, rfl, y0r _, rfl⟩ ?_
    rintro mm S ⟨k, rfl, hk, rfl⟩;unfold b3_0;refine zk4 ?_;refine za4 rfl rfl rfl (fun h3 => ?_) fun h3 => ?_
    ·have hlt : k < c.sg.length := y1i.1 (of_decide_eq_true h3);have hfs : fsC c <= 100 := by unfold fsC; omega
     have hkz : fsC c + k < lnC c := by unfold lnC; omega
     have p10 := zwk h hkz;have w1 := za7 k (by omega);have w2 : IntKind.wrap .i64 (((fsC c : Nat) : Int) + (k : Nat)) = ((fsC c + k : Nat) : Int) := by rw [zbb _ (by omega) (by omega)]; omega
     have w3 : IntKind.wrap .i64 (2 * c.act) = 2 * c.act := zbb _ (by omega) (by omega);have w4 : IntKind.wrap .i64 (2 * c.act + ((i : Nat) : Int)) = 2 * c.act + ((i : Nat) : Int) := zbb _ (by omega) (by omega);have hap := fun b => hap (rcF c (fsC c + k)) k (rcF_clo h hkz) b hlt (rcF_mem h hkz);have hbx := zsn (l := X.vals) (i := k) (by omega);have hby := zsn (l := Y.vals) (i := k) (by omega);have hzx := zij (l := X.tms) (i := k) (by omega);have hzy := zij (l := Y.tms) (i := k) (by omega);have hfl : (rcF c (fsC c + k)).length <= 1000000 := y0u (zwj h hkz _) (by unfold lnC; omega);have p12 := zlj (rcF c (fsC c + k)) (2 * c.act + ((i : Nat) : Int)) hfl;generalize rcF c (fsC c + k) = L at *;refine zog ?_;refine zc2 env0_ok _ (hL2 p10 p11) (fun f => Nat.beq f 10 || Nat.beq f 11) rfl rfl rfl ?_;refine ze6 ?_;rw [w2];refine ze6 ?_;refine zc2 env0_ok _ (hL1 p12) (fun f => Nat.beq f 12) rfl rfl rfl ?_;refine ze6 ?_;rw [w3];rw [w4];refine ze6 ?_;cases hc : L.contains (2 * c.act + ((i : Nat) : Int)) with
     | true =>
      refine ze6 ?_;rw [w1];exact zad (show c.sg.length - (k + 1) < c.sg.length - k by omega) skp ⟨k + 1, rfl, hlt, rfl⟩
     | false =>
      have hc2 : 2 * c.act + ((i : Nat) : Int) ∉ L := fun e => by rw [y1m.2 e] at hc; cases hc
      obtain ⟨e1, e2⟩ := hap hc2;rw [<- e1] at hby;rw [<- e2] at hzy;generalize bA X.vals k = bx at *;cases bx;all_goals
       refine ze6 ?_;refine zfg rfl rfl (by show some (AV.bool (!(_ == _))) = _; simp) ?_
       refine zfk ?_;rw [w1];exact zad (show c.sg.length - (k + 1) < c.sg.length - k by omega) skp ⟨k + 1, rfl, hlt, rfl⟩
    ·have hke : k = c.sg.length := by
      have : ¬ k < c.sg.length := fun h => of_decide_eq_false h3 (y1i.2 h);omega
     refine zfk ?_;refine zbq ?_;refine zfk ?_;exact uE
   ·refine ze6 ?_;exact uE
  ·rcases zkq h hts with ⟨y, hfy, p8t⟩ | p8t
   ·refine ze6 ?_;exact uE
   ·refine ze6 ?_;exact uE
open Go Go.Am Go.ChangeShapes Go.WideShapes Go.ChangeAt Go.RowKit
theorem own : ownKnob Tryz.prog.godebug = none := by kernel_rfl
theorem gok {W : World} : GOk (fun _ => True) W := fun _ hx => absurd hx y0c
theorem solid : ztr Tryz.prog Tryz.prog.types.size := solid_of (by kernel_rfl)
open Go Go.Am Go.ChangeShapes Go.WideShapes Go.ChangeAt Go.RowKit Go.Deep
section
variable {H : Type} {enc : TypeId × Value -> H} {w : World} {base : Nat} {spare : Nat -> Bool} {held : Bool}
theorem rz3 : Am.Rd enc Tryz.prog w base spare held 3 (zl3 .i64) := zs2 Tryz.underlying3 (by kernel_rfl)
theorem rz4 : Am.Rd enc Tryz.prog w base spare held 4 zjl := rd_bool Tryz.underlying4 (by kernel_rfl)
theorem rz9 : Am.Rd enc Tryz.prog w base spare held 9 cStr := rd_str Tryz.underlying9 (by kernel_rfl)
theorem rz24 : Am.Rd enc Tryz.prog w base spare held 24 (zbr (zl3 .i64)) :=
 zj7 Tryz.underlying24 (by kernel_rfl) (by rw [show Tryz.prog.cellsOf 3 = 1 from by kernel_rfl]; decide) rz3
theorem rz27 : Am.Rd enc Tryz.prog w base spare held 27 (zbr zjl) :=
 zj7 Tryz.underlying27 (by kernel_rfl) (by rw [show Tryz.prog.cellsOf 4 = 1 from by kernel_rfl]; decide) rz4
theorem rz22 : Am.Rd enc Tryz.prog w base spare held 22 (zbr cStr) :=
 zj7 Tryz.underlying22 (by kernel_rfl) (by rw [show Tryz.prog.cellsOf 9 = 1 from by kernel_rfl]; decide) rz9
theorem rz74 : Am.Rd enc Tryz.prog w base spare held 74 fun d => cX (exD d) :=
 rd_tree Tryz.underlying74 rfl Tryz.underlying3 (by kernel_rfl) Tryz.underlying72 (by kernel_rfl) (by rw [show Tryz.prog.cellsOf 74 = 3 from by kernel_rfl]; decide) (by kernel_rfl)
def rSg : List (DataW H -> List AV) := [cStr, zl3 .i64, fun d => cX (exD d), fun d => cX (exD d), zl3 .i64, zjl]
theorem rz77 : Am.Rd enc Tryz.prog w base spare held 77 (zbj rSg) := by
 refine zkl Tryz.underlying77 rfl (by kernel_rfl) fun i f g e1 e2 => ?_;unfold rSg at e2
 match i, e1, e2 with
 | 0, e1, e2 => injection e1 with e1; injection e2 with e2; subst e1 e2; exact rz9
 | 1, e1, e2 => injection e1 with e1; injection e2 with e2; subst e1 e2; exact rz3
 | 2, e1, e2 => injection e1 with e1; injection e2 with e2; subst e1 e2; exact rz74
 | 3, e1, e2 => injection e1 with e1; injection e2 with e2; subst e1 e2; exact rz74
 | 4, e1, e2 => injection e1 with e1; injection e2 with e2; subst e1 e2; exact rz3
 | 5, e1, e2 => injection e1 with e1; injection e2 with e2; subst e1 e2; exact rz4
 | i + 6, e1, e2 => simp at e1
theorem rz23 : Am.Rd enc Tryz.prog w base spare held 23 (zbr (zbj rSg)) :=
 zj7 Tryz.underlying23 (by kernel_rfl) (by rw [show Tryz.prog.cellsOf 77 = 10 from by kernel_rfl]; decide) rz77
def rCt : List (DataW H -> List AV) := [zl3 .i64, zbr cStr, zbr (zbj rSg), zbr (zl3 .i64), zbr (zl3 .i64)]
def rSt : List (DataW H -> List AV) := [zbr (zl3 .i64), zbr zjl, zbr zjl, zbr zjl, zbr (zl3 .i64)]
theorem rz26 : Am.Rd enc Tryz.prog w base spare held 26 (zbj rCt) := by
 refine zkl Tryz.underlying26 rfl (by kernel_rfl) fun i f g e1 e2 => ?_;unfold rCt at e2
 match i, e1, e2 with
 | 0, e1, e2 => injection e1 with e1; injection e2 with e2; subst e1 e2; exact rz3
 | 1, e1, e2 => injection e1 with e1; injection e2 with e2; subst e1 e2; exact rz22
 | 2, e1, e2 => injection e1 with e1; injection e2 with e2; subst e1 e2; exact rz23
 | 3, e1, e2 => injection e1 with e1; injection e2 with e2; subst e1 e2; exact rz24
 | 4, e1, e2 => injection e1 with e1; injection e2 with e2; subst e1 e2; exact rz24
 | i + 5, e1, e2 => simp at e1
theorem rz29 : Am.Rd enc Tryz.prog w base spare held 29 (zbj rSt) := by
 refine zkl Tryz.underlying29 rfl (by kernel_rfl) fun i f g e1 e2 => ?_;unfold rSt at e2
 match i, e1, e2 with
 | 0, e1, e2 => injection e1 with e1; injection e2 with e2; subst e1 e2; exact rz24
 | 1, e1, e2 => injection e1 with e1; injection e2 with e2; subst e1 e2; exact rz27
 | 2, e1, e2 => injection e1 with e1; injection e2 with e2; subst e1 e2; exact rz27
 | 3, e1, e2 => injection e1 with e1; injection e2 with e2; subst e1 e2; exact rz27
 | 4, e1, e2 => injection e1 with e1; injection e2 with e2; subst e1 e2; exact rz24
 | i + 5, e1, e2 => simp at e1
def fD (k : Nat) (d : DataW H) : DataW H := ((zd8 d).drop k).headD .nil
def sgD (d : DataW H) : Sig := ⟨strD (fD 0 d), znt (fD 1 d), exD (fD 2 d), exD (fD 3 d), znt (fD 4 d), zuj (fD 5 d)⟩
def ctD (d : DataW H) : Ctl := ⟨znt (fD 0 d), (zc8 (fD 1 d)).map strD, (zc8 (fD 2 d)).map sgD, (zc8 (fD 3 d)).map znt, (zc8 (fD 4 d)).map znt⟩
def stD (d : DataW H) : Sta := ⟨(zc8 (fD 0 d)).map znt, (zc8 (fD 1 d)).map zuj, (zc8 (fD 2 d)).map zuj, (zc8 (fD 3 d)).map zuj, (zc8 (fD 4 d)).map znt⟩
theorem c10_D (d : DataW H) : c10 (sgD d) = zbj rSg d := by
 have e : zbj rSg d = cStr (fD 0 d) ++ (zl3 .i64 (fD 1 d) ++ (cX (exD (fD 2 d)) ++ (cX (exD (fD 3 d)) ++ (zl3 .i64 (fD 4 d) ++ (zjl (fD 5 d) ++ []))))) := by
  unfold zbj rSg fD;simp only [ze1, <- List.drop_one, List.drop_drop, y26]
 rw [e, zhv, zhv];rfl
theorem cC_D (d : DataW H) : AV.agg (cC (ctD d)) = aggA (zbj rCt) d := by
 have e : zbj rCt d = zl3 .i64 (fD 0 d) ++ (zbr cStr (fD 1 d) ++ (zbr (zbj rSg) (fD 2 d) ++ (zbr (zl3 .i64) (fD 3 d) ++ (zbr (zl3 .i64) (fD 4 d) ++ [])))) := by
  show ze1 rCt (zd8 d) = _;unfold rCt fD;simp only [ze1, <- List.drop_one, List.drop_drop, y26]
 unfold aggA;rw [e];unfold cC ctD vsN vsG vsI zbr;simp only [y2d];rw [show (c10 ∘ sgD : DataW H -> List AV) = zbj rSg from funext c10_D]
 rfl
theorem cS_D (d : DataW H) : AV.agg (cS (stD d)) = aggA (zbj rSt) d := by
 have e : zbj rSt d = zbr (zl3 .i64) (fD 0 d) ++ (zbr zjl (fD 1 d) ++ (zbr zjl (fD 2 d) ++ (zbr zjl (fD 3 d) ++ (zbr (zl3 .i64) (fD 4 d) ++ [])))) := by
  unfold zbj rSt fD;simp only [ze1, <- List.drop_one, List.drop_drop, y26]
 unfold aggA;rw [e];unfold cS stD vsI vsB zbr;simp only [y2d];rfl
theorem sl_el {t e : TypeId} (ht : Tryz.prog.underlying t = some (.slice e)) {n : Nat} {cs : List Value} {d : DataW H} {p : List MemPlace} (h : DataW.trod enc Tryz.prog w base spare held n t cs = some (d, p)) :
  (zc8 d).length < 9223372036854775808 /\ ∀ x ∈ zc8 d, ∃ (n' : Nat) (cs' : List Value) (p' : List MemPlace), DataW.trod enc Tryz.prog w base spare held n' e cs' = some (x, p') := by
 rcases Deep.open_slice ht h with ⟨_, hx⟩ | ⟨a, len, cap, m, n2, D, Pl, _, hb, hle, hm, hmm, hx, hel⟩
 ·injection hx with hx _;subst hx;exact ⟨by show 0 < _; decide, fun y hy => absurd hy y0c⟩
 ·injection hx with hx _;subst hx;have hlm : len <= m := by rw [hmm]; split <;> omega
  refine ⟨?_, fun x hx => ?_⟩
  ·show ((List.range len).map D).length < _;rw [y06, y1v];have : maxLen = 9223372036854775807 := rfl;omega
  ·have hx' : x ∈ (List.range len).map D := hx;obtain ⟨i, hi, rfl⟩ := y0p.1 hx';obtain ⟨cs', h1, h3⟩ := hel i (by have := y0m.1 hi; omega)
   exact ⟨_, _, _, h3⟩
theorem zqh {t : TypeId} {fs : Array Field} (ht : Tryz.prog.underlying t = some (.struct fs)) {n : Nat} {cs : List Value} {d : DataW H} {p : List MemPlace} (h : DataW.trod enc Tryz.prog w base spare held n t cs = some (d, p))
  {i : Nat} {f : Field} (hi : fs[i]? = some f) : ∃ (n' : Nat) (cs' : List Value) (p' : List MemPlace), DataW.trod enc Tryz.prog w base spare held n' f.type cs' = some (fD i d, p') := by
 obtain ⟨xs, n', _, hx, hlen, hxl, hall⟩ := DataW.trod_struct ht h;simp only [y0b] at hx;obtain ⟨rfl, rfl⟩ := hx;have h2 := hall i f hi;have hlt : i < xs.length := by
  rw [hxl];exact (y0e.1 hi).1
 have e1 : ∀ l : List (DataW H × List MemPlace), (hl : i < l.length) -> fD i (.agg (l.map (·.1))) = l[i].1 := fun l hl => by
  unfold fD;show ((l.map (·.1)).drop i).headD .nil = _;rw [<- List.map_drop, y0q hl];rfl
 rw [y0d hlt] at h2;refine ⟨_, _, (xs[i]).2, h2.trans (congrArg some ?_)⟩;rw [e1 xs hlt]
theorem zx4 {n : Nat} {cs : List Value} {d : DataW H} {p : List MemPlace} (h : DataW.trod enc Tryz.prog w base spare held n 9 cs = some (d, p)) : (strD d).length < 9223372036854775808 := by
 obtain ⟨z, rfl, hx, hl⟩ := DataW.trod_string Tryz.underlying9 h;simp only [y0b] at hx;obtain ⟨rfl, rfl⟩ := hx;show z.data.toList.length < _;have : maxLen = 9223372036854775807 := rfl;have e : z.size = z.data.size := rfl;rw [Array.length_toList];omega
theorem slimZ {n : Nat} {cs : List Value} {d : DataW H} {p : List MemPlace} (h : DataW.trod enc Tryz.prog w base spare held n 74 cs = some (d, p)) : Slim (exD d) :=
 zwz Tryz.underlying74 rfl Tryz.underlying72 _ d (y08 _) _ _ _ h
theorem rd_D {n : Nat} {cs : List Value} {d : DataW H} {p : List MemPlace} (h : DataW.trod enc Tryz.prog w base spare held n 26 cs = some (d, p)) : Go.Proofs.YtdolbghhcijonaaGreat.Rd (ctD d) := by
 obtain ⟨_, _, _, h1⟩ := zqh Tryz.underlying26 h (i := 1) rfl;obtain ⟨_, _, _, h2⟩ := zqh Tryz.underlying26 h (i := 2) rfl;obtain ⟨_, _, _, h3⟩ := zqh Tryz.underlying26 h (i := 3) rfl;obtain ⟨_, _, _, h4⟩ := zqh Tryz.underlying26 h (i := 4) rfl;have a1 := sl_el Tryz.underlying22 h1;have a2 := sl_el Tryz.underlying23 h2;have a3 := sl_el Tryz.underlying24 h3;have a4 := sl_el Tryz.underlying24 h4;refine ⟨?_, ?_, ?_, ?_, fun i hi => ?_, fun s hs => ?_⟩
 ·show ((zc8 _).map strD).length < _;rw [y06];exact a1.1
 ·show ((zc8 _).map sgD).length < _;rw [y06];exact a2.1
 ·show ((zc8 _).map znt).length < _;rw [y06];exact a3.1
 ·show ((zc8 _).map znt).length < _;rw [y06];exact a4.1
 ·unfold nA;rw [y0j, y0d hi];have hm := y0x hi;obtain ⟨x, hx, e⟩ := y0p.1 hm;show (List.length ((ctD d).ins[i])) < _;rw [<- e];obtain ⟨_, _, _, g⟩ := a1.2 x hx;exact zx4 g
 ·obtain ⟨x, hx, rfl⟩ := y0p.1 hs;obtain ⟨_, _, _, g⟩ := a2.2 x hx;obtain ⟨_, _, _, g0⟩ := zqh Tryz.underlying77 g (i := 0) rfl;obtain ⟨_, _, _, g2⟩ := zqh Tryz.underlying77 g (i := 2) rfl;obtain ⟨_, _, _, g3⟩ := zqh Tryz.underlying77 g (i := 3) rfl;exact ⟨slimZ g2, slimZ g3, zx4 g0⟩
end
end Go.Proofs.YtdolbghhcijonaaGreat
