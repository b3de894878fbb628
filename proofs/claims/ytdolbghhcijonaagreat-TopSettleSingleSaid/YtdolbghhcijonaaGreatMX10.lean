/-
  THE EXAMPLE HOLDS.; EXPRESSIONS IN A STATE.; WHAT SIGNALS WANT.; WHAT SIGNALS WANT: the list.; WHAT SIGNALS WANT: their lines.; A CHANGE THAT IS MADE.; A MOVE.; GATES THAT ARE COMPUTED TWICE; one signal that wants to change.; WHAT EVERY LAW OF THE SEAT SHARES.
-/
import Derived.Test.YtdolbghhcijonaaGreatMX9
import Derived.Test.YtdolbghhcijonaaGreatRows
import Derived.JoinedCond
namespace Go.Proofs.YtdolbghhcijonaaGreat
open Go Go.Am
set_option maxRecDepth 100000
theorem zfp {P : Nat -> Sig -> Prop} (h0 : P 0 ⟨[103, 111], 1, .nd 1 2 [], .nd 1 3 [], 0, false⟩) (h1 : P 1 ⟨[108, 97, 109, 112], 0, .nd 2 0 [.nd 1 4 []], .nd 0 0 [], 0, false⟩) : ∀ i, i < lampC.sg.length -> P i (sgA lampC.sg i)
 | 0, _ => h0
 | 1, _ => h1
 | i + 2, h => absurd h (by show ¬ i + 2 < 2; omega)
theorem znv {P : Sig -> Prop} (h0 : P ⟨[103, 111], 1, .nd 1 2 [], .nd 1 3 [], 0, false⟩) (h1 : P ⟨[108, 97, 109, 112], 0, .nd 2 0 [.nd 1 4 []], .nd 0 0 [], 0, false⟩) : ∀ s, s ∈ lampC.sg -> P s := fun s hs => by
 rcases y0d.1 hs with rfl | hs
 ·exact h0
 ·obtain rfl := y0j.1 hs;exact h1
theorem lampCt : Ct lampC where
 a0 := by decide
 a6 := by decide
 i := by decide
 s := by decide
 ni := fun i h => by
  have h : i < 2 := h;obtain rfl | rfl : i = 0 \/ i = 1 := by omega
  ·decide
  ·decide
 ns := znv (by decide) (by decide)
 x1 := znv ⟨.nd (by decide) (fun _ h => absurd h y07), .nd (by decide) (fun _ h => absurd h y07)⟩ ⟨.nd (by decide) (fun y h => by obtain rfl := y0j.1 h; exact .nd (by decide) (fun _ h => absurd h y07)), .nd (by decide) (fun _ h => absurd h y07)⟩
 p1 := by decide
 m1 := by decide
 a1 := by decide
 i16 := by decide
 s16 := by decide
 nme := fun k h1 h2 => by
  have h1 : 2 <= k := h1;have h2 : k < 6 := h2;obtain rfl | rfl | rfl | rfl : k = 2 \/ k = 3 \/ k = 4 \/ k = 5 := by omega
  ·show nmE lampC 2 = 0; kernel_rfl
  ·show nmE lampC 3 = 0; kernel_rfl
  ·show nmE lampC 4 = 0; kernel_rfl
  ·show nmE lampC 5 = 0; kernel_rfl
 kd := zfp (P := fun _ s => s.kd = 0 \/ s.kd = 1 \/ s.kd = 2) (.inr (.inl rfl)) (.inl rfl)
 on := zfp (P := fun _ s => zcg s.on (lnC lampC) = 0) (by kernel_rfl) (by kernel_rfl)
 off := zfp (P := fun _ s => s.kd = 1 -> zcg s.off (lnC lampC) = 0) (fun _ => by kernel_rfl) (fun e => absurd e (by decide))
 lt := zfp (P := fun i s => s.kd = 0 -> zin lampC i = false) (fun e => absurd e (by decide)) (fun _ => by kernel_rfl)
 tm := zfp (P := fun _ s => s.kd = 2 -> 1 <= s.dl /\ s.dl <= 1000000) (fun e => absurd e (by decide)) (fun e => absurd e (by decide))
 zf := zfp (P := fun _ s => s.kd ≠ 1 -> zroB s.off = true /\ s.ini = false) (fun e => absurd rfl e) (fun _ => ⟨by kernel_rfl, rfl⟩)
 d0 := zfp (P := fun _ s => s.kd ≠ 2 -> s.dl = 0) (fun _ => rfl) (fun _ => rfl)
 pl := ⟨rfl, by kernel_rfl⟩
 mi := ⟨rfl, by kernel_rfl⟩
 lg := znv ⟨by kernel_rfl, by kernel_rfl⟩ ⟨by kernel_rfl, by kernel_rfl⟩
theorem lampSs (i0 i1 v0 v1 : Bool) : Ss lampC ⟨[0], [false], [i0, i1], [v0, v1], [0, 0]⟩ where
 e := by show 1 <= 40; decide
 v := by show 1 <= 40; decide
 i := by show 2 <= 200; decide
 b := by show 2 <= 200; decide
 t := by show 2 <= 200; decide
 sh := ⟨rfl, rfl, rfl, rfl, rfl⟩
 e4 := fun j hj => by
  have hj : j < 1 := hj;obtain rfl : j = 0 := by omega
  show (0 : Int) <= 0 /\ (0 : Int) < 4;decide
 t3 := fun j hj => by
  have hj : j < 2 := hj;obtain rfl | rfl : j = 0 \/ j = 1 := by omega
  ·show (0 : Int) <= 0 /\ (0 : Int) < 3; decide
  ·show (0 : Int) <= 0 /\ (0 : Int) < 3; decide
 tk := fun j hj => by
  have hj : j < 2 := hj;obtain rfl | rfl : j = 0 \/ j = 1 := by omega
  ·rfl
  ·rfl
def zlp : Sta := ⟨[0], [false], [true, false], [false, true], [0, 0]⟩
theorem zs0 : itS lampC zlp 1 = ⟨[0], [false], [true, false], [true, true], [0, 0]⟩ := by kernel_rfl
theorem lamp_it2 : itS lampC zlp 2 = ⟨[0], [false], [true, false], [true, false], [0, 0]⟩ := by kernel_rfl
theorem lamp_it3 : itS lampC zlp 3 = ⟨[0], [false], [true, false], [true, false], [0, 0]⟩ := by kernel_rfl
theorem lamp_bad : badL lampC zlp 3 = [] := by kernel_rfl
theorem lamp8 : PF Tryz.prog 8 [.agg (cC lampC), .agg (cS zlp)] (.tup [.agg (cS ⟨[0], [false], [true, false], [true, false], [0, 0]⟩), .vs [], .int .i64 0]) := by
 have n0 : itS lampC zlp 1 ≠ itS lampC zlp 0 := fun e => by
  rw [zs0] at e;exact absurd (congrArg Sta.vals e) (by decide)
 have n1 : itS lampC zlp 2 ≠ itS lampC zlp 1 := fun e => by
  rw [zs0, lamp_it2] at e;exact absurd (congrArg Sta.vals e) (by decide)
 refine settle8 lampCt (lampSs true false false true) (fun n _ h2 h3 => ?_) fun h => absurd (lamp_it3.trans lamp_it2.symm) (h 2 (by decide));obtain rfl : n = 2 := by
  rcases y1w n 2 with hlt | hge
  ·obtain rfl | rfl : n = 0 \/ n = 1 := by omega
   ·exact absurd h3 n0
   ·exact absurd h3 n1
  ·refine y1f fun hne => ?_;exact h2 2 (by omega) (lamp_it3.trans lamp_it2.symm)
 rw [lamp_it2, show badL lampC zlp (2 + 1) = _ from lamp_bad]
 rfl
-- pneumatic/pneumatictop.tryLamp
def ic6 : IC := sR [oM 0 (.mov (.c (.bool false)))]
 (sR [oM 7 (.call (.c (.fn 19 [] [])) [(.c (.bool true)), (.c (.bool false))]),
  oT 6 7,
  oM 8 (.extract (.t 6) 0),
  oM 9 (.extract (.t 6) 1),
  oM 1 (.alloc [.int .i64 0, .nils, .nils, .nils, .nils]),
  oM 2 (.alloc [.nils, .nils, .nils, .nils, .nils]),
  ⟨none, .store 5 (.t 1) (.t 8), none⟩,
  ⟨none, .store 5 (.t 2) (.t 9), none⟩]
 (sR [oL 11 5 1,
  oL 12 5 2,
  oM 13 (.call (.c (.fn 8 [] [])) [(.t 11), (.t 12)]),
  oT 10 13,
  oM 14 (.extract (.t 10) 0),
  oM 15 (.extract (.t 10) 1),
  oM 16 (.extract (.t 10) 2),
  oM 3 (.alloc [.nils, .nils, .nils, .nils, .nils]),
  ⟨none, .store 5 (.t 3) (.t 14), none⟩,
  oT 4 15,
  oT 5 16]
 (sR [oT 17 5,
  oM 18 (.bin .eql (.t 17) (cI 0)),
  oT 19 18,
  ⟨(some 20), .mov (.t 4), some (19, true)⟩,
  ⟨(some 21), .len false (.t 20), some (19, true)⟩,
  ⟨(some 22), .bin .eql (.t 21) (cI 0), some (19, true)⟩,
  oM 23 (.pick (.t 19) (.t 22) (.c (.bool false))),
  oT 24 23,
  ⟨(some 25), .faddr 3 (.t 3), some (24, true)⟩,
  ⟨(some 26), .load none (.t 25), some (24, true)⟩,
  ⟨(some 27), .bslice 1 2 [.bool false, .bool false] [(0, 1, (.c (.bool true))), (1, 1, (.c (.bool false)))], some (24, true)⟩,
  ⟨(some 28), .call (.c (.fn 20 [] [])) [(.t 26), (.t 27)], some (24, true)⟩,
  oM 29 (.pick (.t 24) (.t 28) (.c (.bool false))),
  oT 0 29]
 (.ret))))
theorem fn6 : env0.fn 6 = some ⟨30, ic6, [.t 0]⟩ := by kernel_rfl
set_option maxRecDepth 100000 in
theorem tryLamp6 : PF Tryz.prog 6 [] (.bool true) := by
 have p19 := lamp19 lampCt (lampSs false false false false);have p8 := lamp8;have p20 := zng [true, false] [true, false] (by decide);rw [decide_eq_true rfl] at p20;refine za6 env0_ok fn6 [] (y04 rfl) rfl fun w0 N0 => ?_;unfold ic6;refine zbf ?_;refine zak rfl rfl p20 (fun _ => rfl) ?_;refine zcb ?_;exact uE
set_option maxRecDepth 100000
-- pneumatic/control.Eval
def ic51 : IC := sR [oM 3 (.box (.t 0)),
  oM 4 (.box (.t 1)),
  oM 5 (.box (.t 2)),
  oM 6 (.mov (.c (.bool false))),
  oM 7 (.mov (cI 0))]
 (.seq (sR [oL 9 5 3,
  oL 10 5 4,
  oM 11 (.call (.c (.fn 30 [] [])) [(.t 9), (.t 10)]),
  oT 8 11]
 (sR [oT 12 8,
  oM 13 (.bin .neq (.t 12) (cI 0))]
 (.cond (.t 13) (sR [oT 14 8,
  oM 6 (.mov (.c (.bool false))),
  oT 7 14]
 (.ret))
 (.skip))))
 (.seq (.region [oL 15 3 5,
  oL 16 5 4,
  oM 17 (.call (.c (.fn 60 [] [])) [(.t 16)]),
  oM 18 (.call (.c (.fn 61 [] [])) [(.t 15), (.t 17)]),
  oM 19 (.extract (.t 18) 0),
  oM 20 (.extract (.t 18) 1),
  oT 6 19,
  oT 7 20] (some [[], [], [1], [0, 2, 2], [3], [3], [4, 3, 0, 1, 2, 3, 4, 5], [5, 6, 0, 1, 2, 3, 4, 5, 6]]))
 (.ret)))
theorem fn51 : env0.fn 51 = some ⟨21, ic51, [.t 6, .t 7]⟩ := by kernel_rfl
set_option maxHeartbeats 4000000 in
set_option maxRecDepth 100000 in
theorem eval51 {c : Ctl} {s : Sta} {x : Ex} (h : Ct c) (hs : Ss c s) (hx : Slim x) (hc : zcg x (lnC c) = 0) : PF Tryz.prog 51 [.agg (cC c), .agg (cS s), .agg (c3 x)] (.tup [.bool (zae (zco s) x), .int .i64 0]) := by
 have p30 := zqv h hs;obtain ⟨k1, k2, k3, k4, k5⟩ := hs.sh;have a1 := h.a1;have hal := all_len h hs;have p60 := zsv hs.toSms (by omega);have p61 := eval81 x hx (zco s);rw [zvz hc hal, zif] at p61;refine za6 env0_ok fn51 [(0, .agg (cC c)), (1, .agg (cS s)), (2, .agg (c3 x))] (y04 rfl) rfl fun w0 N0 => ?_;unfold ic51;refine zb3 ?_;refine ggj0 ?_;refine zck [] [(0, 0, cC c), (1, 1, cS s), (2, 2, c3 x)] [(3, .vptr (cC c)), (4, .vptr (cS s)), (5, .vptr (c3 x))] rfl (.cons rfl rfl (.cons rfl rfl (.cons rfl rfl .nil))) .nil (.cons rfl (.fptr rfl rfl) (.cons rfl (.fptr rfl rfl) (.cons rfl (.fptr rfl rfl) .nil))) ?_;repeat (first | refine zb3 ?_ | refine za8 rfl ?_ | refine zb1 ?_ | refine zaw ?_ | refine zbg ?_ | refine zfw rfl ?_ | refine zan rfl ?_ | refine zb6 rfl rfl rfl rfl ?_ | refine zfz rfl rfl rfl ?_ | refine zak rfl rfl (by assumption) noC ?_)
 refine zia env0_ok _ (hL1 p61) (fun g => Nat.beq g 61) [(60, [.agg (cS s)], ⟨[], 0, 1⟩, .ms 0 1 1 0 (zco s).length none, ⟨[(0, 1, .cells (bC (zco s)))], 1, 2⟩)] (fun y hy w0 N0 => by
  obtain rfl := y0j.1 hy;exact zjw (zde _) p60) false (fun _ => false) (fun _ => true) (fun _ _ => rfl) (fun _ h _ => Bool.noConfusion h) rfl rfl rfl rfl ?_
 repeat (first | refine zb6 rfl rfl rfl rfl ?_)
 refine o_told rfl rfl (fun _ => by simp [zeu]) ztf ?_;refine zak rfl (by show [_, AS.view _ VD (.ms 0 1 1 0 (zco s).length none)] = _; rw [show VD = (VD - 1) + 1 from rfl, zbv (zco s) rfl rfl]; rfl) zap (fun _ => rfl) ?_
 refine ggj0 ?_;exact uE
-- pneumatic/race.wants$1
def ic50 : IC := sR [oM 3 (.box (.t 0)),
  oM 4 (.mov (.c (.bool false)))]
 (sR [oL 8 5 1,
  oL 9 5 2,
  oL 10 3 3,
  oM 11 (.call (.c (.fn 51 [] [])) [(.t 8), (.t 9), (.t 10)]),
  oT 7 11,
  oM 12 (.extract (.t 7) 0),
  oM 13 (.extract (.t 7) 1),
  oT 5 12,
  oT 6 13]
 (sR [oT 14 5,
  oT 4 14]
 (.ret)))
theorem fn50 : env0.fn 50 = some ⟨15, ic50, [.t 4]⟩ := by kernel_rfl
set_option maxRecDepth 100000 in
theorem is50 {c : Ctl} {s : Sta} {x : Ex} (h : Ct c) (hs : Ss c s) (hx : Slim x) (hc : zcg x (lnC c) = 0) : PF Tryz.prog 50 [.agg (c3 x), .vptr (cC c), .vptr (cS s)] (.bool (zae (zco s) x)) := by
 have p51 := eval51 h hs hx hc;refine za6 env0_ok fn50 [(0, .agg (c3 x)), (1, .vptr (cC c)), (2, .vptr (cS s))] (y04 rfl) rfl fun w0 N0 => ?_;unfold ic50;repeat (first | refine zb3 ?_ | refine za8 rfl ?_ | refine zb1 ?_ | refine zaw ?_ | refine zbu ?_ | refine zan rfl ?_ | refine zb6 rfl rfl rfl rfl ?_ | refine zcs rfl rfl ?_ | refine zem rfl rfl ?_ | refine zak rfl rfl (by assumption) noC ?_)
 exact uE
-- pneumatic/race.begin
def ic27 : IC := sR [oM 2 (.box (.t 0)),
  oM 3 (.box (.t 1)),
  oM 4 (.alloc [.nils, .nils, .nils, .nils, .nils]),
  oM 5 (.mov (cI 0))]
 (sR [oL 6 5 2,
  oL 7 5 3,
  oM 8 (.call (.c (.fn 15 [] [])) [(.t 6), (.t 7)]),
  oM 9 (.extract (.t 8) 0),
  oM 10 (.extract (.t 8) 1),
  ⟨none, .store 5 (.t 4) (.t 9), none⟩,
  oT 5 10]
 (.ret))
theorem fn27 : env0.fn 27 = some ⟨11, ic27, [.cell 4 (some 5), .t 5]⟩ := by kernel_rfl
set_option maxRecDepth 100000 in
theorem zuo {c : Ctl} {s : Sta} (h : Ct c) (hs : Ss c s) : PF Tryz.prog 27 [.agg (cC c), .agg (cS s)] (.tup [.agg (cS (zay c s)), .int .i64 0]) := by
 have p15 := zno h hs;refine za6 env0_ok fn27 [(0, .agg (cC c)), (1, .agg (cS s))] (y04 rfl) rfl fun w0 N0 => ?_;unfold ic27;repeat (first | refine zb3 ?_ | refine za8 rfl ?_ | refine zb1 ?_ | refine zaw ?_ | refine zbu ?_ | refine zan rfl ?_ | refine zb6 rfl rfl rfl rfl ?_ | refine zaj rfl rfl rfl rfl rfl rfl rfl ?_ | refine zc1 ?_ | refine zcs rfl rfl ?_ | refine zem rfl rfl ?_ | refine zak rfl rfl (by assumption) noC ?_)
 exact uE
theorem z_mid {P : Program} {w0 : World} {N0 : Nat} {md : Md} {ic y : IC} {S : AS} {k : List Fr} {Q : Exit -> AS -> Prop} (R : AS -> Prop) (h1 : Zm P w0 N0 md ic S [] fun e S' => e = .normal /\ R S') (h2 : ∀ S', R S' -> Zm P w0 N0 md y S' k Q) : Zm P w0 N0 md ic S (.seq y :: k) Q :=
 ⟨Tm_mono h1.ok fun e S' ⟨he, hR⟩ => by subst he; exact (h2 S' hR).ok⟩
theorem zr6 {P : Program} {w0 : World} {N0 : Nat} {rd : Option (Nat × Nat)} {ios : List Opr} {pres : List (List Nat)} {K : AS -> Prop} {n nn nx ck i : Nat} {D : List Nat} {l : List (Nat × AV)} {hp : List (Nat × Nat × AObj)} {d : Nat} {f : FuncId} {fa : Arg} {args : List Arg} {fi ca vs xs : List AV} {v : AV} (hio : ios[i]? = some ⟨some d, .call fa args, none⟩) (hd : zcc nn (some d) = true) (hf : zas fa l = some (.fn f fi ca)) (ha : zeh args l = some vs) (hv : (fi ++ vs ++ ca).map ((st nn l hp nx ck).view VD) = xs) (hpf : PF P f xs v) (hfl : hasM.hasML (fi ++ vs ++ ca) = true -> flat v = true)
  (go : AnyF P w0 N0 rd ios pres n (i :: D) (st nn ((d, v) :: l) hp nx ck) K) : StF P w0 N0 rd ios pres n D (st nn l hp nx ck) K i := fun io h => by
 rw [hio] at h;injection h with h;subst h;refine ⟨hd, .inr ⟨rfl, ?_⟩⟩;have hc : WpCall P w0 N0 (st nn l hp nx ck) (.fn f fi ca) vs fun v' S' => v' = v /\ S' = st nn l hp nx ck := zfv (by rw [hv]; exact hpf) hfl (fun m hm => absurd hm y07) ⟨rfl, rfl⟩;obtain ⟨Fk, hct, hk⟩ := hc.ok;refine ⟨fun S2 v2 => ∃ H, Fk v2 H /\ S2 = (st nn l hp nx ck).withH H, zjy rfl ((zai fa).trans hf) ((zf5 args).trans ha) hct fun v H hF => (hk v H hF).1, fun S1 v1 ⟨H, hF, e⟩ => ?_⟩;subst e;obtain ⟨_, rfl, e2⟩ := hk v1 H hF;rw [e2];exact ⟨hd, go⟩
def wnB (c : Ctl) (s : Sta) (i : Nat) : Bool := !(decide ((rl c (zco s) s i).2.1 = zA s.tms i) && (rl c (zco s) s i).1 == bA s.vals i)
def wnL (c : Ctl) (s : Sta) : Nat -> List Nat
 | 0 => []
 | k + 1 => wnL c s k ++ if wnB c s k = true then [k] else []
def wnE (c : Ctl) (s : Sta) (i : Nat) : List AV := [.int .i64 ((fsC c + i : Nat) : Int), .int .i64 (rl c (zco s) s i).2.1, .bool (rl c (zco s) s i).1]
theorem zr1 (c : Ctl) (s : Sta) : ∀ k, (wnL c s k).length <= k
 | 0 => y08 _
 | k + 1 => by
  have := zr1 c s k;unfold wnL;rw [y0o];split
  ·show _ + 1 <= _; omega
  ·show _ + 0 <= _; omega
theorem zxp (c : Ctl) (s : Sta) : ∀ k, ∀ i ∈ wnL c s k, i < k /\ wnB c s i = true
 | 0, i, h => absurd h y07
 | k + 1, i, h => by
  unfold wnL at h;rcases y1s.1 h with h | h
  ·have := zxp c s k i h;exact ⟨by omega, this.2⟩
  ·split at h
   ·obtain rfl := y0j.1 h;exact ⟨y09 _, by assumption⟩
   ·exact absurd h y07
def ios28 : List Opr := [oT 50 6, oF 51 2 9, oL 52 3 51, oM 53 (.call (.t 50) [(.t 52)]), oT 54 6, oF 55 5 9, oL 56 3 55, oM 57 (.call (.t 54) [(.t 56)]), oT 12 53, oT 13 57]
def pres28 : List (List Nat) := [[], [], [1], [0, 2], [], [], [5], [4, 6, 3], [3, 7, 0, 1, 2, 3], [7, 8, 0, 1, 2, 3, 4, 5, 6, 7, 8]]
def zdv (c : Ctl) (s : Sta) (w : AV) (i ng sg nw sw nt tt : Nat) : List (Nat × AV) := [(2, .vptr (cC c)), (3, .vptr (cS s)), (5, .int .i64 (fsC c : Nat)), (6, .fn 50 [] [.vptr (cC c), .vptr (cS s)]), (7, w), (8, .int .i64 (i : Nat)), (9, .mptr ng sg 0), (10, .mptr nw sw 0), (11, .mptr nt tt 0), (24, vsG c.sg), (25, .int .i64 (c.sg.length : Nat)), (26, .int .i64 (i : Nat))]
def rg28 (c : Ctl) (s : Sta) (ng sg : Nat) (x : Sig) (a b : Bool) : RegC where
 m := 8
 dst := fun j => j + 50
 qv := fun j => match j with
  | 0 => .c fun _ => .fn 50 [] [.vptr (cC c), .vptr (cS s)]
  | 1 => .c fun _ => .mptr ng sg (0 + 2)
  | 2 => .c fun _ => .agg (c3 x.on)
  | 3 => .c fun _ => .bool a
  | 4 => .c fun _ => .fn 50 [] [.vptr (cC c), .vptr (cS s)]
  | 5 => .c fun _ => .mptr ng sg (0 + 5)
  | 6 => .c fun _ => .agg (c3 x.off)
  | 7 => .c fun _ => .bool b
  | _ => .l
 lw := fun _ x => .mptr (x 0) (x 1) 0
 tl := fun _ _ _ _ _ => True
 st := fun _ _ _ _ _ _ _ _ => trivial
theorem rok28 : zhw 8 10 pres28 (fun j => j + 50) [2, 3, 5, 6, 7, 8, 9, 10, 11, 24, 25, 26] = true := by kernel_rfl
set_option maxHeartbeats 4000000 in
set_option maxRecDepth 100000 in
theorem reg28 {w0 : World} {N0 : Nat} {c : Ctl} {s : Sta} {w : AV} {i ng sg nw sw nt tt : Nat} {x : Sig} {a b : Bool} {l0 : List (Nat × AV)} {hp0 : List (Nat × Nat × AObj)} {nx0 ck0 : Nat} (hG : Am.look ng hp0 = some (sg, .cells (c10 x))) (hng : ng < nx0)
  (pa : PF Tryz.prog 50 [.agg (c3 x.on), .vptr (cC c), .vptr (cS s)] (.bool a)) (pb : PF Tryz.prog 50 [.agg (c3 x.off), .vptr (cC c), .vptr (cS s)] (.bool b))
  (hb0 : ∀ t v, (t, v) ∈ zdv c s w i ng sg nw sw nt tt -> zac t l0 = some v) {y : IC} {k : List Fr} {Q : Exit -> AS -> Prop}
  (go : ∀ hp nx ck, nx0 <= nx -> (∀ j, j < nx0 -> Am.look j hp = Am.look j hp0) -> Zm Tryz.prog w0 N0 none y (st 88 ((12, .bool a) :: (13, .bool b) :: zdv c s w i ng sg nw sw nt tt) hp nx ck) k Q) :
  Zm Tryz.prog w0 N0 none (.region ios28 (some pres28)) (st 88 l0 hp0 nx0 ck0) (.seq y :: k) Q := by
 refine zlr env0_ok.mix fun rd => ?_;refine zfl (rg28 c s ng sg x a b) (zdv c s w i ng sg nw sw nt tt) (fun j S => ∃ l hp nx ck, S = st 88 l hp nx ck /\ (∀ t v, (t, v) ∈ zdv c s w i ng sg nw sw nt tt -> zac t l = some v) /\ nx0 <= nx /\ (∀ j, j < nx0 -> Am.look j hp = Am.look j hp0) /\ (j = 8 -> zac 53 l = some (.bool a) /\ zac 57 l = some (.bool b)) /\ (j = 9 -> zac 12 l = some (.bool a) /\ zac 57 l = some (.bool b)) /\ (j = 10 -> zac 12 l = some (.bool a) /\ zac 13 l = some (.bool b))) 10 rfl rok28 hb0 ?_ ?_ ?_ ?_ ?_
 ·intro j f e nm nm' hp;unfold rg28 at e;dsimp only at e;split at e;all_goals first
   | (cases e; rfl)
   | (cases e; done)
 ·intro j hj n1 D l hp' nx' ck' nm lo hi hK hp;have hj : j < 8 := hj
  match j, hj with
   | 0, _ => exact fun go => za7 rfl rfl (zfa (hK.bs 6 _ (me 3 rfl))) go
   | 1, _ => exact fun go => za7 rfl rfl (zao (hK.bs 9 _ (me 6 rfl))) go
   | 2, _ => exact fun go => za7 rfl rfl (zea (hK.q 1 _ (hp 1 (y01 ..)) rfl) ((hK.ol _ hng).trans hG) (y0a hng hK.bx) rfl rfl) go
   | 3, _ => exact fun go => zr6 rfl rfl (hK.q 0 _ (hp 0 (y01 ..)) rfl) (zdd (hK.q 2 _ (hp 2 (me 1 rfl)) rfl)) rfl pa noC go
   | 4, _ => exact fun go => za7 rfl rfl (zfa (hK.bs 6 _ (me 3 rfl))) go
   | 5, _ => exact fun go => za7 rfl rfl (zao (hK.bs 9 _ (me 6 rfl))) go
   | 6, _ => exact fun go => za7 rfl rfl (zea (hK.q 5 _ (hp 5 (y01 ..)) rfl) ((hK.ol _ hng).trans hG) (y0a hng hK.bx) rfl rfl) go
   | 7, _ => exact fun go => zr6 rfl rfl (hK.q 4 _ (hp 4 (y01 ..)) rfl) (zdd (hK.q 6 _ (hp 6 (me 1 rfl)) rfl)) rfl pb noC go
   | j + 8, h => exact absurd h (by omega)
 ·intro l hp' nx' ck' nm lo hi hK;have m : ∀ j, j < 8 -> j ∈ List.range 8 := fun j hj => y0n.2 hj;exact ⟨l, hp', nx', ck', rfl, hK.bs, hK.bx, hK.ol, fun _ => ⟨hK.q 3 _ (m 3 (by decide)) rfl, hK.q 7 _ (m 7 (by decide)) rfl⟩, fun h => absurd h (by show ¬ 8 = 9; decide), fun h => absurd h (by show ¬ 8 = 10; decide)⟩
 ·rintro j h1 h2 S ⟨l, hp', nx3, ck3, rfl, hbs, k1, ho, k3, k4, _⟩ m1 D go;have h1 : 8 <= j := h1;have hbk : ∀ d v t u, (t, u) ∈ zdv c s w i ng sg nw sw nt tt -> (d = 12 \/ d = 13) -> zac t ((d, v) :: l) = some u := fun d v t u ht hd => by
   rw [zal ?_]
   ·exact hbs t u ht
   ·intro e;subst e;have : d ∈ (zdv c s w i ng sg nw sw nt tt).map (·.1) := y0p.2 ⟨(d, u), ht, rfl⟩;have : d ∈ [2, 3, 5, 6, 7, 8, 9, 10, 11, 24, 25, 26] := this;rcases hd with rfl | rfl
    ·exact absurd this (by decide)
    ·exact absurd this (by decide)
  obtain rfl | rfl : j = 8 \/ j = 9 := by omega
  ·obtain ⟨q1, q2⟩ := k3 rfl;exact za7 rfl rfl (zfa q1) (go _ ⟨_, hp', nx3, ck3, rfl, fun t u ht => hbk _ _ t u ht (.inl rfl), k1, ho, fun h => absurd h (by decide), fun _ => ⟨rfl, q2⟩, fun h => absurd h (by decide)⟩)
  ·obtain ⟨q1, q2⟩ := k4 rfl;exact za7 rfl rfl (zfa q2) (go _ ⟨_, hp', nx3, ck3, rfl, fun t u ht => hbk _ _ t u ht (.inr rfl), k1, ho, fun h => absurd h (by decide), fun h => absurd h (by decide), fun _ => ⟨q1, rfl⟩⟩)
 ·rintro S ⟨l, hp', nx3, ck3, rfl, hbs, k1, ho, _, _, k4⟩;obtain ⟨q1, q2⟩ := k4 rfl;refine Um.ok (zaw (zlh (md := none) (zb2 ?_) (go hp' nx3 ck3 k1 ho)));exact .cons q1 (.cons q2 (.cons (hbs _ _ (y01 ..)) (.cons (hbs _ _ (me 1 rfl)) (.cons (hbs _ _ (me 2 rfl)) (.cons (hbs _ _ (me 3 rfl)) (.cons (hbs _ _ (me 4 rfl)) (.cons (hbs _ _ (me 5 rfl)) (.cons (hbs _ _ (me 6 rfl)) (.cons (hbs _ _ (me 7 rfl)) (.cons (hbs _ _ (me 8 rfl)) (.cons (hbs _ _ (me 9 rfl)) (.cons (hbs _ _ (me 10 rfl)) (.cons (hbs _ _ (me 11 rfl)) (.nil))))))))))))))
set_option maxRecDepth 100000
def b28_0 : IC := sR [oM 27 (.bin .lss (.t 26) (.t 25))]
 (.seq (.cond (.t 27) (.skip)
 (.exit 0))
 (.seq (.block 1 (sR [oT 28 26,
  oM 29 (.idxs 10 (.t 24) (.t 26)),
  oL 30 10 29,
  oM 9 (.alloc [.str [], .int .i64 0, .int .i64 0, .int .i64 0, .nils, .int .i64 0, .int .i64 0, .nils, .int .i64 0, .bool false]),
  oT 8 28,
  ⟨none, .store 10 (.t 9) (.t 30), none⟩]
 (.seq (.region [oT 31 5,
  oT 32 8,
  oM 33 (.bin .add (.t 31) (.t 32)),
  oF 34 4 3,
  oN 35 34,
  oT 36 8,
  oM 37 (.idxs 1 (.t 35) (.t 36)),
  oN 38 37,
  oF 39 3 3,
  oN 40 39,
  oT 41 8,
  oM 42 (.idxs 1 (.t 40) (.t 41)),
  oN 43 42,
  oM 44 (.build [.int .i64 0, .int .i64 0, .bool false] [(0, 1, (.t 33)), (1, 1, (.t 38)), (2, 1, (.t 43))]),
  oM 10 (.alloc [.int .i64 0, .int .i64 0, .bool false]),
  ⟨none, .store 3 (.t 10) (.t 44), none⟩] (some [[], [], [0, 1], [], [3], [], [4, 5], [6], [], [8], [], [9, 10], [11], [2, 7, 12], [], [14, 13, 0, 1, 2, 3, 4, 5, 6, 7, 8, 9, 10, 11, 12, 13, 14]]))
 (sR [oL 45 3 10,
  oM 11 (.alloc [.int .i64 0, .int .i64 0, .bool false]),
  ⟨none, .store 3 (.t 11) (.t 45), none⟩]
 (.seq (sR [oF 46 1 9,
  oN 47 46]
 (.block 2 (sR [oM 49 (.bin .eql (.t 47) (cI 1)),
  oT 48 49]
 (.cond (.t 48) (.seq (.region [oT 50 6,
  oF 51 2 9,
  oL 52 3 51,
  oM 53 (.call (.t 50) [(.t 52)]),
  oT 54 6,
  oF 55 5 9,
  oL 56 3 55,
  oM 57 (.call (.t 54) [(.t 56)]),
  oT 12 53,
  oT 13 57] (some [[], [], [1], [0, 2], [], [], [5], [4, 6, 3], [3, 7, 0, 1, 2, 3], [7, 8, 0, 1, 2, 3, 4, 5, 6, 7, 8]]))
 (sR [oT 58 12,
  oT 59 13,
  oM 60 (.eqb true (.t 58) (.t 59))]
 (.cond (.t 60) (.region [oT 61 12,
  oF 62 2 11,
  ⟨none, .store 1 (.t 62) (.t 61), none⟩] none)
 (.skip))))
 (sR [oM 64 (.bin .eql (.t 47) (cI 2)),
  oT 63 64]
 (.cond (.t 63) (sR [oT 65 6,
  oF 66 2 9,
  oL 67 3 66,
  oM 68 (.call (.t 65) [(.t 67)]),
  oT 14 68]
 (.block 3 (sR [oT 70 14,
  oM 71 (.un .not (.t 70)),
  oT 69 71]
 (.cond (.t 69) (.region [oF 72 1 11,
  ⟨none, .store 1 (.t 72) (cI 0), none⟩,
  oF 73 2 11,
  ⟨none, .store 1 (.t 73) (.c (.bool false)), none⟩] none)
 (sR [oF 75 1 10,
  oN 76 75,
  oM 77 (.bin .eql (.t 76) (cI 0)),
  oT 74 77]
 (.cond (.t 74) (.region [oF 78 1 11,
  ⟨none, .store 1 (.t 78) (cI 1), none⟩] none)
 (.skip)))))))
 (.skip)))))))
 (sR [oL 79 3 11,
  oL 80 3 10,
  oM 81 (.eqs true [(0, .int), (1, .int), (2, .bool)] (.t 79) (.t 80))]
 (.cond (.t 81) (.region [oT 82 7,
  oL 83 3 11,
  oM 84 (.bslice 3 1 [.int .i64 0, .int .i64 0, .bool false] [(0, 3, (.t 83))]),
  oM 85 (.append 3 24 [.int .i64 0, .int .i64 0, .bool false] (.t 82) (.t 84)),
  oT 7 85] none)
 (.skip))))))))
 (.region [oM 86 (.bin .add (.t 26) (cI 1)),
  oT 26 86] none)))
-- pneumatic/race.wants
def ic28 : IC := sR [oM 2 (.box (.t 0)),
  oM 3 (.box (.t 1)),
  oM 4 (.mov (.c (.nils)))]
 (sR [oF 15 0 2,
  oN 16 15,
  oM 17 (.bin .mul (cI 2) (.t 16)),
  oF 18 1 2,
  oN 19 18,
  oM 20 (.len false (.t 19)),
  oM 21 (.bin .add (.t 17) (.t 20)),
  oT 5 21]
 (sR [oM 22 (.mkfn 50 [] [(.t 2), (.t 3)]),
  oT 6 22]
 (sR [oM 7 (.mov (.c (.nils)))]
 (.seq (sR [oF 23 2 2,
  oN 24 23,
  oM 25 (.len false (.t 24)),
  oM 26 (.mov (cI 0))]
 (.block 0 (.loop b28_0)))
 (sR [oT 87 7,
  oT 4 87]
 (.ret))))))
theorem fn28 : env0.fn 28 = some ⟨88, ic28, [.t 4]⟩ := by kernel_rfl
theorem rl1 {c : Ctl} {ln : List Bool} {s : Sta} {i : Nat} (h : (sgA c.sg i).kd = 1) : rl c ln s i = (if zae ln (sgA c.sg i).on = zae ln (sgA c.sg i).off then bA s.vals i else zae ln (sgA c.sg i).on, zA s.tms i, zae ln (sgA c.sg i).on && zae ln (sgA c.sg i).off) := by
 unfold rl rul;rw [h, if_pos rfl];rfl
theorem rl2 {c : Ctl} {ln : List Bool} {s : Sta} {i : Nat} (h : (sgA c.sg i).kd = 2) : rl c ln s i = if zae ln (sgA c.sg i).on = true then (bA s.vals i, if zA s.tms i = 0 then 1 else zA s.tms i, false) else (false, 0, false) := by
 unfold rl rul;rw [h, if_neg (by decide), if_pos rfl]
theorem rl0 {c : Ctl} {ln : List Bool} {s : Sta} {i : Nat} (h1 : ¬ (sgA c.sg i).kd = 1) (h2 : ¬ (sgA c.sg i).kd = 2) : rl c ln s i = (bA s.vals i, zA s.tms i, false) := by
 unfold rl rul;rw [if_neg h1, if_neg h2]
theorem wnE_view (S : AS) (d : Nat) (c : Ctl) (s : Sta) (i : Nat) : (wnE c s i).map (S.view d) = wnE c s i := by
 cases d <;> rfl
theorem Gq.viewW {c : Ctl} {s : Sta} {L : List Nat} {n nx ck : Nat} {l : List (Nat × AV)} {hp : List (Nat × Nat × AObj)} {w : AV} (h : Gq 3 0 (L.map (wnE c s)) w hp nx) (d : Nat) : (st n l hp nx ck []).view (d + 1) w = .vs (L.map (wnE c s)) := by
 have he := h.elems (n := n) (ck := ck) (l := l) (fun e he => by obtain ⟨_, _, rfl⟩ := y0p.1 he; rfl);have hm : (L.map (wnE c s)).map (fun x => x.map ((st n l hp nx ck []).view d)) = L.map (wnE c s) := by
  rw [y1x];exact List.map_congr_left fun x _ => wnE_view _ d c s x
 rcases h with ⟨e, rfl⟩ | ⟨id, sp, rfl, _⟩
 ·rw [e];rfl
 ·simp only [AS.view, he];rw [hm]
def R28 (c : Ctl) (s : Sta) (w : AV) (i ng sg nw sw nt tt : Nat) (hp0 : List (Nat × Nat × AObj)) (nx0 : Nat) (S : AS) : Prop :=
 ∃ l hp nx ck, S = st 88 l hp nx ck /\ KeepA l (zdv c s w i ng sg nw sw nt tt) /\ nx0 <= nx /\ (∀ j, j < nx0 -> j ≠ nt -> Am.look j hp = Am.look j hp0) /\ Am.look nt hp = some (tt, .cells (wnE c s i))
set_option maxHeartbeats 8000000 in
set_option maxRecDepth 100000 in
theorem zxo {c : Ctl} {s : Sta} (h : Ct c) (hs : Ss c s) : PF Tryz.prog 28 [.agg (cC c), .agg (cS s)] (.vs ((wnL c s c.sg.length).map (wnE c s))) := by
 have hg := ze7 c.sg;obtain ⟨k1, k2, k3, k4, k5⟩ := hs.sh;have s16 := h.s16;have hfi := zf8 h.toSm;have hfs100 : fsC c <= 100 := by have := h.a6; have := h.a1; have := h.i16; unfold fsC; omega
 have hx1 : ∀ i, i < c.sg.length -> Slim (sgA c.sg i).on /\ Slim (sgA c.sg i).off := fun i hi => h.x1 _ (zi0 hi);have hbl := zhd s.vals;have hzl := zev s.tms;refine za6 env0_ok fn28 [(0, .agg (cC c)), (1, .agg (cS s))] (y04 rfl) rfl fun w0 N0 => ?_;unfold ic28;refine zsr rfl (zcs rfl rfl (zcs rfl rfl (zan rfl (onu ?_))));refine zck [] [(0, 0, cC c), (1, 1, cS s)] [(2, .vptr (cC c)), (3, .vptr (cS s))] rfl (.cons rfl rfl (.cons rfl rfl .nil)) .nil (.cons rfl (.fptr rfl rfl) (.cons rfl (.fptr rfl rfl) .nil)) ?_;refine zgw ?_;refine zav (fun mm S => ∃ (i : Nat) (hp : List (Nat × Nat × AObj)) (nx ck : Nat) (w : AV), mm = c.sg.length - i /\ i <= c.sg.length /\ Gq 3 0 ((wnL c s i).map (wnE c s)) w hp nx /\ S = st 88 [(2, .vptr (cC c)), (3, .vptr (cS s)), (5, .int .i64 (fsC c : Nat)), (6, .fn 50 [] [.vptr (cC c), .vptr (cS s)]), (7, w), (24, vsG c.sg), (25, .int .i64 (c.sg.length : Nat)), (26, .int .i64 (i : Nat))] hp nx ck) c.sg.length
  (zb2 (.cons rfl (.cons rfl (.cons (by show some (AV.int .i64 (IntKind.wrap .i64 (IntKind.wrap .i64 (2 * c.act) + ((c.ins.map fun s => [AV.str s]).length : Nat)))) = _; rw [y06, hfi]) (.cons rfl (.cons rfl (.cons rfl (.cons (by rw [<- hg]; rfl) (.cons rfl .nil))))))))) ⟨0, _, _, _, _, rfl, y0q _, .inl ⟨rfl, rfl⟩, rfl⟩ ?_
 ·rintro mm S ⟨i, hp, nx, ck, w, rfl, hi, hGi, rfl⟩;unfold b28_0 vsG;refine zhj ?_;refine za3 rfl rfl rfl (fun h3 => ?_) fun h3 => ?_
  ·have hlt : i < c.sg.length := y1r.1 (of_decide_eq_true h3);have hge := zdn hlt;have hgv := zpy (l := s.vals) (i := i) (by omega);have hgt := zib (l := s.tms) (i := i) (by omega);have w1 := za9 i (by omega);have w2 : IntKind.wrap .i64 (((fsC c : Nat) : Int) + (i : Nat)) = ((fsC c + i : Nat) : Int) := by rw [zbe _ (by omega) (by omega)]; omega
   refine zil ?_;refine zaj rfl rfl rfl rfl za4 rfl rfl ?_;rw [zbz];refine zhj ?_;refine zia env0_ok [] (fun _ hx => absurd hx y07) (fun _ => false) [] (fun _ hx => absurd hx y07) false (fun _ => false) (fun _ => true) (fun _ _ => rfl) (fun _ h _ => Bool.noConfusion h) rfl rfl rfl rfl ?_;refine zgw ?_;rw [w2];refine zaj rfl rfl rfl rfl za4 rfl rfl ?_;rw [zbz];refine zhj ?_;refine zb9 rfl za4 (y09 _) rfl rfl ?_;refine zc1 ?_;refine zaj rfl rfl rfl rfl za4 rfl rfl ?_;rw [zbz];refine onu ?_;refine zb3 ?_;have hG : Am.look nx ((nx + 2, ck + 2, AObj.cells [.int .i64 ((fsC c + i : Nat) : Int), .int .i64 (zA s.tms i), .bool (bA s.vals i)]) :: (nx + 1, ck + 1, .cells [.int .i64 ((fsC c + i : Nat) : Int), .int .i64 (zA s.tms i), .bool (bA s.vals i)]) :: (nx, ck, .cells (c10 (sgA c.sg i))) :: hp) = some (ck, .cells (c10 (sgA c.sg i))) := (za5 (by omega)).trans ((za5 (by omega)).trans za4);have hN : Am.look (nx + 1) ((nx + 2, ck + 2, AObj.cells [.int .i64 ((fsC c + i : Nat) : Int), .int .i64 (zA s.tms i), .bool (bA s.vals i)]) :: (nx + 1, ck + 1, .cells [.int .i64 ((fsC c + i : Nat) : Int), .int .i64 (zA s.tms i), .bool (bA s.vals i)]) :: (nx, ck, .cells (c10 (sgA c.sg i))) :: hp) = some (ck + 1, .cells [.int .i64 ((fsC c + i : Nat) : Int), .int .i64 (zA s.tms i), .bool (bA s.vals i)]) := (za5 (by omega)).trans za4;have hT : Am.look (nx + 2) ((nx + 2, ck + 2, AObj.cells [.int .i64 ((fsC c + i : Nat) : Int), .int .i64 (zA s.tms i), .bool (bA s.vals i)]) :: (nx + 1, ck + 1, .cells [.int .i64 ((fsC c + i : Nat) : Int), .int .i64 (zA s.tms i), .bool (bA s.vals i)]) :: (nx, ck, .cells (c10 (sgA c.sg i))) :: hp) = some (ck + 2, .cells [.int .i64 ((fsC c + i : Nat) : Int), .int .i64 (zA s.tms i), .bool (bA s.vals i)]) := za4;have hold : ∀ j, j < nx -> Am.look j ((nx + 2, ck + 2, AObj.cells [.int .i64 ((fsC c + i : Nat) : Int), .int .i64 (zA s.tms i), .bool (bA s.vals i)]) :: (nx + 1, ck + 1, .cells [.int .i64 ((fsC c + i : Nat) : Int), .int .i64 (zA s.tms i), .bool (bA s.vals i)]) :: (nx, ck, .cells (c10 (sgA c.sg i))) :: hp) = Am.look j hp := fun j hj => (za5 (by omega)).trans ((za5 (by omega)).trans (za5 hj));show Zm _ _ _ _ _ (st 88 _ ((nx + 2, ck + 2, AObj.cells [.int .i64 ((fsC c + i : Nat) : Int), .int .i64 (zA s.tms i), .bool (bA s.vals i)]) :: (nx + 1, ck + 1, .cells [.int .i64 ((fsC c + i : Nat) : Int), .int .i64 (zA s.tms i), .bool (bA s.vals i)]) :: (nx, ck, .cells (c10 (sgA c.sg i))) :: hp) (nx + 3) (ck + 3)) _ _;generalize ((nx + 2, ck + 2, AObj.cells [.int .i64 ((fsC c + i : Nat) : Int), .int .i64 (zA s.tms i), .bool (bA s.vals i)]) :: (nx + 1, ck + 1, .cells [.int .i64 ((fsC c + i : Nat) : Int), .int .i64 (zA s.tms i), .bool (bA s.vals i)]) :: (nx, ck, .cells (c10 (sgA c.sg i))) :: hp) = hp1 at *;refine z_mid (R28 c s w i nx ck (nx + 1) (ck + 1) (nx + 2) (ck + 2) hp1 (nx + 3)) ?_ ?_
   ·have fin : ∀ l hp' nx' ck', KeepA l (zdv c s w i nx ck (nx + 1) (ck + 1) (nx + 2) (ck + 2)) -> nx + 3 <= nx' -> (∀ j, j < nx + 3 -> j ≠ nx + 2 -> Am.look j hp' = Am.look j hp1) -> Am.look (nx + 2) hp' = some (ck + 2, .cells (wnE c s i)) -> Um Tryz.prog w0 N0 none .normal (st 88 l hp' nx' ck') [] (fun e S' => e = .normal /\ R28 c s w i nx ck (nx + 1) (ck + 1) (nx + 2) (ck + 2) hp1 (nx + 3) S') := fun l hp' nx' ck' a1 a2 a3 a4 => zab ⟨rfl, l, hp', nx', ck', rfl, a1, a2, a3, a4⟩;refine zhj ?_;refine zaf rfl hG (by omega) rfl ?_;refine zli ?_;refine za3 rfl rfl rfl (fun h4 => ?_) fun h4 => ?_
    ·have h4 : (sgA c.sg i).kd = 1 := by simpa using h4
     refine zli ?_;refine reg28 (sw := ck + 1) (nw := nx + 1) (nt := nx + 2) (tt := ck + 2) (w := w) (i := i) hG (by omega) (is50 h hs (hx1 i hlt).1 (h.on i hlt)) (is50 h hs (hx1 i hlt).2 (h.off i hlt h4)) (fun t v ht => KeepA.get (by unfold zdv; exact .cons rfl (.cons rfl (.cons rfl (.cons rfl (.cons rfl (.cons rfl (.cons rfl (.cons rfl (.cons rfl (.cons rfl (.cons rfl (.cons rfl .nil)))))))))))) (t, v) ht) ?_;intro hp2 nx2 ck2 e1 e2;unfold zdv;refine zhj ?_;have hT2 := (e2 (nx + 2) (by omega)).trans hT;have hr := rl1 (ln := zco s) (s := s) h4;refine o_eqb rfl rfl (fun h6 => ?_) fun h6 => ?_
     ·refine zli ?_;refine zcv (id := nx + 2) (sp := ck + 2) (off := 2) (cs := [.int .i64 ((fsC c + i : Nat) : Int), .int .i64 (zA s.tms i), .bool (bA s.vals i)]) rfl rfl rfl hT2 (by show 2 < 3; decide) rfl ?_
      refine zlj ?_;refine fin _ _ _ _ (by unfold zdv; exact .cons rfl (.cons rfl (.cons rfl (.cons rfl (.cons rfl (.cons rfl (.cons rfl (.cons rfl (.cons rfl (.cons rfl (.cons rfl (.cons rfl .nil)))))))))))) e1 (fun j hj hne => by rw [za0, if_neg fun e => hne e.symm]; exact e2 j hj) ?_;rw [za0, if_pos rfl];unfold wnE;rw [hr, if_neg (fun e => by rw [e] at h6; simp at h6)];rfl
     ·refine zlj ?_;refine fin _ _ _ _ (by unfold zdv; exact .cons rfl (.cons rfl (.cons rfl (.cons rfl (.cons rfl (.cons rfl (.cons rfl (.cons rfl (.cons rfl (.cons rfl (.cons rfl (.cons rfl .nil)))))))))))) e1 (fun j hj hne => e2 j hj) ?_;unfold wnE;rw [hr, if_pos (by simpa using h6)];exact hT2
    ·have h4 : ¬ (sgA c.sg i).kd = 1 := by simpa using h4
     refine zhj ?_;refine za3 rfl rfl rfl (fun h5 => ?_) fun h5 => ?_
     ·have h5 : (sgA c.sg i).kd = 2 := by simpa using h5
      refine zli ?_;refine zb9 rfl hG (by omega) rfl rfl ?_;refine zd5 rfl rfl rfl (is50 h hs (hx1 i hlt).1 (h.on i hlt)) noC ?_;have hr := rl2 (ln := zco s) (s := s) h5;cases hb : zae (zco s) (sgA c.sg i).on with
      | false =>
       rw [hb] at hr;refine zfj ?_;refine zcv (id := nx + 2) (sp := ck + 2) (off := 1) (cs := [.int .i64 ((fsC c + i : Nat) : Int), .int .i64 (zA s.tms i), .bool (bA s.vals i)]) rfl rfl rfl hT (by show 1 < 3; decide) rfl ?_
       repeat (first | refine zah rfl ?_)
       refine zcv (id := nx + 2) (sp := ck + 2) (off := 2) (cs := [.int .i64 ((fsC c + i : Nat) : Int), .int .i64 0, .bool (bA s.vals i)]) rfl rfl rfl (by rw [za0, if_pos rfl]; rfl) (by show 2 < 3; decide) rfl ?_
       refine zlj ?_;refine fin _ _ _ _ (by unfold zdv; exact .cons rfl (.cons rfl (.cons rfl (.cons rfl (.cons rfl (.cons rfl (.cons rfl (.cons rfl (.cons rfl (.cons rfl (.cons rfl (.cons rfl .nil)))))))))))) (y08 _) (fun j hj hne => by rw [za0, if_neg fun e => hne e.symm, za0, if_neg fun e => hne e.symm]) ?_;rw [za0, if_pos rfl];unfold wnE;rw [hr];rfl
      | true =>
       rw [hb] at hr;refine zfj ?_;refine zaf rfl hN (by omega) rfl ?_;refine za3 rfl rfl rfl (fun h6 => ?_) fun h6 => ?_
       ·have h6 : zA s.tms i = 0 := by simpa using h6
        refine zli ?_;refine zcv (id := nx + 2) (sp := ck + 2) (off := 1) (cs := [.int .i64 ((fsC c + i : Nat) : Int), .int .i64 (zA s.tms i), .bool (bA s.vals i)]) rfl rfl rfl hT (by show 1 < 3; decide) rfl ?_
        refine zlj ?_;refine fin _ _ _ _ (by unfold zdv; exact .cons rfl (.cons rfl (.cons rfl (.cons rfl (.cons rfl (.cons rfl (.cons rfl (.cons rfl (.cons rfl (.cons rfl (.cons rfl (.cons rfl .nil)))))))))))) (y08 _) (fun j hj hne => by rw [za0, if_neg fun e => hne e.symm]) ?_;rw [za0, if_pos rfl];unfold wnE;rw [hr, if_pos rfl, if_pos h6];rfl
       ·have h6 : ¬ zA s.tms i = 0 := by simpa using h6
        refine zlj ?_;refine fin _ _ _ _ (by unfold zdv; exact .cons rfl (.cons rfl (.cons rfl (.cons rfl (.cons rfl (.cons rfl (.cons rfl (.cons rfl (.cons rfl (.cons rfl (.cons rfl (.cons rfl .nil)))))))))))) (y08 _) (fun j hj hne => rfl) ?_;unfold wnE;rw [hr, if_pos rfl, if_neg h6];exact hT
     ·have h5 : ¬ (sgA c.sg i).kd = 2 := by simpa using h5
      have hr := rl0 (ln := zco s) (s := s) h4 h5;refine zlj ?_;refine fin _ _ _ _ (by unfold zdv; exact .cons rfl (.cons rfl (.cons rfl (.cons rfl (.cons rfl (.cons rfl (.cons rfl (.cons rfl (.cons rfl (.cons rfl (.cons rfl (.cons rfl .nil)))))))))))) (y08 _) (fun j hj hne => rfl) ?_;unfold wnE;rw [hr];exact hT
   ·rintro S' ⟨l, hp2, nx2, ck2, rfl, hk, e1, e2, hT2⟩;refine zlh (md := none) (zb2 hk) ?_;have hG2 : Gq 3 0 ((wnL c s i).map (wnE c s)) w hp2 nx2 := hGi.of (by omega) fun j _ hj => (e2 j (by omega) (by omega)).trans (hold j hj);unfold zdv;refine zhj ?_;refine zb9 rfl hT2 (by omega) rfl rfl ?_;refine zb9 rfl ((e2 (nx + 1) (by omega) (by omega)).trans hN) (by omega) rfl rfl ?_;have hwn : (if true = true then !(decide (((fsC c + i : Nat) : Int) = ((fsC c + i : Nat) : Int)) && (decide ((rl c (zco s) s i).2.1 = zA s.tms i) && ((rl c (zco s) s i).1 == bA s.vals i && true))) else (decide (((fsC c + i : Nat) : Int) = ((fsC c + i : Nat) : Int)) && (decide ((rl c (zco s) s i).2.1 = zA s.tms i) && ((rl c (zco s) s i).1 == bA s.vals i && true)))) = wnB c s i := by
     unfold wnB;rw [if_pos rfl, decide_eq_true rfl, y1k, Bool.and_true]
    have hwl : wnL c s (i + 1) = wnL c s i ++ if wnB c s i = true then [i] else [] := rfl
    have hln := zr1 c s i;refine o_eqs rfl rfl (r := decide (((fsC c + i : Nat) : Int) = ((fsC c + i : Nat) : Int)) && (decide ((rl c (zco s) s i).2.1 = zA s.tms i) && ((rl c (zco s) s i).1 == bA s.vals i && true))) rfl (fun h6 => ?_) fun h6 => ?_
    ·rw [hwn] at h6;rw [if_pos h6] at hwl;refine zli ?_;refine zb9 rfl hT2 (by omega) rfl rfl ?_;repeat (first | refine zcq rfl rfl ?_)
     refine zkx (sz := 3) (b := 0) [wnE c s i] (hG2.fresh ck2 _) (fun e he => by obtain ⟨_, _, rfl⟩ := y0p.1 he; rfl) rfl rfl (zew (xs := [wnE c s i]) (ys := []) za4 rfl fun x hx => by obtain rfl := y0j.1 hx; rfl) rfl (by decide) (y0q _) (by rw [y06]; show _ + 1 <= _; omega) ?_
     intro w' hp3 nx3 ck3 hG3 hn3 hk3;refine zlj ?_;rw [w1];exact zad (show c.sg.length - (i + 1) < c.sg.length - i by omega) skp ⟨i + 1, hp3, nx3, ck3, w', rfl, hlt, by rw [hwl, y11]; exact hG3, rfl⟩
    ·rw [hwn] at h6;rw [if_neg (by rw [h6]; exact y21), y0u] at hwl;refine zlj ?_;rw [w1];exact zad (show c.sg.length - (i + 1) < c.sg.length - i by omega) skp ⟨i + 1, hp2, nx2, ck2, w, rfl, hlt, by rw [hwl]; exact hG2, rfl⟩
  ·have hie : i = c.sg.length := by
    have h4 : ¬ ((i : Nat) : Int) < (c.sg.length : Nat) := of_decide_eq_false h3;omega
   subst hie;refine zfj ?_;refine zbp ?_;refine zfj ?_;refine zab ⟨.inr rfl, _, rfl, ?_⟩;rw [show VD = (VD - 1) + 1 from rfl]
   exact hGi.viewW (n := 0) (l := []) (ck := ck) _
set_option maxRecDepth 100000
theorem wnE_get {c : Ctl} {s : Sta} {L : List Nat} {j : Nat} (h : j < L.length) : (L.map (wnE c s))[((j : Nat) : Int).toNat]? = some (wnE c s (L[j]'h)) := by
 rw [y1j, y0m, y0e h];rfl
def wnZ (c : Ctl) (s : Sta) : List Int := (wnL c s c.sg.length).map fun i => ((fsC c + i : Nat) : Int)
def b13_0 : IC := sR [oM 24 (.bin .lss (.t 23) (.t 22))]
 (.seq (.cond (.t 24) (.skip)
 (.exit 0))
 (.seq (.block 1 (sR [oM 25 (.idxs 3 (.t 21) (.t 23)),
  oL 26 3 25,
  oM 9 (.alloc [.int .i64 0, .int .i64 0, .bool false]),
  ⟨none, .store 3 (.t 9) (.t 26), none⟩]
 (.region [oT 27 7,
  oF 28 0 9,
  oN 29 28,
  oM 30 (.bslice 1 1 [.int .i64 0] [(0, 1, (.t 29))]),
  oM 31 (.append 1 8 [.int .i64 0] (.t 27) (.t 30)),
  oT 7 31] none)))
 (.region [oM 32 (.bin .add (.t 23) (cI 1)),
  oT 23 32] none)))
-- pneumatic/race.Wants
def ic13 : IC := sR [oM 2 (.box (.t 0)),
  oM 3 (.box (.t 1)),
  oM 4 (.mov (.c (.nils))),
  oM 5 (.mov (cI 0))]
 (sR [oL 11 5 2,
  oL 12 5 3,
  oM 13 (.call (.c (.fn 27 [] [])) [(.t 11), (.t 12)]),
  oT 10 13,
  oM 14 (.extract (.t 10) 0),
  oM 15 (.extract (.t 10) 1),
  ⟨none, .store 5 (.t 3) (.t 14), none⟩,
  oT 6 15]
 (.seq (sR [oT 16 6,
  oM 17 (.bin .neq (.t 16) (cI 0))]
 (.cond (.t 17) (sR [oT 18 6,
  oM 4 (.mov (.c (.nils))),
  oT 5 18]
 (.ret))
 (.skip)))
 (sR [oM 7 (.mov (.c (.nils)))]
 (.seq (sR [oL 19 5 2,
  oL 20 5 3,
  oM 21 (.call (.c (.fn 28 [] [])) [(.t 19), (.t 20)]),
  oM 22 (.len false (.t 21)),
  oM 23 (.mov (cI 0))]
 (.block 0 (.loop b13_0)))
 (sR [oT 33 7,
  oT 4 33,
  oM 5 (.mov (cI 0))]
 (.ret))))))
theorem fn13 : env0.fn 13 = some ⟨34, ic13, [.t 4, .t 5]⟩ := by kernel_rfl
set_option maxHeartbeats 8000000 in
set_option maxRecDepth 100000 in
theorem wants13 {c : Ctl} {s : Sta} (h : Ct c) (hs : Ss c s) : PF Tryz.prog 13 [.agg (cC c), .agg (cS s)] (.tup [vsI (wnZ c (zay c s)), .int .i64 0]) := by
 have s16 := h.s16;have p27 := zuo h hs;have hs' := zik hs;have p28 := zxo h hs';unfold wnZ;generalize zay c s = g at *;have hwl := zr1 c g c.sg.length;generalize wnL c g c.sg.length = L at *;refine za6 env0_ok fn13 [(0, .agg (cC c)), (1, .agg (cS s))] (y04 rfl) rfl fun w0 N0 => ?_;unfold ic13;refine zbf ?_;refine zav (fun mm S => ∃ (j : Nat) (hp : List (Nat × Nat × AObj)) (nx ck : Nat) (w : AV), mm = L.length - j /\ j <= L.length /\ Gq 1 0 (((L.take j).map fun i => ((fsC c + i : Nat) : Int)).map fun z => [.int .i64 z]) w hp nx /\ S = st 34 [(7, w), (21, .vs (L.map (wnE c g))), (22, .int .i64 (L.length : Nat)), (23, .int .i64 (j : Nat))] hp nx ck) L.length
  (zb2 (.cons rfl (.cons rfl (.cons (by show some (AV.int .i64 ((L.map (wnE c g)).length : Nat)) = _; rw [y06]) (.cons rfl .nil))))) ⟨0, _, _, _, _, rfl, y0q _, .inl ⟨rfl, rfl⟩, rfl⟩ ?_
 rintro mm S ⟨j, hp, nx, ck, w, rfl, hj, hGj, rfl⟩;unfold b13_0;refine zdo ?_;refine za3 rfl rfl rfl (fun h3 => ?_) fun h3 => ?_
 ·have hlt : j < L.length := y1r.1 (of_decide_eq_true h3);have hge := wnE_get (c := c) (s := g) hlt;have w1 := za9 j (by omega);refine zbb ?_;refine zaj rfl rfl rfl rfl za4 rfl rfl ?_;rw [zbz];refine zlo ?_;refine zaf rfl za4 (y09 _) rfl ?_;repeat (first | refine zcq rfl rfl ?_)
  refine zkx (sz := 1) (b := 0) [[.int .i64 ((fsC c + L[j] : Nat) : Int)]] ((hGj.fresh ck _).fresh _ _) (zhl _) rfl rfl (zew (xs := [[.int .i64 ((fsC c + L[j] : Nat) : Int)]]) (ys := []) za4 rfl fun x hx => by obtain rfl := y0j.1 hx; rfl) rfl (by decide) (y0q _) (by rw [y06, y06, List.length_take]; show _ + 1 <= _; omega) ?_
  intro w' hp3 nx3 ck3 hG3 hn3 hk3;refine zbd ?_;rw [w1];exact zad (show L.length - (j + 1) < L.length - j by omega) skp ⟨j + 1, hp3, nx3, ck3, w', rfl, hlt, by rw [List.take_add_one, y0e hlt, y11, y11]; exact hG3, rfl⟩
 ·have hie : j = L.length := by
   have h4 : ¬ ((j : Nat) : Int) < (L.length : Nat) := of_decide_eq_false h3;omega
  subst hie;rw [y1o] at hGj;refine zbb ?_;refine zbp ?_;refine zbb ?_;refine zab ⟨.inr rfl, _, rfl, ?_⟩;rw [show VD = (VD - 2) + 2 from rfl]
  exact congrArg (fun z => AV.tup [z, .int .i64 0]) (hGj.viewI (fun _ _ _ => rfl) _)
set_option maxRecDepth 100000
def ios34 : List Opr := [oF 20 3 4, oN 21 20, oM 22 (.call (.c (.fn 59 [] [])) [(.t 21)]), oF 23 4 4, oN 24 23, oM 25 (.call (.c (.fn 58 [] [])) [(.t 24)]), oF 26 3 4, ⟨none, .store 1 (.t 26) (.t 22), none⟩, oF 27 4 4, ⟨none, .store 1 (.t 27) (.t 25), none⟩]
def pres34 : List (List Nat) := [[], [0], [1], [], [3], [4, 2], [0, 1, 2, 3, 4], [6, 2, 5, 0, 1, 2, 3, 4], [0, 1, 2, 3, 4, 5, 6, 7], [8, 5, 7, 0, 1, 2, 3, 4, 5, 6, 7]]
def rg34 (s : Sta) : RegC where
 m := 7
 dst := fun j => j + 20
 qv := fun j => match j with
  | 0 => .c fun _ => .mptr 1 1 (0 + 3)
  | 1 => .c fun _ => vsB s.vals
  | 2 => .l
  | 3 => .c fun _ => .mptr 1 1 (0 + 4)
  | 4 => .c fun _ => vsI s.tms
  | 5 => .l
  | 6 => .c fun _ => .mptr 1 1 (0 + 3)
  | _ => .l
 lw := fun j x => match j with | 2 => .ms (x 0) (x 1) 1 0 s.vals.length none | _ => .ms (x 0) (x 1) 1 0 s.tms.length none
 tl := fun j x hp lo hi => match j with
  | 2 => Am.look (x 0) hp = some (x 1, .cells (bC s.vals)) /\ lo <= x 0 /\ x 0 < hi
  | _ => Am.look (x 0) hp = some (x 1, .cells (zC s.tms)) /\ lo <= x 0 /\ x 0 < hi
 st := fun j x hp hp' lo hi h hk => by
  revert h;split <;> exact fun h => ⟨(hk _ h.2.2).trans h.1, h.2⟩
theorem rok34 : zhw 7 10 pres34 (fun j => j + 20) [3, 4, 5, 6, 7] = true := by kernel_rfl
def zlu (i : Nat) : List (Nat × AV) := [(3, .mptr 0 0 0), (4, .mptr 1 1 0), (5, .mptr 2 2 0), (6, .mptr 3 3 0), (7, .int .i64 (i : Nat))]
set_option maxHeartbeats 4000000 in
set_option maxRecDepth 100000 in
theorem reg34 {w0 : World} {N0 : Nat} {s : Sta} {i : Nat} (hv : s.vals ≠ []) (ht : s.tms ≠ []) (hbv : s.vals.length <= 1000000) (hbt : s.tms.length <= 1000000) {l0 : List (Nat × AV)} {hp0 : List (Nat × Nat × AObj)} {nx0 ck0 : Nat} (h1 : Am.look 1 hp0 = some (1, .cells (cS s))) (h1x : 1 < nx0) (hb0 : ∀ t v, (t, v) ∈ zlu i -> zac t l0 = some v) {y : IC} {k : List Fr} {Q : Exit -> AS -> Prop}
  (go : ∀ hp nx ck n1 s1 n2 s2, nx0 <= n1 -> nx0 <= n2 -> n1 ≠ n2 -> (∀ j, j < nx0 -> j ≠ 1 -> Am.look j hp = Am.look j hp0) -> Am.look 1 hp = some (1, .cells [vsI s.en, vsB s.va, vsB s.inp, .ms n1 s1 1 0 s.vals.length none, .ms n2 s2 1 0 s.tms.length none]) -> Am.look n1 hp = some (s1, .cells (bC s.vals)) -> Am.look n2 hp = some (s2, .cells (zC s.tms)) -> Zm Tryz.prog w0 N0 none y (st 47 (zlu i) hp nx ck) k Q) :
  Zm Tryz.prog w0 N0 none (.region ios34 (some pres34)) (st 47 l0 hp0 nx0 ck0) (.seq y :: k) Q := by
 refine zlr env0_ok.mix fun rd => ?_;refine zfl (rg34 s) (zlu i) (fun j S => ∃ l hp nx ck n1 s1 n2 s2, S = st 47 l hp nx ck /\ (∀ t v, (t, v) ∈ zlu i -> zac t l = some v) /\ nx0 <= n1 /\ nx0 <= n2 /\ n1 ≠ n2 /\ (∀ j, j < nx0 -> j ≠ 1 -> Am.look j hp = Am.look j hp0) /\ Am.look n1 hp = some (s1, .cells (bC s.vals)) /\ Am.look n2 hp = some (s2, .cells (zC s.tms)) /\
  zac 25 l = some (.ms n2 s2 1 0 s.tms.length none) /\ (j = 7 -> zac 26 l = some (.mptr 1 1 (0 + 3)) /\ zac 22 l = some (.ms n1 s1 1 0 s.vals.length none) /\ Am.look 1 hp = some (1, .cells (cS s))) /\ (j = 8 \/ j = 9 -> Am.look 1 hp = some (1, .cells [vsI s.en, vsB s.va, vsB s.inp, .ms n1 s1 1 0 s.vals.length none, vsI s.tms])) /\ (j = 9 -> zac 27 l = some (.mptr 1 1 (0 + 4))) /\ (j = 10 -> Am.look 1 hp = some (1, .cells [vsI s.en, vsB s.va, vsB s.inp, .ms n1 s1 1 0 s.vals.length none, .ms n2 s2 1 0 s.tms.length none]))) 10 rfl rok34 hb0 ?_ ?_ ?_ ?_ ?_
 ·intro j f e nm nm' hp;unfold rg34 at e;dsimp only at e;split at e;all_goals first
   | (cases e; rfl)
   | (cases e; done)
 ·intro j hj n1 D l hp' nx' ck' nm lo hi hK hp;have hj : j < 7 := hj
  match j, hj with
   | 0, _ => exact fun go => za7 rfl rfl (zao (hK.bs 4 _ (me 1 rfl))) go
   | 1, _ => exact fun go => za7 rfl rfl (zbc (hK.q 0 _ (hp 0 (y01 ..)) rfl) ((hK.ol _ h1x).trans h1) (y0a h1x hK.bx) rfl) go
   | 2, _ => exact fun go => zj2 rfl rfl (zdd (hK.q 1 _ (hp 1 (y01 ..)) rfl)) rfl (znb s.vals hv hbv) (zde _) (go (fun j => match j with | 0 => nx' | _ => ck') _ _ _ (y0x _) (fun j hj => za5 hj) ⟨za4, y08 _, y09 _⟩)
   | 3, _ => exact fun go => za7 rfl rfl (zao (hK.bs 4 _ (me 1 rfl))) go
   | 4, _ => exact fun go => za7 rfl rfl (zbc (hK.q 3 _ (hp 3 (y01 ..)) rfl) ((hK.ol _ h1x).trans h1) (y0a h1x hK.bx) rfl) go
   | 5, _ => exact fun go => zj2 rfl rfl (zdd (hK.q 4 _ (hp 4 (y01 ..)) rfl)) rfl (zna s.tms ht hbt) (zf9 _) (go (fun j => match j with | 0 => nx' | _ => ck') _ _ _ (y0x _) (fun j hj => za5 hj) ⟨za4, y08 _, y09 _⟩)
   | 6, _ => exact fun go => za7 rfl rfl (zao (hK.bs 4 _ (me 1 rfl))) go
   | j + 7, h => exact absurd h (by omega)
 ·intro l hp' nx' ck' nm lo hi hK;have m : ∀ j, j < 7 -> j ∈ List.range 7 := fun j hj => y0n.2 hj;obtain ⟨a1, a2, a3⟩ := hK.lh 2 (m 2 (by decide)) rfl;obtain ⟨b1, b2, b3⟩ := hK.lh 5 (m 5 (by decide)) rfl;have a1 : Am.look (nm 2 0) hp' = some (nm 2 1, .cells (bC s.vals)) /\ lo 2 <= nm 2 0 /\ nm 2 0 < hi 2 := a1;have b1 : Am.look (nm 5 0) hp' = some (nm 5 1, .cells (zC s.tms)) /\ lo 5 <= nm 5 0 /\ nm 5 0 < hi 5 := b1;have hij := hK.ij 2 5 (m 2 (by decide)) (m 5 (by decide)) rfl rfl (by decide);exact ⟨l, hp', nx', ck', nm 2 0, nm 2 1, nm 5 0, nm 5 1, rfl, hK.bs, y0s a2 a1.2.1, y0s b2 b1.2.1, by omega, fun j hj _ => hK.ol j hj, a1.1, b1.1, hK.lv 5 (m 5 (by decide)) rfl, fun _ => ⟨hK.q 6 _ (m 6 (by decide)) rfl, hK.lv 2 (m 2 (by decide)) rfl, (hK.ol 1 h1x).trans h1⟩, fun h => absurd h (by show ¬ (7 = 8 \/ 7 = 9); decide), fun h => absurd h (by show ¬ 7 = 9; decide), fun h => absurd h (by show ¬ 7 = 10; decide)⟩
 ·rintro j h1' h2 S ⟨l, hp', nx3, ck3, n1, s1, n2, s2, rfl, hbs, k1, k2, kn, ho, e1, e2, l25, k7, k8, k9, _⟩ m1 D go;have h1' : 7 <= j := h1';have hk1 : ∀ j o, j ≠ 1 -> Am.look j (zau 1 o hp') = Am.look j hp' := fun j o hj => by rw [za0, if_neg fun e => hj e.symm]
  obtain rfl | rfl | rfl : j = 7 \/ j = 8 \/ j = 9 := by omega
  ·obtain ⟨q26, q22, c1⟩ := k7 rfl;refine zg4 rfl (ze4 q26 q22 rfl rfl c1 rfl rfl) (go _ ⟨l, _, _, _, n1, s1, n2, s2, rfl, hbs, k1, k2, kn, fun j hj hne => (hk1 j _ hne).trans (ho j hj hne), (hk1 _ _ (by omega)).trans e1, (hk1 _ _ (by omega)).trans e2, l25, fun h => absurd h (by decide), fun _ => ?_, fun h => absurd h (by decide), fun h => absurd h (by decide)⟩);rw [za0, if_pos rfl];rfl
  ·have c1 := k8 (.inl rfl);refine za7 rfl rfl (zao (hbs 4 _ (me 1 rfl))) (go _ ⟨_, _, _, _, n1, s1, n2, s2, rfl, fun t v ht => ?_, k1, k2, kn, ho, e1, e2, (zal (by decide) _ _).trans l25, fun h => absurd h (by decide), fun _ => c1, fun _ => rfl, fun h => absurd h (by decide)⟩);rw [zal ?_]
   ·exact hbs t v ht
   ·intro e;subst e;have : 27 ∈ (zlu i).map (·.1) := y0p.2 ⟨(27, v), ht, rfl⟩;have : 27 ∈ [3, 4, 5, 6, 7] := this;exact absurd this (by decide)
  ·have c1 := k8 (.inr rfl);have q27 := k9 rfl;refine zg4 rfl (ze4 q27 l25 rfl rfl c1 rfl rfl) (go _ ⟨l, _, _, _, n1, s1, n2, s2, rfl, hbs, k1, k2, kn, fun j hj hne => (hk1 j _ hne).trans (ho j hj hne), (hk1 _ _ (by omega)).trans e1, (hk1 _ _ (by omega)).trans e2, l25, fun h => absurd h (by decide), fun h => absurd h (by decide), fun h => absurd h (by decide), fun _ => ?_⟩);rw [za0, if_pos rfl];rfl
 ·rintro S ⟨l, hp', nx3, ck3, n1, s1, n2, s2, rfl, hbs, k1, k2, kn, ho, e1, e2, l25, _, _, _, k10⟩;refine Um.ok (zaw (zlh (md := none) (zb2 ?_) (go hp' nx3 ck3 n1 s1 n2 s2 k1 k2 kn ho (k10 rfl) e1 e2)));exact .cons (hbs _ _ (y01 ..)) (.cons (hbs _ _ (me 1 rfl)) (.cons (hbs _ _ (me 2 rfl)) (.cons (hbs _ _ (me 3 rfl)) (.cons (hbs _ _ (me 4 rfl)) (.nil)))))
theorem rnB1 {live : zid} {fz : List (Nat × Nat × List AV)} {id st len : Nat} {cap : Option Nat} {l : List Bool} (h : fzl id st fz = some (bC l)) (hl : len = l.length) : RenW live fz (.ms id st 1 0 len cap) (vsB l) := by
 have := RenW.fms1 (live := live) (len := len) (cap := cap) h (by rw [zdf, hl]);unfold bC at this;rw [y1x] at this;exact this
theorem rnI1 {live : zid} {fz : List (Nat × Nat × List AV)} {id st len : Nat} {cap : Option Nat} {l : List Int} (h : fzl id st fz = some (zC l)) (hl : len = l.length) : RenW live fz (.ms id st 1 0 len cap) (vsI l) := by
 have := RenW.fms1 (live := live) (len := len) (cap := cap) h (by rw [zmw, hl]);unfold zC at this;rw [y1x] at this;exact this
-- pneumatic/race.made
def ic34 : IC := sR [oM 3 (.box (.t 0)),
  oM 4 (.box (.t 1)),
  oM 5 (.box (.t 2)),
  oM 6 (.alloc [.nils, .nils, .nils, .nils, .nils])]
 (sR [oF 10 0 5,
  oN 11 10,
  oF 12 0 3,
  oN 13 12,
  oM 14 (.bin .mul (cI 2) (.t 13)),
  oM 15 (.bin .sub (.t 11) (.t 14)),
  oF 16 1 3,
  oN 17 16,
  oM 18 (.len false (.t 17)),
  oM 19 (.bin .sub (.t 15) (.t 18)),
  oT 7 19]
 (.seq (.region [oF 20 3 4,
  oN 21 20,
  oM 22 (.call (.c (.fn 59 [] [])) [(.t 21)]),
  oF 23 4 4,
  oN 24 23,
  oM 25 (.call (.c (.fn 58 [] [])) [(.t 24)]),
  oF 26 3 4,
  ⟨none, .store 1 (.t 26) (.t 22), none⟩,
  oF 27 4 4,
  ⟨none, .store 1 (.t 27) (.t 25), none⟩] (some [[], [0], [1], [], [3], [4, 2], [0, 1, 2, 3, 4], [6, 2, 5, 0, 1, 2, 3, 4], [0, 1, 2, 3, 4, 5, 6, 7], [8, 5, 7, 0, 1, 2, 3, 4, 5, 6, 7]]))
 (.seq (.region [oF 28 3 4,
  oN 29 28,
  oT 30 7,
  oF 31 4 4,
  oN 32 31,
  oT 33 7,
  oF 34 2 5,
  oN 35 34,
  oF 36 1 5,
  oN 37 36,
  oM 38 (.idxs 1 (.t 29) (.t 30)),
  ⟨none, .store 1 (.t 38) (.t 35), none⟩,
  oM 39 (.idxs 1 (.t 32) (.t 33)),
  ⟨none, .store 1 (.t 39) (.t 37), none⟩] (some [[], [0], [], [], [3], [], [], [6], [], [8], [1, 2, 0, 1, 2, 6, 7], [10, 7, 0, 1, 2, 6, 7], [4, 5, 0, 1, 2, 3, 4, 5, 6, 7, 8, 9, 10, 11], [12, 9, 11, 0, 1, 2, 3, 4, 5, 6, 7, 8, 9, 10, 11]]))
 (sR [oL 41 5 3,
  oL 42 5 4,
  oM 43 (.call (.c (.fn 15 [] [])) [(.t 41), (.t 42)]),
  oT 40 43,
  oM 44 (.extract (.t 40) 0),
  oM 45 (.extract (.t 40) 1),
  oM 8 (.alloc [.nils, .nils, .nils, .nils, .nils]),
  ⟨none, .store 5 (.t 8) (.t 44), none⟩,
  oT 9 45]
 (sR [oL 46 5 8,
  ⟨none, .store 5 (.t 6) (.t 46), none⟩]
 (.ret))))))
theorem fn34 : env0.fn 34 = some ⟨47, ic34, [.cell 6 (some 5)]⟩ := by kernel_rfl
set_option maxHeartbeats 4000000 in
set_option maxRecDepth 100000 in
theorem made34 {c : Ctl} {s : Sta} {i : Nat} {b : Bool} {t : Int} (h : Ct c) (hs : Ss c s) (hi : i < c.sg.length) (hs' : Ss c (putR s i b t)) : PF Tryz.prog 34 [.agg (cC c), .agg (cS s), .agg [.int .i64 ((fsC c + i : Nat) : Int), .int .i64 t, .bool b]] (.agg (cS (zay c (putR s i b t)))) := by
 obtain ⟨k1, k2, k3, k4, k5⟩ := hs.sh;have s16 := h.s16;have a1 := h.a1;have a6 := h.a6;have i16 := h.i16;have p15 := zno h hs';have hfs : ((fsC c : Nat) : Int) = 2 * c.act + c.ins.length := by unfold fsC; omega
 have hwr : IntKind.wrap .i64 (IntKind.wrap .i64 (((fsC c + i : Nat) : Int) - IntKind.wrap .i64 (2 * c.act)) - (c.ins.length : Nat)) = ((i : Nat) : Int) := by
  rw [zbe (2 * c.act) (by omega) (by omega), zbe (((fsC c + i : Nat) : Int) - 2 * c.act) (by omega) (by omega), zbe _ (by omega) (by omega)];omega
 have hvi : i < s.vals.length := by omega
 have hti : i < s.tms.length := by omega
 have hvne : s.vals ≠ [] := fun e => by rw [e] at hvi; exact absurd hvi (y1b _)
 have htne : s.tms ≠ [] := fun e => by rw [e] at hti; exact absurd hti (y1b _)
 refine za6 env0_ok fn34 [(0, .agg (cC c)), (1, .agg (cS s)), (2, .agg [.int .i64 ((fsC c + i : Nat) : Int), .int .i64 t, .bool b])] (y04 rfl) rfl fun w0 N0 => ?_;unfold ic34;refine zgw ?_;refine reg34 (i := i) hvne htne (by omega) (by omega) rfl (by decide) (fun t v ht => KeepA.get (by unfold zlu; exact .cons rfl (.cons rfl (.cons rfl (.cons rfl (.cons (by show some (AV.int .i64 (IntKind.wrap .i64 (IntKind.wrap .i64 (((fsC c + i : Nat) : Int) - IntKind.wrap .i64 (2 * c.act)) - ((c.ins.map fun s => [AV.str s]).length : Nat)))) = _; rw [y06, hwr]) .nil))))) (t, v) ht) ?_
 intro hp nx ck n1 s1 n2 s2 hn1 hn2 hnn ho hB e1 e2;refine zck [(some (1, 1), [vsI s.en, vsB s.va, vsB s.inp, .ms 1 0 1 0 s.vals.length none, .ms 2 0 1 0 s.tms.length none]), (some (n1, s1), bC s.vals), (some (n2, s2), zC s.tms), (some (3, 3), zda)] [(0, 0, cC c), (2, 2, [.int .i64 ((fsC c + i : Nat) : Int), .int .i64 t, .bool b])] [(3, .vptr (cC c)), (4, .mptr 0 0 0), (5, .vptr [.int .i64 ((fsC c + i : Nat) : Int), .int .i64 t, .bool b]), (6, .mptr 3 0 0), (7, .int .i64 (i : Nat))] ?_ (.cons ((ho 0 (by decide) (by decide)).trans rfl) rfl (.cons ((ho 2 (by decide) (by decide)).trans rfl) rfl .nil)) (.cons hB (.cons (.same rfl) (.cons (.same rfl) (.cons (.same rfl) (.cons (.ms rfl) (.cons (.ms rfl) .nil))))) (.cons e1 (.keep (zhk _)) (.cons e2 (.keep (zvy _)) (.cons ((ho 3 (by decide) (by decide)).trans rfl) (.keep rfl) .nil)))) (.cons rfl (.fptr rfl rfl) (.cons rfl (.mptr rfl) (.cons rfl (.fptr rfl rfl) (.cons rfl (.mptr rfl) (.cons rfl (.same rfl) .nil))))) ?_
 ·show (!zjl 1 [0, 2] && (!zjl n1 [1, 0, 2] && (!zjl n2 [n1, 1, 0, 2] && (!zjl 3 [n2, n1, 1, 0, 2] && true)))) = true;rw [zgb (i := n1) (fun h => by simp only [y0d, y07, or_false] at h; omega), zgb (i := n2) (fun h => by simp only [y0d, y07, or_false] at h; omega), zgb (i := 3) (fun h => by simp only [y0d, y07, or_false] at h; omega)];rfl
 ·have ez : 0 + ((i : Nat) : Int).toNat * 1 = i := by simp
  refine zb3 (zju env0_ok [] (fun _ hx => absurd hx y07) (fun _ => false) (fun i => i == 0) (fun i => i == 1 || i == 2) (fun i h1 h2 => by simp at h1 h2; omega) rfl rfl rfl ?_);refine zgw ?_;rw [ez];refine zcv (id := 1) (sp := 0) (off := i) (cs := bC s.vals) rfl rfl rfl rfl (by rw [zdf]; exact hvi) rfl ?_;rw [zj4];repeat (first | refine zgd rfl rfl (by omega) (by omega) ?_)
  rw [ez];refine zcv (id := 2) (sp := 0) (off := i) (cs := zC s.tms) rfl rfl rfl rfl (by rw [zmw]; exact hti) rfl ?_;rw [zC_set];refine onu ?_;refine zck [(some (0, 0), cS (putR s i b t)), (some (3, 0), zda)] [(1, 0, bC (s.vals.set i b)), (2, 0, zC (s.tms.set i t))] [(3, .vptr (cC c)), (4, .mptr 0 0 0), (6, .mptr 1 0 0)] rfl (.cons rfl (zhk _) (.cons rfl (zvy _) .nil)) (.cons rfl (.cons (.same rfl) (.cons (.same rfl) (.cons (.same rfl) (.cons (rnB1 rfl (y1t ..).symm) (.cons (rnI1 rfl (y1t ..).symm) .nil))))) (.cons rfl (.keep rfl) .nil)) (.cons rfl (.same rfl) (.cons rfl (.mptr rfl) (.cons rfl (.mptr rfl) .nil))) ?_;refine zck [(some (1, 0), zda)] [(0, 0, cS (putR s i b t))] [(3, .vptr (cC c)), (4, .vptr (cS (putR s i b t))), (6, .mptr 0 0 0)] rfl (.cons rfl rfl .nil) (.cons rfl (.keep rfl) .nil) (.cons rfl (.same rfl) (.cons rfl (.fptr rfl rfl) (.cons rfl (.mptr rfl) .nil))) ?_;refine zgw ?_;exact uE
set_option maxRecDepth 100000
def mvS (c : Ctl) (g : Sta) (i : Nat) : Sta := putR g i (rl c (zco g) g i).1 (rl c (zco g) g i).2.1
def b17_0 : IC := sR [oM 47 (.bin .lss (.t 46) (.t 45))]
 (.seq (.cond (.t 47) (.skip)
 (.exit 0))
 (.seq (.block 1 (sR [oM 48 (.idxs 3 (.t 44) (.t 46)),
  oL 49 3 48,
  oM 11 (.alloc [.int .i64 0, .int .i64 0, .bool false]),
  ⟨none, .store 3 (.t 11) (.t 49), none⟩]
 (sR [oF 50 0 11,
  oN 51 50,
  oT 52 2,
  oM 53 (.bin .eql (.t 51) (.t 52))]
 (.cond (.t 53) (sR [oL 54 5 3,
  oL 55 5 4,
  oL 56 3 11,
  oM 57 (.call (.c (.fn 34 [] [])) [(.t 54), (.t 55), (.t 56)]),
  ⟨none, .store 5 (.t 6) (.t 57), none⟩,
  oM 7 (.mov (cI 0))]
 (.ret))
 (.skip)))))
 (.region [oM 58 (.bin .add (.t 46) (cI 1)),
  oT 46 58] none)))
-- pneumatic/race.Move
def ic17 : IC := sR [oM 3 (.box (.t 0)),
  oM 4 (.box (.t 1)),
  oM 6 (.alloc [.nils, .nils, .nils, .nils, .nils]),
  oM 7 (.mov (cI 0))]
 (sR [oL 13 5 3,
  oL 14 5 4,
  oM 15 (.call (.c (.fn 27 [] [])) [(.t 13), (.t 14)]),
  oT 12 15,
  oM 16 (.extract (.t 12) 0),
  oM 17 (.extract (.t 12) 1),
  ⟨none, .store 5 (.t 4) (.t 16), none⟩,
  oT 8 17]
 (.seq (sR [oT 18 8,
  oM 19 (.bin .neq (.t 18) (cI 0))]
 (.cond (.t 19) (sR [oM 20 (.build [.nils, .nils, .nils, .nils, .nils] []),
  oT 21 8,
  ⟨none, .store 5 (.t 6) (.t 20), none⟩,
  oT 7 21]
 (.ret))
 (.skip)))
 (sR [oF 22 0 3,
  oN 23 22,
  oM 24 (.bin .mul (cI 2) (.t 23)),
  oF 25 1 3,
  oN 26 25,
  oM 27 (.len false (.t 26)),
  oM 28 (.bin .add (.t 24) (.t 27)),
  oT 9 28]
 (.seq (sR [oT 29 2,
  oT 30 9,
  oM 31 (.bin .lss (.t 29) (.t 30)),
  oT 32 31,
  ⟨(some 33), .mov (.t 2), some (32, false)⟩,
  ⟨(some 34), .mov (.t 9), some (32, false)⟩,
  ⟨(some 35), .faddr 2 (.t 3), some (32, false)⟩,
  ⟨(some 36), .load none (.t 35), some (32, false)⟩,
  ⟨(some 37), .len false (.t 36), some (32, false)⟩,
  ⟨(some 38), .bin .add (.t 34) (.t 37), some (32, false)⟩,
  ⟨(some 39), .bin .geq (.t 33) (.t 38), some (32, false)⟩,
  oM 40 (.pick (.t 32) (.c (.bool true)) (.t 39))]
 (.cond (.t 40) (sR [oM 41 (.build [.nils, .nils, .nils, .nils, .nils] []),
  ⟨none, .store 5 (.t 6) (.t 41), none⟩,
  oM 7 (.mov (cI 6))]
 (.ret))
 (.skip)))
 (.seq (sR [oL 42 5 3,
  oL 43 5 4,
  oM 44 (.call (.c (.fn 28 [] [])) [(.t 42), (.t 43)]),
  oM 45 (.len false (.t 44)),
  oM 46 (.mov (cI 0))]
 (.block 0 (.loop b17_0)))
 (sR [oM 59 (.build [.nils, .nils, .nils, .nils, .nils] []),
  ⟨none, .store 5 (.t 6) (.t 59), none⟩,
  oM 7 (.mov (cI 14))]
 (.ret)))))))
theorem fn17 : env0.fn 17 = some ⟨60, ic17, [.cell 6 (some 5), .t 7]⟩ := by kernel_rfl
set_option maxHeartbeats 8000000 in
set_option maxRecDepth 100000 in
theorem move17 {c : Ctl} {s : Sta} {i : Nat} (h : Ct c) (hs : Ss c s) (hi : i < c.sg.length) (hw : wnL c (zay c s) c.sg.length = [i]) (hm : Ss c (mvS c (zay c s) i)) : PF Tryz.prog 17 [.agg (cC c), .agg (cS s), .int .i64 ((fsC c + i : Nat) : Int)] (.tup [.agg (cS (zay c (mvS c (zay c s) i))), .int .i64 0]) := by
 have hg := ze7 c.sg;have s16 := h.s16;have p27 := zuo h hs;have hs' := zik hs;have p28 := zxo h hs';have p34 := made34 h hs' hi hm;have hfi := zf8 h.toSm;have hfs100 : fsC c <= 100 := by have := h.a6; have := h.a1; have := h.i16; unfold fsC; omega
 have w3 : IntKind.wrap .i64 (((fsC c : Nat) : Int) + (c.sg.length : Nat)) = ((fsC c + c.sg.length : Nat) : Int) := by rw [zbe _ (by omega) (by omega)]; omega
 rw [hw] at p28;unfold mvS;generalize zay c s = g at *;refine za6 env0_ok fn17 [(0, .agg (cC c)), (1, .agg (cS s)), (2, .int .i64 ((fsC c + i : Nat) : Int))] (y04 rfl) rfl fun w0 N0 => ?_;unfold ic17;refine zbf ?_;rw [y06, hfi];first | refine za3 rfl rfl rfl (fun h => absurd (of_decide_eq_true h) (by omega)) fun _ => ?_ | refine za3 rfl rfl rfl (fun _ => ?_) fun h => absurd (of_decide_eq_false h) (by omega)
 refine zbt ?_;rw [hg, w3];first | refine za3 rfl rfl rfl (fun h => absurd (of_decide_eq_true h) (by omega)) fun _ => ?_ | refine za3 rfl rfl rfl (fun _ => ?_) fun h => absurd (of_decide_eq_false h) (by omega)
 refine zbd ?_;refine zav (fun mm S => S = st 60 [(2, .int .i64 ((fsC c + i : Nat) : Int)), (3, .mptr 0 0 0), (4, .mptr 1 1 0), (6, .mptr 2 2 0), (44, .vs [wnE c g i]), (45, .int .i64 1), (46, .int .i64 0)] [(2, 2, .cells zda), (1, 1, .cells (cS g)), (0, 0, .cells (cC c))] 3 3) 1
  skp rfl ?_
 rintro mm S rfl;unfold b17_0;refine zbf ?_;refine zc8 rfl rfl (y2b 0) (e := wnE c g i) rfl rfl ?_;unfold wnE;refine zbf ?_;refine za3 rfl rfl rfl (fun h4 => ?_) fun h4 => by simp at h4
 refine zbf ?_;refine zgi ?_;refine zbd ?_;exact uE
set_option maxRecDepth 100000
mutual
theorem zm7 {v w : List Bool} : ∀ x : Ex, (∀ z, z ∈ zm0 x -> v.getD z.toNat false = w.getD z.toNat false) -> zae v x = zae w x
 | .nd op ix args, h => by
  rw [zm0] at h;have hl := zkn (v := v) (w := w) args fun z hz => h z (y18 _ hz);rw [zae, zae, hl];by_cases h1 : op = 1
  ·have := h ix (y1v _ (by rw [if_pos h1]; exact y0j.2 rfl));rw [this]
  ·rw [if_neg h1, if_neg h1]
theorem zkn {v w : List Bool} : ∀ l : List Ex, (∀ z, z ∈ znc l -> v.getD z.toNat false = w.getD z.toNat false) -> zdi v l = zdi w l
 | [], _ => by rw [zdi, zdi]
 | y :: ys, h => by
  rw [znc] at h;rw [zdi, zdi, zm7 y fun z hz => h z (y1v _ hz), zkn ys fun z hz => h z (y18 _ hz)]
end
theorem gat_step (pre : List Bool) (sg : List Sig) (v : List Bool) (k j : Nat) (hk : k < v.length) (h : j ≠ k \/ (sgA sg j).kd ≠ 0) : bA (gat pre sg v (k + 1)) j = bA (gat pre sg v k) j := by
 have hgs : gat pre sg v (k + 1) = if (sgA sg k).kd = 0 then (gat pre sg v k).set k (zae (pre ++ gat pre sg v k) (sgA sg k).on) else gat pre sg v k := rfl
 rw [hgs];split
 ·rename_i e;rw [zos _ _ (by rw [zds]; exact hk), if_neg];intro e2;subst e2;rcases h with h | h
  ·exact h rfl
  ·exact h e
 ·rfl
theorem zkl (pre : List Bool) (sg : List Sig) (v : List Bool) (j : Nat) : ∀ (m k : Nat), k <= m -> m <= v.length -> (j < k \/ (sgA sg j).kd ≠ 0) -> bA (gat pre sg v m) j = bA (gat pre sg v k) j
 | 0, k, h1, _, _ => by rw [Nat.le_zero.1 h1]
 | m + 1, k, h1, h2, h3 => by
  by_cases e : k = m + 1
  ·rw [e]
  ·rw [gat_step pre sg v m j (by omega) (h3.elim (fun h => .inl (by omega)) .inr)];exact zkl pre sg v j m k (by omega) (by omega) h3
theorem zru {a b : List Bool} {z : Nat} : (a ++ b).getD z false = if z < a.length then a.getD z false else b.getD (z - a.length) false := by
 rw [y0k, y0k, y0k];split
 ·rename_i h;rw [y0y h]
 ·rename_i h;rw [y12 (by omega)]
theorem zvu {c : Ctl} {s : Sta} (h : Ct c) (hs : Ss c s) : zay c (zay c s) = zay c s := by
 obtain ⟨k1, k2, k3, k4, k5⟩ := hs.sh;have a1 := h.a1;have hpl := zfr s.en s.inp;have hfs : fsC c = (ze0 s.en s.inp).length := by rw [hpl]; unfold fsC; omega
 have hV : zeb c s = gat (ze0 s.en s.inp) c.sg s.vals c.sg.length := rfl;have hVl : (zeb c s).length = c.sg.length := by rw [hV, zds, k4]
 have key : ∀ k, k <= c.sg.length -> gat (ze0 s.en s.inp) c.sg (zeb c s) k = zeb c s := by
  intro k
  induction k with
  | zero => intro _; rfl
  | succ k ih =>
   intro hk;have ih := ih (by omega);have hgs : gat (ze0 s.en s.inp) c.sg (zeb c s) (k + 1) = if (sgA c.sg k).kd = 0 then (gat (ze0 s.en s.inp) c.sg (zeb c s) k).set k (zae (ze0 s.en s.inp ++ gat (ze0 s.en s.inp) c.sg (zeb c s) k) (sgA c.sg k).on) else gat (ze0 s.en s.inp) c.sg (zeb c s) k := rfl
   rw [hgs, ih];split
   ·rename_i e;have hv : bA (zeb c s) k = zae (ze0 s.en s.inp ++ zeb c s) (sgA c.sg k).on := by
     have e1 : bA (zeb c s) k = bA (gat (ze0 s.en s.inp) c.sg s.vals (k + 1)) k := by
      rw [hV];exact zkl _ _ _ k c.sg.length (k + 1) hk (by omega) (.inl (y09 _))
     rw [e1, show gat (ze0 s.en s.inp) c.sg s.vals (k + 1) = (gat (ze0 s.en s.inp) c.sg s.vals k).set k (zae (ze0 s.en s.inp ++ gat (ze0 s.en s.inp) c.sg s.vals k) (sgA c.sg k).on) from if_pos e, zos _ _ (by rw [zds]; omega), if_pos rfl]
     refine zm7 _ fun z hz => ?_;have hr := zne (zhr (h.on k (by omega))) hz;have hoc := znd (zhr (h.on k (by omega))) hz;have hlt := h.lt k (by omega) e;rw [zru, zru];split
     ·rfl
     ·rename_i hz2;have hj : z.toNat - (ze0 s.en s.inp).length < c.sg.length := by
       have := hr.2;unfold lnC at this;omega
      generalize hjd : z.toNat - (ze0 s.en s.inp).length = j at *;show bA (gat _ _ _ k) j = bA (zeb c s) j;rw [hV];refine (zkl _ _ _ j c.sg.length k (by omega) (by omega) ?_).symm;refine y1f fun hn => ?_;have hjk : k <= j := by omega
      have hkd : (sgA c.sg j).kd = 0 := y1f fun e => hn (.inr e);unfold zin at hlt;rw [List.any_eq_false] at hlt;refine hlt j (y0n.2 hj) ?_;rw [y0g, decide_eq_true_iff];refine ⟨hjk, ?_⟩;unfold ltB;rw [y0g, decide_eq_true_iff];refine ⟨hkd, ?_⟩;rw [show ((fsC c + j : Nat) : Int) = z by omega]
      exact hoc
    rw [<- hv];refine List.ext_getElem (y1t ..) fun n h1 h2 => ?_;rw [List.getElem_set];split
    ·rename_i e2;subst e2;rw [zll (by omega)]
    ·rfl
   ·rfl
 show Sta.mk s.en s.va s.inp (gat (ze0 s.en s.inp) c.sg (zeb c s) c.sg.length) s.tms = Sta.mk s.en s.va s.inp (zeb c s) s.tms;rw [key _ (y08 _)]
theorem zr2 (c : Ctl) (s : Sta) : ∀ k j, j < k -> wnB c s j = true -> j ∈ wnL c s k
 | 0, j, h, _ => absurd h (y1b _)
 | k + 1, j, h, hb => by
  unfold wnL;by_cases e : j = k
  ·subst e;rw [if_pos hb];exact y18 _ (y0j.2 rfl)
  ·exact y1v _ (zr2 c s k j (by omega) hb)
theorem wnB_no {c : Ctl} {s : Sta} {j : Nat} (h : ¬ wnB c s j = true) : (rl c (zco s) s j).1 = bA s.vals j /\ (rl c (zco s) s j).2.1 = zA s.tms j := by
 unfold wnB at h;simp only [y1p, Bool.not_eq_false, y0g, decide_eq_true_iff, beq_iff_eq] at h;exact ⟨h.2, h.1⟩
theorem zwu {c : Ctl} {g : Sta} (hs : Ss c g) (hw : wnL c g c.sg.length = []) : rnd c (zco g) g c.sg.length = g := by
 obtain ⟨k1, k2, k3, k4, k5⟩ := hs.sh;obtain ⟨l1, l2, l3, l4, l5⟩ := zix c (zco g) g c.sg.length;have hat := zsm c (zco g) g c.sg.length (by omega) (by omega);have hno : ∀ j, j < c.sg.length -> (rl c (zco g) g j).1 = bA g.vals j /\ (rl c (zco g) g j).2.1 = zA g.tms j := fun j hj => wnB_no fun hb => by
  have := zr2 c g _ j hj hb;rw [hw] at this;exact y07 this
 refine (zx6 _ _).1 ⟨l3, l4, l5, List.ext_getElem l1 fun j h1 h2 => ?_, List.ext_getElem l2 fun j h1 h2 => ?_⟩
 ·rw [<- zll h1, <- zll h2, (hat j).1, if_pos (by omega), (hno j (by omega)).1]
 ·rw [<- zol h1, <- zol h2, (hat j).2, if_pos (by omega), (hno j (by omega)).2]
theorem zwv {c : Ctl} {g : Sta} {i : Nat} (hs : Ss c g) (hw : wnL c g c.sg.length = [i]) : rnd c (zco g) g c.sg.length = mvS c g i := by
 obtain ⟨k1, k2, k3, k4, k5⟩ := hs.sh;obtain ⟨l1, l2, l3, l4, l5⟩ := zix c (zco g) g c.sg.length;have hat := zsm c (zco g) g c.sg.length (by omega) (by omega);have hi := (zxp c g c.sg.length i (by rw [hw]; exact y0j.2 rfl)).1;have hno : ∀ j, j < c.sg.length -> i ≠ j -> (rl c (zco g) g j).1 = bA g.vals j /\ (rl c (zco g) g j).2.1 = zA g.tms j := fun j hj hne => wnB_no fun hb => by
  have := zr2 c g _ j hj hb;rw [hw] at this;exact hne (y0j.1 this).symm
 refine (zx6 _ _).1 ⟨l3, l4, l5, List.ext_getElem (l1.trans (y1t ..).symm) fun j h1 h2 => ?_, List.ext_getElem (l2.trans (y1t ..).symm) fun j h1 h2 => ?_⟩
 ·rw [<- zll h1, <- zll h2, (hat j).1, if_pos (by omega)];show _ = bA (List.set _ _ _) j;rw [zos _ _ (by omega)];split
  ·rename_i e;rw [e]
  ·rename_i e;exact (hno j (by omega) e).1
 ·rw [<- zol h1, <- zol h2, (hat j).2, if_pos (by omega)];show _ = zA (List.set _ _ _) j;rw [zA_set _ _ (by omega)];split
  ·rename_i e;rw [e]
  ·rename_i e;exact (hno j (by omega) e).2
def ios4 : List Opr := [oL 70 5 2, oL 71 5 3, oT 72 5, oM 73 (.idxs 1 (.t 72) (cI 0)), oN 74 73, oM 75 (.call (.c (.fn 17 [] [])) [(.t 70), (.t 71), (.t 74)]), oT 69 75, oM 76 (.extract (.t 69) 0), oM 77 (.extract (.t 69) 1), oM 13 (.alloc [.nils, .nils, .nils, .nils, .nils]), ⟨none, .store 5 (.t 13) (.t 76), none⟩, oT 14 77]
def pres4 : List (List Nat) := [[], [], [], [2], [3], [0, 1, 4], [5], [6], [6], [], [9, 7, 5, 0, 1, 2, 3, 4, 5, 6, 7, 9], [8, 10, 0, 1, 2, 3, 4, 5, 6, 7, 8, 9, 10]]
def dst4 (i : Nat) : Nat := match i with | 6 => 69 | 7 => 76 | 8 => 77 | 9 => 13 | 10 => 0 | 11 => 14 | j => j + 70
theorem zqb : ∀ i, i < 12 -> ∀ j, j < 12 -> i ≠ j -> dst4 i ≠ dst4 j := by decide
theorem zvc : ∀ i, i < 12 -> i ≠ 10 -> dst4 i ≠ 2 /\ dst4 i ≠ 3 /\ dst4 i ≠ 5 /\ dst4 i ≠ 10 := by decide
def vl4 (c : Ctl) (s m : Sta) (z : Int) (i : Nat) : AV := match i with
 | 0 => .agg (cC c)
 | 1 => .agg (cS s)
 | 2 => vsI [z]
 | 3 => .vptr [.int .i64 z]
 | 4 => .int .i64 z
 | 5 => .tup [.agg (cS m), .int .i64 0]
 | 6 => .tup [.agg (cS m), .int .i64 0]
 | 7 => .agg (cS m)
 | _ => .int .i64 0
structure I4 (c : Ctl) (s m : Sta) (z : Int) (X : AV) (D : List Nat) (l : List (Nat × AV)) (hp : List (Nat × Nat × AObj)) (nx n t : Nat) : Prop where
 b2 : zac 2 l = some (.vptr (cC c))
 b3 : zac 3 l = some (.vptr (cS s))
 b5 : zac 5 l = some (vsI [z])
 b10 : zac 10 l = some X
 vl : ∀ i, i ∈ D -> i ≠ 9 -> i ≠ 10 -> zac (dst4 i) l = some (vl4 c s m z i)
 al : 9 ∈ D -> zac 13 l = some (.mptr n t 0) /\ n < nx /\ (10 ∉ D -> Am.look n hp = some (t, .cells zda)) /\ (10 ∈ D -> Am.look n hp = some (t, .cells (cS m)))
 dl : ∀ i, i ∈ D -> i < 12
theorem I4.op {c : Ctl} {s m : Sta} {z : Int} {X : AV} {D : List Nat} {l : List (Nat × AV)} {hp : List (Nat × Nat × AObj)} {nx n t i : Nat} (h : I4 c s m z X D l hp nx n t) (hi : i < 12) (h9 : i ≠ 9) (h10 : i ≠ 10) (hD : i ∉ D) : I4 c s m z X (i :: D) ((dst4 i, vl4 c s m z i) :: l) hp nx n t := by
 obtain ⟨d2, d3, d5, d10⟩ := zvc i hi h10;refine ⟨(zal d2 _ _).trans h.b2, (zal d3 _ _).trans h.b3, (zal d5 _ _).trans h.b5, (zal d10 _ _).trans h.b10, fun j hj j9 j10 => ?_, fun hj => ?_, fun j hj => ?_⟩
 ·rcases y0d.1 hj with rfl | hj
  ·exact zga ..
  ·rw [zal (zqb i hi j (h.dl j hj) fun e => hD (by rw [e]; exact hj))];exact h.vl j hj j9 j10
 ·have hj : 9 ∈ D := (y0d.1 hj).resolve_left fun e => h9 e.symm;obtain ⟨a1, a2, a3, a4⟩ := h.al hj;refine ⟨?_, a2, fun hn => a3 fun e => hn (y0c _ e), fun hn => a4 ((y0d.1 hn).resolve_left fun e => h10 e.symm)⟩;exact (zal (zqb i hi 9 (by decide) h9) _ _).trans a1
 ·rcases y0d.1 hj with rfl | hj
  ·exact hi
  ·exact h.dl j hj
set_option maxHeartbeats 4000000 in
set_option maxRecDepth 100000 in
theorem reg4 {w0 : World} {N0 : Nat} {c : Ctl} {s m : Sta} {z : Int} {X : AV} {l0 : List (Nat × AV)} {hp0 : List (Nat × Nat × AObj)} {nx0 ck0 : Nat} (p17 : PF Tryz.prog 17 [.agg (cC c), .agg (cS s), .int .i64 z] (.tup [.agg (cS m), .int .i64 0])) (h2 : zac 2 l0 = some (.vptr (cC c))) (h3 : zac 3 l0 = some (.vptr (cS s))) (h5 : zac 5 l0 = some (vsI [z])) (h10 : zac 10 l0 = some X) {y : IC} {k : List Fr} {Q : Exit -> AS -> Prop}
  (go : ∀ hp nx ck n t, n < nx -> Am.look n hp = some (t, .cells (cS m)) -> Zm Tryz.prog w0 N0 none y (st 89 [(10, X), (13, .mptr n t 0), (14, .int .i64 0)] hp nx ck) k Q) :
  Zm Tryz.prog w0 N0 none (.region ios4 (some pres4)) (st 89 l0 hp0 nx0 ck0) (.seq y :: k) Q := by
 refine zlr env0_ok.mix fun rd => ?_;have hp : ∀ i < ios4.length, ∀ p ∈ pres4.getD i [], p < i := by
  have : ∀ i, i < 12 -> ∀ p ∈ pres4.getD i [], p < i := by decide
  exact this
 refine zn2 hp (fun D S => (∀ j ∈ D, ∀ p ∈ pres4.getD j [], p ∈ D) /\ ∃ l hp nx ck n t, S = st 89 l hp nx ck /\ I4 c s m z X D l hp nx n t) ?_ ?_ 12 [] _ ⟨fun j h => absurd h y07, l0, hp0, nx0, ck0, 0, 0, rfl, ⟨h2, h3, h5, h10, fun i h => absurd h y07, fun h => absurd h y07, fun i h => absurd h y07⟩⟩ rfl
 ·rintro n1 D S i ⟨hdc, l, hp', nx, ck, n, t, rfl, hI⟩ hi hnD hpD go;have hi : i < 12 := hi;have hdc2 : ∀ j ∈ i :: D, ∀ p ∈ pres4.getD j [], p ∈ i :: D := fun j hj p hpp => by
   rcases y0d.1 hj with rfl | hj
   ·exact y0c _ (hpD p hpp)
   ·exact y0c _ (hdc j hj p hpp)
  have fin : i ≠ 9 -> i ≠ 10 -> AnyF Tryz.prog w0 N0 rd ios4 pres4 n1 (i :: D) (st 89 ((dst4 i, vl4 c s m z i) :: l) hp' nx ck) _ := fun a b => go _ ⟨hdc2, _, _, _, _, n, t, rfl, hI.op hi a b hnD⟩;have q : ∀ j, j ∈ pres4.getD i [] -> j ≠ 9 -> j ≠ 10 -> zac (dst4 j) l = some (vl4 c s m z j) := fun j hj a b => hI.vl j (hpD j hj) a b
  match i, hi with
  | 0, _ => exact za7 rfl rfl (zij hI.b2 rfl rfl rfl) (fin (by decide) (by decide))
  | 1, _ => exact za7 rfl rfl (zij hI.b3 rfl rfl rfl) (fin (by decide) (by decide))
  | 2, _ => exact za7 rfl rfl (zfa hI.b5) (fin (by decide) (by decide))
  | 3, _ => exact za7 rfl rfl (zrr (e := [.int .i64 z]) (q 2 (by decide) (by decide) (by decide)) rfl (y2b 0) rfl rfl) (fin (by decide) (by decide))
  | 4, _ => exact za7 rfl rfl (zg9 (q 3 (by decide) (by decide) (by decide)) rfl) (fin (by decide) (by decide))
  | 5, _ => exact ze3 rfl rfl (argsA3 (q 0 (by decide) (by decide) (by decide)) (q 1 (by decide) (by decide) (by decide)) (q 4 (by decide) (by decide) (by decide))) rfl p17 noC (fun m hm => absurd hm y07) (fin (by decide) (by decide))
  | 6, _ => exact za7 rfl rfl (zfa (q 5 (by decide) (by decide) (by decide))) (fin (by decide) (by decide))
  | 7, _ => exact za7 rfl rfl (zkk (q 6 (by decide) (by decide) (by decide)) rfl) (fin (by decide) (by decide))
  | 8, _ => exact za7 rfl rfl (zkk (q 6 (by decide) (by decide) (by decide)) rfl) (fin (by decide) (by decide))
  | 9, _ =>
   have hn10 : 10 ∉ D := fun h => hnD (hdc 10 h 9 (by decide));refine za7 rfl rfl zh5 (go _ ⟨hdc2, _, _, _, _, nx, ck, rfl, ⟨(zal (by decide) _ _).trans hI.b2, (zal (by decide) _ _).trans hI.b3, (zal (by decide) _ _).trans hI.b5, (zal (by decide) _ _).trans hI.b10, fun j hj j9 j10 => ?_, fun _ => ⟨rfl, y09 _, fun _ => za4, fun h => absurd ((y0d.1 h).resolve_left (by decide)) hn10⟩, fun j hj => ?_⟩⟩)
   ·have hj : j ∈ D := (y0d.1 hj).resolve_left j9;exact (zal (zqb 9 (by decide) j (hI.dl j hj) fun e => j9 e.symm) _ _).trans (hI.vl j hj j9 j10)
   ·rcases y0d.1 hj with rfl | hj
    ·decide
    ·exact hI.dl j hj
  | 10, _ =>
   obtain ⟨a1, a2, a3, a4⟩ := hI.al (hpD 9 (by decide));refine zg4 rfl (ze4 a1 (q 7 (by decide) (by decide) (by decide)) rfl rfl (a3 hnD) rfl rfl) (go _ ⟨hdc2, _, _, _, _, n, t, rfl, ⟨hI.b2, hI.b3, hI.b5, hI.b10, fun j hj j9 j10 => hI.vl j ((y0d.1 hj).resolve_left j10) j9 j10, fun _ => ⟨a1, a2, fun h => absurd (y01 ..) h, fun _ => ?_⟩, fun j hj => ?_⟩⟩)
   ·rw [za0, if_pos rfl]; rfl
   ·rcases y0d.1 hj with rfl | hj
    ·decide
    ·exact hI.dl j hj
  | 11, _ => exact za7 rfl rfl (zfa (q 8 (by decide) (by decide) (by decide))) (fin (by decide) (by decide))
  | i + 12, h => exact absurd h (by omega)
 ·rintro D S ⟨_, l, hp', nx, ck, n, t, rfl, hI⟩ hall;have hall : ∀ i, i < 12 -> i ∈ D := hall;obtain ⟨a1, a2, a3, a4⟩ := hI.al (hall 9 (by decide));exact (zaw (zlh (md := none) (zb2 (.cons hI.b10 (.cons a1 (.cons (hI.vl 11 (hall 11 (by decide)) (by decide) (by decide)) .nil)))) (go hp' nx ck n t a2 (a4 (hall 10 (by decide)))))).ok
-- pneumatic/pneumatictop.TopSettleSingle
def ic4 : IC := sR [oM 2 (.box (.t 0)),
  oM 3 (.box (.t 1)),
  oM 4 (.mov (.c (.bool false)))]
 (.seq (sR [oL 15 5 2,
  oL 16 5 3,
  oM 17 (.call (.c (.fn 5 [] [])) [(.t 15), (.t 16)]),
  oM 18 (.un .not (.t 17))]
 (.cond (.t 18) (sR [oM 19 (.call (.c (.fn 6 [] [])) []),
  oT 4 19]
 (.ret))
 (.skip)))
 (sR [oL 21 5 2,
  oL 22 5 3,
  oM 23 (.call (.c (.fn 13 [] [])) [(.t 21), (.t 22)]),
  oT 20 23,
  oM 24 (.extract (.t 20) 0),
  oM 25 (.extract (.t 20) 1),
  oT 5 24,
  oT 6 25]
 (sR [oL 27 5 2,
  oL 28 5 3,
  oM 29 (.call (.c (.fn 14 [] [])) [(.t 27), (.t 28)]),
  oT 26 29,
  oM 30 (.extract (.t 26) 0),
  oM 31 (.extract (.t 26) 1),
  oM 32 (.extract (.t 26) 2),
  oM 7 (.alloc [.nils, .nils, .nils, .nils, .nils]),
  ⟨none, .store 5 (.t 7) (.t 30), none⟩,
  oT 8 31,
  oT 9 32]
 (.seq (sR [oT 33 6,
  oM 34 (.bin .neq (.t 33) (cI 0)),
  oT 35 34,
  ⟨(some 36), .mov (.t 9), some (35, false)⟩,
  ⟨(some 37), .bin .neq (.t 36) (cI 0), some (35, false)⟩,
  oM 38 (.pick (.t 35) (.c (.bool true)) (.t 37))]
 (.cond (.t 38) (sR [oM 4 (.mov (.c (.bool false)))]
 (.ret))
 (.skip)))
 (sR [oL 40 5 2,
  oL 41 5 7,
  oM 42 (.call (.c (.fn 15 [] [])) [(.t 40), (.t 41)]),
  oT 39 42,
  oM 43 (.extract (.t 39) 0),
  oM 44 (.extract (.t 39) 1),
  oM 10 (.alloc [.nils, .nils, .nils, .nils, .nils]),
  ⟨none, .store 5 (.t 10) (.t 43), none⟩,
  oT 6 44]
 (.seq (sR [oT 45 6,
  oM 46 (.bin .neq (.t 45) (cI 0))]
 (.cond (.t 46) (sR [oM 4 (.mov (.c (.bool false)))]
 (.ret))
 (.skip)))
 (.seq (sR [oT 47 5,
  oM 48 (.len false (.t 47))]
 (.block 0 (sR [oM 50 (.bin .eql (.t 48) (cI 0)),
  oT 49 50]
 (.cond (.t 49) (sR [oL 52 5 2,
  oL 53 5 3,
  oM 54 (.call (.c (.fn 15 [] [])) [(.t 52), (.t 53)]),
  oT 51 54,
  oM 55 (.extract (.t 51) 0),
  oM 56 (.extract (.t 51) 1),
  oM 11 (.alloc [.nils, .nils, .nils, .nils, .nils]),
  ⟨none, .store 5 (.t 11) (.t 55), none⟩,
  oT 12 56]
 (sR [oT 57 12,
  oM 58 (.bin .eql (.t 57) (cI 0)),
  oT 59 58,
  ⟨(some 60), .load (some 5) (.t 10), some (59, true)⟩,
  ⟨(some 61), .load (some 5) (.t 11), some (59, true)⟩,
  ⟨(some 62), .call (.c (.fn 16 [] [])) [(.t 60), (.t 61)], some (59, true)⟩,
  oM 63 (.pick (.t 59) (.t 62) (.c (.bool false))),
  oT 64 63,
  ⟨(some 65), .call (.c (.fn 6 [] [])) [], some (64, true)⟩,
  oM 66 (.pick (.t 64) (.t 65) (.c (.bool false))),
  oT 4 66]
 (.ret)))
 (sR [oM 68 (.bin .eql (.t 48) (cI 1)),
  oT 67 68]
 (.cond (.t 67) (.seq (.region [oL 70 5 2,
  oL 71 5 3,
  oT 72 5,
  oM 73 (.idxs 1 (.t 72) (cI 0)),
  oN 74 73,
  oM 75 (.call (.c (.fn 17 [] [])) [(.t 70), (.t 71), (.t 74)]),
  oT 69 75,
  oM 76 (.extract (.t 69) 0),
  oM 77 (.extract (.t 69) 1),
  oM 13 (.alloc [.nils, .nils, .nils, .nils, .nils]),
  ⟨none, .store 5 (.t 13) (.t 76), none⟩,
  oT 14 77] (some [[], [], [], [2], [3], [0, 1, 4], [5], [6], [6], [], [9, 7, 5, 0, 1, 2, 3, 4, 5, 6, 7, 9], [8, 10, 0, 1, 2, 3, 4, 5, 6, 7, 8, 9, 10]]))
 (sR [oT 78 14,
  oM 79 (.bin .eql (.t 78) (cI 0)),
  oT 80 79,
  ⟨(some 81), .load (some 5) (.t 10), some (80, true)⟩,
  ⟨(some 82), .load (some 5) (.t 13), some (80, true)⟩,
  ⟨(some 83), .call (.c (.fn 16 [] [])) [(.t 81), (.t 82)], some (80, true)⟩,
  oM 84 (.pick (.t 80) (.t 83) (.c (.bool false))),
  oT 85 84,
  ⟨(some 86), .call (.c (.fn 6 [] [])) [], some (85, true)⟩,
  oM 87 (.pick (.t 85) (.t 86) (.c (.bool false))),
  oT 4 87]
 (.ret)))
 (.skip)))))))
 (sR [oM 88 (.call (.c (.fn 6 [] [])) []),
  oT 4 88]
 (.ret)))))))))
theorem fn4 : env0.fn 4 = some ⟨89, ic4, [.t 4]⟩ := by kernel_rfl
set_option maxHeartbeats 8000000 in
set_option maxRecDepth 100000 in
theorem law4 {c : Ctl} {s : Sta} (hr : Rd c) : PF Tryz.prog 4 [.agg (cC c), .agg (cS s)] (.bool true) := by
 have p5 := zxg (s := s) hr;have p6 := tryLamp6;refine za6 env0_ok fn4 [(0, .agg (cC c)), (1, .agg (cS s))] (y04 rfl) rfl fun w0 N0 => ?_;unfold ic4;cases ht : tryB c s with
 | false =>
  rw [ht] at p5;refine zbf ?_;exact uE
 | true =>
  rw [ht] at p5;obtain ⟨h, hs, -, -⟩ := try_ok hr ht;have hsx := zsn (c := c) hs;have hsg := zik (c := c) hs;have p13 := wants13 h hs;have p14 := round14 h hs;have p15 := zno h hsx;have p15b := zno h hs;have hrs : zbm c s = rnd c (zco (zay c s)) (zay c s) c.sg.length := rfl;unfold wnZ at p13;cases hw : wnL c (zay c s) c.sg.length with
  | nil =>
   rw [hw] at p13;have he : zay c (zbm c s) = zay c s := by rw [hrs, zwu hsg hw, zvu h hs]
   have p16 := same16 (zay c (zbm c s)) (zay c s) (zik hsx).toSms.shs;rw [(zo9 _ _).2 he] at p16;refine zbf ?_;exact uE
  | cons i r =>
   rw [hw] at p13;cases r with
   | nil =>
    have hi := (zxp c (zay c s) c.sg.length i (by rw [hw]; exact y0j.2 rfl)).1;have he : zbm c s = mvS c (zay c s) i := by rw [hrs, zwv hsg hw]
    have p17 := move17 h hs hi hw (by rw [<- he]; exact hsx);rw [<- he] at p17;have p16 := same16 (zay c (zbm c s)) (zay c (zbm c s)) (zik hsx).toSms.shs;rw [(zo9 _ _).2 rfl] at p16;refine zbf ?_;refine zck [] [(0, 0, cC c), (1, 1, cS s), (3, 3, cS (zay c (zbm c s)))] [(2, .vptr (cC c)), (3, .vptr (cS s)), (5, vsI ([i].map fun i => ((fsC c + i : Nat) : Int))), (10, .vptr (cS (zay c (zbm c s))))] rfl (.cons rfl rfl (.cons rfl rfl (.cons rfl rfl .nil))) .nil (.cons rfl (.fptr rfl rfl) (.cons rfl (.fptr rfl rfl) (.cons rfl (.same rfl) (.cons rfl (.fptr rfl rfl) .nil)))) ?_;refine reg4 p17 rfl rfl rfl rfl ?_;intro hp nx ck n t hn hl;refine zbf ?_;refine zb9 rfl hl hn rfl rfl ?_;refine zbd ?_;exact uE
   | cons j r =>
    refine zbf ?_;exact uE
end Go.Proofs.YtdolbghhcijonaaGreat
namespace Go.Proofs.YtdolbghhcijonaaGreat
open Go Go.Am Go.ChangeShapes Go.WideShapes Go.ChangeAt Go.RowKit
theorem own : ownKnob Tryz.prog.godebug = none := by kernel_rfl
theorem gok {W : World} : GOk (fun _ => True) W := fun _ hx => absurd hx y07
theorem solid : zu2 Tryz.prog Tryz.prog.types.size := solid_of (by kernel_rfl)
end Go.Proofs.YtdolbghhcijonaaGreat
