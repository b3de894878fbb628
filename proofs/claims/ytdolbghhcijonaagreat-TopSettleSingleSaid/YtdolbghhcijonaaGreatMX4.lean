/-
  THE REFERENCE's CHECK: names, gates that are late.; THE REFERENCE's CHECK: signals.; THE REFERENCE's CHECK: pilots, controls.; THE REFERENCE's CHECK OF CONTROLS.; THE REFERENCE's CHECK OF STATES.; CONTROLS AND STATES THAT ARE SMALL.; WHAT IS KNOWN OF RIGHT CONTROLS AND STATES, in plain Lean.
-/
import Derived.Test.YtdolbghhcijonaaGreatMX3
namespace Go.Proofs.YtdolbghhcijonaaGreat
open Go Go.Am
set_option maxRecDepth 100000
def fz (f : Nat -> Int) : Nat -> Nat -> Int
 | _, 0 => 0
 | i, k + 1 => if f i = 0 then fz f (i + 1) k else f i
theorem zvl {f : Nat -> Int} {i n : Nat} (h : i < n) : fz f i (n - i) = if f i = 0 then fz f (i + 1) (n - (i + 1)) else f i := by
 obtain ⟨k, hk⟩ : ∃ k, n - i = k + 1 := ⟨n - i - 1, by omega⟩
 rw [hk, fz, show n - (i + 1) = k by omega]
theorem fz_end {f : Nat -> Int} {n : Nat} : fz f n (n - n) = 0 := by
 rw [Nat.sub_self, fz]
theorem zqg {f : Nat -> Int} : ∀ {i k : Nat}, fz f i k = 0 -> ∀ j, i <= j -> j < i + k -> f j = 0
 | i, 0, _, j, h1, h2 => by omega
 | i, k + 1, h, j, h1, h2 => by
  rw [fz] at h;split at h
  ·rename_i h0;by_cases e : j = i
   ·rw [e]; exact h0
   ·exact zqg h j (by omega) (by omega)
  ·contradiction
structure Sml (c : Ctl) : Prop extends Sm c where
 ni : ∀ i, i < c.ins.length -> (nA c.ins i).length <= 200
 ns : ∀ s, s ∈ c.sg -> s.nm.length <= 200
 x1 : ∀ s, s ∈ c.sg -> Slim s.on /\ Slim s.off
 p1 : c.pl.length <= 40
 m1 : c.mi.length <= 40
theorem Sml.nmd_len {c : Ctl} (h : Sml c) {k : Nat} (hk : k < lnC c) : (nmd c k).length <= 200 := by
 unfold nmd;split
 ·show 2 <= 200; decide
 ·split
  ·exact h.ni _ (by unfold fsC at *; omega)
  ·exact h.ns _ (zi0 (by unfold lnC at *; omega))
def twB (c : Ctl) (k : Nat) : Bool := (List.range k).any fun i => nmd c i == nmd c k
def nmE (c : Ctl) (k : Nat) : Int := if wdB (nmd c k) = false then 3 else if 24 < (nmd c k).length then 17 else if twB c k = true then 7 else 0
def b42_0 : IC := .seq (sR [oT 16 6,
  oT 17 1,
  oM 18 (.bin .lss (.t 16) (.t 17))]
 (.cond (.t 18) (.skip)
 (.exit 0)))
 (.seq (.block 1 (sR [oL 21 5 2,
  oT 22 6,
  oM 23 (.call (.c (.fn 66 [] [])) [(.t 21), (.t 22)]),
  oT 24 5,
  oM 25 (.bin .eql (.t 23) (.t 24))]
 (.cond (.t 25) (sR [oM 4 (.mov (cI 7))]
 (.ret))
 (.skip))))
 (.region [oT 19 6,
  oM 20 (.bin .add (.t 19) (cI 1)),
  oT 6 20] none))
-- pneumatic/pneumaticref27.name
def ic42 : IC := sR [oM 2 (.box (.t 0)),
  oM 4 (.mov (cI 0))]
 (sR [oL 7 5 2,
  oT 8 1,
  oM 9 (.call (.c (.fn 66 [] [])) [(.t 7), (.t 8)]),
  oT 5 9]
 (.seq (sR [oT 10 5,
  oM 11 (.call (.c (.fn 67 [] [])) [(.t 10)]),
  oM 12 (.un .not (.t 11))]
 (.cond (.t 12) (sR [oM 4 (.mov (cI 3))]
 (.ret))
 (.skip)))
 (.seq (sR [oT 13 5,
  oM 14 (.len true (.t 13)),
  oM 15 (.bin .gtr (.t 14) (cI 24))]
 (.cond (.t 15) (sR [oM 4 (.mov (cI 17))]
 (.ret))
 (.skip)))
 (.seq (sR [oM 6 (.mov (cI 0))]
 (.block 0 (.loop b42_0)))
 (sR [oM 4 (.mov (cI 0))]
 (.ret))))))
theorem fn42 : env0.fn 42 = some ⟨26, ic42, [.t 4]⟩ := by kernel_rfl
set_option maxHeartbeats 2000000 in
set_option maxRecDepth 100000 in
theorem name42 {c : Ctl} {k : Nat} (h : Sml c) (h1 : 1 <= c.act) (hk : k < lnC c) : PF Tryz.prog 42 [.agg (cC c), .int .i64 (k : Nat)] (.int .i64 (nmE c k)) := by
 have hlen := h.nmd_len hk;have p1 := zwe h.toSm h1 hk;have p2 := word67 (nmd c k) (by omega);have hlk : k <= 300 := by
  have := h.i;have := h.s;have := h.a6;unfold lnC fsC at hk;omega
 refine za6 env0_ok fn42 [(0, .agg (cC c)), (1, .int .i64 (k : Nat))] (y04 rfl) rfl fun w0 N0 => ?_;unfold ic42 nmE;have htw : ∀ i, i < k -> nmd c i = nmd c k -> twB c k = true := fun i hi e => by
  unfold twB;rw [y2e];exact ⟨i, y0n.2 hi, by rw [e]; exact beq_self_eq_true _⟩
 have htf : (∀ i, i < k -> ¬ nmd c i = nmd c k) -> twB c k = false := fun hf => by
  unfold twB;rw [List.any_eq_false];intro i hi;have := hf i (y0n.1 hi);simpa using this
 generalize nmd c k = s at *;generalize wdB s = wb at *;unfold cC at *;refine zbf ?_;cases wb with
 | false =>
  refine zbt ?_;exact uE
 | true =>
  rw [if_neg (by decide)];refine zbt ?_;refine za3 rfl rfl rfl (fun h2 => ?_) fun h2 => ?_
  ·have h2 : 24 < s.length := by have := of_decide_eq_true h2; omega
   rw [if_pos h2];refine zbt ?_;exact uE
  ·have h2 : ¬ 24 < s.length := by have := of_decide_eq_false h2; omega
   rw [if_neg h2];refine zcb ?_;refine zck [] [(0, 0, cC c)] [(1, .int .i64 (k : Nat)), (2, .vptr (cC c)), (5, .str s), (6, .int .i64 0)] rfl (.cons rfl rfl .nil) .nil (.cons rfl (.same rfl) (.cons rfl (.fptr rfl rfl) (.cons rfl (.same rfl) (.cons rfl (.same rfl) .nil)))) ?_;refine zav (fun mm S => ∃ i, mm = k - i /\ i <= k /\ (∀ j, j < i -> ¬ nmd c j = s) /\ S = st 26 [(1, .int .i64 (k : Nat)), (2, .vptr (cC c)), (5, .str s), (6, .int .i64 (i : Nat))] [] 0 1) k
    skp ⟨0, rfl, y0q _, fun j hj => absurd hj (y1b _), rfl⟩ ?_
   rintro mm S ⟨i, rfl, hi, hv, rfl⟩;unfold b42_0 cC;refine zdo ?_;refine za3 rfl rfl rfl (fun h3 => ?_) fun h3 => ?_
   ·have hlt : i < k := by have := of_decide_eq_true h3; omega
    have p3 := zwe h.toSm h1 (show i < lnC c by omega)
    have w1 := za9 i (by omega);unfold cC at p3;refine zbd ?_;refine za3 rfl rfl rfl (fun h4 => ?_) fun h4 => ?_
    ·have h4 : nmd c i = s := by simpa using h4
     rw [if_pos (htw i hlt h4)];refine zbd ?_;exact uE
    ·have h4 : ¬ nmd c i = s := by simpa using h4
     refine zbd ?_;rw [w1];refine zad (show k - (i + 1) < k - i by omega) skp ⟨i + 1, rfl, hlt, fun j hj => ?_, rfl⟩
     rcases y19.1 hj with hj | rfl
     ·exact hv j hj
     ·exact h4
   ·have hie : i = k := by have := of_decide_eq_false h3; omega
    rw [if_neg (by rw [htf fun j hj => hv j (by omega)]; decide)];refine zbb ?_;refine zbp ?_;refine zbb ?_;exact uE
def ltB (c : Ctl) (i : Nat) (k : Nat) : Bool := decide ((sgA c.sg k).kd = 0) && occB ((fsC c + k : Nat) : Int) (sgA c.sg i).on
def zin (c : Ctl) (i : Nat) : Bool := (List.range c.sg.length).any fun k => decide (i <= k) && ltB c i k
def b70_0 : IC := .seq (sR [oT 7 5,
  oF 8 2 2,
  oN 9 8,
  oM 10 (.len false (.t 9)),
  oM 11 (.bin .lss (.t 7) (.t 10))]
 (.cond (.t 11) (.skip)
 (.exit 0)))
 (.seq (.block 1 (.seq (.region [oF 14 2 2,
  oN 15 14,
  oT 16 5,
  oM 17 (.idxs 10 (.t 15) (.t 16)),
  oF 18 1 17,
  oN 19 18,
  oM 20 (.bin .eql (.t 19) (cI 0)),
  oT 21 20,
  ⟨(some 22), .faddr 2 (.t 2), some (21, true)⟩,
  ⟨(some 23), .load none (.t 22), some (21, true)⟩,
  ⟨(some 24), .mov (.t 1), some (21, true)⟩,
  ⟨(some 25), .idxs 10 (.t 23) (.t 24), some (21, true)⟩,
  ⟨(some 26), .faddr 2 (.t 25), some (21, true)⟩,
  ⟨(some 27), .load (some 3) (.t 26), some (21, true)⟩,
  ⟨(some 28), .load (some 5) (.t 2), some (21, true)⟩,
  ⟨(some 29), .call (.c (.fn 11 [] [])) [(.t 28)], some (21, true)⟩,
  ⟨(some 30), .mov (.t 5), some (21, true)⟩,
  ⟨(some 31), .bin .add (.t 29) (.t 30), some (21, true)⟩,
  ⟨(some 32), .call (.c (.fn 103 [] [])) [(.t 27), (.t 31)], some (21, true)⟩,
  oM 33 (.pick (.t 21) (.t 32) (.c (.bool false)))] (some [[], [0], [], [1, 2], [3], [4], [5], [6], [7], [8, 7], [7], [9, 10, 7], [11, 7], [12, 7], [7], [14, 7, 7], [7], [15, 16, 7], [13, 17, 15, 7], [7, 18]]))
 (.cond (.t 33) (sR [oM 4 (.mov (.c (.bool true)))]
 (.ret))
 (.skip))))
 (.region [oT 12 5,
  oM 13 (.bin .add (.t 12) (cI 1)),
  oT 5 13] none))
-- pneumatic/pneumaticref27.late
def ic70 : IC := sR [oM 2 (.box (.t 0)),
  oM 4 (.mov (.c (.bool false)))]
 (.seq (sR [oT 6 1,
  oT 5 6]
 (.block 0 (.loop b70_0)))
 (sR [oM 4 (.mov (.c (.bool false)))]
 (.ret)))
theorem fn70 : env0.fn 70 = some ⟨34, ic70, [.t 4]⟩ := by kernel_rfl
set_option maxHeartbeats 2000000 in
set_option maxRecDepth 100000 in
theorem late70 {c : Ctl} {i : Nat} (h : Sml c) (hi : i < c.sg.length) : PF Tryz.prog 70 [.agg (cC c), .int .i64 (i : Nat)] (.bool (zin c i)) := by
 have hs128 := h.s;have hi32 := h.i;have ha6 := h.a6;have hgl := ze7 c.sg;have p11 := zl6 h.toSm;have hge := zdn hi;have hfs : fsC c <= 1000 := by unfold fsC; omega
 have htr : ∀ k, i <= k -> k < c.sg.length -> ltB c i k = true -> zin c i = true := fun k h1 h2 e => by
  unfold zin;rw [y2e];exact ⟨k, y0n.2 h2, by rw [e, decide_eq_true h1]; rfl⟩
 have hfa : (∀ k, i <= k -> k < c.sg.length -> ltB c i k = false) -> zin c i = false := fun hf => by
  unfold zin;rw [List.any_eq_false];intro k hk;by_cases c1 : i <= k
  ·rw [hf k c1 (y0n.1 hk), Bool.and_false]; exact y21
  ·rw [decide_eq_false c1]; exact y21
 have hsl := (h.x1 _ (zi0 hi)).1;have hoc := fun v => occurs94 v _ (sgA c.sg i).on (y08 _) hsl;rw [zif] at hoc;refine za6 env0_ok fn70 [(0, .agg (cC c)), (1, .int .i64 (i : Nat))] (y04 rfl) rfl fun w0 N0 => ?_;unfold ic70;refine zbd ?_;refine zck [] [(0, 0, cC c)] [(1, .int .i64 (i : Nat)), (2, .vptr (cC c)), (5, .int .i64 (i : Nat))] rfl (.cons rfl rfl .nil) .nil (.cons rfl (.same rfl) (.cons rfl (.fptr rfl rfl) (.cons rfl (.same rfl) .nil))) ?_;refine zav (fun mm S => ∃ k, mm = c.sg.length - k /\ i <= k /\ k <= c.sg.length /\ (∀ j, i <= j -> j < k -> ltB c i j = false) /\ S = st 34 [(1, .int .i64 (i : Nat)), (2, .vptr (cC c)), (5, .int .i64 (k : Nat))] [] 0 1) (c.sg.length - i)
  skp ⟨i, rfl, y08 _, Nat.le_of_lt hi, fun j h1 h2 => by omega, rfl⟩ ?_
 rintro mm S ⟨k, rfl, hik, hk, hv, rfl⟩;unfold b70_0 cC vsG;refine zbb ?_;rw [hgl];refine za3 rfl rfl rfl (fun h3 => ?_) fun h3 => ?_
 ·have hlt : k < c.sg.length := by have := of_decide_eq_true h3; omega
  have hgk := zdn hlt;have w1 := za9 k (by omega);have w2 : IntKind.wrap .i64 (((fsC c : Nat) : Int) + (k : Nat)) = ((fsC c + k : Nat) : Int) := by rw [zbe _ (by omega) (by omega)]; omega
  have htk := htr k hik hlt;have hnx : (decide ((sgA c.sg k).kd = 0) && occB ((fsC c + k : Nat) : Int) (sgA c.sg i).on) = false -> ∀ j, i <= j -> j < k + 1 -> ltB c i j = false := fun h0 j h1 h2 => by
   rcases y19.1 h2 with h2 | rfl
   ·exact hv j h1 h2
   ·exact h0
  have hock := hoc ((fsC c + k : Nat) : Int);unfold ltB at htk;unfold cC vsG at p11;generalize sgA c.sg k = sk at *;generalize occB _ (sgA c.sg i).on = ob at *;generalize sgA c.sg i = si at *;generalize fsC c = f at *;refine zcb ?_;refine zc2 env0_ok _ (hL2 p11 hock) (fun g => Nat.beq g 11 || Nat.beq g 103) rfl rfl rfl ?_;refine zbb ?_;refine za3 rfl rfl rfl (fun h4 => ?_) fun h4 => ?_
  ·have h4 : sk.kd = 0 := by simpa using h4
   rw [decide_eq_true h4, y1k] at htk;refine zbf ?_;rw [w2];refine zbf ?_;cases ob with
   | true =>
    rw [htk rfl];refine zbd ?_;exact uE
   | false =>
    refine zbd ?_;rw [w1];exact zad (show c.sg.length - (k + 1) < c.sg.length - k by omega) skp ⟨k + 1, rfl, by omega, hlt, hnx (by rw [Bool.and_false]), rfl⟩
  ·have h4 : ¬ sk.kd = 0 := by simpa using h4
   refine zbd ?_;rw [w1];exact zad (show c.sg.length - (k + 1) < c.sg.length - k by omega) skp ⟨k + 1, rfl, by omega, hlt, hnx (by rw [decide_eq_false h4, y25]), rfl⟩
 ·have hie : k = c.sg.length := by have := of_decide_eq_false h3; omega
  rw [hfa fun j h1 h2 => hv j h1 (by omega)];refine zbb ?_;refine zbp ?_;refine zbb ?_;exact uE
set_option maxRecDepth 100000
def sgT (s : Sig) (lt : Bool) : Int :=
 if (decide (s.kd = 0) && lt) = true then 9 else
 if (decide (s.kd = 2) && (decide (s.dl < 1) || decide (1000000 < s.dl))) = true then 2 else
 if ((!decide (s.kd = 1) && (!zroB s.off || s.ini)) || (!decide (s.kd = 2) && !decide (s.dl = 0))) = true then 3 else 0
def sgE (c : Ctl) (i : Nat) : Int :=
 if ¬ nmE c (fsC c + i) = 0 then nmE c (fsC c + i) else
 if (sgA c.sg i).kd < 0 \/ 3 <= (sgA c.sg i).kd then 1 else
 if ¬ zcg (sgA c.sg i).on (lnC c) = 0 then zcg (sgA c.sg i).on (lnC c) else
 if (sgA c.sg i).kd = 1 /\ ¬ zcg (sgA c.sg i).off (lnC c) = 0 then zcg (sgA c.sg i).off (lnC c) else
 sgT (sgA c.sg i) (zin c i)
-- pneumatic/pneumaticref27.signal
def ic43 : IC := sR [oM 2 (.box (.t 0)),
  oM 4 (.mov (cI 0))]
 (sR [oF 11 2 2,
  oN 12 11,
  oT 13 1,
  oM 14 (.idxs 10 (.t 12) (.t 13)),
  oL 15 10 14,
  oM 5 (.alloc [.str [], .int .i64 0, .int .i64 0, .int .i64 0, .nils, .int .i64 0, .int .i64 0, .nils, .int .i64 0, .bool false]),
  ⟨none, .store 10 (.t 5) (.t 15), none⟩]
 (.seq (.seq (.region [oL 16 5 2,
  oL 17 5 2,
  oM 18 (.call (.c (.fn 11 [] [])) [(.t 17)]),
  oT 19 1,
  oM 20 (.bin .add (.t 18) (.t 19)),
  oM 21 (.call (.c (.fn 42 [] [])) [(.t 16), (.t 20)]),
  oT 6 21] (some [[], [], [1], [], [2, 3], [0, 4, 2], [5, 5, 0, 1, 2, 3, 4, 5]]))
 (sR [oT 22 6,
  oM 23 (.bin .neq (.t 22) (cI 0))]
 (.cond (.t 23) (sR [oT 24 6,
  oT 4 24]
 (.ret))
 (.skip))))
 (.seq (sR [oF 25 1 5,
  oN 26 25,
  oM 27 (.bin .lss (.t 26) (cI 0)),
  oT 28 27,
  ⟨(some 29), .faddr 1 (.t 5), some (28, false)⟩,
  ⟨(some 30), .load none (.t 29), some (28, false)⟩,
  ⟨(some 31), .bin .geq (.t 30) (cI 3), some (28, false)⟩,
  oM 32 (.pick (.t 28) (.c (.bool true)) (.t 31))]
 (.cond (.t 32) (sR [oM 4 (.mov (cI 1))]
 (.ret))
 (.skip)))
 (.seq (.seq (.region [oF 33 2 5,
  oL 34 3 33,
  oL 35 5 2,
  oM 36 (.call (.c (.fn 69 [] [])) [(.t 35)]),
  oM 37 (.call (.c (.fn 68 [] [])) [(.t 34), (.t 36)]),
  oT 7 37] (some [[], [0], [], [2], [1, 3, 3], [4, 4, 0, 1, 2, 3, 4]]))
 (sR [oT 38 7,
  oM 39 (.bin .neq (.t 38) (cI 0))]
 (.cond (.t 39) (sR [oT 40 7,
  oT 4 40]
 (.ret))
 (.skip))))
 (.seq (.region [oF 41 1 5,
  oN 42 41,
  oM 43 (.bin .eql (.t 42) (cI 1)),
  oF 44 1 5,
  oN 45 44,
  oM 46 (.bin .eql (.t 45) (cI 2)),
  oT 8 43,
  oT 9 46] (some [[], [0], [1], [], [3], [4], [2, 0, 1, 2], [5, 6, 0, 1, 2, 3, 4, 5, 6]]))
 (.seq (sR [oT 47 8]
 (.cond (.t 47) (.seq (.region [oF 48 5 5,
  oL 49 3 48,
  oL 50 5 2,
  oM 51 (.call (.c (.fn 69 [] [])) [(.t 50)]),
  oM 52 (.call (.c (.fn 68 [] [])) [(.t 49), (.t 51)]),
  oT 10 52] (some [[], [0], [], [2], [1, 3, 3], [4, 4, 0, 1, 2, 3, 4]]))
 (sR [oT 53 10,
  oM 54 (.bin .neq (.t 53) (cI 0))]
 (.cond (.t 54) (sR [oT 55 10,
  oT 4 55]
 (.ret))
 (.skip))))
 (.skip)))
 (.seq (sR [oF 56 1 5,
  oN 57 56,
  oM 58 (.bin .eql (.t 57) (cI 0)),
  oT 59 58,
  ⟨(some 60), .load (some 5) (.t 2), some (59, true)⟩,
  ⟨(some 61), .mov (.t 1), some (59, true)⟩,
  ⟨(some 62), .call (.c (.fn 70 [] [])) [(.t 60), (.t 61)], some (59, true)⟩,
  oM 63 (.pick (.t 59) (.t 62) (.c (.bool false)))]
 (.cond (.t 63) (sR [oM 4 (.mov (cI 9))]
 (.ret))
 (.skip)))
 (.seq (sR [oT 64 9,
  oT 65 64,
  ⟨(some 66), .faddr 8 (.t 5), some (65, true)⟩,
  ⟨(some 67), .load none (.t 66), some (65, true)⟩,
  ⟨(some 68), .bin .lss (.t 67) (cI 1), some (65, true)⟩,
  ⟨(some 69), .mov (.t 68), some (65, true)⟩,
  ⟨(some 70), .faddr 8 (.t 5), some (69, false)⟩,
  ⟨(some 71), .load none (.t 70), some (69, false)⟩,
  ⟨(some 72), .bin .gtr (.t 71) (cI 1000000), some (69, false)⟩,
  ⟨(some 73), .pick (.t 69) (.c (.bool true)) (.t 72), some (65, true)⟩,
  oM 74 (.pick (.t 65) (.t 73) (.c (.bool false)))]
 (.cond (.t 74) (sR [oM 4 (.mov (cI 2))]
 (.ret))
 (.skip)))
 (.seq (sR [oT 75 8,
  oM 76 (.un .not (.t 75)),
  oT 77 76,
  ⟨(some 78), .faddr 5 (.t 5), some (77, true)⟩,
  ⟨(some 79), .load (some 3) (.t 78), some (77, true)⟩,
  ⟨(some 80), .call (.c (.fn 71 [] [])) [(.t 79)], some (77, true)⟩,
  ⟨(some 81), .un .not (.t 80), some (77, true)⟩,
  ⟨(some 82), .mov (.t 81), some (77, true)⟩,
  ⟨(some 83), .faddr 9 (.t 5), some (82, false)⟩,
  ⟨(some 84), .load none (.t 83), some (82, false)⟩,
  ⟨(some 85), .pick (.t 82) (.c (.bool true)) (.t 84), some (77, true)⟩,
  oM 86 (.pick (.t 77) (.t 85) (.c (.bool false))),
  oT 87 86,
  ⟨(some 88), .mov (.t 9), some (87, false)⟩,
  ⟨(some 89), .un .not (.t 88), some (87, false)⟩,
  ⟨(some 90), .mov (.t 89), some (87, false)⟩,
  ⟨(some 91), .faddr 8 (.t 5), some (90, true)⟩,
  ⟨(some 92), .load none (.t 91), some (90, true)⟩,
  ⟨(some 93), .bin .neq (.t 92) (cI 0), some (90, true)⟩,
  ⟨(some 94), .pick (.t 90) (.t 93) (.c (.bool false)), some (87, false)⟩,
  oM 95 (.pick (.t 87) (.c (.bool true)) (.t 94))]
 (.cond (.t 95) (sR [oM 4 (.mov (cI 3))]
 (.ret))
 (.skip)))
 (sR [oM 4 (.mov (cI 0))]
 (.ret)))))))))))
theorem fn43 : env0.fn 43 = some ⟨96, ic43, [.t 4]⟩ := by kernel_rfl
set_option maxHeartbeats 8000000 in
set_option maxRecDepth 100000 in
theorem signal43 {c : Ctl} {i : Nat} (h : Sml c) (h1 : 1 <= c.act) (hi : i < c.sg.length) : PF Tryz.prog 43 [.agg (cC c), .int .i64 (i : Nat)] (.int .i64 (sgE c i)) := by
 have hs128 := h.s;have hi32 := h.i;have ha6 := h.a6;have hgl := ze7 c.sg;have p11 := zl6 h.toSm;have p69 := zw7 h.toSm;have hge := zdn hi;have hfs : fsC c <= 1000 := by unfold fsC; omega
 have p42 := name42 h h1 (show fsC c + i < lnC c by unfold lnC; omega)
 have p70 := late70 h hi;have hsl := h.x1 _ (zi0 hi);have p68 := zuy (sgA c.sg i).on hsl.1 (lnC c);have p68b := zuy (sgA c.sg i).off hsl.2 (lnC c);have p71 := zero71 (sgA c.sg i).off;rw [zif] at p68 p68b;have w2 : IntKind.wrap .i64 (((fsC c : Nat) : Int) + (i : Nat)) = ((fsC c + i : Nat) : Int) := by rw [zbe _ (by omega) (by omega)]; omega
 refine za6 env0_ok fn43 [(0, .agg (cC c)), (1, .int .i64 (i : Nat))] (y04 rfl) rfl fun w0 N0 => ?_;unfold ic43 sgE;unfold cC vsG at *;generalize nmE c (fsC c + i) = e1 at *;generalize zin c i = lt at *;generalize sgA c.sg i = s at *;generalize zcg s.on (lnC c) = e2 at *;generalize zcg s.off (lnC c) = e3 at *;refine zbf ?_;refine zc2 env0_ok _ (hL2 p11 p42) (fun g => Nat.beq g 11 || Nat.beq g 42) rfl rfl rfl ?_;refine zbf ?_;rw [w2];refine zbf ?_;refine za3 rfl rfl rfl (fun h2 => ?_) fun h2 => ?_
 ·have h2 : ¬ e1 = 0 := by simpa using h2
  rw [if_pos h2];refine zbt ?_;exact uE
 have h2 : e1 = 0 := by simpa using h2
 rw [if_neg (by simpa using h2)];clear p42 h2;obtain ⟨nm, kd, on, off, dl, ini⟩ := s;dsimp only at *;by_cases c1 : kd < 0 \/ 3 <= kd
 ·rw [if_pos c1];refine zlo ?_;refine za3 rfl rfl rfl (fun h3 => ?_) fun h3 => ?_
  ·refine zcb ?_;exact uE
  ·refine zbt ?_;refine za3 rfl rfl rfl (fun h4 => ?_) fun h4 => ?_
   ·refine zbt ?_;exact uE
   ·have h3 : ¬ kd < 0 := of_decide_eq_false h3;have h4 : ¬ kd >= 3 := of_decide_eq_false h4;omega
 rw [if_neg c1];have hk3 : kd = 0 \/ kd = 1 \/ kd = 2 := by omega
 rcases hk3 with rfl | rfl | rfl;all_goals
  refine zbb ?_;refine zc2 env0_ok _ (hL2 p69 p68) (fun g => Nat.beq g 69 || Nat.beq g 68) rfl rfl rfl ?_;refine zbf ?_;refine za3 rfl rfl rfl (fun h2 => ?_) fun h2 => ?_
  ·have h2 : ¬ e2 = 0 := by simpa using h2
   rw [if_pos h2];refine zbt ?_;exact uE
  have h2 : e2 = 0 := by simpa using h2
  rw [if_neg (by simpa using h2)];clear p68 h2;refine zbf ?_
 ·rw [if_neg (fun h => by omega)];unfold sgT;generalize zroB off = zb at *;dsimp only;cases lt with
  | true =>
   refine zbt ?_;exact uE
  | false =>
   cases zb <;> cases ini
   all_goals
    repeat' first | refine zb3 ?_ | refine za8 rfl ?_ | refine zb1 ?_ | refine zaw ?_ | refine zbg ?_ | refine zgv rfl ?_ | refine zfw rfl ?_ | refine zbu ?_ | refine zaz ?_ | refine zic rfl ?_ | refine zon rfl rfl ?_ | refine o_gt rfl ?_ | refine zan rfl ?_ | refine zb0 rfl rfl ?_ | refine zb6 rfl rfl rfl rfl ?_ | refine zah rfl ?_ | refine zce rfl rfl ?_ | refine zbl rfl rfl ?_ | refine zu0 rfl rfl ?_ | refine zak rfl rfl (by assumption) noC ?_ | refine za3 rfl rfl rfl (fun h => ?_) fun h => ?_
    all_goals
     refine zab ⟨.inr rfl, _, rfl, ?_⟩;show AV.int .i64 _ = AV.int .i64 _;refine congrArg (AV.int .i64) ?_
     simp_all
 ·refine zc2 env0_ok _ (hL2 p69 p68b) (fun g => Nat.beq g 69 || Nat.beq g 68) rfl rfl rfl ?_;refine zbf ?_;refine za3 rfl rfl rfl (fun h2 => ?_) fun h2 => ?_
  ·have h2 : ¬ e3 = 0 := by simpa using h2
   rw [if_pos ⟨rfl, h2⟩];refine zbt ?_;exact uE
  have h2 : e3 = 0 := by simpa using h2
  rw [if_neg (fun h => h.2 h2)];clear p68b h2;unfold sgT;dsimp only;repeat' first | refine zb3 ?_ | refine za8 rfl ?_ | refine zb1 ?_ | refine zaw ?_ | refine zbg ?_ | refine zgv rfl ?_ | refine zfw rfl ?_ | refine zbu ?_ | refine zaz ?_ | refine zic rfl ?_ | refine zon rfl rfl ?_ | refine o_gt rfl ?_ | refine zan rfl ?_ | refine zb0 rfl rfl ?_ | refine zah rfl ?_ | refine zce rfl rfl ?_ | refine zbl rfl rfl ?_ | refine zu0 rfl rfl ?_ | refine zfz rfl rfl rfl ?_ | refine za3 rfl rfl rfl (fun h => ?_) fun h => ?_
  all_goals
   refine zab ⟨.inr rfl, _, rfl, ?_⟩;show AV.int .i64 _ = AV.int .i64 _;refine congrArg (AV.int .i64) ?_
   simp_all
 ·rw [if_neg (fun h => by omega)];unfold sgT;generalize zroB off = zb at *;dsimp only;cases zb <;> cases ini
  all_goals
   repeat' first | refine zb3 ?_ | refine za8 rfl ?_ | refine zb1 ?_ | refine zaw ?_ | refine zbg ?_ | refine zgv rfl ?_ | refine zfw rfl ?_ | refine zbu ?_ | refine zaz ?_ | refine zic rfl ?_ | refine zon rfl rfl ?_ | refine o_gt rfl ?_ | refine zan rfl ?_ | refine zb0 rfl rfl ?_ | refine zb6 rfl rfl rfl rfl ?_ | refine zah rfl ?_ | refine zce rfl rfl ?_ | refine zbl rfl rfl ?_ | refine zu0 rfl rfl ?_ | refine zak rfl rfl (by assumption) noC ?_ | refine za3 rfl rfl rfl (fun h => ?_) fun h => ?_
   all_goals
    refine zab ⟨.inr rfl, _, rfl, ?_⟩;show AV.int .i64 _ = AV.int .i64 _;refine congrArg (AV.int .i64) ?_;simp only [decide_eq_true_eq, decide_eq_false_iff_not, gt_iff_lt] at *;first
    | (rw [if_neg (by simp), if_pos (by simp; omega)])
    | (rw [if_neg (by simp), if_neg (by simp; omega)]; rfl)
set_option maxRecDepth 100000
def plB (c : Ctl) (l : List Int) : Bool := l.all fun z => decide (0 <= z) && decide (z < lnC c)
def plE (c : Ctl) : Int := if ¬ (c.pl.length : Int) = c.act \/ ¬ (c.mi.length : Int) = c.act then 8 else if plB c c.pl = true /\ plB c c.mi = true then 0 else 6
def ctE (c : Ctl) : Int :=
 if c.act < 1 \/ 6 < c.act then 2 else
 if 16 < c.ins.length \/ 64 < c.sg.length then 5 else
 if ¬ fz (fun i => nmE c (2 * c.act.toNat + i)) 0 c.ins.length = 0 then fz (fun i => nmE c (2 * c.act.toNat + i)) 0 c.ins.length else
 if ¬ fz (sgE c) 0 c.sg.length = 0 then fz (sgE c) 0 c.sg.length else plE c
def b44_2 : IC := .seq (sR [oT 30 5,
  oT 31 4,
  oM 32 (.len false (.t 31)),
  oM 33 (.bin .lss (.t 30) (.t 32))]
 (.cond (.t 33) (.skip)
 (.exit 2)))
 (.seq (.block 3 (.seq (.region [oT 36 4,
  oT 37 5,
  oM 38 (.idxs 1 (.t 36) (.t 37)),
  oN 39 38,
  oM 40 (.bin .lss (.t 39) (cI 0)),
  oT 41 40,
  ⟨(some 42), .mov (.t 4), some (41, false)⟩,
  ⟨(some 43), .mov (.t 5), some (41, false)⟩,
  ⟨(some 44), .idxs 1 (.t 42) (.t 43), some (41, false)⟩,
  ⟨(some 45), .load none (.t 44), some (41, false)⟩,
  ⟨(some 46), .load (some 5) (.t 1), some (41, false)⟩,
  ⟨(some 47), .call (.c (.fn 69 [] [])) [(.t 46)], some (41, false)⟩,
  ⟨(some 48), .bin .geq (.t 45) (.t 47), some (41, false)⟩,
  oM 49 (.pick (.t 41) (.c (.bool true)) (.t 48))] (some [[], [], [0, 1], [2], [3], [4], [5], [5], [6, 7, 5], [8, 5], [5], [10, 5, 5], [9, 11, 5], [5, 12]]))
 (.cond (.t 49) (sR [oM 2 (.mov (cI 6))]
 (.ret))
 (.skip))))
 (.region [oT 34 5,
  oM 35 (.bin .add (.t 34) (cI 1)),
  oT 5 35] none))
def b44_0 : IC := sR [oM 27 (.bin .lss (.t 26) (.t 25))]
 (.seq (.cond (.t 27) (.skip)
 (.exit 0))
 (.seq (.block 1 (sR [oM 28 (.idxs 1 (.t 24) (.t 26)),
  oN 29 28,
  oT 4 29]
 (sR [oM 5 (.mov (cI 0))]
 (.block 2 (.loop b44_2)))))
 (.region [oM 50 (.bin .add (.t 26) (cI 1)),
  oT 26 50] none)))
-- pneumatic/pneumaticref27.pilots
def ic44 : IC := sR [oM 1 (.box (.t 0)),
  oM 2 (.mov (cI 0))]
 (.seq (sR [oF 6 3 1,
  oN 7 6,
  oM 8 (.len false (.t 7)),
  oF 9 0 1,
  oN 10 9,
  oM 11 (.bin .neq (.t 8) (.t 10)),
  oT 12 11,
  ⟨(some 13), .faddr 4 (.t 1), some (12, false)⟩,
  ⟨(some 14), .load none (.t 13), some (12, false)⟩,
  ⟨(some 15), .len false (.t 14), some (12, false)⟩,
  ⟨(some 16), .faddr 0 (.t 1), some (12, false)⟩,
  ⟨(some 17), .load none (.t 16), some (12, false)⟩,
  ⟨(some 18), .bin .neq (.t 15) (.t 17), some (12, false)⟩,
  oM 19 (.pick (.t 12) (.c (.bool true)) (.t 18))]
 (.cond (.t 19) (sR [oM 2 (.mov (cI 8))]
 (.ret))
 (.skip)))
 (.seq (sR [oF 20 3 1,
  oN 21 20,
  oF 22 4 1,
  oN 23 22,
  oM 24 (.bslice 1 2 [.nils, .nils] [(0, 1, (.t 21)), (1, 1, (.t 23))]),
  oM 25 (.len false (.t 24)),
  oM 26 (.mov (cI 0))]
 (.block 0 (.loop b44_0)))
 (sR [oM 2 (.mov (cI 0))]
 (.ret))))
theorem fn44 : env0.fn 44 = some ⟨51, ic44, [.t 2]⟩ := by kernel_rfl
theorem pl_bad {c : Ctl} {l : List Int} {j : Nat} (h : j < l.length) (hb : zA l j < 0 \/ (lnC c : Int) <= zA l j) : plB c l = false := by
 unfold plB;rw [List.all_eq_false];refine ⟨l[j], y13 h, ?_⟩;have : zA l j = l[j] := by unfold zA; rw [y0k, y0e h]; rfl
 rw [this] at hb;simp;omega
theorem pl_good {c : Ctl} {l : List Int} (hb : ∀ j, j < l.length -> 0 <= zA l j /\ zA l j < (lnC c : Int)) : plB c l = true := by
 unfold plB;rw [y0h];intro x hx;obtain ⟨j, h, rfl⟩ := List.getElem_of_mem hx;have : zA l j = l[j] := by unfold zA; rw [y0k, y0e h]; rfl
 have := hb j h;simp;omega
def ll2 (c : Ctl) (i : Nat) : List Int := if i = 0 then c.pl else c.mi
set_option maxHeartbeats 8000000 in
set_option maxRecDepth 100000 in
theorem pilots44 {c : Ctl} (h : Sml c) : PF Tryz.prog 44 [.agg (cC c)] (.int .i64 (plE c)) := by
 have p69 := zw7 h.toSm;have hp := zev c.pl;have hm := zev c.mi;have hp40 := h.p1;have hm40 := h.m1;refine za6 env0_ok fn44 [(0, .agg (cC c))] (y04 rfl) rfl fun w0 N0 => ?_;unfold ic44 plE;unfold cC vsI at *;refine zbd ?_;rw [hp];refine za3 rfl rfl rfl (fun h1 => ?_) fun h1 => ?_
 ·have h1 : ¬ (c.pl.length : Int) = c.act := by simpa using h1
  rw [if_pos (.inl h1)];refine zcb ?_;exact uE
 have h1 : (c.pl.length : Int) = c.act := by simpa using h1
 refine zbt ?_;rw [hm];refine za3 rfl rfl rfl (fun h2 => ?_) fun h2 => ?_
 ·have h2 : ¬ (c.mi.length : Int) = c.act := by simpa using h2
  rw [if_pos (.inr h2)];refine zbt ?_;exact uE
 have h2 : (c.mi.length : Int) = c.act := by simpa using h2
 rw [if_neg (by omega)];refine zbf ?_;refine zck [] [(0, 0, cC c), (1, 1, [vsI c.pl, vsI c.mi])] [(1, .vptr (cC c)), (2, .int .i64 0), (24, .vs [[vsI c.pl], [vsI c.mi]]), (25, .int .i64 2), (26, .int .i64 0)] rfl (.cons rfl rfl (.cons rfl rfl .nil)) .nil (.cons rfl (.fptr rfl rfl) (.cons rfl (.same rfl) (.cons rfl (.fms1 (vs := [vsI c.pl, vsI c.mi]) rfl rfl) (.cons rfl (.same rfl) (.cons rfl (.same rfl) .nil))))) ?_;refine zav (fun mm S => ∃ i, mm = 2 - i /\ i <= 2 /\ (1 <= i -> plB c c.pl = true) /\ (2 <= i -> plB c c.mi = true) /\ S = st 51 [(1, .vptr (cC c)), (2, .int .i64 0), (24, .vs [[vsI c.pl], [vsI c.mi]]), (25, .int .i64 2), (26, .int .i64 (i : Nat))] [] 0 1) 2
  skp ⟨0, rfl, y0q _, fun h => by omega, fun h => by omega, rfl⟩ ?_
 rintro mm S ⟨i, rfl, hi, g1, g2, rfl⟩;unfold b44_0;refine zdo ?_;refine za3 rfl rfl rfl (fun h3 => ?_) fun h3 => ?_
 ·have hlt : i < 2 := by have := of_decide_eq_true h3; omega
  have hgi : ([[vsI c.pl], [vsI c.mi]] : List (List AV))[((i : Nat) : Int).toNat]? = some [vsI (ll2 c i)] := by
   rcases (show i = 0 \/ i = 1 by omega) with rfl | rfl <;> rfl
  have hl40 : (ll2 c i).length <= 40 := by unfold ll2; split <;> assumption
  have hz := zev (ll2 c i);have hbad : plB c (ll2 c i) = false -> ¬ (plB c c.pl = true /\ plB c c.mi = true) := by
   unfold ll2;split
   ·intro a b; rw [b.1] at a; cases a
   ·intro a b; rw [b.2] at a; cases a
  have hgood : plB c (ll2 c i) = true -> (1 <= i + 1 -> plB c c.pl = true) /\ (2 <= i + 1 -> plB c c.mi = true) := by
   unfold ll2;split
   ·intro a; exact ⟨fun _ => a, fun h => by omega⟩
   ·intro a; exact ⟨fun _ => g1 (by omega), fun _ => a⟩
  generalize ll2 c i = l at *;have w1 := za9 i (by omega);refine zbd ?_;refine zav (fun mm S => ∃ j, mm = l.length - j /\ j <= l.length /\ (∀ k, k < j -> 0 <= zA l k /\ zA l k < (lnC c : Int)) /\ S = st 51 [(1, .vptr (cC c)), (2, .int .i64 0), (24, .vs [[vsI c.pl], [vsI c.mi]]), (25, .int .i64 2), (26, .int .i64 (i : Nat)), (4, vsI l), (5, .int .i64 (j : Nat))] [] 0 1) l.length
   skp ⟨0, rfl, y0q _, fun k hk => absurd hk (y1b _), rfl⟩ ?_
  rintro mm S ⟨j, rfl, hj, hv, rfl⟩;unfold b44_2 vsI cC;refine zbt ?_;rw [hz];refine za3 rfl rfl rfl (fun h4 => ?_) fun h4 => ?_
  ·have hlj : j < l.length := by have := of_decide_eq_true h4; omega
   have hgj := zib hlj;have hbj := pl_bad (c := c) hlj;have hnx : 0 <= zA l j /\ zA l j < (lnC c : Int) -> ∀ k, k < j + 1 -> 0 <= zA l k /\ zA l k < (lnC c : Int) := fun h0 k hk => by
    rcases y19.1 hk with hk | rfl
    ·exact hv k hk
    ·exact h0
   have w2 := za9 j (by omega);generalize hzj : zA l j = z at *;refine zcb ?_;refine zc2 env0_ok _ (hL1 p69) (fun g => Nat.beq g 69) rfl rfl rfl ?_;refine zbd ?_;refine za3 rfl rfl rfl (fun h5 => ?_) fun h5 => ?_
   ·have h5 : z < 0 := of_decide_eq_true h5;rw [if_neg (hbad (hbj (.inl h5)))];refine zbd ?_;exact uE
   ·have h5 : ¬ z < 0 := of_decide_eq_false h5;refine zbf ?_;refine za3 rfl rfl rfl (fun h6 => ?_) fun h6 => ?_
    ·have h6 : z >= (lnC c : Int) := of_decide_eq_true h6;rw [if_neg (hbad (hbj (.inr h6)))];refine zbd ?_;exact uE
    ·have h6 : ¬ z >= (lnC c : Int) := of_decide_eq_false h6;refine zbd ?_;rw [w2];exact zad (show l.length - (j + 1) < l.length - j by omega) skp ⟨j + 1, rfl, hlj, hnx ⟨by omega, by omega⟩, rfl⟩
  ·have hje : j = l.length := by have := of_decide_eq_false h4; omega
   obtain ⟨k1, k2⟩ := hgood (pl_good fun k hk => hv k (by omega));refine zbb ?_;refine zbp ?_;refine zbb ?_;rw [w1];exact zad (show 2 - (i + 1) < 2 - i by omega) skp ⟨i + 1, rfl, hlt, k1, k2, rfl⟩
 ·have hie : i = 2 := by have := of_decide_eq_false h3; omega
  rw [if_pos ⟨g1 (by omega), g2 (by omega)⟩];refine zbb ?_;refine zbp ?_;refine zbb ?_;exact uE
set_option maxRecDepth 100000
structure Smx (c : Ctl) : Prop where
 i : c.ins.length <= 32
 s : c.sg.length <= 128
 ni : ∀ i, i < c.ins.length -> (nA c.ins i).length <= 200
 ns : ∀ s, s ∈ c.sg -> s.nm.length <= 200
 x1 : ∀ s, s ∈ c.sg -> Slim s.on /\ Slim s.off
 p1 : c.pl.length <= 40
 m1 : c.mi.length <= 40
theorem Smx.sml {c : Ctl} (h : Smx c) (ha : 1 <= c.act /\ c.act <= 6) : Sml c := ⟨⟨by omega, ha.2, h.i, h.s⟩, h.ni, h.ns, h.x1, h.p1, h.m1⟩
def b23_0 : IC := .seq (sR [oT 25 3,
  oF 26 1 1,
  oN 27 26,
  oM 28 (.len false (.t 27)),
  oM 29 (.bin .lss (.t 25) (.t 28))]
 (.cond (.t 29) (.skip)
 (.exit 0)))
 (.seq (.block 1 (sR [oL 32 5 1,
  oF 33 0 1,
  oN 34 33,
  oM 35 (.bin .mul (cI 2) (.t 34)),
  oT 36 3,
  oM 37 (.bin .add (.t 35) (.t 36)),
  oM 38 (.call (.c (.fn 42 [] [])) [(.t 32), (.t 37)]),
  oT 4 38]
 (sR [oT 39 4,
  oM 40 (.bin .neq (.t 39) (cI 0))]
 (.cond (.t 40) (sR [oT 41 4,
  oT 2 41]
 (.ret))
 (.skip)))))
 (.region [oT 30 3,
  oM 31 (.bin .add (.t 30) (cI 1)),
  oT 3 31] none))
def b23_2 : IC := .seq (sR [oT 42 5,
  oF 43 2 1,
  oN 44 43,
  oM 45 (.len false (.t 44)),
  oM 46 (.bin .lss (.t 42) (.t 45))]
 (.cond (.t 46) (.skip)
 (.exit 2)))
 (.seq (.block 3 (sR [oL 49 5 1,
  oT 50 5,
  oM 51 (.call (.c (.fn 43 [] [])) [(.t 49), (.t 50)]),
  oT 6 51]
 (sR [oT 52 6,
  oM 53 (.bin .neq (.t 52) (cI 0))]
 (.cond (.t 53) (sR [oT 54 6,
  oT 2 54]
 (.ret))
 (.skip)))))
 (.region [oT 47 5,
  oM 48 (.bin .add (.t 47) (cI 1)),
  oT 5 48] none))
-- pneumatic/pneumaticref27.Check
def ic23 : IC := sR [oM 1 (.box (.t 0)),
  oM 2 (.mov (cI 0))]
 (.seq (sR [oF 7 0 1,
  oN 8 7,
  oM 9 (.bin .lss (.t 8) (cI 1)),
  oT 10 9,
  ⟨(some 11), .faddr 0 (.t 1), some (10, false)⟩,
  ⟨(some 12), .load none (.t 11), some (10, false)⟩,
  ⟨(some 13), .bin .gtr (.t 12) (cI 6), some (10, false)⟩,
  oM 14 (.pick (.t 10) (.c (.bool true)) (.t 13))]
 (.cond (.t 14) (sR [oM 2 (.mov (cI 2))]
 (.ret))
 (.skip)))
 (.seq (sR [oF 15 1 1,
  oN 16 15,
  oM 17 (.len false (.t 16)),
  oM 18 (.bin .gtr (.t 17) (cI 16)),
  oT 19 18,
  ⟨(some 20), .faddr 2 (.t 1), some (19, false)⟩,
  ⟨(some 21), .load none (.t 20), some (19, false)⟩,
  ⟨(some 22), .len false (.t 21), some (19, false)⟩,
  ⟨(some 23), .bin .gtr (.t 22) (cI 64), some (19, false)⟩,
  oM 24 (.pick (.t 19) (.c (.bool true)) (.t 23))]
 (.cond (.t 24) (sR [oM 2 (.mov (cI 5))]
 (.ret))
 (.skip)))
 (.seq (sR [oM 3 (.mov (cI 0))]
 (.block 0 (.loop b23_0)))
 (.seq (sR [oM 5 (.mov (cI 0))]
 (.block 2 (.loop b23_2)))
 (sR [oL 55 5 1,
  oM 56 (.call (.c (.fn 44 [] [])) [(.t 55)]),
  oT 2 56]
 (.ret))))))
theorem fn23 : env0.fn 23 = some ⟨57, ic23, [.t 2]⟩ := by kernel_rfl
set_option maxHeartbeats 8000000 in
set_option maxRecDepth 100000 in
theorem check23 {c : Ctl} (h : Smx c) : PF Tryz.prog 23 [.agg (cC c)] (.int .i64 (ctE c)) := by
 have hn := zpf c.ins;have hg := ze7 c.sg;have hi32 := h.i;have hs128 := h.s;refine za6 env0_ok fn23 [(0, .agg (cC c))] (y04 rfl) rfl fun w0 N0 => ?_;unfold ic23 ctE;by_cases c1 : c.act < 1 \/ 6 < c.act
 ·rw [if_pos c1];unfold cC at *;refine zbd ?_;refine za3 rfl rfl rfl (fun h1 => ?_) fun h1 => ?_
  ·refine zcb ?_;exact uE
  ·refine zbt ?_;refine za3 rfl rfl rfl (fun h2 => ?_) fun h2 => ?_
   ·refine zbt ?_;exact uE
   ·have h1 := of_decide_eq_false h1;have h2 := of_decide_eq_false h2;omega
 rw [if_neg c1];have p44 := pilots44 (h.sml (by omega));have p42 := fun i (hi : i < c.ins.length) => name42 (k := 2 * c.act.toNat + i) (h.sml (by omega)) (by omega) (by unfold lnC fsC; omega);have p43 := fun i (hi : i < c.sg.length) => signal43 (h.sml (by omega)) (by omega) hi;have hw : IntKind.wrap .i64 (2 * c.act) = 2 * c.act := zbe _ (by omega) (by omega);generalize hf1 : (fun i => nmE c (2 * c.act.toNat + i)) = f1 at *;have hf1' : ∀ i, nmE c (2 * c.act.toNat + i) = f1 i := fun i => by rw [<- hf1]
 generalize hf2 : sgE c = f2 at *;generalize plE c = pe at *;by_cases c2 : 16 < c.ins.length \/ 64 < c.sg.length
 ·rw [if_pos c2];clear p42 p43 p44;unfold cC vsN vsG at *;refine zbd ?_;refine za3 rfl rfl rfl (fun h1 => absurd (of_decide_eq_true h1) (by omega)) fun h1 => ?_;refine zbt ?_;refine za3 rfl rfl rfl (fun h1 => absurd (of_decide_eq_true h1) (by omega)) fun h1 => ?_;refine zbt ?_;rw [hn];refine za3 rfl rfl rfl (fun h1 => ?_) fun h1 => ?_
  ·refine zcb ?_;exact uE
  ·refine zbt ?_;rw [hg];refine za3 rfl rfl rfl (fun h2 => ?_) fun h2 => ?_
   ·refine zbt ?_;exact uE
   ·have h1 := of_decide_eq_false h1;have h2 := of_decide_eq_false h2;omega
 rw [if_neg c2];unfold cC vsN vsG at *;refine zbd ?_;refine za3 rfl rfl rfl (fun h1 => absurd (of_decide_eq_true h1) (by omega)) fun h1 => ?_;refine zbt ?_;refine za3 rfl rfl rfl (fun h1 => absurd (of_decide_eq_true h1) (by omega)) fun h1 => ?_;refine zbt ?_;rw [hn];refine za3 rfl rfl rfl (fun h1 => absurd (of_decide_eq_true h1) (by omega)) fun h1 => ?_;refine zbt ?_;rw [hg];refine za3 rfl rfl rfl (fun h1 => absurd (of_decide_eq_true h1) (by omega)) fun h1 => ?_;refine zcb ?_;refine zck [] [(0, 0, cC c)] [(1, .vptr (cC c)), (2, .int .i64 0), (3, .int .i64 0)] rfl (.cons rfl rfl .nil) .nil (.cons rfl (.fptr rfl rfl) (.cons rfl (.same rfl) (.cons rfl (.same rfl) .nil))) ?_;refine zav (fun mm S => ∃ i, mm = c.ins.length - i /\ i <= c.ins.length /\ fz f1 0 c.ins.length = fz f1 i (c.ins.length - i) /\ S = st 57 [(1, .vptr (cC c)), (2, .int .i64 0), (3, .int .i64 (i : Nat))] [] 0 1) c.ins.length
  skp ⟨0, rfl, y0q _, rfl, rfl⟩ ?_
 rintro mm S ⟨i, rfl, hi, hv, rfl⟩;unfold b23_0 cC vsN;refine zbb ?_;rw [hn];refine za3 rfl rfl rfl (fun h3 => ?_) fun h3 => ?_
 ·have hlt : i < c.ins.length := by have := of_decide_eq_true h3; omega
  have p := p42 i hlt;rw [zvl hlt] at hv;rw [hf1' i] at p;have w1 := za9 i (by omega);generalize f1 i = e at *;refine zbf ?_;rw [hw, zbe _ (by omega) (by omega), show 2 * c.act + ((i : Nat) : Int) = ((2 * c.act.toNat + i : Nat) : Int) by omega]
  refine zbd ?_;refine za3 rfl rfl rfl (fun h4 => ?_) fun h4 => ?_
  ·have h4 : ¬ e = 0 := by simpa using h4
   rw [if_neg h4] at hv;rw [if_pos (by rw [hv]; exact h4), hv];refine zbd ?_;exact uE
  ·have h4 : e = 0 := by simpa using h4
   rw [if_pos h4] at hv;refine zbd ?_;rw [w1];exact zad (show c.ins.length - (i + 1) < c.ins.length - i by omega) skp ⟨i + 1, rfl, hlt, hv, rfl⟩
 have hie : i = c.ins.length := by have := of_decide_eq_false h3; omega
 subst hie;rw [fz_end] at hv;rw [if_neg (by rw [hv]; decide)];refine zbb ?_;refine zbp ?_;refine zbb ?_;refine zav (fun mm S => ∃ i, mm = c.sg.length - i /\ i <= c.sg.length /\ fz f2 0 c.sg.length = fz f2 i (c.sg.length - i) /\ S = st 57 [(1, .vptr (cC c)), (2, .int .i64 0), (5, .int .i64 (i : Nat))] [] 0 1) c.sg.length
  skp ⟨0, rfl, y0q _, rfl, rfl⟩ ?_
 rintro mm S ⟨i, rfl, hi, hv2, rfl⟩;unfold b23_2 cC vsG;refine zbb ?_;rw [hg];refine za3 rfl rfl rfl (fun h3 => ?_) fun h3 => ?_
 ·have hlt : i < c.sg.length := by have := of_decide_eq_true h3; omega
  have p := p43 i hlt;rw [zvl hlt] at hv2;have w1 := za9 i (by omega);generalize f2 i = e at *;refine zbd ?_;refine za3 rfl rfl rfl (fun h4 => ?_) fun h4 => ?_
  ·have h4 : ¬ e = 0 := by simpa using h4
   rw [if_neg h4] at hv2;rw [if_pos (by rw [hv2]; exact h4), hv2];refine zbd ?_;exact uE
  ·have h4 : e = 0 := by simpa using h4
   rw [if_pos h4] at hv2;refine zbd ?_;rw [w1];exact zad (show c.sg.length - (i + 1) < c.sg.length - i by omega) skp ⟨i + 1, rfl, hlt, hv2, rfl⟩
 have hie : i = c.sg.length := by have := of_decide_eq_false h3; omega
 subst hie;rw [fz_end] at hv2;rw [if_neg (by rw [hv2]; decide)];refine zbb ?_;refine zbp ?_;refine zbb ?_;exact uE
set_option maxRecDepth 100000
structure Sms (s : Sta) : Prop where
 e : s.en.length <= 40
 v : s.va.length <= 40
 i : s.inp.length <= 200
 b : s.vals.length <= 200
 t : s.tms.length <= 200
def shC (c : Ctl) (s : Sta) : Prop := (s.en.length : Int) = c.act /\ (s.va.length : Int) = c.act /\ s.inp.length = c.ins.length /\ s.vals.length = c.sg.length /\ s.tms.length = c.sg.length
def inR (l : List Int) (m : Int) : Prop := ∀ j, j < l.length -> 0 <= zA l j /\ zA l j < m
def tkB (s : Sig) (b : Bool) (t : Int) : Bool := if s.kd = 2 then b == decide (t = 2) else decide (t = 0)
def tkC (c : Ctl) (s : Sta) : Prop := ∀ j, j < s.tms.length -> tkB (sgA c.sg j) (bA s.vals j) (zA s.tms j) = true
open Classical in
noncomputable def ftE (c : Ctl) (s : Sta) : Int := if ¬ shC c s then 8 else if ¬ inR s.en 4 then 1 else if ¬ inR s.tms 3 then 1 else if ¬ tkC c s then 14 else 0
def b24_0 : IC := .seq (sR [oT 50 5,
  oF 51 0 3,
  oN 52 51,
  oM 53 (.len false (.t 52)),
  oM 54 (.bin .lss (.t 50) (.t 53))]
 (.cond (.t 54) (.skip)
 (.exit 0)))
 (.seq (.block 1 (sR [oF 57 0 3,
  oN 58 57,
  oT 59 5,
  oM 60 (.idxs 1 (.t 58) (.t 59)),
  oN 61 60,
  oM 62 (.bin .lss (.t 61) (cI 0)),
  oT 63 62,
  ⟨(some 64), .faddr 0 (.t 3), some (63, false)⟩,
  ⟨(some 65), .load none (.t 64), some (63, false)⟩,
  ⟨(some 66), .mov (.t 5), some (63, false)⟩,
  ⟨(some 67), .idxs 1 (.t 65) (.t 66), some (63, false)⟩,
  ⟨(some 68), .load none (.t 67), some (63, false)⟩,
  ⟨(some 69), .bin .geq (.t 68) (cI 4), some (63, false)⟩,
  oM 70 (.pick (.t 63) (.c (.bool true)) (.t 69))]
 (.cond (.t 70) (sR [oM 4 (.mov (cI 1))]
 (.ret))
 (.skip))))
 (.region [oT 55 5,
  oM 56 (.bin .add (.t 55) (cI 1)),
  oT 5 56] none))
def b24_2 : IC := .seq (sR [oT 71 6,
  oF 72 4 3,
  oN 73 72,
  oM 74 (.len false (.t 73)),
  oM 75 (.bin .lss (.t 71) (.t 74))]
 (.cond (.t 75) (.skip)
 (.exit 2)))
 (.seq (.block 3 (sR [oF 78 4 3,
  oN 79 78,
  oT 80 6,
  oM 81 (.idxs 1 (.t 79) (.t 80)),
  oN 82 81,
  oM 83 (.bin .lss (.t 82) (cI 0)),
  oT 84 83,
  ⟨(some 85), .faddr 4 (.t 3), some (84, false)⟩,
  ⟨(some 86), .load none (.t 85), some (84, false)⟩,
  ⟨(some 87), .mov (.t 6), some (84, false)⟩,
  ⟨(some 88), .idxs 1 (.t 86) (.t 87), some (84, false)⟩,
  ⟨(some 89), .load none (.t 88), some (84, false)⟩,
  ⟨(some 90), .bin .geq (.t 89) (cI 3), some (84, false)⟩,
  oM 91 (.pick (.t 84) (.c (.bool true)) (.t 90))]
 (.cond (.t 91) (sR [oM 4 (.mov (cI 1))]
 (.ret))
 (.skip))))
 (.region [oT 76 6,
  oM 77 (.bin .add (.t 76) (cI 1)),
  oT 6 77] none))
def b24_4 : IC := .seq (sR [oT 92 7,
  oF 93 4 3,
  oN 94 93,
  oM 95 (.len false (.t 94)),
  oM 96 (.bin .lss (.t 92) (.t 95))]
 (.cond (.t 96) (.skip)
 (.exit 4)))
 (.seq (.block 5 (sR [oF 99 2 2,
  oN 100 99,
  oT 101 7,
  oM 102 (.idxs 10 (.t 100) (.t 101)),
  oF 103 1 102,
  oN 104 103,
  oM 105 (.bin .eql (.t 104) (cI 2)),
  oT 8 105]
 (.seq (.region [oT 106 8,
  oM 107 (.un .not (.t 106)),
  oT 108 107,
  ⟨(some 109), .faddr 4 (.t 3), some (108, true)⟩,
  ⟨(some 110), .load none (.t 109), some (108, true)⟩,
  ⟨(some 111), .mov (.t 7), some (108, true)⟩,
  ⟨(some 112), .idxs 1 (.t 110) (.t 111), some (108, true)⟩,
  ⟨(some 113), .load none (.t 112), some (108, true)⟩,
  ⟨(some 114), .bin .neq (.t 113) (cI 0), some (108, true)⟩,
  oM 115 (.pick (.t 108) (.t 114) (.c (.bool false))),
  oT 116 115,
  ⟨(some 117), .mov (.t 8), some (116, false)⟩,
  ⟨(some 118), .mov (.t 117), some (116, false)⟩,
  ⟨(some 119), .faddr 3 (.t 3), some (118, true)⟩,
  ⟨(some 120), .load none (.t 119), some (118, true)⟩,
  ⟨(some 121), .mov (.t 7), some (118, true)⟩,
  ⟨(some 122), .idxs 1 (.t 120) (.t 121), some (118, true)⟩,
  ⟨(some 123), .load none (.t 122), some (118, true)⟩,
  ⟨(some 124), .faddr 4 (.t 3), some (118, true)⟩,
  ⟨(some 125), .load none (.t 124), some (118, true)⟩,
  ⟨(some 126), .mov (.t 7), some (118, true)⟩,
  ⟨(some 127), .idxs 1 (.t 125) (.t 126), some (118, true)⟩,
  ⟨(some 128), .load none (.t 127), some (118, true)⟩,
  ⟨(some 129), .bin .eql (.t 128) (cI 2), some (118, true)⟩,
  ⟨(some 130), .eqb true (.t 123) (.t 129), some (118, true)⟩,
  ⟨(some 131), .pick (.t 118) (.t 130) (.c (.bool false)), some (116, false)⟩,
  oM 132 (.pick (.t 116) (.c (.bool true)) (.t 131))] (some [[], [0], [1], [2], [3, 2], [2], [4, 5, 2], [6, 2], [7, 2], [2, 8], [9, 2], [10], [11, 10, 10], [12], [13, 12], [12], [14, 15, 12], [16, 12], [12], [18, 12], [12], [19, 20, 12], [21, 12], [22, 12], [17, 23, 12], [12, 24, 10], [10, 25]]))
 (.cond (.t 132) (sR [oM 4 (.mov (cI 14))]
 (.ret))
 (.skip)))))
 (.region [oT 97 7,
  oM 98 (.bin .add (.t 97) (cI 1)),
  oT 7 98] none))
-- pneumatic/pneumaticref27.fits
def ic24 : IC := sR [oM 2 (.box (.t 0)),
  oM 3 (.box (.t 1)),
  oM 4 (.mov (cI 0))]
 (.seq (sR [oF 9 0 3,
  oN 10 9,
  oM 11 (.len false (.t 10)),
  oF 12 0 2,
  oN 13 12,
  oM 14 (.bin .neq (.t 11) (.t 13)),
  oT 15 14,
  ⟨(some 16), .faddr 1 (.t 3), some (15, false)⟩,
  ⟨(some 17), .load none (.t 16), some (15, false)⟩,
  ⟨(some 18), .len false (.t 17), some (15, false)⟩,
  ⟨(some 19), .faddr 0 (.t 2), some (15, false)⟩,
  ⟨(some 20), .load none (.t 19), some (15, false)⟩,
  ⟨(some 21), .bin .neq (.t 18) (.t 20), some (15, false)⟩,
  oM 22 (.pick (.t 15) (.c (.bool true)) (.t 21)),
  oT 23 22,
  ⟨(some 24), .faddr 2 (.t 3), some (23, false)⟩,
  ⟨(some 25), .load none (.t 24), some (23, false)⟩,
  ⟨(some 26), .len false (.t 25), some (23, false)⟩,
  ⟨(some 27), .faddr 1 (.t 2), some (23, false)⟩,
  ⟨(some 28), .load none (.t 27), some (23, false)⟩,
  ⟨(some 29), .len false (.t 28), some (23, false)⟩,
  ⟨(some 30), .bin .neq (.t 26) (.t 29), some (23, false)⟩,
  oM 31 (.pick (.t 23) (.c (.bool true)) (.t 30)),
  oT 32 31,
  ⟨(some 33), .faddr 3 (.t 3), some (32, false)⟩,
  ⟨(some 34), .load none (.t 33), some (32, false)⟩,
  ⟨(some 35), .len false (.t 34), some (32, false)⟩,
  ⟨(some 36), .faddr 2 (.t 2), some (32, false)⟩,
  ⟨(some 37), .load none (.t 36), some (32, false)⟩,
  ⟨(some 38), .len false (.t 37), some (32, false)⟩,
  ⟨(some 39), .bin .neq (.t 35) (.t 38), some (32, false)⟩,
  oM 40 (.pick (.t 32) (.c (.bool true)) (.t 39)),
  oT 41 40,
  ⟨(some 42), .faddr 4 (.t 3), some (41, false)⟩,
  ⟨(some 43), .load none (.t 42), some (41, false)⟩,
  ⟨(some 44), .len false (.t 43), some (41, false)⟩,
  ⟨(some 45), .faddr 2 (.t 2), some (41, false)⟩,
  ⟨(some 46), .load none (.t 45), some (41, false)⟩,
  ⟨(some 47), .len false (.t 46), some (41, false)⟩,
  ⟨(some 48), .bin .neq (.t 44) (.t 47), some (41, false)⟩,
  oM 49 (.pick (.t 41) (.c (.bool true)) (.t 48))]
 (.cond (.t 49) (sR [oM 4 (.mov (cI 8))]
 (.ret))
 (.skip)))
 (.seq (sR [oM 5 (.mov (cI 0))]
 (.block 0 (.loop b24_0)))
 (.seq (sR [oM 6 (.mov (cI 0))]
 (.block 2 (.loop b24_2)))
 (.seq (sR [oM 7 (.mov (cI 0))]
 (.block 4 (.loop b24_4)))
 (sR [oM 4 (.mov (cI 0))]
 (.ret))))))
theorem fn24 : env0.fn 24 = some ⟨133, ic24, [.t 4]⟩ := by kernel_rfl
set_option maxHeartbeats 8000000 in
set_option maxRecDepth 100000 in
theorem fits24 {c : Ctl} {s : Sta} (h : Smx c) (hs : Sms s) : PF Tryz.prog 24 [.agg (cC c), .agg (cS s)] (.int .i64 (ftE c s)) := by
 classical
 have hn := zpf c.ins;have hg := ze7 c.sg;have he := zev s.en;have hv := zhd s.va;have hi := zhd s.inp;have hb := zhd s.vals;have ht := zev s.tms;have he40 := hs.e;have hi32 := h.i;have hs128 := h.s;have ht200 := hs.t;refine za6 env0_ok fn24 [(0, .agg (cC c)), (1, .agg (cS s))] (y04 rfl) rfl fun w0 N0 => ?_;unfold ic24 ftE;by_cases c1 : shC c s
 ·rw [if_neg (fun h => h c1)];obtain ⟨k1, k2, k3, k4, k5⟩ := c1;unfold cC cS vsN vsG vsI vsB at *;have k3' : ((s.inp.length : Nat) : Int) = (c.ins.length : Nat) := by omega
  have k4' : ((s.vals.length : Nat) : Int) = (c.sg.length : Nat) := by omega
  have k5' : ((s.tms.length : Nat) : Int) = (c.sg.length : Nat) := by omega
  refine zbd ?_;rw [he];refine za3 rfl rfl rfl (fun h1 => absurd k1 (bne_iff_ne.1 h1)) fun _ => ?_;refine zbt ?_;rw [hv];refine za3 rfl rfl rfl (fun h1 => absurd k2 (bne_iff_ne.1 h1)) fun _ => ?_;refine zbt ?_;rw [hi, hn];refine za3 rfl rfl rfl (fun h1 => absurd k3' (bne_iff_ne.1 h1)) fun _ => ?_;refine zbt ?_;rw [hb, hg];refine za3 rfl rfl rfl (fun h1 => absurd k4' (bne_iff_ne.1 h1)) fun _ => ?_;refine zbt ?_;rw [ht, hg];refine za3 rfl rfl rfl (fun h1 => absurd k5' (bne_iff_ne.1 h1)) fun _ => ?_;refine zcb ?_;refine zck [] [(0, 0, cC c), (1, 1, cS s)] [(2, .vptr (cC c)), (3, .vptr (cS s)), (4, .int .i64 0), (5, .int .i64 0)] rfl (.cons rfl rfl (.cons rfl rfl .nil)) .nil (.cons rfl (.fptr rfl rfl) (.cons rfl (.fptr rfl rfl) (.cons rfl (.same rfl) (.cons rfl (.same rfl) .nil)))) ?_;refine zav (fun mm S => ∃ j, mm = s.en.length - j /\ j <= s.en.length /\ (∀ k, k < j -> 0 <= zA s.en k /\ zA s.en k < 4) /\ S = st 133 [(2, .vptr (cC c)), (3, .vptr (cS s)), (4, .int .i64 0), (5, .int .i64 (j : Nat))] [] 0 1) s.en.length
   skp ⟨0, rfl, y0q _, fun k hk => absurd hk (y1b _), rfl⟩ ?_
  rintro mm S ⟨j, rfl, hj, hvv, rfl⟩;unfold b24_0 cS vsI;refine zbb ?_;rw [he];refine za3 rfl rfl rfl (fun h3 => ?_) fun h3 => ?_
  ·have hlt : j < s.en.length := by have := of_decide_eq_true h3; omega
   have hge := zib hlt;have hnx : 0 <= zA s.en j /\ zA s.en j < 4 -> ∀ k, k < j + 1 -> 0 <= zA s.en k /\ zA s.en k < 4 := fun h0 k hk => by
    rcases y19.1 hk with hk | rfl
    ·exact hvv k hk
    ·exact h0
   have hbad : ¬ (0 <= zA s.en j /\ zA s.en j < 4) -> ¬ inR s.en 4 := fun h0 h1 => h0 (h1 j hlt);have w2 := za9 j (by omega);generalize hzj : zA s.en j = z at *;refine zbb ?_;refine za3 rfl rfl rfl (fun h5 => ?_) fun h5 => ?_
   ·have h5 : z < 0 := of_decide_eq_true h5;rw [if_pos (hbad (by omega))];refine zbd ?_;exact uE
   ·have h5 : ¬ z < 0 := of_decide_eq_false h5;refine zbb ?_;refine za3 rfl rfl rfl (fun h6 => ?_) fun h6 => ?_
    ·have h6 : z >= 4 := of_decide_eq_true h6;rw [if_pos (hbad (by omega))];refine zbd ?_;exact uE
    ·have h6 : ¬ z >= 4 := of_decide_eq_false h6;refine zbd ?_;rw [w2];exact zad (show s.en.length - (j + 1) < s.en.length - j by omega) skp ⟨j + 1, rfl, hlt, hnx ⟨by omega, by omega⟩, rfl⟩
  have hje : j = s.en.length := by have := of_decide_eq_false h3; omega
  rw [if_neg (fun hh => hh fun k hk => hvv k (by omega))];clear hvv;refine zbb ?_;refine zbp ?_;refine zbb ?_;refine zav (fun mm S => ∃ j, mm = s.tms.length - j /\ j <= s.tms.length /\ (∀ k, k < j -> 0 <= zA s.tms k /\ zA s.tms k < 3) /\ S = st 133 [(2, .vptr (cC c)), (3, .vptr (cS s)), (4, .int .i64 0), (6, .int .i64 (j : Nat))] [] 0 1) s.tms.length
   skp ⟨0, rfl, y0q _, fun k hk => absurd hk (y1b _), rfl⟩ ?_
  rintro mm S ⟨j, rfl, hj, hvv, rfl⟩;unfold b24_2 cS vsI;refine zbb ?_;rw [ht];refine za3 rfl rfl rfl (fun h3 => ?_) fun h3 => ?_
  ·have hlt : j < s.tms.length := by have := of_decide_eq_true h3; omega
   have hge := zib hlt;have hnx : 0 <= zA s.tms j /\ zA s.tms j < 3 -> ∀ k, k < j + 1 -> 0 <= zA s.tms k /\ zA s.tms k < 3 := fun h0 k hk => by
    rcases y19.1 hk with hk | rfl
    ·exact hvv k hk
    ·exact h0
   have hbad : ¬ (0 <= zA s.tms j /\ zA s.tms j < 3) -> ¬ inR s.tms 3 := fun h0 h1 => h0 (h1 j hlt);have w2 := za9 j (by omega);generalize hzj : zA s.tms j = z at *;refine zbb ?_;refine za3 rfl rfl rfl (fun h5 => ?_) fun h5 => ?_
   ·have h5 : z < 0 := of_decide_eq_true h5;rw [if_pos (hbad (by omega))];refine zbd ?_;exact uE
   ·have h5 : ¬ z < 0 := of_decide_eq_false h5;refine zbb ?_;refine za3 rfl rfl rfl (fun h6 => ?_) fun h6 => ?_
    ·have h6 : z >= 3 := of_decide_eq_true h6;rw [if_pos (hbad (by omega))];refine zbd ?_;exact uE
    ·have h6 : ¬ z >= 3 := of_decide_eq_false h6;refine zbd ?_;rw [w2];exact zad (show s.tms.length - (j + 1) < s.tms.length - j by omega) skp ⟨j + 1, rfl, hlt, hnx ⟨by omega, by omega⟩, rfl⟩
  have hje : j = s.tms.length := by have := of_decide_eq_false h3; omega
  rw [if_neg (fun hh => hh fun k hk => hvv k (by omega))];clear hvv;refine zbb ?_;refine zbp ?_;refine zbb ?_;refine zav (fun mm S => ∃ j, mm = s.tms.length - j /\ j <= s.tms.length /\ (∀ k, k < j -> tkB (sgA c.sg k) (bA s.vals k) (zA s.tms k) = true) /\ S = st 133 [(2, .vptr (cC c)), (3, .vptr (cS s)), (4, .int .i64 0), (7, .int .i64 (j : Nat))] [] 0 1) s.tms.length
   skp ⟨0, rfl, y0q _, fun k hk => absurd hk (y1b _), rfl⟩ ?_
  rintro mm S ⟨j, rfl, hj, hvv, rfl⟩;unfold b24_4 cS cC vsI vsB vsG;refine zbb ?_;rw [ht];refine za3 rfl rfl rfl (fun h3 => ?_) fun h3 => ?_
  ·have hlt : j < s.tms.length := by have := of_decide_eq_true h3; omega
   have hgt := zib hlt;have hgb := zpy (l := s.vals) (i := j) (by omega);have hgs := zdn (sg := c.sg) (i := j) (by omega);have hnx : tkB (sgA c.sg j) (bA s.vals j) (zA s.tms j) = true -> ∀ k, k < j + 1 -> tkB (sgA c.sg k) (bA s.vals k) (zA s.tms k) = true := fun h0 k hk => by
    rcases y19.1 hk with hk | rfl
    ·exact hvv k hk
    ·exact h0
   have hbad : tkB (sgA c.sg j) (bA s.vals j) (zA s.tms j) = false -> ¬ tkC c s := fun h0 h1 => by
    rw [h1 j hlt] at h0; cases h0
   have w2 := za9 j (by omega);unfold tkB at hnx hbad;generalize zA s.tms j = z at *;generalize bA s.vals j = b at *;generalize sgA c.sg j = sj at *;refine zbb ?_;refine za3 rfl rfl rfl (fun h5 => ?_) fun h5 => ?_
   ·have h5 : sj.kd = 2 := by simpa using h5
    rw [if_pos h5] at hbad hnx;refine zbf ?_;refine za3 rfl rfl rfl (fun h6 => ?_) fun h6 => ?_
    ·have h6 : z = 2 := by simpa using h6
     rw [decide_eq_true h6] at hbad hnx;cases b with
     | true =>
      refine zbf ?_;rw [w2];exact zad (show s.tms.length - (j + 1) < s.tms.length - j by omega) skp ⟨j + 1, rfl, hlt, hnx rfl, rfl⟩
     | false =>
      refine zbf ?_;rw [if_pos (hbad rfl)];exact uE
    ·have h6 : ¬ z = 2 := by simpa using h6
     rw [decide_eq_false h6] at hbad hnx;cases b with
     | false =>
      refine zbf ?_;rw [w2];exact zad (show s.tms.length - (j + 1) < s.tms.length - j by omega) skp ⟨j + 1, rfl, hlt, hnx rfl, rfl⟩
     | true =>
      refine zbf ?_;rw [if_pos (hbad rfl)];exact uE
   ·have h5 : ¬ sj.kd = 2 := by simpa using h5
    rw [if_neg h5] at hbad hnx;refine zbf ?_;refine za3 rfl rfl rfl (fun h6 => ?_) fun h6 => ?_
    ·have h6 : ¬ z = 0 := by simpa using h6
     refine zbf ?_;rw [if_pos (hbad (decide_eq_false h6))];exact uE
    ·have h6 : z = 0 := by simpa using h6
     refine zbd ?_;rw [w2];exact zad (show s.tms.length - (j + 1) < s.tms.length - j by omega) skp ⟨j + 1, rfl, hlt, hnx (decide_eq_true h6), rfl⟩
  ·have hje : j = s.tms.length := by have := of_decide_eq_false h3; omega
   rw [if_neg (fun hh => hh fun k hk => hvv k (by omega))];refine zbb ?_;refine zbp ?_;refine zbb ?_;exact uE
 ·rw [if_pos c1];unfold cC cS vsN vsG vsI vsB at *;refine zbd ?_;rw [he];refine za3 rfl rfl rfl (fun h1 => ?_) fun h1 => ?_
  ·refine zcb ?_;exact uE
  refine zbt ?_;rw [hv];refine za3 rfl rfl rfl (fun h2 => ?_) fun h2 => ?_
  ·refine zcb ?_;exact uE
  refine zbt ?_;rw [hi, hn];refine za3 rfl rfl rfl (fun h3 => ?_) fun h3 => ?_
  ·refine zcb ?_;exact uE
  refine zbt ?_;rw [hb, hg];refine za3 rfl rfl rfl (fun h4 => ?_) fun h4 => ?_
  ·refine zcb ?_;exact uE
  refine zbt ?_;rw [ht, hg];refine za3 rfl rfl rfl (fun h5 => ?_) fun h5 => ?_
  ·refine zbt ?_;exact uE
  have h1 : ((s.en.length : Nat) : Int) = c.act := bne_eq_false_iff_eq.1 h1;have h2 : ((s.va.length : Nat) : Int) = c.act := bne_eq_false_iff_eq.1 h2;have h3 : ((s.inp.length : Nat) : Int) = (c.ins.length : Nat) := bne_eq_false_iff_eq.1 h3;have h4 : ((s.vals.length : Nat) : Int) = (c.sg.length : Nat) := bne_eq_false_iff_eq.1 h4;have h5 : ((s.tms.length : Nat) : Int) = (c.sg.length : Nat) := bne_eq_false_iff_eq.1 h5;exact absurd ⟨h1, h2, by omega, by omega, by omega⟩ c1
open Classical in
noncomputable def rtE (c : Ctl) (s : Sta) : Int := if ctE c = 0 then ftE c s else ctE c
-- pneumatic/pneumaticref27.Right
def ic9 : IC := sR [oM 2 (.box (.t 0)),
  oM 3 (.box (.t 1)),
  oM 4 (.mov (cI 0))]
 (.seq (sR [oL 6 5 2,
  oM 7 (.call (.c (.fn 23 [] [])) [(.t 6)]),
  oT 5 7]
 (sR [oT 8 5,
  oM 9 (.bin .neq (.t 8) (cI 0))]
 (.cond (.t 9) (sR [oT 10 5,
  oT 4 10]
 (.ret))
 (.skip))))
 (sR [oL 11 5 2,
  oL 12 5 3,
  oM 13 (.call (.c (.fn 24 [] [])) [(.t 11), (.t 12)]),
  oT 4 13]
 (.ret)))
theorem fn9 : env0.fn 9 = some ⟨14, ic9, [.t 4]⟩ := by kernel_rfl
set_option maxRecDepth 100000 in
theorem right9 {c : Ctl} {s : Sta} (h : Smx c) (hs : Sms s) : PF Tryz.prog 9 [.agg (cC c), .agg (cS s)] (.int .i64 (rtE c s)) := by
 have p23 := check23 h;have p24 := fits24 h hs;refine za6 env0_ok fn9 [(0, .agg (cC c)), (1, .agg (cS s))] (y04 rfl) rfl fun w0 N0 => ?_;unfold ic9 rtE;generalize ctE c = e at *;generalize ftE c s = e2 at *;unfold cC cS at *;refine zbd ?_;refine za3 rfl rfl rfl (fun h1 => ?_) fun h1 => ?_
 ·have h1 : ¬ e = 0 := by simpa using h1
  rw [if_neg h1];refine zbt ?_;exact uE
 ·have h1 : e = 0 := by simpa using h1
  rw [if_pos h1];refine zbd ?_;exact uE
set_option maxRecDepth 100000
def fsB (s : Sta) : Bool := decide (s.en.length <= 40) && (decide (s.va.length <= 40) && (decide (s.inp.length <= 200) && (decide (s.vals.length <= 200) && decide (s.tms.length <= 200))))
def lgB (c : Ctl) : Bool := decide (c.ins.length <= 32) && (!(decide (16 < c.sg.length) && decide (c.sg.length <= 64)) && (decide (c.sg.length <= 128) && (decide (c.pl.length <= 40) && decide (c.mi.length <= 40))))
def sfB (s : Sig) : Bool := decide (s.nm.length <= 200) && (zd8 s.on && zd8 s.off)
def fcB (c : Ctl) : Bool := lgB c && (c.ins.all (fun n => decide (n.length <= 200)) && c.sg.all sfB)
theorem zvk {s : Sta} (h : fsB s = true) : Sms s := by
 unfold fsB at h;simp only [y0g, decide_eq_true_eq] at h;obtain ⟨a, b, c, d, e⟩ := h;exact ⟨a, b, c, d, e⟩
theorem zvg {c : Ctl} (h : fcB c = true) (hx : ∀ s, s ∈ c.sg -> Slim s.on /\ Slim s.off) : Smx c /\ c.sg.length <= 128 /\ (∀ s, s ∈ c.sg -> zd8 s.on = true /\ zd8 s.off = true) := by
 unfold fcB lgB at h;simp only [y0g, decide_eq_true_eq, y0h] at h;obtain ⟨⟨a, b, c1, d, e⟩, f, g⟩ := h;refine ⟨⟨a, c1, fun i hi => ?_, fun s hs => ?_, hx, d, e⟩, c1, fun s hs => ?_⟩
 ·unfold nA;rw [y0k, y0e hi];exact f _ (y13 hi)
 all_goals
  have := g s hs;unfold sfB at this;simp only [y0g, decide_eq_true_eq] at this
 ·exact this.1
 ·exact this.2
-- pneumatic/pneumaticref27.FewStates
def ic36 : IC := sR [oM 1 (.box (.t 0)),
  oM 2 (.mov (.c (.bool false)))]
 (sR [oF 3 0 1,
  oN 4 3,
  oM 5 (.len false (.t 4)),
  oM 6 (.bin .leq (.t 5) (cI 40)),
  oT 7 6,
  ⟨(some 8), .faddr 1 (.t 1), some (7, true)⟩,
  ⟨(some 9), .load none (.t 8), some (7, true)⟩,
  ⟨(some 10), .len false (.t 9), some (7, true)⟩,
  ⟨(some 11), .bin .leq (.t 10) (cI 40), some (7, true)⟩,
  oM 12 (.pick (.t 7) (.t 11) (.c (.bool false))),
  oT 13 12,
  ⟨(some 14), .faddr 2 (.t 1), some (13, true)⟩,
  ⟨(some 15), .load none (.t 14), some (13, true)⟩,
  ⟨(some 16), .len false (.t 15), some (13, true)⟩,
  ⟨(some 17), .bin .leq (.t 16) (cI 200), some (13, true)⟩,
  oM 18 (.pick (.t 13) (.t 17) (.c (.bool false))),
  oT 19 18,
  ⟨(some 20), .faddr 3 (.t 1), some (19, true)⟩,
  ⟨(some 21), .load none (.t 20), some (19, true)⟩,
  ⟨(some 22), .len false (.t 21), some (19, true)⟩,
  ⟨(some 23), .bin .leq (.t 22) (cI 200), some (19, true)⟩,
  oM 24 (.pick (.t 19) (.t 23) (.c (.bool false))),
  oT 25 24,
  ⟨(some 26), .faddr 4 (.t 1), some (25, true)⟩,
  ⟨(some 27), .load none (.t 26), some (25, true)⟩,
  ⟨(some 28), .len false (.t 27), some (25, true)⟩,
  ⟨(some 29), .bin .leq (.t 28) (cI 200), some (25, true)⟩,
  oM 30 (.pick (.t 25) (.t 29) (.c (.bool false))),
  oT 2 30]
 (.ret))
theorem fn36 : env0.fn 36 = some ⟨31, ic36, [.t 2]⟩ := by kernel_rfl
set_option maxRecDepth 100000 in
theorem few36 (s : Sta) : PF Tryz.prog 36 [.agg (cS s)] (.bool (fsB s)) := by
 have he := zev s.en;have hv := zhd s.va;have hi := zhd s.inp;have hb := zhd s.vals;have ht := zev s.tms;refine za6 env0_ok fn36 [(0, .agg (cS s))] (y04 rfl) rfl fun w0 N0 => ?_;unfold ic36 fsB;unfold cS vsI vsB at *;rw [<- he, <- hv, <- hi, <- hb, <- ht];clear he hv hi hb ht;generalize s.en.map (fun z => ([.int .i64 z] : List AV)) = l1;generalize s.va.map (fun z => ([.bool z] : List AV)) = l2;generalize s.inp.map (fun z => ([.bool z] : List AV)) = l3;generalize s.vals.map (fun z => ([.bool z] : List AV)) = l4;generalize s.tms.map (fun z => ([.int .i64 z] : List AV)) = l5;refine zbd ?_;refine za3 rfl rfl rfl (fun h => ?_) fun h => ?_;all_goals
  first
  | rw [decide_eq_true (show l1.length <= 40 by have := of_decide_eq_true h; omega)]
  | rw [decide_eq_false (show ¬ l1.length <= 40 by have := of_decide_eq_false h; omega)]
  refine zcb ?_
 ·refine za3 rfl rfl rfl (fun h => ?_) fun h => ?_;all_goals
   first
   | rw [decide_eq_true (show l2.length <= 40 by have := of_decide_eq_true h; omega)]
   | rw [decide_eq_false (show ¬ l2.length <= 40 by have := of_decide_eq_false h; omega)]
   refine zcb ?_
  ·refine za3 rfl rfl rfl (fun h => ?_) fun h => ?_;all_goals
    first
    | rw [decide_eq_true (show l3.length <= 200 by have := of_decide_eq_true h; omega)]
    | rw [decide_eq_false (show ¬ l3.length <= 200 by have := of_decide_eq_false h; omega)]
    refine zcb ?_
   ·refine za3 rfl rfl rfl (fun h => ?_) fun h => ?_;all_goals
     first
     | rw [decide_eq_true (show l4.length <= 200 by have := of_decide_eq_true h; omega)]
     | rw [decide_eq_false (show ¬ l4.length <= 200 by have := of_decide_eq_false h; omega)]
     refine zcb ?_
    ·refine za3 rfl rfl rfl (fun h => ?_) fun h => ?_;all_goals
      first
      | rw [decide_eq_true (show l5.length <= 200 by have := of_decide_eq_true h; omega)]
      | rw [decide_eq_false (show ¬ l5.length <= 200 by have := of_decide_eq_false h; omega)]
      refine zcb ?_;exact uE
    ·exact uE
   ·exact uE
  ·exact uE
 ·exact uE
def b35_0 : IC := .seq (sR [oT 40 3,
  oF 41 1 1,
  oN 42 41,
  oM 43 (.len false (.t 42)),
  oM 44 (.bin .lss (.t 40) (.t 43))]
 (.cond (.t 44) (.skip)
 (.exit 0)))
 (.seq (.block 1 (sR [oF 47 1 1,
  oN 48 47,
  oT 49 3,
  oM 50 (.idxs 1 (.t 48) (.t 49)),
  oN 51 50,
  oM 52 (.len true (.t 51)),
  oM 53 (.bin .gtr (.t 52) (cI 200))]
 (.cond (.t 53) (sR [oM 2 (.mov (.c (.bool false)))]
 (.ret))
 (.skip))))
 (.region [oT 45 3,
  oM 46 (.bin .add (.t 45) (cI 1)),
  oT 3 46] none))
def b35_2 : IC := .seq (sR [oT 54 4,
  oF 55 2 1,
  oN 56 55,
  oM 57 (.len false (.t 56)),
  oM 58 (.bin .lss (.t 54) (.t 57))]
 (.cond (.t 58) (.skip)
 (.exit 2)))
 (.seq (.block 3 (sR [oF 61 2 1,
  oN 62 61,
  oT 63 4,
  oM 64 (.idxs 10 (.t 62) (.t 63)),
  oL 65 10 64,
  oM 5 (.alloc [.str [], .int .i64 0, .int .i64 0, .int .i64 0, .nils, .int .i64 0, .int .i64 0, .nils, .int .i64 0, .bool false]),
  ⟨none, .store 10 (.t 5) (.t 65), none⟩]
 (sR [oF 66 0 5,
  oN 67 66,
  oM 68 (.len true (.t 67)),
  oM 69 (.bin .gtr (.t 68) (cI 200)),
  oT 70 69,
  ⟨(some 71), .faddr 2 (.t 5), some (70, false)⟩,
  ⟨(some 72), .load (some 3) (.t 71), some (70, false)⟩,
  ⟨(some 73), .call (.c (.fn 62 [] [])) [(.t 72)], some (70, false)⟩,
  ⟨(some 74), .un .not (.t 73), some (70, false)⟩,
  oM 75 (.pick (.t 70) (.c (.bool true)) (.t 74)),
  oT 76 75,
  ⟨(some 77), .faddr 5 (.t 5), some (76, false)⟩,
  ⟨(some 78), .load (some 3) (.t 77), some (76, false)⟩,
  ⟨(some 79), .call (.c (.fn 62 [] [])) [(.t 78)], some (76, false)⟩,
  ⟨(some 80), .un .not (.t 79), some (76, false)⟩,
  oM 81 (.pick (.t 76) (.c (.bool true)) (.t 80))]
 (.cond (.t 81) (sR [oM 2 (.mov (.c (.bool false)))]
 (.ret))
 (.skip)))))
 (.region [oT 59 4,
  oM 60 (.bin .add (.t 59) (cI 1)),
  oT 4 60] none))
-- pneumatic/pneumaticref27.Few
def ic35 : IC := sR [oM 1 (.box (.t 0)),
  oM 2 (.mov (.c (.bool false)))]
 (.seq (sR [oF 6 1 1,
  oN 7 6,
  oM 8 (.len false (.t 7)),
  oM 9 (.bin .gtr (.t 8) (cI 32)),
  oT 10 9,
  ⟨(some 11), .faddr 2 (.t 1), some (10, false)⟩,
  ⟨(some 12), .load none (.t 11), some (10, false)⟩,
  ⟨(some 13), .len false (.t 12), some (10, false)⟩,
  ⟨(some 14), .bin .gtr (.t 13) (cI 16), some (10, false)⟩,
  ⟨(some 15), .mov (.t 14), some (10, false)⟩,
  ⟨(some 16), .faddr 2 (.t 1), some (15, true)⟩,
  ⟨(some 17), .load none (.t 16), some (15, true)⟩,
  ⟨(some 18), .len false (.t 17), some (15, true)⟩,
  ⟨(some 19), .bin .leq (.t 18) (cI 64), some (15, true)⟩,
  ⟨(some 20), .pick (.t 15) (.t 19) (.c (.bool false)), some (10, false)⟩,
  oM 21 (.pick (.t 10) (.c (.bool true)) (.t 20)),
  oT 22 21,
  ⟨(some 23), .faddr 2 (.t 1), some (22, false)⟩,
  ⟨(some 24), .load none (.t 23), some (22, false)⟩,
  ⟨(some 25), .len false (.t 24), some (22, false)⟩,
  ⟨(some 26), .bin .gtr (.t 25) (cI 128), some (22, false)⟩,
  oM 27 (.pick (.t 22) (.c (.bool true)) (.t 26)),
  oT 28 27,
  ⟨(some 29), .faddr 3 (.t 1), some (28, false)⟩,
  ⟨(some 30), .load none (.t 29), some (28, false)⟩,
  ⟨(some 31), .len false (.t 30), some (28, false)⟩,
  ⟨(some 32), .bin .gtr (.t 31) (cI 40), some (28, false)⟩,
  oM 33 (.pick (.t 28) (.c (.bool true)) (.t 32)),
  oT 34 33,
  ⟨(some 35), .faddr 4 (.t 1), some (34, false)⟩,
  ⟨(some 36), .load none (.t 35), some (34, false)⟩,
  ⟨(some 37), .len false (.t 36), some (34, false)⟩,
  ⟨(some 38), .bin .gtr (.t 37) (cI 40), some (34, false)⟩,
  oM 39 (.pick (.t 34) (.c (.bool true)) (.t 38))]
 (.cond (.t 39) (sR [oM 2 (.mov (.c (.bool false)))]
 (.ret))
 (.skip)))
 (.seq (sR [oM 3 (.mov (cI 0))]
 (.block 0 (.loop b35_0)))
 (.seq (sR [oM 4 (.mov (cI 0))]
 (.block 2 (.loop b35_2)))
 (sR [oM 2 (.mov (.c (.bool true)))]
 (.ret)))))
theorem fn35 : env0.fn 35 = some ⟨82, ic35, [.t 2]⟩ := by kernel_rfl
set_option maxHeartbeats 8000000 in
set_option maxRecDepth 100000 in
theorem few35 {c : Ctl} (hr : Rd c) : PF Tryz.prog 35 [.agg (cC c)] (.bool (fcB c)) := by
 have hn := zpf c.ins;have hg := ze7 c.sg;have hp := zev c.pl;have hm := zev c.mi;refine za6 env0_ok fn35 [(0, .agg (cC c))] (y04 rfl) rfl fun w0 N0 => ?_;unfold ic35 fcB;by_cases c1 : lgB c = true
 ·have hl := c1;rw [c1, y1k];unfold lgB at hl;simp only [y0g, decide_eq_true_eq, y1p, Bool.and_eq_false_iff, decide_eq_false_iff_not] at hl;obtain ⟨k1, k2, k3, k4, k5⟩ := hl;have hq : c.sg.length <= 16 \/ 64 < c.sg.length := by omega
  have hr' := hr;unfold cC vsN vsG vsI at *;rcases hq with hq | hq;all_goals
   repeat (first | refine zb3 ?_ | refine za8 rfl ?_ | refine zb1 ?_ | refine zaw ?_ | refine zba ?_ | refine zbg ?_ | refine zfw rfl ?_ | refine zic rfl ?_ | refine zon rfl rfl ?_ | refine zan rfl ?_ | refine zb0 rfl rfl ?_ | refine zah rfl ?_ | refine zce rfl rfl ?_ | refine zbl rfl rfl ?_ | refine zdb rfl rfl ?_ | refine zcs rfl rfl ?_ | refine za3 rfl rfl rfl (fun h => absurd (of_decide_eq_true h) (by omega)) fun _ => ?_ | refine za3 rfl rfl rfl (fun _ => ?_) fun h => absurd (of_decide_eq_false h) (by omega))
   refine zck [] [(0, 0, cC c)] [(1, .vptr (cC c)), (3, .int .i64 0)] rfl (.cons rfl rfl .nil) .nil (.cons rfl (.fptr rfl rfl) (.cons rfl (.same rfl) .nil)) ?_;refine zav (fun mm S => ∃ i, mm = c.ins.length - i /\ i <= c.ins.length /\ c.ins.all (fun n => decide (n.length <= 200)) = (c.ins.drop i).all (fun n => decide (n.length <= 200)) /\ S = st 82 [(1, .vptr (cC c)), (3, .int .i64 (i : Nat))] [] 0 1) c.ins.length
    skp ⟨0, rfl, y0q _, rfl, rfl⟩ ?_
   rintro mm S ⟨i, rfl, hi, hv, rfl⟩;unfold b35_0 cC vsN;refine zbb ?_;rw [hn];refine za3 rfl rfl rfl (fun h3 => ?_) fun h3 => ?_
   ·have hlt : i < c.ins.length := by have := of_decide_eq_true h3; omega
    have hge := n_get hlt;have e1 : nA c.ins i = c.ins[i] := by unfold nA; rw [y0k, y0e hlt]; rfl
    rw [y0t hlt, y1h, <- e1] at hv;have w2 := za9 i (by omega);generalize nA c.ins i = x at *;refine zbb ?_;refine za3 rfl rfl rfl (fun h4 => ?_) fun h4 => ?_
    ·have h4 : ¬ x.length <= 200 := by have := of_decide_eq_true h4; omega
     rw [decide_eq_false h4, y25] at hv;rw [hv];refine zbd ?_;exact uE
    ·have h4 : x.length <= 200 := by have := of_decide_eq_false h4; omega
     rw [decide_eq_true h4, y1k] at hv;refine zbd ?_;rw [w2];exact zad (show c.ins.length - (i + 1) < c.ins.length - i by omega) skp ⟨i + 1, rfl, hlt, hv, rfl⟩
   have hie : i = c.ins.length := by have := of_decide_eq_false h3; omega
   rw [hie, y1m, y2h] at hv;rw [hv, y1k];refine zbb ?_;refine zbp ?_;refine zbb ?_;refine zav (fun mm S => ∃ i, mm = c.sg.length - i /\ i <= c.sg.length /\ c.sg.all sfB = (c.sg.drop i).all sfB /\ ∃ hp nx ck, S = st 82 [(1, .vptr (cC c)), (4, .int .i64 (i : Nat))] hp nx ck) c.sg.length
    skp ⟨0, rfl, y0q _, rfl, _, _, _, rfl⟩ ?_
   rintro mm S ⟨i, rfl, hi, hv2, hp, nx, ck, rfl⟩;refine zck [] [] [(1, .vptr (cC c)), (4, .int .i64 (i : Nat))] rfl .nil .nil (.cons rfl (.same rfl) (.cons rfl (.same rfl) .nil)) ?_;unfold b35_2 cC vsG;refine zbb ?_;rw [hg];refine za3 rfl rfl rfl (fun h3 => ?_) fun h3 => ?_
   ·have hlt : i < c.sg.length := by have := of_decide_eq_true h3; omega
    have hge := zdn hlt;have e1 : sgA c.sg i = c.sg[i] := by unfold sgA; rw [y0k, y0e hlt]; rfl
    rw [y0t hlt, y1h, <- e1] at hv2;rw [show sfB (sgA c.sg i) = (decide ((sgA c.sg i).nm.length <= 200) && (zd8 (sgA c.sg i).on && zd8 (sgA c.sg i).off)) from rfl] at hv2
    have hx := hr.x1 _ (zi0 hlt);have p1 := zqk _ hx.1;have p2 := zqk _ hx.2.1;rw [zif] at p1 p2;have w2 := za9 i (by omega);generalize sgA c.sg i = x at *;generalize zd8 x.on = l1 at *;generalize zd8 x.off = l2 at *;refine zbf ?_;refine za3 rfl rfl rfl (fun h4 => ?_) fun h4 => ?_
    ·have h4 : ¬ x.nm.length <= 200 := by have := of_decide_eq_true h4; omega
     rw [decide_eq_false h4, y25, y25] at hv2;rw [hv2];refine zbd ?_;exact uE
    ·have h4 : x.nm.length <= 200 := by have := of_decide_eq_false h4; omega
     rw [decide_eq_true h4, y1k] at hv2;refine zbf ?_;cases l1 with
     | false =>
      rw [y25, y25] at hv2;rw [hv2];refine zbd ?_;exact uE
     | true =>
      rw [y1k] at hv2;refine zbf ?_;cases l2 with
      | false =>
       rw [y25] at hv2;rw [hv2];refine zbd ?_;exact uE
      | true =>
       rw [y1k] at hv2;refine zbd ?_;rw [w2];exact zad (show c.sg.length - (i + 1) < c.sg.length - i by omega) skp ⟨i + 1, rfl, hlt, hv2, _, _, _, rfl⟩
   ·have hie : i = c.sg.length := by have := of_decide_eq_false h3; omega
    rw [hie, y1m, y2h] at hv2;rw [hv2];refine zbb ?_;refine zbp ?_;refine zbb ?_;exact uE
 ·have hl : lgB c = false := by simpa using c1
  rw [hl, y25];unfold cC vsN vsG vsI at *;repeat' first | refine zb3 ?_ | refine za8 rfl ?_ | refine zb1 ?_ | refine zaw ?_ | refine zba ?_ | refine zbg ?_ | refine zgv rfl ?_ | refine zfw rfl ?_ | refine zbu ?_ | refine zaz ?_ | refine zic rfl ?_ | refine zon rfl rfl ?_ | refine o_gt rfl ?_ | refine zan rfl ?_ | refine zb0 rfl rfl ?_ | refine zah rfl ?_ | refine zce rfl rfl ?_ | refine zbl rfl rfl ?_ | refine zdb rfl rfl ?_ | refine zcs rfl rfl ?_ | refine za3 rfl rfl rfl (fun h => ?_) fun h => ?_
  all_goals
   first
   | exact uE
   | (
     exfalso;apply c1;unfold lgB;simp only [y0g, decide_eq_true_eq, y1p, Bool.and_eq_false_iff, decide_eq_false_iff_not, hn, hg, hp, hm] at *;omega)
-- pneumatic/pneumaticref28.Few
def ic18 : IC := sR [oM 2 (.box (.t 0)),
  oM 3 (.box (.t 1)),
  oM 4 (.mov (.c (.bool false)))]
 (sR [oL 5 5 2,
  oM 6 (.call (.c (.fn 35 [] [])) [(.t 5)]),
  oT 7 6,
  ⟨(some 8), .load (some 5) (.t 3), some (7, true)⟩,
  ⟨(some 9), .call (.c (.fn 36 [] [])) [(.t 8)], some (7, true)⟩,
  oM 10 (.pick (.t 7) (.t 9) (.c (.bool false))),
  oT 4 10]
 (.ret))
theorem fn18 : env0.fn 18 = some ⟨11, ic18, [.t 4]⟩ := by kernel_rfl
set_option maxRecDepth 100000 in
theorem few18 {c : Ctl} {s : Sta} (hr : Rd c) : PF Tryz.prog 18 [.agg (cC c), .agg (cS s)] (.bool (fcB c && fsB s)) := by
 have p35 := few35 hr;have p36 := few36 s;refine za6 env0_ok fn18 [(0, .agg (cC c)), (1, .agg (cS s))] (y04 rfl) rfl fun w0 N0 => ?_;unfold ic18;generalize fcB c = a at *;generalize fsB s = b at *;unfold cC cS at *;refine zbd ?_;cases a with
 | false =>
  refine zcb ?_;exact uE
 | true =>
  refine zbd ?_;exact uE
-- pneumatic/pneumatictop.tryRight
def ic5 : IC := sR [oM 2 (.box (.t 0)),
  oM 3 (.box (.t 1)),
  oM 4 (.mov (.c (.bool false)))]
 (sR [oL 5 5 2,
  oL 6 5 3,
  oM 7 (.call (.c (.fn 18 [] [])) [(.t 5), (.t 6)]),
  oT 8 7,
  ⟨(some 9), .load (some 5) (.t 2), some (8, true)⟩,
  ⟨(some 10), .load (some 5) (.t 3), some (8, true)⟩,
  ⟨(some 11), .call (.c (.fn 9 [] [])) [(.t 9), (.t 10)], some (8, true)⟩,
  ⟨(some 12), .bin .eql (.t 11) (cI 0), some (8, true)⟩,
  oM 13 (.pick (.t 8) (.t 12) (.c (.bool false))),
  oT 4 13]
 (.ret))
theorem fn5 : env0.fn 5 = some ⟨14, ic5, [.t 4]⟩ := by kernel_rfl
open Classical in
noncomputable def tryB (c : Ctl) (s : Sta) : Bool := (fcB c && fsB s) && decide (rtE c s = 0)
set_option maxRecDepth 100000 in
theorem zxg {c : Ctl} {s : Sta} (hr : Rd c) : PF Tryz.prog 5 [.agg (cC c), .agg (cS s)] (.bool (tryB c s)) := by
 have p18 := few18 (s := s) hr;have p9 : (fcB c && fsB s) = true -> PF Tryz.prog 9 [.agg (cC c), .agg (cS s)] (.int .i64 (rtE c s)) := fun h => by
  rw [y0g] at h;exact right9 (zvg h.1 fun x hx => ⟨(hr.x1 x hx).1, (hr.x1 x hx).2.1⟩).1 (zvk h.2)
 refine za6 env0_ok fn5 [(0, .agg (cC c)), (1, .agg (cS s))] (y04 rfl) rfl fun w0 N0 => ?_;unfold ic5 tryB;generalize (fcB c && fsB s) = a at *;generalize rtE c s = e at *;unfold cC cS at *;refine zbd ?_;cases a with
 | false =>
  refine zcb ?_;exact uE
 | true =>
  have p9 := p9 rfl;refine zbd ?_;refine za3 rfl rfl rfl (fun h => ?_) fun h => ?_
  ·have h : e = 0 := by simpa using h
   rw [decide_eq_true h];refine zcb ?_;exact uE
  ·have h : ¬ e = 0 := by simpa using h
   rw [decide_eq_false h];refine zcb ?_;exact uE
structure Ct (c : Ctl) : Prop extends Sml c where
 a1 : 1 <= c.act
 i16 : c.ins.length <= 16
 s16 : c.sg.length <= 16
 nme : ∀ k, 2 * c.act.toNat <= k -> k < lnC c -> nmE c k = 0
 kd : ∀ i, i < c.sg.length -> (sgA c.sg i).kd = 0 \/ (sgA c.sg i).kd = 1 \/ (sgA c.sg i).kd = 2
 on : ∀ i, i < c.sg.length -> zcg (sgA c.sg i).on (lnC c) = 0
 off : ∀ i, i < c.sg.length -> (sgA c.sg i).kd = 1 -> zcg (sgA c.sg i).off (lnC c) = 0
 lt : ∀ i, i < c.sg.length -> (sgA c.sg i).kd = 0 -> zin c i = false
 tm : ∀ i, i < c.sg.length -> (sgA c.sg i).kd = 2 -> 1 <= (sgA c.sg i).dl /\ (sgA c.sg i).dl <= 1000000
 zf : ∀ i, i < c.sg.length -> (sgA c.sg i).kd ≠ 1 -> zroB (sgA c.sg i).off = true /\ (sgA c.sg i).ini = false
 d0 : ∀ i, i < c.sg.length -> (sgA c.sg i).kd ≠ 2 -> (sgA c.sg i).dl = 0
 pl : (c.pl.length : Int) = c.act /\ plB c c.pl = true
 mi : (c.mi.length : Int) = c.act /\ plB c c.mi = true
 lg : ∀ s, s ∈ c.sg -> zd8 s.on = true /\ zd8 s.off = true
structure Ss (c : Ctl) (s : Sta) : Prop extends Sms s where
 sh : shC c s
 e4 : inR s.en 4
 t3 : inR s.tms 3
 tk : tkC c s
theorem ctE_ct {c : Ctl} (h : Smx c) (h16 : ¬ (16 < c.sg.length /\ c.sg.length <= 64)) (hlg : ∀ s, s ∈ c.sg -> zd8 s.on = true /\ zd8 s.off = true) (h0 : ctE c = 0) : Ct c := by
 unfold ctE at h0;split at h0
 ·contradiction
 rename_i c1;split at h0
 ·contradiction
 rename_i c2;split at h0
 ·contradiction
 rename_i c3;split at h0
 ·contradiction
 rename_i c4;have c3 := zqg (y1z.1 c3);have c4 := zqg (y1z.1 c4);have c4 : ∀ i, i < c.sg.length -> sgE c i = 0 := fun i hi => c4 i (y0q _) (by omega);have key : ∀ i, i < c.sg.length -> nmE c (fsC c + i) = 0 /\ ((sgA c.sg i).kd = 0 \/ (sgA c.sg i).kd = 1 \/ (sgA c.sg i).kd = 2) /\ zcg (sgA c.sg i).on (lnC c) = 0 /\ ((sgA c.sg i).kd = 1 -> zcg (sgA c.sg i).off (lnC c) = 0) /\ sgT (sgA c.sg i) (zin c i) = 0 := fun i hi => by
  have h := c4 i hi;unfold sgE at h;split at h
  ·contradiction
  rename_i d1;split at h
  ·contradiction
  rename_i d2;split at h
  ·contradiction
  rename_i d3;split at h
  ·rename_i d4;exact absurd h d4.2
  rename_i d4;exact ⟨y1z.1 d1, by omega, y1z.1 d3, fun e => y1z.1 fun e2 => d4 ⟨e, e2⟩, h⟩
 have kt : ∀ i, i < c.sg.length -> ((sgA c.sg i).kd = 0 -> zin c i = false) /\ ((sgA c.sg i).kd = 2 -> 1 <= (sgA c.sg i).dl /\ (sgA c.sg i).dl <= 1000000) /\ ((sgA c.sg i).kd ≠ 1 -> zroB (sgA c.sg i).off = true /\ (sgA c.sg i).ini = false) /\ ((sgA c.sg i).kd ≠ 2 -> (sgA c.sg i).dl = 0) := fun i hi => by
  have h := (key i hi).2.2.2.2;unfold sgT at h;split at h
  ·contradiction
  rename_i d1;split at h
  ·contradiction
  rename_i d2;split at h
  ·contradiction
  rename_i d3;simp only [y0g, y0v, decide_eq_true_eq, y1p, decide_eq_false_iff_not, not_and, not_or, Bool.not_eq_true, Bool.not_eq_false] at d1 d2 d3;refine ⟨d1, fun e => ?_, fun e => ?_, fun e => ?_⟩
  ·have := d2 e;omega
  ·exact d3.1 e
  ·have := d3.2 e;exact y1z.1 this
 have hp : ((c.pl.length : Int) = c.act /\ plB c c.pl = true) /\ ((c.mi.length : Int) = c.act /\ plB c c.mi = true) := by
  unfold plE at h0;split at h0
  ·contradiction
  rename_i d1;split at h0
  ·rename_i d2;exact ⟨⟨by omega, d2.1⟩, by omega, d2.2⟩
  ·contradiction
 refine ⟨h.sml (by omega), by omega, by omega, by omega, fun k h1 h2 => ?_, fun i hi => (key i hi).2.1, fun i hi => (key i hi).2.2.1, fun i hi => (key i hi).2.2.2.1, fun i hi => (kt i hi).1, fun i hi => (kt i hi).2.1, fun i hi => (kt i hi).2.2.1, fun i hi => (kt i hi).2.2.2, hp.1, hp.2, hlg⟩;by_cases e : k < fsC c
 ·have := c3 (k - 2 * c.act.toNat) (y0q _) (by unfold fsC at e; omega);have this : nmE c (2 * c.act.toNat + (k - 2 * c.act.toNat)) = 0 := this;rw [show 2 * c.act.toNat + (k - 2 * c.act.toNat) = k by omega] at this
  exact this
 ·have := (key (k - fsC c) (by unfold lnC at h2; omega)).1;rw [show fsC c + (k - fsC c) = k by omega] at this
  exact this
theorem ftE_ss {c : Ctl} {s : Sta} (h : Sms s) (h0 : ftE c s = 0) : Ss c s := by
 classical
 unfold ftE at h0;split at h0
 ·contradiction
 rename_i c1;split at h0
 ·contradiction
 rename_i c2;split at h0
 ·contradiction
 rename_i c3;split at h0
 ·contradiction
 rename_i c4;exact ⟨h, y1z.1 c1, y1z.1 c2, y1z.1 c3, y1z.1 c4⟩
theorem try_ok {c : Ctl} {s : Sta} (hr : Rd c) (h : tryB c s = true) : Ct c /\ Ss c s /\ Smx c /\ ctE c = 0 := by
 classical
 unfold tryB at h;simp only [y0g, decide_eq_true_eq] at h;obtain ⟨⟨h1, h2⟩, h3⟩ := h;have hx := zvg h1 fun x hx => ⟨(hr.x1 x hx).1, (hr.x1 x hx).2.1⟩
 have hs := zvk h2;unfold rtE at h3;split at h3
 ·rename_i h0;refine ⟨ctE_ct hx.1 (fun hh => ?_) hx.2.2 h0, ftE_ss hs h3, hx.1, h0⟩;unfold fcB lgB at h1;simp only [y0g, decide_eq_true_eq, y1p, Bool.and_eq_false_iff, decide_eq_false_iff_not] at h1;omega
 ·rename_i h0;exact absurd h3 h0
end Go.Proofs.YtdolbghhcijonaaGreat
