/-
  THE REFERENCE's CHECK: pilots, controls.; THE REFERENCE's CHECK OF CONTROLS.; THE REFERENCE's CHECK OF STATES.; CONTROLS AND STATES THAT ARE SMALL.; WHAT IS KNOWN OF RIGHT CONTROLS AND STATES, in plain Lean.; LISTS THAT ARE JOINED: slices.Grow, slices.Concat.; THE LIBRARY's CONTRACTS of slices.Sort, slices.Compact and strings.ContainsFunc, laid at this program; the first two as told calls.
-/
import Derived.Test.YtdolbghhcijonaaGreatNX3
import Derived.Shelf.Sort.Plain
import Derived.Shelf.Slices.CompactI
import Derived.Shelf.Strings.FuncGrows
namespace Go.Proofs.YtdolbghhcijonaaGreat
open Go Go.Am
set_option maxRecDepth 100000
def plB (c : Ctl) (l : List Int) : Bool := l.all fun z => decide (0 <= z) && decide (z < lnC c)
def plE (c : Ctl) : Int := if ¬ (c.pl.length : Int) = c.act \/ ¬ (c.mi.length : Int) = c.act then 8 else if plB c c.pl = true /\ plB c c.mi = true then 0 else 6
def ctE (c : Ctl) : Int :=
 if c.act < 1 \/ 6 < c.act then 2 else
 if 16 < c.ins.length \/ 64 < c.sg.length then 5 else
 if ¬ fz (fun i => nmE c (2 * c.act.toNat + i)) 0 c.ins.length = 0 then fz (fun i => nmE c (2 * c.act.toNat + i)) 0 c.ins.length else
 if ¬ fz (sgE c) 0 c.sg.length = 0 then fz (sgE c) 0 c.sg.length else plE c
def b44_2 : IC := .seq (sR [oT 30 5,
  oT 31 4,
  oM 32 (.len false (.t 31)),
  oM 33 (.bin .lss (.t 30) (.t 32))]
 (.cond (.t 33) (.skip)
 (.exit 2)))
 (.seq (.block 3 (.seq (.region [oT 36 4,
  oT 37 5,
  oM 38 (.idxs 1 (.t 36) (.t 37)),
  oN 39 38,
  oM 40 (.bin .lss (.t 39) (cI 0)),
  oT 41 40,
  ⟨(some 42), .mov (.t 4), some (41, false)⟩,
  ⟨(some 43), .mov (.t 5), some (41, false)⟩,
  ⟨(some 44), .idxs 1 (.t 42) (.t 43), some (41, false)⟩,
  ⟨(some 45), .load none (.t 44), some (41, false)⟩,
  ⟨(some 46), .load (some 5) (.t 1), some (41, false)⟩,
  ⟨(some 47), .call (.c (.fn 69 [] [])) [(.t 46)], some (41, false)⟩,
  ⟨(some 48), .bin .geq (.t 45) (.t 47), some (41, false)⟩,
  oM 49 (.pick (.t 41) (.c (.bool true)) (.t 48))] (some [[], [], [0, 1], [2], [3], [4], [5], [5], [6, 7, 5], [8, 5], [5], [10, 5, 5], [9, 11, 5], [5, 12]]))
 (.cond (.t 49) (sR [oM 2 (.mov (cI 6))]
 (.ret))
 (.skip))))
 (.region [oT 34 5,
  oM 35 (.bin .add (.t 34) (cI 1)),
  oT 5 35] none))
def b44_0 : IC := sR [oM 27 (.bin .lss (.t 26) (.t 25))]
 (.seq (.cond (.t 27) (.skip)
 (.exit 0))
 (.seq (.block 1 (sR [oM 28 (.idxs 1 (.t 24) (.t 26)),
  oN 29 28,
  oT 4 29]
 (sR [oM 5 (.mov (cI 0))]
 (.block 2 (.loop b44_2)))))
 (.region [oM 50 (.bin .add (.t 26) (cI 1)),
  oT 26 50] none)))
-- pneumatic/pneumaticref27.pilots
def ic44 : IC := sR [oM 1 (.box (.t 0)),
  oM 2 (.mov (cI 0))]
 (.seq (sR [oF 6 3 1,
  oN 7 6,
  oM 8 (.len false (.t 7)),
  oF 9 0 1,
  oN 10 9,
  oM 11 (.bin .neq (.t 8) (.t 10)),
  oT 12 11,
  ⟨(some 13), .faddr 4 (.t 1), some (12, false)⟩,
  ⟨(some 14), .load none (.t 13), some (12, false)⟩,
  ⟨(some 15), .len false (.t 14), some (12, false)⟩,
  ⟨(some 16), .faddr 0 (.t 1), some (12, false)⟩,
  ⟨(some 17), .load none (.t 16), some (12, false)⟩,
  ⟨(some 18), .bin .neq (.t 15) (.t 17), some (12, false)⟩,
  oM 19 (.pick (.t 12) (.c (.bool true)) (.t 18))]
 (.cond (.t 19) (sR [oM 2 (.mov (cI 8))]
 (.ret))
 (.skip)))
 (.seq (sR [oF 20 3 1,
  oN 21 20,
  oF 22 4 1,
  oN 23 22,
  oM 24 (.bslice 1 2 [.nils, .nils] [(0, 1, (.t 21)), (1, 1, (.t 23))]),
  oM 25 (.len false (.t 24)),
  oM 26 (.mov (cI 0))]
 (.block 0 (.loop b44_0)))
 (sR [oM 2 (.mov (cI 0))]
 (.ret))))
theorem fn44 : env0.fn 44 = some ⟨51, ic44, [.t 2]⟩ := by kernel_rfl
theorem pl_bad {c : Ctl} {l : List Int} {j : Nat} (h : j < l.length) (hb : zA l j < 0 \/ (lnC c : Int) <= zA l j) : plB c l = false := by
 unfold plB;rw [List.all_eq_false];refine ⟨l[j], y0x h, ?_⟩;have : zA l j = l[j] := by unfold zA; rw [y0j, y0d h]; rfl
 rw [this] at hb;simp;omega
theorem pl_good {c : Ctl} {l : List Int} (hb : ∀ j, j < l.length -> 0 <= zA l j /\ zA l j < (lnC c : Int)) : plB c l = true := by
 unfold plB;rw [y0h];intro x hx;obtain ⟨j, h, rfl⟩ := List.getElem_of_mem hx;have : zA l j = l[j] := by unfold zA; rw [y0j, y0d h]; rfl
 have := hb j h;simp;omega
def ll2 (c : Ctl) (i : Nat) : List Int := if i = 0 then c.pl else c.mi
set_option maxHeartbeats 8000000 in
set_option maxRecDepth 100000 in
theorem pilots44 {c : Ctl} (h : Sml c) : PF Tryz.prog 44 [.agg (cC c)] (.int .i64 (plE c)) := by
 have p69 := zvy h.toSm;have hp := zfn c.pl;have hm := zfn c.mi;have hp40 := h.p1;have hm40 := h.m1;refine za6 env0_ok fn44 [(0, .agg (cC c))] (y04 rfl) rfl fun w0 N0 => ?_;unfold ic44 plE;unfold cC vsI at *;refine zb7 ?_;rw [hp];refine za4 rfl rfl rfl (fun h1 => ?_) fun h1 => ?_
 ·have h1 : ¬ (c.pl.length : Int) = c.act := by simpa using h1
  rw [if_pos (.inl h1)];refine zc9 ?_;exact uE
 have h1 : (c.pl.length : Int) = c.act := by simpa using h1
 refine zbu ?_;rw [hm];refine za4 rfl rfl rfl (fun h2 => ?_) fun h2 => ?_
 ·have h2 : ¬ (c.mi.length : Int) = c.act := by simpa using h2
  rw [if_pos (.inr h2)];refine zbu ?_;exact uE
 have h2 : (c.mi.length : Int) = c.act := by simpa using h2
 rw [if_neg (by omega)];refine zbh ?_;refine zc3 [] [(0, 0, cC c), (1, 1, [vsI c.pl, vsI c.mi])] [(1, .vptr (cC c)), (2, .int .i64 0), (24, .vs [[vsI c.pl], [vsI c.mi]]), (25, .int .i64 2), (26, .int .i64 0)] rfl (.cons rfl rfl (.cons rfl rfl .nil)) .nil (.cons rfl (.fptr rfl rfl) (.cons rfl (.same rfl) (.cons rfl (.fms1 (vs := [vsI c.pl, vsI c.mi]) rfl rfl) (.cons rfl (.same rfl) (.cons rfl (.same rfl) .nil))))) ?_;refine zav (fun mm S => ∃ i, mm = 2 - i /\ i <= 2 /\ (1 <= i -> plB c c.pl = true) /\ (2 <= i -> plB c c.mi = true) /\ S = st 51 [(1, .vptr (cC c)), (2, .int .i64 0), (24, .vs [[vsI c.pl], [vsI c.mi]]), (25, .int .i64 2), (26, .int .i64 (i : Nat))] [] 0 1) 2
  skp ⟨0, rfl, y0r _, fun h => by omega, fun h => by omega, rfl⟩ ?_
 rintro mm S ⟨i, rfl, hi, g1, g2, rfl⟩;unfold b44_0;refine zcj ?_;refine za4 rfl rfl rfl (fun h3 => ?_) fun h3 => ?_
 ·have hlt : i < 2 := by have := of_decide_eq_true h3; omega
  have hgi : ([[vsI c.pl], [vsI c.mi]] : List (List AV))[((i : Nat) : Int).toNat]? = some [vsI (ll2 c i)] := by
   rcases (show i = 0 \/ i = 1 by omega) with rfl | rfl <;> rfl
  have hl40 : (ll2 c i).length <= 40 := by unfold ll2; split <;> assumption
  have hz := zfn (ll2 c i);have hbad : plB c (ll2 c i) = false -> ¬ (plB c c.pl = true /\ plB c c.mi = true) := by
   unfold ll2;split
   ·intro a b; rw [b.1] at a; cases a
   ·intro a b; rw [b.2] at a; cases a
  have hgood : plB c (ll2 c i) = true -> (1 <= i + 1 -> plB c c.pl = true) /\ (2 <= i + 1 -> plB c c.mi = true) := by
   unfold ll2;split
   ·intro a; exact ⟨fun _ => a, fun h => by omega⟩
   ·intro a; exact ⟨fun _ => g1 (by omega), fun _ => a⟩
  generalize ll2 c i = l at *;have w1 := za7 i (by omega);refine zb7 ?_;refine zav (fun mm S => ∃ j, mm = l.length - j /\ j <= l.length /\ (∀ k, k < j -> 0 <= zA l k /\ zA l k < (lnC c : Int)) /\ S = st 51 [(1, .vptr (cC c)), (2, .int .i64 0), (24, .vs [[vsI c.pl], [vsI c.mi]]), (25, .int .i64 2), (26, .int .i64 (i : Nat)), (4, vsI l), (5, .int .i64 (j : Nat))] [] 0 1) l.length
   skp ⟨0, rfl, y0r _, fun k hk => absurd hk (y1q _), rfl⟩ ?_
  rintro mm S ⟨j, rfl, hj, hv, rfl⟩;unfold b44_2 vsI cC;refine zbu ?_;rw [hz];refine za4 rfl rfl rfl (fun h4 => ?_) fun h4 => ?_
  ·have hlj : j < l.length := by have := of_decide_eq_true h4; omega
   have hgj := zij hlj;have hbj := pl_bad (c := c) hlj;have hnx : 0 <= zA l j /\ zA l j < (lnC c : Int) -> ∀ k, k < j + 1 -> 0 <= zA l k /\ zA l k < (lnC c : Int) := fun h0 k hk => by
    rcases y1k.1 hk with hk | rfl
    ·exact hv k hk
    ·exact h0
   have w2 := za7 j (by omega);generalize hzj : zA l j = z at *;refine zc9 ?_;refine zc2 env0_ok _ (hL1 p69) (fun g => Nat.beq g 69) rfl rfl rfl ?_;refine zb7 ?_;refine za4 rfl rfl rfl (fun h5 => ?_) fun h5 => ?_
   ·have h5 : z < 0 := of_decide_eq_true h5;rw [if_neg (hbad (hbj (.inl h5)))];refine zb7 ?_;exact uE
   ·have h5 : ¬ z < 0 := of_decide_eq_false h5;refine zbh ?_;refine za4 rfl rfl rfl (fun h6 => ?_) fun h6 => ?_
    ·have h6 : z >= (lnC c : Int) := of_decide_eq_true h6;rw [if_neg (hbad (hbj (.inr h6)))];refine zb7 ?_;exact uE
    ·have h6 : ¬ z >= (lnC c : Int) := of_decide_eq_false h6;refine zb7 ?_;rw [w2];exact zad (show l.length - (j + 1) < l.length - j by omega) skp ⟨j + 1, rfl, hlj, hnx ⟨by omega, by omega⟩, rfl⟩
  ·have hje : j = l.length := by have := of_decide_eq_false h4; omega
   obtain ⟨k1, k2⟩ := hgood (pl_good fun k hk => hv k (by omega));refine zb4 ?_;refine zbq ?_;refine zb4 ?_;rw [w1];exact zad (show 2 - (i + 1) < 2 - i by omega) skp ⟨i + 1, rfl, hlt, k1, k2, rfl⟩
 ·have hie : i = 2 := by have := of_decide_eq_false h3; omega
  rw [if_pos ⟨g1 (by omega), g2 (by omega)⟩];refine zb4 ?_;refine zbq ?_;refine zb4 ?_;exact uE
set_option maxRecDepth 100000
structure Smx (c : Ctl) : Prop where
 i : c.ins.length <= 32
 s : c.sg.length <= 128
 ni : ∀ i, i < c.ins.length -> (nA c.ins i).length <= 200
 ns : ∀ s, s ∈ c.sg -> s.nm.length <= 200
 x1 : ∀ s, s ∈ c.sg -> Slim s.on /\ Slim s.off
 p1 : c.pl.length <= 40
 m1 : c.mi.length <= 40
theorem Smx.sml {c : Ctl} (h : Smx c) (ha : 1 <= c.act /\ c.act <= 6) : Sml c := ⟨⟨by omega, ha.2, h.i, h.s⟩, h.ni, h.ns, h.x1, h.p1, h.m1⟩
def b23_0 : IC := .seq (sR [oT 25 3,
  oF 26 1 1,
  oN 27 26,
  oM 28 (.len false (.t 27)),
  oM 29 (.bin .lss (.t 25) (.t 28))]
 (.cond (.t 29) (.skip)
 (.exit 0)))
 (.seq (.block 1 (sR [oL 32 5 1,
  oF 33 0 1,
  oN 34 33,
  oM 35 (.bin .mul (cI 2) (.t 34)),
  oT 36 3,
  oM 37 (.bin .add (.t 35) (.t 36)),
  oM 38 (.call (.c (.fn 42 [] [])) [(.t 32), (.t 37)]),
  oT 4 38]
 (sR [oT 39 4,
  oM 40 (.bin .neq (.t 39) (cI 0))]
 (.cond (.t 40) (sR [oT 41 4,
  oT 2 41]
 (.ret))
 (.skip)))))
 (.region [oT 30 3,
  oM 31 (.bin .add (.t 30) (cI 1)),
  oT 3 31] none))
def b23_2 : IC := .seq (sR [oT 42 5,
  oF 43 2 1,
  oN 44 43,
  oM 45 (.len false (.t 44)),
  oM 46 (.bin .lss (.t 42) (.t 45))]
 (.cond (.t 46) (.skip)
 (.exit 2)))
 (.seq (.block 3 (sR [oL 49 5 1,
  oT 50 5,
  oM 51 (.call (.c (.fn 43 [] [])) [(.t 49), (.t 50)]),
  oT 6 51]
 (sR [oT 52 6,
  oM 53 (.bin .neq (.t 52) (cI 0))]
 (.cond (.t 53) (sR [oT 54 6,
  oT 2 54]
 (.ret))
 (.skip)))))
 (.region [oT 47 5,
  oM 48 (.bin .add (.t 47) (cI 1)),
  oT 5 48] none))
-- pneumatic/pneumaticref27.Check
def ic23 : IC := sR [oM 1 (.box (.t 0)),
  oM 2 (.mov (cI 0))]
 (.seq (sR [oF 7 0 1,
  oN 8 7,
  oM 9 (.bin .lss (.t 8) (cI 1)),
  oT 10 9,
  ⟨(some 11), .faddr 0 (.t 1), some (10, false)⟩,
  ⟨(some 12), .load none (.t 11), some (10, false)⟩,
  ⟨(some 13), .bin .gtr (.t 12) (cI 6), some (10, false)⟩,
  oM 14 (.pick (.t 10) (.c (.bool true)) (.t 13))]
 (.cond (.t 14) (sR [oM 2 (.mov (cI 2))]
 (.ret))
 (.skip)))
 (.seq (sR [oF 15 1 1,
  oN 16 15,
  oM 17 (.len false (.t 16)),
  oM 18 (.bin .gtr (.t 17) (cI 16)),
  oT 19 18,
  ⟨(some 20), .faddr 2 (.t 1), some (19, false)⟩,
  ⟨(some 21), .load none (.t 20), some (19, false)⟩,
  ⟨(some 22), .len false (.t 21), some (19, false)⟩,
  ⟨(some 23), .bin .gtr (.t 22) (cI 64), some (19, false)⟩,
  oM 24 (.pick (.t 19) (.c (.bool true)) (.t 23))]
 (.cond (.t 24) (sR [oM 2 (.mov (cI 5))]
 (.ret))
 (.skip)))
 (.seq (sR [oM 3 (.mov (cI 0))]
 (.block 0 (.loop b23_0)))
 (.seq (sR [oM 5 (.mov (cI 0))]
 (.block 2 (.loop b23_2)))
 (sR [oL 55 5 1,
  oM 56 (.call (.c (.fn 44 [] [])) [(.t 55)]),
  oT 2 56]
 (.ret))))))
theorem fn23 : env0.fn 23 = some ⟨57, ic23, [.t 2]⟩ := by kernel_rfl
set_option maxHeartbeats 8000000 in
set_option maxRecDepth 100000 in
theorem check23 {c : Ctl} (h : Smx c) : PF Tryz.prog 23 [.agg (cC c)] (.int .i64 (ctE c)) := by
 have hn := zor c.ins;have hg := zel c.sg;have hi32 := h.i;have hs128 := h.s;refine za6 env0_ok fn23 [(0, .agg (cC c))] (y04 rfl) rfl fun w0 N0 => ?_;unfold ic23 ctE;by_cases c1 : c.act < 1 \/ 6 < c.act
 ·rw [if_pos c1];unfold cC at *;refine zb7 ?_;refine za4 rfl rfl rfl (fun h1 => ?_) fun h1 => ?_
  ·refine zc9 ?_;exact uE
  ·refine zbu ?_;refine za4 rfl rfl rfl (fun h2 => ?_) fun h2 => ?_
   ·refine zbu ?_;exact uE
   ·have h1 := of_decide_eq_false h1;have h2 := of_decide_eq_false h2;omega
 rw [if_neg c1];have p44 := pilots44 (h.sml (by omega));have p42 := fun i (hi : i < c.ins.length) => name42 (k := 2 * c.act.toNat + i) (h.sml (by omega)) (by omega) (by unfold lnC fsC; omega);have p43 := fun i (hi : i < c.sg.length) => signal43 (h.sml (by omega)) (by omega) hi;have hw : IntKind.wrap .i64 (2 * c.act) = 2 * c.act := zbb _ (by omega) (by omega);generalize hf1 : (fun i => nmE c (2 * c.act.toNat + i)) = f1 at *;have hf1' : ∀ i, nmE c (2 * c.act.toNat + i) = f1 i := fun i => by rw [<- hf1]
 generalize hf2 : sgE c = f2 at *;generalize plE c = pe at *;by_cases c2 : 16 < c.ins.length \/ 64 < c.sg.length
 ·rw [if_pos c2];clear p42 p43 p44;unfold cC vsN vsG at *;refine zb7 ?_;refine za4 rfl rfl rfl (fun h1 => absurd (of_decide_eq_true h1) (by omega)) fun h1 => ?_;refine zbu ?_;refine za4 rfl rfl rfl (fun h1 => absurd (of_decide_eq_true h1) (by omega)) fun h1 => ?_;refine zbu ?_;rw [hn];refine za4 rfl rfl rfl (fun h1 => ?_) fun h1 => ?_
  ·refine zc9 ?_;exact uE
  ·refine zbu ?_;rw [hg];refine za4 rfl rfl rfl (fun h2 => ?_) fun h2 => ?_
   ·refine zbu ?_;exact uE
   ·have h1 := of_decide_eq_false h1;have h2 := of_decide_eq_false h2;omega
 rw [if_neg c2];unfold cC vsN vsG at *;refine zb7 ?_;refine za4 rfl rfl rfl (fun h1 => absurd (of_decide_eq_true h1) (by omega)) fun h1 => ?_;refine zbu ?_;refine za4 rfl rfl rfl (fun h1 => absurd (of_decide_eq_true h1) (by omega)) fun h1 => ?_;refine zbu ?_;rw [hn];refine za4 rfl rfl rfl (fun h1 => absurd (of_decide_eq_true h1) (by omega)) fun h1 => ?_;refine zbu ?_;rw [hg];refine za4 rfl rfl rfl (fun h1 => absurd (of_decide_eq_true h1) (by omega)) fun h1 => ?_;refine zc9 ?_;refine zc3 [] [(0, 0, cC c)] [(1, .vptr (cC c)), (2, .int .i64 0), (3, .int .i64 0)] rfl (.cons rfl rfl .nil) .nil (.cons rfl (.fptr rfl rfl) (.cons rfl (.same rfl) (.cons rfl (.same rfl) .nil))) ?_;refine zav (fun mm S => ∃ i, mm = c.ins.length - i /\ i <= c.ins.length /\ fz f1 0 c.ins.length = fz f1 i (c.ins.length - i) /\ S = st 57 [(1, .vptr (cC c)), (2, .int .i64 0), (3, .int .i64 (i : Nat))] [] 0 1) c.ins.length
  skp ⟨0, rfl, y0r _, rfl, rfl⟩ ?_
 rintro mm S ⟨i, rfl, hi, hv, rfl⟩;unfold b23_0 cC vsN;refine zb4 ?_;rw [hn];refine za4 rfl rfl rfl (fun h3 => ?_) fun h3 => ?_
 ·have hlt : i < c.ins.length := by have := of_decide_eq_true h3; omega
  have p := p42 i hlt;rw [zvd hlt] at hv;rw [hf1' i] at p;have w1 := za7 i (by omega);generalize f1 i = e at *;refine zbh ?_;rw [hw, zbb _ (by omega) (by omega), show 2 * c.act + ((i : Nat) : Int) = ((2 * c.act.toNat + i : Nat) : Int) by omega]
  refine zb7 ?_;refine za4 rfl rfl rfl (fun h4 => ?_) fun h4 => ?_
  ·have h4 : ¬ e = 0 := by simpa using h4
   rw [if_neg h4] at hv;rw [if_pos (by rw [hv]; exact h4), hv];refine zb7 ?_;exact uE
  ·have h4 : e = 0 := by simpa using h4
   rw [if_pos h4] at hv;refine zb7 ?_;rw [w1];exact zad (show c.ins.length - (i + 1) < c.ins.length - i by omega) skp ⟨i + 1, rfl, hlt, hv, rfl⟩
 have hie : i = c.ins.length := by have := of_decide_eq_false h3; omega
 subst hie;rw [fz_end] at hv;rw [if_neg (by rw [hv]; decide)];refine zb4 ?_;refine zbq ?_;refine zb4 ?_;refine zav (fun mm S => ∃ i, mm = c.sg.length - i /\ i <= c.sg.length /\ fz f2 0 c.sg.length = fz f2 i (c.sg.length - i) /\ S = st 57 [(1, .vptr (cC c)), (2, .int .i64 0), (5, .int .i64 (i : Nat))] [] 0 1) c.sg.length
  skp ⟨0, rfl, y0r _, rfl, rfl⟩ ?_
 rintro mm S ⟨i, rfl, hi, hv2, rfl⟩;unfold b23_2 cC vsG;refine zb4 ?_;rw [hg];refine za4 rfl rfl rfl (fun h3 => ?_) fun h3 => ?_
 ·have hlt : i < c.sg.length := by have := of_decide_eq_true h3; omega
  have p := p43 i hlt;rw [zvd hlt] at hv2;have w1 := za7 i (by omega);generalize f2 i = e at *;refine zb7 ?_;refine za4 rfl rfl rfl (fun h4 => ?_) fun h4 => ?_
  ·have h4 : ¬ e = 0 := by simpa using h4
   rw [if_neg h4] at hv2;rw [if_pos (by rw [hv2]; exact h4), hv2];refine zb7 ?_;exact uE
  ·have h4 : e = 0 := by simpa using h4
   rw [if_pos h4] at hv2;refine zb7 ?_;rw [w1];exact zad (show c.sg.length - (i + 1) < c.sg.length - i by omega) skp ⟨i + 1, rfl, hlt, hv2, rfl⟩
 have hie : i = c.sg.length := by have := of_decide_eq_false h3; omega
 subst hie;rw [fz_end] at hv2;rw [if_neg (by rw [hv2]; decide)];refine zb4 ?_;refine zbq ?_;refine zb4 ?_;exact uE
set_option maxRecDepth 100000
structure Sms (s : Sta) : Prop where
 e : s.en.length <= 40
 v : s.va.length <= 40
 i : s.inp.length <= 200
 b : s.vals.length <= 200
 t : s.tms.length <= 200
def shC (c : Ctl) (s : Sta) : Prop := (s.en.length : Int) = c.act /\ (s.va.length : Int) = c.act /\ s.inp.length = c.ins.length /\ s.vals.length = c.sg.length /\ s.tms.length = c.sg.length
def inR (l : List Int) (m : Int) : Prop := ∀ j, j < l.length -> 0 <= zA l j /\ zA l j < m
def tkB (s : Sig) (b : Bool) (t : Int) : Bool := if s.kd = 2 then b == decide (t = 2) else decide (t = 0)
def tkC (c : Ctl) (s : Sta) : Prop := ∀ j, j < s.tms.length -> tkB (sgA c.sg j) (bA s.vals j) (zA s.tms j) = true
open Classical in
noncomputable def ftE (c : Ctl) (s : Sta) : Int := if ¬ shC c s then 8 else if ¬ inR s.en 4 then 1 else if ¬ inR s.tms 3 then 1 else if ¬ tkC c s then 14 else 0
def b24_0 : IC := .seq (sR [oT 50 5,
  oF 51 0 3,
  oN 52 51,
  oM 53 (.len false (.t 52)),
  oM 54 (.bin .lss (.t 50) (.t 53))]
 (.cond (.t 54) (.skip)
 (.exit 0)))
 (.seq (.block 1 (sR [oF 57 0 3,
  oN 58 57,
  oT 59 5,
  oM 60 (.idxs 1 (.t 58) (.t 59)),
  oN 61 60,
  oM 62 (.bin .lss (.t 61) (cI 0)),
  oT 63 62,
  ⟨(some 64), .faddr 0 (.t 3), some (63, false)⟩,
  ⟨(some 65), .load none (.t 64), some (63, false)⟩,
  ⟨(some 66), .mov (.t 5), some (63, false)⟩,
  ⟨(some 67), .idxs 1 (.t 65) (.t 66), some (63, false)⟩,
  ⟨(some 68), .load none (.t 67), some (63, false)⟩,
  ⟨(some 69), .bin .geq (.t 68) (cI 4), some (63, false)⟩,
  oM 70 (.pick (.t 63) (.c (.bool true)) (.t 69))]
 (.cond (.t 70) (sR [oM 4 (.mov (cI 1))]
 (.ret))
 (.skip))))
 (.region [oT 55 5,
  oM 56 (.bin .add (.t 55) (cI 1)),
  oT 5 56] none))
def b24_2 : IC := .seq (sR [oT 71 6,
  oF 72 4 3,
  oN 73 72,
  oM 74 (.len false (.t 73)),
  oM 75 (.bin .lss (.t 71) (.t 74))]
 (.cond (.t 75) (.skip)
 (.exit 2)))
 (.seq (.block 3 (sR [oF 78 4 3,
  oN 79 78,
  oT 80 6,
  oM 81 (.idxs 1 (.t 79) (.t 80)),
  oN 82 81,
  oM 83 (.bin .lss (.t 82) (cI 0)),
  oT 84 83,
  ⟨(some 85), .faddr 4 (.t 3), some (84, false)⟩,
  ⟨(some 86), .load none (.t 85), some (84, false)⟩,
  ⟨(some 87), .mov (.t 6), some (84, false)⟩,
  ⟨(some 88), .idxs 1 (.t 86) (.t 87), some (84, false)⟩,
  ⟨(some 89), .load none (.t 88), some (84, false)⟩,
  ⟨(some 90), .bin .geq (.t 89) (cI 3), some (84, false)⟩,
  oM 91 (.pick (.t 84) (.c (.bool true)) (.t 90))]
 (.cond (.t 91) (sR [oM 4 (.mov (cI 1))]
 (.ret))
 (.skip))))
 (.region [oT 76 6,
  oM 77 (.bin .add (.t 76) (cI 1)),
  oT 6 77] none))
def b24_4 : IC := .seq (sR [oT 92 7,
  oF 93 4 3,
  oN 94 93,
  oM 95 (.len false (.t 94)),
  oM 96 (.bin .lss (.t 92) (.t 95))]
 (.cond (.t 96) (.skip)
 (.exit 4)))
 (.seq (.block 5 (sR [oF 99 2 2,
  oN 100 99,
  oT 101 7,
  oM 102 (.idxs 10 (.t 100) (.t 101)),
  oF 103 1 102,
  oN 104 103,
  oM 105 (.bin .eql (.t 104) (cI 2)),
  oT 8 105]
 (.seq (.region [oT 106 8,
  oM 107 (.un .not (.t 106)),
  oT 108 107,
  ⟨(some 109), .faddr 4 (.t 3), some (108, true)⟩,
  ⟨(some 110), .load none (.t 109), some (108, true)⟩,
  ⟨(some 111), .mov (.t 7), some (108, true)⟩,
  ⟨(some 112), .idxs 1 (.t 110) (.t 111), some (108, true)⟩,
  ⟨(some 113), .load none (.t 112), some (108, true)⟩,
  ⟨(some 114), .bin .neq (.t 113) (cI 0), some (108, true)⟩,
  oM 115 (.pick (.t 108) (.t 114) (.c (.bool false))),
  oT 116 115,
  ⟨(some 117), .mov (.t 8), some (116, false)⟩,
  ⟨(some 118), .mov (.t 117), some (116, false)⟩,
  ⟨(some 119), .faddr 3 (.t 3), some (118, true)⟩,
  ⟨(some 120), .load none (.t 119), some (118, true)⟩,
  ⟨(some 121), .mov (.t 7), some (118, true)⟩,
  ⟨(some 122), .idxs 1 (.t 120) (.t 121), some (118, true)⟩,
  ⟨(some 123), .load none (.t 122), some (118, true)⟩,
  ⟨(some 124), .faddr 4 (.t 3), some (118, true)⟩,
  ⟨(some 125), .load none (.t 124), some (118, true)⟩,
  ⟨(some 126), .mov (.t 7), some (118, true)⟩,
  ⟨(some 127), .idxs 1 (.t 125) (.t 126), some (118, true)⟩,
  ⟨(some 128), .load none (.t 127), some (118, true)⟩,
  ⟨(some 129), .bin .eql (.t 128) (cI 2), some (118, true)⟩,
  ⟨(some 130), .eqb true (.t 123) (.t 129), some (118, true)⟩,
  ⟨(some 131), .pick (.t 118) (.t 130) (.c (.bool false)), some (116, false)⟩,
  oM 132 (.pick (.t 116) (.c (.bool true)) (.t 131))] (some [[], [0], [1], [2], [3, 2], [2], [4, 5, 2], [6, 2], [7, 2], [2, 8], [9, 2], [10], [11, 10, 10], [12], [13, 12], [12], [14, 15, 12], [16, 12], [12], [18, 12], [12], [19, 20, 12], [21, 12], [22, 12], [17, 23, 12], [12, 24, 10], [10, 25]]))
 (.cond (.t 132) (sR [oM 4 (.mov (cI 14))]
 (.ret))
 (.skip)))))
 (.region [oT 97 7,
  oM 98 (.bin .add (.t 97) (cI 1)),
  oT 7 98] none))
-- pneumatic/pneumaticref27.fits
def ic24 : IC := sR [oM 2 (.box (.t 0)),
  oM 3 (.box (.t 1)),
  oM 4 (.mov (cI 0))]
 (.seq (sR [oF 9 0 3,
  oN 10 9,
  oM 11 (.len false (.t 10)),
  oF 12 0 2,
  oN 13 12,
  oM 14 (.bin .neq (.t 11) (.t 13)),
  oT 15 14,
  ⟨(some 16), .faddr 1 (.t 3), some (15, false)⟩,
  ⟨(some 17), .load none (.t 16), some (15, false)⟩,
  ⟨(some 18), .len false (.t 17), some (15, false)⟩,
  ⟨(some 19), .faddr 0 (.t 2), some (15, false)⟩,
  ⟨(some 20), .load none (.t 19), some (15, false)⟩,
  ⟨(some 21), .bin .neq (.t 18) (.t 20), some (15, false)⟩,
  oM 22 (.pick (.t 15) (.c (.bool true)) (.t 21)),
  oT 23 22,
  ⟨(some 24), .faddr 2 (.t 3), some (23, false)⟩,
  ⟨(some 25), .load none (.t 24), some (23, false)⟩,
  ⟨(some 26), .len false (.t 25), some (23, false)⟩,
  ⟨(some 27), .faddr 1 (.t 2), some (23, false)⟩,
  ⟨(some 28), .load none (.t 27), some (23, false)⟩,
  ⟨(some 29), .len false (.t 28), some (23, false)⟩,
  ⟨(some 30), .bin .neq (.t 26) (.t 29), some (23, false)⟩,
  oM 31 (.pick (.t 23) (.c (.bool true)) (.t 30)),
  oT 32 31,
  ⟨(some 33), .faddr 3 (.t 3), some (32, false)⟩,
  ⟨(some 34), .load none (.t 33), some (32, false)⟩,
  ⟨(some 35), .len false (.t 34), some (32, false)⟩,
  ⟨(some 36), .faddr 2 (.t 2), some (32, false)⟩,
  ⟨(some 37), .load none (.t 36), some (32, false)⟩,
  ⟨(some 38), .len false (.t 37), some (32, false)⟩,
  ⟨(some 39), .bin .neq (.t 35) (.t 38), some (32, false)⟩,
  oM 40 (.pick (.t 32) (.c (.bool true)) (.t 39)),
  oT 41 40,
  ⟨(some 42), .faddr 4 (.t 3), some (41, false)⟩,
  ⟨(some 43), .load none (.t 42), some (41, false)⟩,
  ⟨(some 44), .len false (.t 43), some (41, false)⟩,
  ⟨(some 45), .faddr 2 (.t 2), some (41, false)⟩,
  ⟨(some 46), .load none (.t 45), some (41, false)⟩,
  ⟨(some 47), .len false (.t 46), some (41, false)⟩,
  ⟨(some 48), .bin .neq (.t 44) (.t 47), some (41, false)⟩,
  oM 49 (.pick (.t 41) (.c (.bool true)) (.t 48))]
 (.cond (.t 49) (sR [oM 4 (.mov (cI 8))]
 (.ret))
 (.skip)))
 (.seq (sR [oM 5 (.mov (cI 0))]
 (.block 0 (.loop b24_0)))
 (.seq (sR [oM 6 (.mov (cI 0))]
 (.block 2 (.loop b24_2)))
 (.seq (sR [oM 7 (.mov (cI 0))]
 (.block 4 (.loop b24_4)))
 (sR [oM 4 (.mov (cI 0))]
 (.ret))))))
theorem fn24 : env0.fn 24 = some ⟨133, ic24, [.t 4]⟩ := by kernel_rfl
set_option maxHeartbeats 8000000 in
set_option maxRecDepth 100000 in
theorem fits24 {c : Ctl} {s : Sta} (h : Smx c) (hs : Sms s) : PF Tryz.prog 24 [.agg (cC c), .agg (cS s)] (.int .i64 (ftE c s)) := by
 classical
 have hn := zor c.ins;have hg := zel c.sg;have he := zfn s.en;have hv := zjg s.va;have hi := zjg s.inp;have hb := zjg s.vals;have ht := zfn s.tms;have he40 := hs.e;have hi32 := h.i;have hs128 := h.s;have ht200 := hs.t;refine za6 env0_ok fn24 [(0, .agg (cC c)), (1, .agg (cS s))] (y04 rfl) rfl fun w0 N0 => ?_;unfold ic24 ftE;by_cases c1 : shC c s
 ·rw [if_neg (fun h => h c1)];obtain ⟨k1, k2, k3, k4, k5⟩ := c1;unfold cC cS vsN vsG vsI vsB at *;have k3' : ((s.inp.length : Nat) : Int) = (c.ins.length : Nat) := by omega
  have k4' : ((s.vals.length : Nat) : Int) = (c.sg.length : Nat) := by omega
  have k5' : ((s.tms.length : Nat) : Int) = (c.sg.length : Nat) := by omega
  refine zb7 ?_;rw [he];refine za4 rfl rfl rfl (fun h1 => absurd k1 (bne_iff_ne.1 h1)) fun _ => ?_;refine zbu ?_;rw [hv];refine za4 rfl rfl rfl (fun h1 => absurd k2 (bne_iff_ne.1 h1)) fun _ => ?_;refine zbu ?_;rw [hi, hn];refine za4 rfl rfl rfl (fun h1 => absurd k3' (bne_iff_ne.1 h1)) fun _ => ?_;refine zbu ?_;rw [hb, hg];refine za4 rfl rfl rfl (fun h1 => absurd k4' (bne_iff_ne.1 h1)) fun _ => ?_;refine zbu ?_;rw [ht, hg];refine za4 rfl rfl rfl (fun h1 => absurd k5' (bne_iff_ne.1 h1)) fun _ => ?_;refine zc9 ?_;refine zc3 [] [(0, 0, cC c), (1, 1, cS s)] [(2, .vptr (cC c)), (3, .vptr (cS s)), (4, .int .i64 0), (5, .int .i64 0)] rfl (.cons rfl rfl (.cons rfl rfl .nil)) .nil (.cons rfl (.fptr rfl rfl) (.cons rfl (.fptr rfl rfl) (.cons rfl (.same rfl) (.cons rfl (.same rfl) .nil)))) ?_;refine zav (fun mm S => ∃ j, mm = s.en.length - j /\ j <= s.en.length /\ (∀ k, k < j -> 0 <= zA s.en k /\ zA s.en k < 4) /\ S = st 133 [(2, .vptr (cC c)), (3, .vptr (cS s)), (4, .int .i64 0), (5, .int .i64 (j : Nat))] [] 0 1) s.en.length
   skp ⟨0, rfl, y0r _, fun k hk => absurd hk (y1q _), rfl⟩ ?_
  rintro mm S ⟨j, rfl, hj, hvv, rfl⟩;unfold b24_0 cS vsI;refine zb4 ?_;rw [he];refine za4 rfl rfl rfl (fun h3 => ?_) fun h3 => ?_
  ·have hlt : j < s.en.length := by have := of_decide_eq_true h3; omega
   have hge := zij hlt;have hnx : 0 <= zA s.en j /\ zA s.en j < 4 -> ∀ k, k < j + 1 -> 0 <= zA s.en k /\ zA s.en k < 4 := fun h0 k hk => by
    rcases y1k.1 hk with hk | rfl
    ·exact hvv k hk
    ·exact h0
   have hbad : ¬ (0 <= zA s.en j /\ zA s.en j < 4) -> ¬ inR s.en 4 := fun h0 h1 => h0 (h1 j hlt);have w2 := za7 j (by omega);generalize hzj : zA s.en j = z at *;refine zb4 ?_;refine za4 rfl rfl rfl (fun h5 => ?_) fun h5 => ?_
   ·have h5 : z < 0 := of_decide_eq_true h5;rw [if_pos (hbad (by omega))];refine zb7 ?_;exact uE
   ·have h5 : ¬ z < 0 := of_decide_eq_false h5;refine zb4 ?_;refine za4 rfl rfl rfl (fun h6 => ?_) fun h6 => ?_
    ·have h6 : z >= 4 := of_decide_eq_true h6;rw [if_pos (hbad (by omega))];refine zb7 ?_;exact uE
    ·have h6 : ¬ z >= 4 := of_decide_eq_false h6;refine zb7 ?_;rw [w2];exact zad (show s.en.length - (j + 1) < s.en.length - j by omega) skp ⟨j + 1, rfl, hlt, hnx ⟨by omega, by omega⟩, rfl⟩
  have hje : j = s.en.length := by have := of_decide_eq_false h3; omega
  rw [if_neg (fun hh => hh fun k hk => hvv k (by omega))];clear hvv;refine zb4 ?_;refine zbq ?_;refine zb4 ?_;refine zav (fun mm S => ∃ j, mm = s.tms.length - j /\ j <= s.tms.length /\ (∀ k, k < j -> 0 <= zA s.tms k /\ zA s.tms k < 3) /\ S = st 133 [(2, .vptr (cC c)), (3, .vptr (cS s)), (4, .int .i64 0), (6, .int .i64 (j : Nat))] [] 0 1) s.tms.length
   skp ⟨0, rfl, y0r _, fun k hk => absurd hk (y1q _), rfl⟩ ?_
  rintro mm S ⟨j, rfl, hj, hvv, rfl⟩;unfold b24_2 cS vsI;refine zb4 ?_;rw [ht];refine za4 rfl rfl rfl (fun h3 => ?_) fun h3 => ?_
  ·have hlt : j < s.tms.length := by have := of_decide_eq_true h3; omega
   have hge := zij hlt;have hnx : 0 <= zA s.tms j /\ zA s.tms j < 3 -> ∀ k, k < j + 1 -> 0 <= zA s.tms k /\ zA s.tms k < 3 := fun h0 k hk => by
    rcases y1k.1 hk with hk | rfl
    ·exact hvv k hk
    ·exact h0
   have hbad : ¬ (0 <= zA s.tms j /\ zA s.tms j < 3) -> ¬ inR s.tms 3 := fun h0 h1 => h0 (h1 j hlt);have w2 := za7 j (by omega);generalize hzj : zA s.tms j = z at *;refine zb4 ?_;refine za4 rfl rfl rfl (fun h5 => ?_) fun h5 => ?_
   ·have h5 : z < 0 := of_decide_eq_true h5;rw [if_pos (hbad (by omega))];refine zb7 ?_;exact uE
   ·have h5 : ¬ z < 0 := of_decide_eq_false h5;refine zb4 ?_;refine za4 rfl rfl rfl (fun h6 => ?_) fun h6 => ?_
    ·have h6 : z >= 3 := of_decide_eq_true h6;rw [if_pos (hbad (by omega))];refine zb7 ?_;exact uE
    ·have h6 : ¬ z >= 3 := of_decide_eq_false h6;refine zb7 ?_;rw [w2];exact zad (show s.tms.length - (j + 1) < s.tms.length - j by omega) skp ⟨j + 1, rfl, hlt, hnx ⟨by omega, by omega⟩, rfl⟩
  have hje : j = s.tms.length := by have := of_decide_eq_false h3; omega
  rw [if_neg (fun hh => hh fun k hk => hvv k (by omega))];clear hvv;refine zb4 ?_;refine zbq ?_;refine zb4 ?_;refine zav (fun mm S => ∃ j, mm = s.tms.length - j /\ j <= s.tms.length /\ (∀ k, k < j -> tkB (sgA c.sg k) (bA s.vals k) (zA s.tms k) = true) /\ S = st 133 [(2, .vptr (cC c)), (3, .vptr (cS s)), (4, .int .i64 0), (7, .int .i64 (j : Nat))] [] 0 1) s.tms.length
   skp ⟨0, rfl, y0r _, fun k hk => absurd hk (y1q _), rfl⟩ ?_
  rintro mm S ⟨j, rfl, hj, hvv, rfl⟩;unfold b24_4 cS cC vsI vsB vsG;refine zb4 ?_;rw [ht];refine za4 rfl rfl rfl (fun h3 => ?_) fun h3 => ?_
  ·have hlt : j < s.tms.length := by have := of_decide_eq_true h3; omega
   have hgt := zij hlt;have hgb := zsn (l := s.vals) (i := j) (by omega);have hgs := zdi (sg := c.sg) (i := j) (by omega);have hnx : tkB (sgA c.sg j) (bA s.vals j) (zA s.tms j) = true -> ∀ k, k < j + 1 -> tkB (sgA c.sg k) (bA s.vals k) (zA s.tms k) = true := fun h0 k hk => by
    rcases y1k.1 hk with hk | rfl
    ·exact hvv k hk
    ·exact h0
   have hbad : tkB (sgA c.sg j) (bA s.vals j) (zA s.tms j) = false -> ¬ tkC c s := fun h0 h1 => by
    rw [h1 j hlt] at h0; cases h0
   have w2 := za7 j (by omega);unfold tkB at hnx hbad;generalize zA s.tms j = z at *;generalize bA s.vals j = b at *;generalize sgA c.sg j = sj at *;refine zb4 ?_;refine za4 rfl rfl rfl (fun h5 => ?_) fun h5 => ?_
   ·have h5 : sj.kd = 2 := by simpa using h5
    rw [if_pos h5] at hbad hnx;refine zbh ?_;refine za4 rfl rfl rfl (fun h6 => ?_) fun h6 => ?_
    ·have h6 : z = 2 := by simpa using h6
     rw [decide_eq_true h6] at hbad hnx;cases b with
     | true =>
      refine zbh ?_;rw [w2];exact zad (show s.tms.length - (j + 1) < s.tms.length - j by omega) skp ⟨j + 1, rfl, hlt, hnx rfl, rfl⟩
     | false =>
      refine zbh ?_;rw [if_pos (hbad rfl)];exact uE
    ·have h6 : ¬ z = 2 := by simpa using h6
     rw [decide_eq_false h6] at hbad hnx;cases b with
     | false =>
      refine zbh ?_;rw [w2];exact zad (show s.tms.length - (j + 1) < s.tms.length - j by omega) skp ⟨j + 1, rfl, hlt, hnx rfl, rfl⟩
     | true =>
      refine zbh ?_;rw [if_pos (hbad rfl)];exact uE
   ·have h5 : ¬ sj.kd = 2 := by simpa using h5
    rw [if_neg h5] at hbad hnx;refine zbh ?_;refine za4 rfl rfl rfl (fun h6 => ?_) fun h6 => ?_
    ·have h6 : ¬ z = 0 := by simpa using h6
     refine zbh ?_;rw [if_pos (hbad (decide_eq_false h6))];exact uE
    ·have h6 : z = 0 := by simpa using h6
     refine zb7 ?_;rw [w2];exact zad (show s.tms.length - (j + 1) < s.tms.length - j by omega) skp ⟨j + 1, rfl, hlt, hnx (decide_eq_true h6), rfl⟩
  ·have hje : j = s.tms.length := by have := of_decide_eq_false h3; omega
   rw [if_neg (fun hh => hh fun k hk => hvv k (by omega))];refine zb4 ?_;refine zbq ?_;refine zb4 ?_;exact uE
 ·rw [if_pos c1];unfold cC cS vsN vsG vsI vsB at *;refine zb7 ?_;rw [he];refine za4 rfl rfl rfl (fun h1 => ?_) fun h1 => ?_
  ·refine zc9 ?_;exact uE
  refine zbu ?_;rw [hv];refine za4 rfl rfl rfl (fun h2 => ?_) fun h2 => ?_
  ·refine zc9 ?_;exact uE
  refine zbu ?_;rw [hi, hn];refine za4 rfl rfl rfl (fun h3 => ?_) fun h3 => ?_
  ·refine zc9 ?_;exact uE
  refine zbu ?_;rw [hb, hg];refine za4 rfl rfl rfl (fun h4 => ?_) fun h4 => ?_
  ·refine zc9 ?_;exact uE
  refine zbu ?_;rw [ht, hg];refine za4 rfl rfl rfl (fun h5 => ?_) fun h5 => ?_
  ·refine zbu ?_;exact uE
  have h1 : ((s.en.length : Nat) : Int) = c.act := bne_eq_false_iff_eq.1 h1;have h2 : ((s.va.length : Nat) : Int) = c.act := bne_eq_false_iff_eq.1 h2;have h3 : ((s.inp.length : Nat) : Int) = (c.ins.length : Nat) := bne_eq_false_iff_eq.1 h3;have h4 : ((s.vals.length : Nat) : Int) = (c.sg.length : Nat) := bne_eq_false_iff_eq.1 h4;have h5 : ((s.tms.length : Nat) : Int) = (c.sg.length : Nat) := bne_eq_false_iff_eq.1 h5;exact absurd ⟨h1, h2, by omega, by omega, by omega⟩ c1
open Classical in
noncomputable def rtE (c : Ctl) (s : Sta) : Int := if ctE c = 0 then ftE c s else ctE c
-- pneumatic/pneumaticref27.Right
def ic9 : IC := sR [oM 2 (.box (.t 0)),
  oM 3 (.box (.t 1)),
  oM 4 (.mov (cI 0))]
 (.seq (sR [oL 6 5 2,
  oM 7 (.call (.c (.fn 23 [] [])) [(.t 6)]),
  oT 5 7]
 (sR [oT 8 5,
  oM 9 (.bin .neq (.t 8) (cI 0))]
 (.cond (.t 9) (sR [oT 10 5,
  oT 4 10]
 (.ret))
 (.skip))))
 (sR [oL 11 5 2,
  oL 12 5 3,
  oM 13 (.call (.c (.fn 24 [] [])) [(.t 11), (.t 12)]),
  oT 4 13]
 (.ret)))
theorem fn9 : env0.fn 9 = some ⟨14, ic9, [.t 4]⟩ := by kernel_rfl
set_option maxRecDepth 100000 in
theorem zwp {c : Ctl} {s : Sta} (h : Smx c) (hs : Sms s) : PF Tryz.prog 9 [.agg (cC c), .agg (cS s)] (.int .i64 (rtE c s)) := by
 have p23 := check23 h;have p24 := fits24 h hs;refine za6 env0_ok fn9 [(0, .agg (cC c)), (1, .agg (cS s))] (y04 rfl) rfl fun w0 N0 => ?_;unfold ic9 rtE;generalize ctE c = e at *;generalize ftE c s = e2 at *;unfold cC cS at *;refine zb7 ?_;refine za4 rfl rfl rfl (fun h1 => ?_) fun h1 => ?_
 ·have h1 : ¬ e = 0 := by simpa using h1
  rw [if_neg h1];refine zbu ?_;exact uE
 ·have h1 : e = 0 := by simpa using h1
  rw [if_pos h1];refine zb7 ?_;exact uE
set_option maxRecDepth 100000
def fsB (s : Sta) : Bool := decide (s.en.length <= 40) && (decide (s.va.length <= 40) && (decide (s.inp.length <= 200) && (decide (s.vals.length <= 200) && decide (s.tms.length <= 200))))
def lgB (c : Ctl) : Bool := decide (c.ins.length <= 32) && (!(decide (16 < c.sg.length) && decide (c.sg.length <= 64)) && (decide (c.sg.length <= 128) && (decide (c.pl.length <= 40) && decide (c.mi.length <= 40))))
def sfB (s : Sig) : Bool := decide (s.nm.length <= 200) && (zd2 s.on && zd2 s.off)
def fcB (c : Ctl) : Bool := lgB c && (c.ins.all (fun n => decide (n.length <= 200)) && c.sg.all sfB)
theorem zvc {s : Sta} (h : fsB s = true) : Sms s := by
 unfold fsB at h;simp only [y0g, decide_eq_true_eq] at h;obtain ⟨a, b, c, d, e⟩ := h;exact ⟨a, b, c, d, e⟩
theorem zv6 {c : Ctl} (h : fcB c = true) (hx : ∀ s, s ∈ c.sg -> Slim s.on /\ Slim s.off) : Smx c /\ c.sg.length <= 128 /\ (∀ s, s ∈ c.sg -> zd2 s.on = true /\ zd2 s.off = true) := by
 unfold fcB lgB at h;simp only [y0g, decide_eq_true_eq, y0h] at h;obtain ⟨⟨a, b, c1, d, e⟩, f, g⟩ := h;refine ⟨⟨a, c1, fun i hi => ?_, fun s hs => ?_, hx, d, e⟩, c1, fun s hs => ?_⟩
 ·unfold nA;rw [y0j, y0d hi];exact f _ (y0x hi)
 all_goals
  have := g s hs;unfold sfB at this;simp only [y0g, decide_eq_true_eq] at this
 ·exact this.1
 ·exact this.2
-- pneumatic/pneumaticref27.FewStates
def ic36 : IC := sR [oM 1 (.box (.t 0)),
  oM 2 (.mov (.c (.bool false)))]
 (sR [oF 3 0 1,
  oN 4 3,
  oM 5 (.len false (.t 4)),
  oM 6 (.bin .leq (.t 5) (cI 40)),
  oT 7 6,
  ⟨(some 8), .faddr 1 (.t 1), some (7, true)⟩,
  ⟨(some 9), .load none (.t 8), some (7, true)⟩,
  ⟨(some 10), .len false (.t 9), some (7, true)⟩,
  ⟨(some 11), .bin .leq (.t 10) (cI 40), some (7, true)⟩,
  oM 12 (.pick (.t 7) (.t 11) (.c (.bool false))),
  oT 13 12,
  ⟨(some 14), .faddr 2 (.t 1), some (13, true)⟩,
  ⟨(some 15), .load none (.t 14), some (13, true)⟩,
  ⟨(some 16), .len false (.t 15), some (13, true)⟩,
  ⟨(some 17), .bin .leq (.t 16) (cI 200), some (13, true)⟩,
  oM 18 (.pick (.t 13) (.t 17) (.c (.bool false))),
  oT 19 18,
  ⟨(some 20), .faddr 3 (.t 1), some (19, true)⟩,
  ⟨(some 21), .load none (.t 20), some (19, true)⟩,
  ⟨(some 22), .len false (.t 21), some (19, true)⟩,
  ⟨(some 23), .bin .leq (.t 22) (cI 200), some (19, true)⟩,
  oM 24 (.pick (.t 19) (.t 23) (.c (.bool false))),
  oT 25 24,
  ⟨(some 26), .faddr 4 (.t 1), some (25, true)⟩,
  ⟨(some 27), .load none (.t 26), some (25, true)⟩,
  ⟨(some 28), .len false (.t 27), some (25, true)⟩,
  ⟨(some 29), .bin .leq (.t 28) (cI 200), some (25, true)⟩,
  oM 30 (.pick (.t 25) (.t 29) (.c (.bool false))),
  oT 2 30]
 (.ret))
theorem fn36 : env0.fn 36 = some ⟨31, ic36, [.t 2]⟩ := by kernel_rfl
set_option maxRecDepth 100000 in
theorem few36 (s : Sta) : PF Tryz.prog 36 [.agg (cS s)] (.bool (fsB s)) := by
 have he := zfn s.en;have hv := zjg s.va;have hi := zjg s.inp;have hb := zjg s.vals;have ht := zfn s.tms;refine za6 env0_ok fn36 [(0, .agg (cS s))] (y04 rfl) rfl fun w0 N0 => ?_;unfold ic36 fsB;unfold cS vsI vsB at *;rw [<- he, <- hv, <- hi, <- hb, <- ht];clear he hv hi hb ht;generalize s.en.map (fun z => ([.int .i64 z] : List AV)) = l1;generalize s.va.map (fun z => ([.bool z] : List AV)) = l2;generalize s.inp.map (fun z => ([.bool z] : List AV)) = l3;generalize s.vals.map (fun z => ([.bool z] : List AV)) = l4;generalize s.tms.map (fun z => ([.int .i64 z] : List AV)) = l5;refine zb7 ?_;refine za4 rfl rfl rfl (fun h => ?_) fun h => ?_;all_goals
  first
  | rw [decide_eq_true (show l1.length <= 40 by have := of_decide_eq_true h; omega)]
  | rw [decide_eq_false (show ¬ l1.length <= 40 by have := of_decide_eq_false h; omega)]
  refine zc9 ?_
 ·refine za4 rfl rfl rfl (fun h => ?_) fun h => ?_;all_goals
   first
   | rw [decide_eq_true (show l2.length <= 40 by have := of_decide_eq_true h; omega)]
   | rw [decide_eq_false (show ¬ l2.length <= 40 by have := of_decide_eq_false h; omega)]
   refine zc9 ?_
  ·refine za4 rfl rfl rfl (fun h => ?_) fun h => ?_;all_goals
    first
    | rw [decide_eq_true (show l3.length <= 200 by have := of_decide_eq_true h; omega)]
    | rw [decide_eq_false (show ¬ l3.length <= 200 by have := of_decide_eq_false h; omega)]
    refine zc9 ?_
   ·refine za4 rfl rfl rfl (fun h => ?_) fun h => ?_;all_goals
     first
     | rw [decide_eq_true (show l4.length <= 200 by have := of_decide_eq_true h; omega)]
     | rw [decide_eq_false (show ¬ l4.length <= 200 by have := of_decide_eq_false h; omega)]
     refine zc9 ?_
    ·refine za4 rfl rfl rfl (fun h => ?_) fun h => ?_;all_goals
      first
      | rw [decide_eq_true (show l5.length <= 200 by have := of_decide_eq_true h; omega)]
      | rw [decide_eq_false (show ¬ l5.length <= 200 by have := of_decide_eq_false h; omega)]
      refine zc9 ?_;exact uE
    ·exact uE
   ·exact uE
  ·exact uE
 ·exact uE
def b35_0 : IC := .seq (sR [oT 40 3,
  oF 41 1 1,
  oN 42 41,
  oM 43 (.len false (.t 42)),
  oM 44 (.bin .lss (.t 40) (.t 43))]
 (.cond (.t 44) (.skip)
 (.exit 0)))
 (.seq (.block 1 (sR [oF 47 1 1,
  oN 48 47,
  oT 49 3,
  oM 50 (.idxs 1 (.t 48) (.t 49)),
  oN 51 50,
  oM 52 (.len true (.t 51)),
  oM 53 (.bin .gtr (.t 52) (cI 200))]
 (.cond (.t 53) (sR [oM 2 (.mov (.c (.bool false)))]
 (.ret))
 (.skip))))
 (.region [oT 45 3,
  oM 46 (.bin .add (.t 45) (cI 1)),
  oT 3 46] none))
def b35_2 : IC := .seq (sR [oT 54 4,
  oF 55 2 1,
  oN 56 55,
  oM 57 (.len false (.t 56)),
  oM 58 (.bin .lss (.t 54) (.t 57))]
 (.cond (.t 58) (.skip)
 (.exit 2)))
 (.seq (.block 3 (sR [oF 61 2 1,
  oN 62 61,
  oT 63 4,
  oM 64 (.idxs 10 (.t 62) (.t 63)),
  oL 65 10 64,
  oM 5 (.alloc [.str [], .int .i64 0, .int .i64 0, .int .i64 0, .nils, .int .i64 0, .int .i64 0, .nils, .int .i64 0, .bool false]),
  ⟨none, .store 10 (.t 5) (.t 65), none⟩]
 (sR [oF 66 0 5,
  oN 67 66,
  oM 68 (.len true (.t 67)),
  oM 69 (.bin .gtr (.t 68) (cI 200)),
  oT 70 69,
  ⟨(some 71), .faddr 2 (.t 5), some (70, false)⟩,
  ⟨(some 72), .load (some 3) (.t 71), some (70, false)⟩,
  ⟨(some 73), .call (.c (.fn 62 [] [])) [(.t 72)], some (70, false)⟩,
  ⟨(some 74), .un .not (.t 73), some (70, false)⟩,
  oM 75 (.pick (.t 70) (.c (.bool true)) (.t 74)),
  oT 76 75,
  ⟨(some 77), .faddr 5 (.t 5), some (76, false)⟩,
  ⟨(some 78), .load (some 3) (.t 77), some (76, false)⟩,
  ⟨(some 79), .call (.c (.fn 62 [] [])) [(.t 78)], some (76, false)⟩,
  ⟨(some 80), .un .not (.t 79), some (76, false)⟩,
  oM 81 (.pick (.t 76) (.c (.bool true)) (.t 80))]
 (.cond (.t 81) (sR [oM 2 (.mov (.c (.bool false)))]
 (.ret))
 (.skip)))))
 (.region [oT 59 4,
  oM 60 (.bin .add (.t 59) (cI 1)),
  oT 4 60] none))
-- pneumatic/pneumaticref27.Few
def ic35 : IC := sR [oM 1 (.box (.t 0)),
  oM 2 (.mov (.c (.bool false)))]
 (.seq (sR [oF 6 1 1,
  oN 7 6,
  oM 8 (.len false (.t 7)),
  oM 9 (.bin .gtr (.t 8) (cI 32)),
  oT 10 9,
  ⟨(some 11), .faddr 2 (.t 1), some (10, false)⟩,
  ⟨(some 12), .load none (.t 11), some (10, false)⟩,
  ⟨(some 13), .len false (.t 12), some (10, false)⟩,
  ⟨(some 14), .bin .gtr (.t 13) (cI 16), some (10, false)⟩,
  ⟨(some 15), .mov (.t 14), some (10, false)⟩,
  ⟨(some 16), .faddr 2 (.t 1), some (15, true)⟩,
  ⟨(some 17), .load none (.t 16), some (15, true)⟩,
  ⟨(some 18), .len false (.t 17), some (15, true)⟩,
  ⟨(some 19), .bin .leq (.t 18) (cI 64), some (15, true)⟩,
  ⟨(some 20), .pick (.t 15) (.t 19) (.c (.bool false)), some (10, false)⟩,
  oM 21 (.pick (.t 10) (.c (.bool true)) (.t 20)),
  oT 22 21,
  ⟨(some 23), .faddr 2 (.t 1), some (22, false)⟩,
  ⟨(some 24), .load none (.t 23), some (22, false)⟩,
  ⟨(some 25), .len false (.t 24), some (22, false)⟩,
  ⟨(some 26), .bin .gtr (.t 25) (cI 128), some (22, false)⟩,
  oM 27 (.pick (.t 22) (.c (.bool true)) (.t 26)),
  oT 28 27,
  ⟨(some 29), .faddr 3 (.t 1), some (28, false)⟩,
  ⟨(some 30), .load none (.t 29), some (28, false)⟩,
  ⟨(some 31), .len false (.t 30), some (28, false)⟩,
  ⟨(some 32), .bin .gtr (.t 31) (cI 40), some (28, false)⟩,
  oM 33 (.pick (.t 28) (.c (.bool true)) (.t 32)),
  oT 34 33,
  ⟨(some 35), .faddr 4 (.t 1), some (34, false)⟩,
  ⟨(some 36), .load none (.t 35), some (34, false)⟩,
  ⟨(some 37), .len false (.t 36), some (34, false)⟩,
  ⟨(some 38), .bin .gtr (.t 37) (cI 40), some (34, false)⟩,
  oM 39 (.pick (.t 34) (.c (.bool true)) (.t 38))]
 (.cond (.t 39) (sR [oM 2 (.mov (.c (.bool false)))]
 (.ret))
 (.skip)))
 (.seq (sR [oM 3 (.mov (cI 0))]
 (.block 0 (.loop b35_0)))
 (.seq (sR [oM 4 (.mov (cI 0))]
 (.block 2 (.loop b35_2)))
 (sR [oM 2 (.mov (.c (.bool true)))]
 (.ret)))))
theorem fn35 : env0.fn 35 = some ⟨82, ic35, [.t 2]⟩ := by kernel_rfl
set_option maxHeartbeats 8000000 in
set_option maxRecDepth 100000 in
theorem few35 {c : Ctl} (hr : Rd c) : PF Tryz.prog 35 [.agg (cC c)] (.bool (fcB c)) := by
 have hn := zor c.ins;have hg := zel c.sg;have hp := zfn c.pl;have hm := zfn c.mi;refine za6 env0_ok fn35 [(0, .agg (cC c))] (y04 rfl) rfl fun w0 N0 => ?_;unfold ic35 fcB;by_cases c1 : lgB c = true
 ·have hl := c1;rw [c1, y1o];unfold lgB at hl;simp only [y0g, decide_eq_true_eq, y1u, Bool.and_eq_false_iff, decide_eq_false_iff_not] at hl;obtain ⟨k1, k2, k3, k4, k5⟩ := hl;have hq : c.sg.length <= 16 \/ 64 < c.sg.length := by omega
  have hr' := hr;unfold cC vsN vsG vsI at *;rcases hq with hq | hq;all_goals
   repeat (first | refine zb5 ?_ | refine za8 rfl ?_ | refine zay ?_ | refine zau ?_ | refine zbc ?_ | refine zbd ?_ | refine zfj rfl ?_ | refine zgy rfl ?_ | refine znu rfl rfl ?_ | refine zan rfl ?_ | refine zb0 rfl rfl ?_ | refine zae rfl ?_ | refine zbz rfl rfl ?_ | refine zb8 rfl rfl ?_ | refine zdb rfl rfl ?_ | refine zd6 rfl rfl ?_ | refine za4 rfl rfl rfl (fun h => absurd (of_decide_eq_true h) (by omega)) fun _ => ?_ | refine za4 rfl rfl rfl (fun _ => ?_) fun h => absurd (of_decide_eq_false h) (by omega))
   refine zc3 [] [(0, 0, cC c)] [(1, .vptr (cC c)), (3, .int .i64 0)] rfl (.cons rfl rfl .nil) .nil (.cons rfl (.fptr rfl rfl) (.cons rfl (.same rfl) .nil)) ?_;refine zav (fun mm S => ∃ i, mm = c.ins.length - i /\ i <= c.ins.length /\ c.ins.all (fun n => decide (n.length <= 200)) = (c.ins.drop i).all (fun n => decide (n.length <= 200)) /\ S = st 82 [(1, .vptr (cC c)), (3, .int .i64 (i : Nat))] [] 0 1) c.ins.length
    skp ⟨0, rfl, y0r _, rfl, rfl⟩ ?_
   rintro mm S ⟨i, rfl, hi, hv, rfl⟩;unfold b35_0 cC vsN;refine zb4 ?_;rw [hn];refine za4 rfl rfl rfl (fun h3 => ?_) fun h3 => ?_
   ·have hlt : i < c.ins.length := by have := of_decide_eq_true h3; omega
    have hge := n_get hlt;have e1 : nA c.ins i = c.ins[i] := by unfold nA; rw [y0j, y0d hlt]; rfl
    rw [y0q hlt, y1s, <- e1] at hv;have w2 := za7 i (by omega);generalize nA c.ins i = x at *;refine zb4 ?_;refine za4 rfl rfl rfl (fun h4 => ?_) fun h4 => ?_
    ·have h4 : ¬ x.length <= 200 := by have := of_decide_eq_true h4; omega
     rw [decide_eq_false h4, y28] at hv;rw [hv];refine zb7 ?_;exact uE
    ·have h4 : x.length <= 200 := by have := of_decide_eq_false h4; omega
     rw [decide_eq_true h4, y1o] at hv;refine zb7 ?_;rw [w2];exact zad (show c.ins.length - (i + 1) < c.ins.length - i by omega) skp ⟨i + 1, rfl, hlt, hv, rfl⟩
   have hie : i = c.ins.length := by have := of_decide_eq_false h3; omega
   rw [hie, y1l, y2l] at hv;rw [hv, y1o];refine zb4 ?_;refine zbq ?_;refine zb4 ?_;refine zav (fun mm S => ∃ i, mm = c.sg.length - i /\ i <= c.sg.length /\ c.sg.all sfB = (c.sg.drop i).all sfB /\ ∃ hp nx ck, S = st 82 [(1, .vptr (cC c)), (4, .int .i64 (i : Nat))] hp nx ck) c.sg.length
    skp ⟨0, rfl, y0r _, rfl, _, _, _, rfl⟩ ?_
   rintro mm S ⟨i, rfl, hi, hv2, hp, nx, ck, rfl⟩;refine zc3 [] [] [(1, .vptr (cC c)), (4, .int .i64 (i : Nat))] rfl .nil .nil (.cons rfl (.same rfl) (.cons rfl (.same rfl) .nil)) ?_;unfold b35_2 cC vsG;refine zb4 ?_;rw [hg];refine za4 rfl rfl rfl (fun h3 => ?_) fun h3 => ?_
   ·have hlt : i < c.sg.length := by have := of_decide_eq_true h3; omega
    have hge := zdi hlt;have e1 : sgA c.sg i = c.sg[i] := by unfold sgA; rw [y0j, y0d hlt]; rfl
    rw [y0q hlt, y1s, <- e1] at hv2;rw [show sfB (sgA c.sg i) = (decide ((sgA c.sg i).nm.length <= 200) && (zd2 (sgA c.sg i).on && zd2 (sgA c.sg i).off)) from rfl] at hv2
    have hx := hr.x1 _ (zkr hlt);have p1 := zq0 _ hx.1;have p2 := zq0 _ hx.2.1;rw [zhv] at p1 p2;have w2 := za7 i (by omega);generalize sgA c.sg i = x at *;generalize zd2 x.on = l1 at *;generalize zd2 x.off = l2 at *;refine zbh ?_;refine za4 rfl rfl rfl (fun h4 => ?_) fun h4 => ?_
    ·have h4 : ¬ x.nm.length <= 200 := by have := of_decide_eq_true h4; omega
     rw [decide_eq_false h4, y28, y28] at hv2;rw [hv2];refine zb7 ?_;exact uE
    ·have h4 : x.nm.length <= 200 := by have := of_decide_eq_false h4; omega
     rw [decide_eq_true h4, y1o] at hv2;refine zbh ?_;cases l1 with
     | false =>
      rw [y28, y28] at hv2;rw [hv2];refine zb7 ?_;exact uE
     | true =>
      rw [y1o] at hv2;refine zbh ?_;cases l2 with
      | false =>
       rw [y28] at hv2;rw [hv2];refine zb7 ?_;exact uE
      | true =>
       rw [y1o] at hv2;refine zb7 ?_;rw [w2];exact zad (show c.sg.length - (i + 1) < c.sg.length - i by omega) skp ⟨i + 1, rfl, hlt, hv2, _, _, _, rfl⟩
   ·have hie : i = c.sg.length := by have := of_decide_eq_false h3; omega
    rw [hie, y1l, y2l] at hv2;rw [hv2];refine zb4 ?_;refine zbq ?_;refine zb4 ?_;exact uE
 ·have hl : lgB c = false := by simpa using c1
  rw [hl, y28];unfold cC vsN vsG vsI at *;repeat' first | refine zb5 ?_ | refine za8 rfl ?_ | refine zay ?_ | refine zau ?_ | refine zbc ?_ | refine zbd ?_ | refine zgi rfl ?_ | refine zfj rfl ?_ | refine zby ?_ | refine zaw ?_ | refine zgy rfl ?_ | refine znu rfl rfl ?_ | refine o_gt rfl ?_ | refine zan rfl ?_ | refine zb0 rfl rfl ?_ | refine zae rfl ?_ | refine zbz rfl rfl ?_ | refine zb8 rfl rfl ?_ | refine zdb rfl rfl ?_ | refine zd6 rfl rfl ?_ | refine za4 rfl rfl rfl (fun h => ?_) fun h => ?_
  all_goals
   first
   | exact uE
   | (
     exfalso;apply c1;unfold lgB;simp only [y0g, decide_eq_true_eq, y1u, Bool.and_eq_false_iff, decide_eq_false_iff_not, hn, hg, hp, hm] at *;omega)
-- pneumatic/pneumaticref28.Few
def ic18 : IC := sR [oM 2 (.box (.t 0)),
  oM 3 (.box (.t 1)),
  oM 4 (.mov (.c (.bool false)))]
 (sR [oL 5 5 2,
  oM 6 (.call (.c (.fn 35 [] [])) [(.t 5)]),
  oT 7 6,
  ⟨(some 8), .load (some 5) (.t 3), some (7, true)⟩,
  ⟨(some 9), .call (.c (.fn 36 [] [])) [(.t 8)], some (7, true)⟩,
  oM 10 (.pick (.t 7) (.t 9) (.c (.bool false))),
  oT 4 10]
 (.ret))
theorem fn18 : env0.fn 18 = some ⟨11, ic18, [.t 4]⟩ := by kernel_rfl
set_option maxRecDepth 100000 in
theorem few18 {c : Ctl} {s : Sta} (hr : Rd c) : PF Tryz.prog 18 [.agg (cC c), .agg (cS s)] (.bool (fcB c && fsB s)) := by
 have p35 := few35 hr;have p36 := few36 s;refine za6 env0_ok fn18 [(0, .agg (cC c)), (1, .agg (cS s))] (y04 rfl) rfl fun w0 N0 => ?_;unfold ic18;generalize fcB c = a at *;generalize fsB s = b at *;unfold cC cS at *;refine zb7 ?_;cases a with
 | false =>
  refine zc9 ?_;exact uE
 | true =>
  refine zb7 ?_;exact uE
-- pneumatic/pneumatictop.tryRight
def ic5 : IC := sR [oM 2 (.box (.t 0)),
  oM 3 (.box (.t 1)),
  oM 4 (.mov (.c (.bool false)))]
 (sR [oL 5 5 2,
  oL 6 5 3,
  oM 7 (.call (.c (.fn 18 [] [])) [(.t 5), (.t 6)]),
  oT 8 7,
  ⟨(some 9), .load (some 5) (.t 2), some (8, true)⟩,
  ⟨(some 10), .load (some 5) (.t 3), some (8, true)⟩,
  ⟨(some 11), .call (.c (.fn 9 [] [])) [(.t 9), (.t 10)], some (8, true)⟩,
  ⟨(some 12), .bin .eql (.t 11) (cI 0), some (8, true)⟩,
  oM 13 (.pick (.t 8) (.t 12) (.c (.bool false))),
  oT 4 13]
 (.ret))
theorem fn5 : env0.fn 5 = some ⟨14, ic5, [.t 4]⟩ := by kernel_rfl
open Classical in
noncomputable def tryB (c : Ctl) (s : Sta) : Bool := (fcB c && fsB s) && decide (rtE c s = 0)
set_option maxRecDepth 100000 in
theorem zxb {c : Ctl} {s : Sta} (hr : Rd c) : PF Tryz.prog 5 [.agg (cC c), .agg (cS s)] (.bool (tryB c s)) := by
 have p18 := few18 (s := s) hr;have p9 : (fcB c && fsB s) = true -> PF Tryz.prog 9 [.agg (cC c), .agg (cS s)] (.int .i64 (rtE c s)) := fun h => by
  rw [y0g] at h;exact zwp (zv6 h.1 fun x hx => ⟨(hr.x1 x hx).1, (hr.x1 x hx).2.1⟩).1 (zvc h.2)
 refine za6 env0_ok fn5 [(0, .agg (cC c)), (1, .agg (cS s))] (y04 rfl) rfl fun w0 N0 => ?_;unfold ic5 tryB;generalize (fcB c && fsB s) = a at *;generalize rtE c s = e at *;unfold cC cS at *;refine zb7 ?_;cases a with
 | false =>
  refine zc9 ?_;exact uE
 | true =>
  have p9 := p9 rfl;refine zb7 ?_;refine za4 rfl rfl rfl (fun h => ?_) fun h => ?_
  ·have h : e = 0 := by simpa using h
   rw [decide_eq_true h];refine zc9 ?_;exact uE
  ·have h : ¬ e = 0 := by simpa using h
   rw [decide_eq_false h];refine zc9 ?_;exact uE
structure Ct (c : Ctl) : Prop extends Sml c where
 a1 : 1 <= c.act
 i16 : c.ins.length <= 16
 s16 : c.sg.length <= 16
 nme : ∀ k, 2 * c.act.toNat <= k -> k < lnC c -> nmE c k = 0
 kd : ∀ i, i < c.sg.length -> (sgA c.sg i).kd = 0 \/ (sgA c.sg i).kd = 1 \/ (sgA c.sg i).kd = 2
 on : ∀ i, i < c.sg.length -> zd7 (sgA c.sg i).on (lnC c) = 0
 off : ∀ i, i < c.sg.length -> (sgA c.sg i).kd = 1 -> zd7 (sgA c.sg i).off (lnC c) = 0
 lt : ∀ i, i < c.sg.length -> (sgA c.sg i).kd = 0 -> ziu c i = false
 tm : ∀ i, i < c.sg.length -> (sgA c.sg i).kd = 2 -> 1 <= (sgA c.sg i).dl /\ (sgA c.sg i).dl <= 1000000
 zf : ∀ i, i < c.sg.length -> (sgA c.sg i).kd ≠ 1 -> zxp (sgA c.sg i).off = true /\ (sgA c.sg i).ini = false
 d0 : ∀ i, i < c.sg.length -> (sgA c.sg i).kd ≠ 2 -> (sgA c.sg i).dl = 0
 pl : (c.pl.length : Int) = c.act /\ plB c c.pl = true
 mi : (c.mi.length : Int) = c.act /\ plB c c.mi = true
 lg : ∀ s, s ∈ c.sg -> zd2 s.on = true /\ zd2 s.off = true
structure Ss (c : Ctl) (s : Sta) : Prop extends Sms s where
 sh : shC c s
 e4 : inR s.en 4
 t3 : inR s.tms 3
 tk : tkC c s
theorem ctE_ct {c : Ctl} (h : Smx c) (h16 : ¬ (16 < c.sg.length /\ c.sg.length <= 64)) (hlg : ∀ s, s ∈ c.sg -> zd2 s.on = true /\ zd2 s.off = true) (h0 : ctE c = 0) : Ct c := by
 unfold ctE at h0;split at h0
 ·contradiction
 rename_i c1;split at h0
 ·contradiction
 rename_i c2;split at h0
 ·contradiction
 rename_i c3;split at h0
 ·contradiction
 rename_i c4;have c3 := zpv (y22.1 c3);have c4 := zpv (y22.1 c4);have c4 : ∀ i, i < c.sg.length -> sgE c i = 0 := fun i hi => c4 i (y0r _) (by omega);have key : ∀ i, i < c.sg.length -> nmE c (fsC c + i) = 0 /\ ((sgA c.sg i).kd = 0 \/ (sgA c.sg i).kd = 1 \/ (sgA c.sg i).kd = 2) /\ zd7 (sgA c.sg i).on (lnC c) = 0 /\ ((sgA c.sg i).kd = 1 -> zd7 (sgA c.sg i).off (lnC c) = 0) /\ sgT (sgA c.sg i) (ziu c i) = 0 := fun i hi => by
  have h := c4 i hi;unfold sgE at h;split at h
  ·contradiction
  rename_i d1;split at h
  ·contradiction
  rename_i d2;split at h
  ·contradiction
  rename_i d3;split at h
  ·rename_i d4;exact absurd h d4.2
  rename_i d4;exact ⟨y22.1 d1, by omega, y22.1 d3, fun e => y22.1 fun e2 => d4 ⟨e, e2⟩, h⟩
 have kt : ∀ i, i < c.sg.length -> ((sgA c.sg i).kd = 0 -> ziu c i = false) /\ ((sgA c.sg i).kd = 2 -> 1 <= (sgA c.sg i).dl /\ (sgA c.sg i).dl <= 1000000) /\ ((sgA c.sg i).kd ≠ 1 -> zxp (sgA c.sg i).off = true /\ (sgA c.sg i).ini = false) /\ ((sgA c.sg i).kd ≠ 2 -> (sgA c.sg i).dl = 0) := fun i hi => by
  have h := (key i hi).2.2.2.2;unfold sgT at h;split at h
  ·contradiction
  rename_i d1;split at h
  ·contradiction
  rename_i d2;split at h
  ·contradiction
  rename_i d3;simp only [y0g, y0v, decide_eq_true_eq, y1u, decide_eq_false_iff_not, not_and, not_or, Bool.not_eq_true, Bool.not_eq_false] at d1 d2 d3;refine ⟨d1, fun e => ?_, fun e => ?_, fun e => ?_⟩
  ·have := d2 e;omega
  ·exact d3.1 e
  ·have := d3.2 e;exact y22.1 this
 have hp : ((c.pl.length : Int) = c.act /\ plB c c.pl = true) /\ ((c.mi.length : Int) = c.act /\ plB c c.mi = true) := by
  unfold plE at h0;split at h0
  ·contradiction
  rename_i d1;split at h0
  ·rename_i d2;exact ⟨⟨by omega, d2.1⟩, by omega, d2.2⟩
  ·contradiction
 refine ⟨h.sml (by omega), by omega, by omega, by omega, fun k h1 h2 => ?_, fun i hi => (key i hi).2.1, fun i hi => (key i hi).2.2.1, fun i hi => (key i hi).2.2.2.1, fun i hi => (kt i hi).1, fun i hi => (kt i hi).2.1, fun i hi => (kt i hi).2.2.1, fun i hi => (kt i hi).2.2.2, hp.1, hp.2, hlg⟩;by_cases e : k < fsC c
 ·have := c3 (k - 2 * c.act.toNat) (y0r _) (by unfold fsC at e; omega);have this : nmE c (2 * c.act.toNat + (k - 2 * c.act.toNat)) = 0 := this;rw [show 2 * c.act.toNat + (k - 2 * c.act.toNat) = k by omega] at this
  exact this
 ·have := (key (k - fsC c) (by unfold lnC at h2; omega)).1;rw [show fsC c + (k - fsC c) = k by omega] at this
  exact this
theorem ftE_ss {c : Ctl} {s : Sta} (h : Sms s) (h0 : ftE c s = 0) : Ss c s := by
 classical
 unfold ftE at h0;split at h0
 ·contradiction
 rename_i c1;split at h0
 ·contradiction
 rename_i c2;split at h0
 ·contradiction
 rename_i c3;split at h0
 ·contradiction
 rename_i c4;exact ⟨h, y22.1 c1, y22.1 c2, y22.1 c3, y22.1 c4⟩
theorem ss_ftE {c : Ctl} {s : Sta} (h : Ss c s) : ftE c s = 0 := by
 classical
 unfold ftE;rw [if_neg (fun h2 => h2 h.sh), if_neg (fun h2 => h2 h.e4), if_neg (fun h2 => h2 h.t3), if_neg (fun h2 => h2 h.tk)]
theorem try_ok {c : Ctl} {s : Sta} (hr : Rd c) (h : tryB c s = true) : Ct c /\ Ss c s /\ Smx c /\ ctE c = 0 := by
 classical
 unfold tryB at h;simp only [y0g, decide_eq_true_eq] at h;obtain ⟨⟨h1, h2⟩, h3⟩ := h;have hx := zv6 h1 fun x hx => ⟨(hr.x1 x hx).1, (hr.x1 x hx).2.1⟩
 have hs := zvc h2;unfold rtE at h3;split at h3
 ·rename_i h0;refine ⟨ctE_ct hx.1 (fun hh => ?_) hx.2.2 h0, ftE_ss hs h3, hx.1, h0⟩;unfold fcB lgB at h1;simp only [y0g, decide_eq_true_eq, y1u, Bool.and_eq_false_iff, decide_eq_false_iff_not] at h1;omega
 ·rename_i h0;exact absurd h3 h0
theorem rtE_ok {c : Ctl} {s : Sta} (h0 : ctE c = 0) (h : Ss c s) : rtE c s = 0 := by
 unfold rtE;rw [if_pos h0, ss_ftE h]
set_option maxRecDepth 100000
section
variable {P : Program} {w0 : World} {N0 : Nat} {k : List Fr} {Q : Exit -> AS -> Prop} {ios : List Opr} {n nx ck : Nat} {mk : List (Nat × Nat)} {md : Md} {l : List (Nat × AV)} {hp : List (Nat × Nat × AObj)}
theorem flat1 (es : List AV) : (es.map fun v => ([v] : List AV)).flatten = es := by
 induction es with
 | nil => rfl
 | cons v es ih => rw [y1d, y1c, ih]; rfl
theorem o_appj {pf : Kn} {d bytes : Nat} {z : List AV} {s x : Arg} {xv : AV} {id sp : Nat} (q J es : List AV) (hs : zar s l = some (.ms id sp 1 0 q.length none)) (hx : zar x l = some xv) (he : (st n l hp nx ck mk).elems 1 xv = some (es.map fun v => [v])) (hc : es.all AV.isCell = true) (hb : bytes <= 16777216) (hlk : Am.look id hp = some (sp, .cells (q ++ J)))
  (hle : q.length + es.length <= 1000000)
  (go : ∀ sp' hp' ck' J', Am.look id hp' = some (sp', .cells (q ++ es ++ J')) -> (∀ j, j ≠ id -> Am.look j hp' = Am.look j hp) -> (J' = [] \/ es = [] /\ J' = J) -> Om P w0 N0 md pf ios (st n ((d, .ms id sp' 1 0 (q ++ es).length none) :: l) hp' nx ck' mk) k Q)
  (hxo : Ops pf (st n l hp nx ck mk) (.append 1 bytes z s x) := by first | exact fun _ _ _ _ _ _ _ => rfl | exact apOk rfl rfl | exact zw8 rfl) :
  Om P w0 N0 md pf (⟨some d, .append 1 bytes z s x, none⟩ :: ios) (st n l hp nx ck mk) k Q := by
 by_cases h0 : es = []
 ·subst h0;have hi : iop (st n l hp nx ck mk) (.append 1 bytes z s x) = some (.ms id sp 1 0 q.length none, st n l hp nx ck mk) := by
   simp only [iop, zag, hs, hx, he];rfl
  have g := go sp hp ck J (by rw [y0s]; exact hlk) (fun _ _ => rfl) (.inr ⟨rfl, rfl⟩);rw [y0s] at g;exact zdf hi g hxo
 ·have hl0 : ¬ (es.map fun v => ([v] : List AV)).length = 0 := by
   rw [y06];exact fun e => h0 (y0k.1 e)
  have hi : iop (st n l hp nx ck mk) (.append 1 bytes z s x) = some (.ms id ck 1 0 (q ++ es).length none, st n l (zap id (ck, .cells (q ++ es)) hp) nx (ck + 1) mk) := by
   simp only [iop, zag, hs, hx, he];unfold zbv;rw [if_neg hl0, if_pos ⟨by rw [flat1]; exact hc, hb⟩];simp only [show (st n l hp nx ck mk).heap = hp from rfl, hlk]
   rw [if_pos ⟨trivial, trivial, by rw [y0l, Nat.mul_one, y1b]; exact Nat.le_add_right _ _, by rw [y06]; omega⟩, flat1, y26, ziz, Nat.mul_one, List.take_left, y06, y0l];rfl
  exact zdf hi (go ck _ _ [] (by rw [za0, if_pos rfl, y0s]) (fun j hj => by rw [za0, if_neg (fun e => hj e.symm)]) (.inl rfl)) hxo
theorem zrr {pf : Kn} {d : Nat} {a : Arg} (h : zar a l = some .nils) (go : Om P w0 N0 md pf ios (st n ((d, .int .i64 0) :: l) hp nx ck mk) k Q) (hx : Ops pf (st n l hp nx ck mk) (.capo a) := by exact trivial) : Om P w0 N0 md pf (⟨some d, .capo a, none⟩ :: ios) (st n l hp nx ck mk) k Q :=
 zdf (by simp only [iop, zag, h]; rfl) go hx
theorem o_sln {pf : Kn} {d sz : Nat} {a b : Arg} {kd : IntKind} (h : zar a l = some .nils) (hb : zar b l = some (.int kd 0)) (go : Om P w0 N0 md pf ios (st n ((d, .nils) :: l) hp nx ck mk) k Q) (hx : Ops pf (st n l hp nx ck mk) (.slsl sz a none (some b) none) := by exact trivial) : Om P w0 N0 md pf (⟨some d, .slsl sz a none (some b) none, none⟩ :: ios) (st n l hp nx ck mk) k Q :=
 zdf (by
  have e1 : (st n l hp nx ck mk).oarg none = some none := rfl;have e3 : (st n l hp nx ck mk).oarg (some b) = some (some (.int kd 0)) := (zwd (some b)).trans (by unfold oargA; simp only [hb]);simp only [iop, zag, h, e1, e3];rfl) go hx
theorem o_slm {pf : Kn} {d sz id sp len : Nat} {a b : Arg} {kd : IntKind} (h : zar a l = some (.ms id sp sz 0 len none)) (hb : zar b l = some (.int kd 0)) (go : Om P w0 N0 md pf ios (st n ((d, .ms id sp sz 0 0 none) :: l) hp nx ck mk) k Q) (hx : Ops pf (st n l hp nx ck mk) (.slsl sz a none (some b) none) := by exact trivial) : Om P w0 N0 md pf (⟨some d, .slsl sz a none (some b) none, none⟩ :: ios) (st n l hp nx ck mk) k Q :=
 zdf (by
  have e1 : (st n l hp nx ck mk).oarg none = some none := rfl;have e3 : (st n l hp nx ck mk).oarg (some b) = some (some (.int kd 0)) := (zwd (some b)).trans (by unfold oargA; simp only [hb]);simp only [iop, zag, h, e1, e3];unfold zx0;simp only [zdc];rw [if_pos ⟨trivial, y2j _, y2j _, y11 _⟩];simp) go hx
theorem o_appz {pf : Kn} {d bytes : Nat} {z : List AV} {s x : Arg} {kd : IntKind} {m : Nat} (h : zar s l = some .nils) (hx : zar x l = some (.int kd (m : Nat))) (h1 : 1 <= m) (h2 : m <= 1000000) (hb : bytes <= 16777216) (go : Om P w0 N0 md pf ios (st n ((d, .ms nx ck 1 0 m none) :: l) ((nx, ck, .cells (zeu m z)) :: hp) (nx + 1) (ck + 1) mk) k Q) (hxo : Ops pf (st n l hp nx ck mk) (.appendz 1 bytes z s x) := by exact trivial) : Om P w0 N0 md pf (⟨some d, .appendz 1 bytes z s x, none⟩ :: ios) (st n l hp nx ck mk) k Q :=
 zdf (by
  simp only [iop, zag, h, hx];unfold zf3;dsimp only;rw [if_pos ⟨by omega, by omega, hb⟩, y1e];rfl) go hxo
end
def zmd {α : Type} (ls : List (List α)) : Nat := (ls.map List.length).sum
theorem zhp {α : Type} (ls : List (List α)) : zmd ls = ls.flatten.length := by
 unfold zmd;rw [List.length_flatten]
theorem zhq {α : Type} {ls : List (List α)} {i : Nat} (h : i < ls.length) : zmd (ls.take (i + 1)) = zmd (ls.take i) + (ls[i]).length := by
 unfold zmd;rw [List.take_add_one, y0d h, y16, List.sum_append];simp
theorem zng {α : Type} (ls : List (List α)) (i : Nat) : zmd (ls.take i) <= zmd ls := by
 unfold zmd
 conv => rhs; rw [<- List.take_append_drop i ls]
 rw [y16, List.sum_append];omega
-- slices.Grow[[]bool,bool]
def ic112 : IC := sR [oM 4 (.mov (.c (.nils)))]
 (.seq (sR [oT 5 1,
  oM 6 (.bin .lss (.t 5) (cI 0))]
 (.cond (.t 6) (.region [oM 7 (.bad),
  ⟨none, .bad, none⟩] none)
 (.skip)))
 (.seq (sR [oT 8 1,
  oT 9 0,
  oM 10 (.capo (.t 9)),
  oT 11 0,
  oM 12 (.len false (.t 11)),
  oM 13 (.bin .sub (.t 10) (.t 12)),
  oM 14 (.bin .sub (.t 8) (.t 13)),
  oT 1 14]
 (sR [oT 15 1,
  oM 16 (.bin .gtr (.t 15) (cI 0))]
 (.cond (.t 16) (.region [oT 17 0,
  oT 18 0,
  oM 19 (.capo (.t 18)),
  oM 20 (.slsl 1 (.t 17) none (some (.t 19)) none),
  oT 21 1,
  oM 22 (.appendz 1 1 [.bool false] (.t 20) (.t 21)),
  oT 23 0,
  oM 24 (.len false (.t 23)),
  oM 25 (.slsl 1 (.t 22) none (some (.t 24)) none),
  oT 0 25] none)
 (.skip))))
 (sR [oT 26 0,
  oT 4 26]
 (.ret))))
theorem fn112 : env0.fn 112 = some ⟨27, ic112, [.t 4]⟩ := by kernel_rfl
theorem grow112 {w0 : World} {N0 m : Nat} (h1 : 1 <= m) (h2 : m <= 1000000) (H : HS) : FT Tryz.prog w0 N0 112 [.nils, .int .i64 (m : Nat)] H fun v H' => v = .ms H.next H.clk 1 0 0 none /\ H' = ⟨(H.next, H.clk, .cells (zeu m [.bool false])) :: H.heap, H.next + 1, H.clk + 1⟩ := by
 refine zbl env0_ok fn112 [(0, .nils), (1, .int .i64 (m : Nat))] (y04 rfl) rfl ?_;unfold ic112;refine zb4 ?_;refine zrr rfl ?_;refine zbh ?_;rw [show IntKind.wrap .i64 ((0 : Int) - ((0 : Nat) : Int)) = 0 from rfl, show ((m : Nat) : Int) - 0 = ((m : Nat) : Int) by omega, zbb _ (by omega) (by omega)]
 refine za4 rfl rfl rfl (fun _ => ?_) fun h => absurd (of_decide_eq_false h) (by omega);refine zcj ?_;refine zrr rfl ?_;refine o_sln rfl rfl ?_;repeat (first | refine zan rfl ?_)
 refine o_appz rfl rfl h1 h2 (by decide) ?_;refine zbu ?_;refine o_slm rfl rfl ?_;refine zcj ?_;exact zaa ⟨.inr rfl, _, rfl, rfl, rfl⟩
def vvb (ls : List (List Bool)) : AV := .vs (ls.map fun l => [vsB l])
theorem zxg {ls : List (List Bool)} {i : Nat} (h : i < ls.length) : (ls.map fun l => ([vsB l] : List AV))[((i : Nat) : Int).toNat]? = some [vsB ls[i]] := by
 rw [y1e, y0n, y0d h];rfl
def b74_0 : IC := sR [oM 12 (.bin .lss (.t 11) (.t 10))]
 (.seq (.cond (.t 12) (.skip)
 (.exit 0))
 (.seq (.block 1 (sR [oM 13 (.idxs 1 (.t 9) (.t 11)),
  oN 14 13,
  oT 5 14]
 (sR [oT 15 3,
  oT 16 5,
  oM 17 (.len false (.t 16)),
  oM 18 (.bin .add (.t 15) (.t 17)),
  oT 3 18]
 (sR [oT 19 3,
  oM 20 (.bin .lss (.t 19) (cI 0))]
 (.cond (.t 20) (.region [oM 21 (.bad),
  ⟨none, .bad, none⟩] none)
 (.skip))))))
 (.region [oM 22 (.bin .add (.t 11) (cI 1)),
  oT 11 22] none)))
def b74_2 : IC := sR [oM 28 (.bin .lss (.t 27) (.t 26))]
 (.seq (.cond (.t 28) (.skip)
 (.exit 2))
 (.seq (.block 3 (sR [oM 29 (.idxs 1 (.t 25) (.t 27)),
  oN 30 29,
  oT 8 30]
 (.region [oT 31 6,
  oT 32 8,
  oM 33 (.append 1 1 [.bool false] (.t 31) (.t 32)),
  oT 6 33] none)))
 (.region [oM 34 (.bin .add (.t 27) (cI 1)),
  oT 27 34] none)))
-- slices.Concat[[]bool,bool]
def ic74 : IC := sR [oM 2 (.mov (.c (.nils)))]
 (sR [oM 3 (.mov (cI 0))]
 (.seq (sR [oT 9 0,
  oM 10 (.len false (.t 9)),
  oM 11 (.mov (cI 0))]
 (.block 0 (.loop b74_0)))
 (sR [oT 23 3,
  oM 24 (.call (.c (.fn 112 [] [])) [(.c (.nils)), (.t 23)]),
  oT 6 24]
 (.seq (sR [oT 25 0,
  oM 26 (.len false (.t 25)),
  oM 27 (.mov (cI 0))]
 (.block 2 (.loop b74_2)))
 (sR [oT 35 6,
  oT 2 35]
 (.ret))))))
theorem fn74 : env0.fn 74 = some ⟨36, ic74, [.t 2]⟩ := by kernel_rfl
set_option maxHeartbeats 4000000 in
set_option maxRecDepth 100000 in
theorem concat74 (ls : List (List Bool)) (hn : ls.length <= 1000) (h1 : 1 <= zmd ls) (h2 : zmd ls <= 100000) : PFo Tryz.prog 74 [vvb ls] 1 ls.flatten.length none (ls.flatten.map (AV.bool)) := by
 have hfl : ∀ l : List Bool, flat.flatL (l.map (AV.bool)) = true := fun l => by
  induction l with
  | nil => rfl
  | cons b l ih => exact ih
 refine zev (hfl _) fun w0 N0 => ?_;have hll : (ls.map fun l => ([vsB l] : List AV)).length = ls.length := y06 ..;refine zbl env0_ok fn74 [(0, vvb ls)] (y04 rfl) rfl ?_;unfold ic74 vvb;refine zc9 ?_;refine zav (fun mm S => ∃ i, mm = ls.length - i /\ i <= ls.length /\ S = st 36 [(0, vvb ls), (3, .int .i64 (zmd (ls.take i) : Nat)), (9, vvb ls), (10, .int .i64 (ls.length : Nat)), (11, .int .i64 (i : Nat))] [] 0 0) ls.length
  (zb9 (.cons rfl (.cons rfl (.cons rfl (.cons (by rw [<- hll]; rfl) (.cons rfl .nil)))))) ⟨0, rfl, y0r _, rfl⟩ ?_
 rintro mm S ⟨i, rfl, hi, rfl⟩;unfold b74_0 vvb;refine zcj ?_;refine za4 rfl rfl rfl (fun h3 => ?_) fun h3 => ?_
 ·have hlt : i < ls.length := y1i.1 (of_decide_eq_true h3);have hge := zxg hlt;have hst := zhq hlt;have hle := zng ls (i + 1);have w1 := za7 i (by omega);generalize ls[i] = l at *;have hl : (l.map fun b => ([AV.bool b] : List AV)).length = l.length := y06 ..;unfold vsB at hge;refine zb7 ?_;rw [hl, zbb _ (by omega) (by omega), show ((zmd (ls.take i) : Nat) : Int) + (l.length : Nat) = ((zmd (ls.take (i + 1)) : Nat) : Int) by omega]
  refine zb4 ?_;rw [w1];exact zad (show ls.length - (i + 1) < ls.length - i by omega) skp ⟨i + 1, rfl, hlt, rfl⟩
 have hie : i = ls.length := by
  have h4 : ¬ ((i : Nat) : Int) < (ls.length : Nat) := of_decide_eq_false h3;omega
 rw [hie, y1t];refine zb4 ?_;refine zbq ?_;refine zb4 ?_;refine zhh _ rfl rfl (zbk (grow112 h1 (by omega) ⟨[], 0, 0⟩)) (fun v H hF => ?_) fun v H hF => ?_
 ·obtain ⟨rfl, rfl⟩ := hF;exact fun m hm => absurd hm y0c
 obtain ⟨rfl, rfl⟩ := hF;refine zc9 ?_;refine zav (fun mm S => ∃ (i sp ck : Nat) (J : List AV) (hp : List (Nat × Nat × AObj)), mm = ls.length - i /\ i <= ls.length /\ (J = [] \/ (ls.take i).flatten = []) /\ Am.look 0 hp = some (sp, .cells ((ls.take i).flatten.map (AV.bool) ++ J)) /\ S = st 36 [(6, .ms 0 sp 1 0 ((ls.take i).flatten.map (AV.bool)).length none), (25, vvb ls), (26, .int .i64 (ls.length : Nat)), (27, .int .i64 (i : Nat))] hp 1 ck) ls.length
  (zb9 (.cons rfl (.cons rfl (.cons (by rw [<- hll]; rfl) (.cons rfl .nil))))) ⟨0, 0, 1, zeu (zmd ls) [.bool false], _, rfl, y0r _, .inr rfl, rfl, rfl⟩ ?_
 rintro mm S ⟨i, sp, ck, J, hp, rfl, hi, hJ, hlk, rfl⟩;unfold b74_2 vvb;refine zcj ?_;refine za4 rfl rfl rfl (fun h3 => ?_) fun h3 => ?_
 ·have hlt : i < ls.length := y1i.1 (of_decide_eq_true h3);have hge := zxg hlt;have hst := zhq hlt;have hle := zng ls (i + 1);have htk : (ls.take (i + 1)).flatten = (ls.take i).flatten ++ ls[i] := by
   rw [List.take_add_one, y0d hlt, List.flatten_append];simp
  have hsf := zhp (ls.take i);have w1 := za7 i (by omega);generalize ls[i] = l at *;unfold vsB at hge;refine zb7 ?_;refine o_appj _ J (l.map (AV.bool)) rfl rfl ?_ ?_ (by decide) hlk ?_ ?_
  ·rw [zcu (xs := l.map fun b => [AV.bool b]) (fun x hx => by obtain ⟨_, _, rfl⟩ := y0p.1 hx; rfl), y2d];rfl
  ·rw [y0h];intro x hx;obtain ⟨_, _, rfl⟩ := y0p.1 hx;rfl
  ·rw [y06, y06];omega
  intro sp' hp' ck' J' k1 k2 k3;refine zb7 ?_;rw [w1];refine zad (show ls.length - (i + 1) < ls.length - i by omega) (zb9 (.cons (by rw [<- y16, <- htk]; rfl) (.cons rfl (.cons rfl (.cons rfl .nil))))) ⟨i + 1, sp', ck', J', hp', rfl, hlt, ?_, ?_, rfl⟩
  ·rcases k3 with e | ⟨e, e2⟩
   ·exact .inl e
   ·rcases hJ with h | h
    ·exact .inl (e2.trans h)
    ·refine .inr ?_;rw [htk, h, List.map_eq_nil_iff.1 e];rfl
  ·rw [k1, htk, y16]
 have hie : i = ls.length := by
  have h4 : ¬ ((i : Nat) : Int) < (ls.length : Nat) := of_decide_eq_false h3;omega
 rw [hie, y1t] at hJ hlk ⊢;have hJ0 : J = [] := by
  rcases hJ with h | h
  ·exact h
  ·rw [zhp, h] at h1;exact absurd h1 (by decide)
 subst hJ0;rw [y0s] at hlk;refine zb4 ?_;refine zbq ?_;refine zb4 ?_;refine zaa ⟨.inr rfl, _, rfl, 0, sp, ?_, hlk⟩;rw [y06]
-- slices.Grow[[]int,int]
def ic132 : IC := sR [oM 4 (.mov (.c (.nils)))]
 (.seq (sR [oT 5 1,
  oM 6 (.bin .lss (.t 5) (cI 0))]
 (.cond (.t 6) (.region [oM 7 (.bad),
  ⟨none, .bad, none⟩] none)
 (.skip)))
 (.seq (sR [oT 8 1,
  oT 9 0,
  oM 10 (.capo (.t 9)),
  oT 11 0,
  oM 12 (.len false (.t 11)),
  oM 13 (.bin .sub (.t 10) (.t 12)),
  oM 14 (.bin .sub (.t 8) (.t 13)),
  oT 1 14]
 (sR [oT 15 1,
  oM 16 (.bin .gtr (.t 15) (cI 0))]
 (.cond (.t 16) (.region [oT 17 0,
  oT 18 0,
  oM 19 (.capo (.t 18)),
  oM 20 (.slsl 1 (.t 17) none (some (.t 19)) none),
  oT 21 1,
  oM 22 (.appendz 1 8 [.int .i64 0] (.t 20) (.t 21)),
  oT 23 0,
  oM 24 (.len false (.t 23)),
  oM 25 (.slsl 1 (.t 22) none (some (.t 24)) none),
  oT 0 25] none)
 (.skip))))
 (sR [oT 26 0,
  oT 4 26]
 (.ret))))
theorem fn132 : env0.fn 132 = some ⟨27, ic132, [.t 4]⟩ := by kernel_rfl
theorem grow132 {w0 : World} {N0 m : Nat} (h1 : 1 <= m) (h2 : m <= 1000000) (H : HS) : FT Tryz.prog w0 N0 132 [.nils, .int .i64 (m : Nat)] H fun v H' => v = .ms H.next H.clk 1 0 0 none /\ H' = ⟨(H.next, H.clk, .cells (zeu m [.int .i64 0])) :: H.heap, H.next + 1, H.clk + 1⟩ := by
 refine zbl env0_ok fn132 [(0, .nils), (1, .int .i64 (m : Nat))] (y04 rfl) rfl ?_;unfold ic132;refine zb4 ?_;refine zrr rfl ?_;refine zbh ?_;rw [show IntKind.wrap .i64 ((0 : Int) - ((0 : Nat) : Int)) = 0 from rfl, show ((m : Nat) : Int) - 0 = ((m : Nat) : Int) by omega, zbb _ (by omega) (by omega)]
 refine za4 rfl rfl rfl (fun _ => ?_) fun h => absurd (of_decide_eq_false h) (by omega);refine zcj ?_;refine zrr rfl ?_;refine o_sln rfl rfl ?_;repeat (first | refine zan rfl ?_)
 refine o_appz rfl rfl h1 h2 (by decide) ?_;refine zbu ?_;refine o_slm rfl rfl ?_;refine zcj ?_;exact zaa ⟨.inr rfl, _, rfl, rfl, rfl⟩
def vvz (ls : List (List Int)) : AV := .vs (ls.map fun l => [vsI l])
theorem zxh {ls : List (List Int)} {i : Nat} (h : i < ls.length) : (ls.map fun l => ([vsI l] : List AV))[((i : Nat) : Int).toNat]? = some [vsI ls[i]] := by
 rw [y1e, y0n, y0d h];rfl
def b110_0 : IC := sR [oM 12 (.bin .lss (.t 11) (.t 10))]
 (.seq (.cond (.t 12) (.skip)
 (.exit 0))
 (.seq (.block 1 (sR [oM 13 (.idxs 1 (.t 9) (.t 11)),
  oN 14 13,
  oT 5 14]
 (sR [oT 15 3,
  oT 16 5,
  oM 17 (.len false (.t 16)),
  oM 18 (.bin .add (.t 15) (.t 17)),
  oT 3 18]
 (sR [oT 19 3,
  oM 20 (.bin .lss (.t 19) (cI 0))]
 (.cond (.t 20) (.region [oM 21 (.bad),
  ⟨none, .bad, none⟩] none)
 (.skip))))))
 (.region [oM 22 (.bin .add (.t 11) (cI 1)),
  oT 11 22] none)))
def b110_2 : IC := sR [oM 28 (.bin .lss (.t 27) (.t 26))]
 (.seq (.cond (.t 28) (.skip)
 (.exit 2))
 (.seq (.block 3 (sR [oM 29 (.idxs 1 (.t 25) (.t 27)),
  oN 30 29,
  oT 8 30]
 (.region [oT 31 6,
  oT 32 8,
  oM 33 (.append 1 8 [.int .i64 0] (.t 31) (.t 32)),
  oT 6 33] none)))
 (.region [oM 34 (.bin .add (.t 27) (cI 1)),
  oT 27 34] none)))
-- slices.Concat[[]int,int]
def ic110 : IC := sR [oM 2 (.mov (.c (.nils)))]
 (sR [oM 3 (.mov (cI 0))]
 (.seq (sR [oT 9 0,
  oM 10 (.len false (.t 9)),
  oM 11 (.mov (cI 0))]
 (.block 0 (.loop b110_0)))
 (sR [oT 23 3,
  oM 24 (.call (.c (.fn 132 [] [])) [(.c (.nils)), (.t 23)]),
  oT 6 24]
 (.seq (sR [oT 25 0,
  oM 26 (.len false (.t 25)),
  oM 27 (.mov (cI 0))]
 (.block 2 (.loop b110_2)))
 (sR [oT 35 6,
  oT 2 35]
 (.ret))))))
theorem fn110 : env0.fn 110 = some ⟨36, ic110, [.t 2]⟩ := by kernel_rfl
set_option maxHeartbeats 4000000 in
set_option maxRecDepth 100000 in
theorem zut (ls : List (List Int)) (hn : ls.length <= 1000) (h1 : 1 <= zmd ls) (h2 : zmd ls <= 100000) : PFo Tryz.prog 110 [vvz ls] 1 ls.flatten.length none (ls.flatten.map (AV.int .i64)) := by
 have hfl : ∀ l : List Int, flat.flatL (l.map (AV.int .i64)) = true := fun l => by
  induction l with
  | nil => rfl
  | cons b l ih => exact ih
 refine zev (hfl _) fun w0 N0 => ?_;have hll : (ls.map fun l => ([vsI l] : List AV)).length = ls.length := y06 ..;refine zbl env0_ok fn110 [(0, vvz ls)] (y04 rfl) rfl ?_;unfold ic110 vvz;refine zc9 ?_;refine zav (fun mm S => ∃ i, mm = ls.length - i /\ i <= ls.length /\ S = st 36 [(0, vvz ls), (3, .int .i64 (zmd (ls.take i) : Nat)), (9, vvz ls), (10, .int .i64 (ls.length : Nat)), (11, .int .i64 (i : Nat))] [] 0 0) ls.length
  (zb9 (.cons rfl (.cons rfl (.cons rfl (.cons (by rw [<- hll]; rfl) (.cons rfl .nil)))))) ⟨0, rfl, y0r _, rfl⟩ ?_
 rintro mm S ⟨i, rfl, hi, rfl⟩;unfold b110_0 vvz;refine zcj ?_;refine za4 rfl rfl rfl (fun h3 => ?_) fun h3 => ?_
 ·have hlt : i < ls.length := y1i.1 (of_decide_eq_true h3);have hge := zxh hlt;have hst := zhq hlt;have hle := zng ls (i + 1);have w1 := za7 i (by omega);generalize ls[i] = l at *;have hl : (l.map fun b => ([AV.int .i64 b] : List AV)).length = l.length := y06 ..;unfold vsI at hge;refine zb7 ?_;rw [hl, zbb _ (by omega) (by omega), show ((zmd (ls.take i) : Nat) : Int) + (l.length : Nat) = ((zmd (ls.take (i + 1)) : Nat) : Int) by omega]
  refine zb4 ?_;rw [w1];exact zad (show ls.length - (i + 1) < ls.length - i by omega) skp ⟨i + 1, rfl, hlt, rfl⟩
 have hie : i = ls.length := by
  have h4 : ¬ ((i : Nat) : Int) < (ls.length : Nat) := of_decide_eq_false h3;omega
 rw [hie, y1t];refine zb4 ?_;refine zbq ?_;refine zb4 ?_;refine zhh _ rfl rfl (zbk (grow132 h1 (by omega) ⟨[], 0, 0⟩)) (fun v H hF => ?_) fun v H hF => ?_
 ·obtain ⟨rfl, rfl⟩ := hF;exact fun m hm => absurd hm y0c
 obtain ⟨rfl, rfl⟩ := hF;refine zc9 ?_;refine zav (fun mm S => ∃ (i sp ck : Nat) (J : List AV) (hp : List (Nat × Nat × AObj)), mm = ls.length - i /\ i <= ls.length /\ (J = [] \/ (ls.take i).flatten = []) /\ Am.look 0 hp = some (sp, .cells ((ls.take i).flatten.map (AV.int .i64) ++ J)) /\ S = st 36 [(6, .ms 0 sp 1 0 ((ls.take i).flatten.map (AV.int .i64)).length none), (25, vvz ls), (26, .int .i64 (ls.length : Nat)), (27, .int .i64 (i : Nat))] hp 1 ck) ls.length
  (zb9 (.cons rfl (.cons rfl (.cons (by rw [<- hll]; rfl) (.cons rfl .nil))))) ⟨0, 0, 1, zeu (zmd ls) [.int .i64 0], _, rfl, y0r _, .inr rfl, rfl, rfl⟩ ?_
 rintro mm S ⟨i, sp, ck, J, hp, rfl, hi, hJ, hlk, rfl⟩;unfold b110_2 vvz;refine zcj ?_;refine za4 rfl rfl rfl (fun h3 => ?_) fun h3 => ?_
 ·have hlt : i < ls.length := y1i.1 (of_decide_eq_true h3);have hge := zxh hlt;have hst := zhq hlt;have hle := zng ls (i + 1);have htk : (ls.take (i + 1)).flatten = (ls.take i).flatten ++ ls[i] := by
   rw [List.take_add_one, y0d hlt, List.flatten_append];simp
  have hsf := zhp (ls.take i);have w1 := za7 i (by omega);generalize ls[i] = l at *;unfold vsI at hge;refine zb7 ?_;refine o_appj _ J (l.map (AV.int .i64)) rfl rfl ?_ ?_ (by decide) hlk ?_ ?_
  ·rw [zcu (xs := l.map fun b => [AV.int .i64 b]) (fun x hx => by obtain ⟨_, _, rfl⟩ := y0p.1 hx; rfl), y2d];rfl
  ·rw [y0h];intro x hx;obtain ⟨_, _, rfl⟩ := y0p.1 hx;rfl
  ·rw [y06, y06];omega
  intro sp' hp' ck' J' k1 k2 k3;refine zb7 ?_;rw [w1];refine zad (show ls.length - (i + 1) < ls.length - i by omega) (zb9 (.cons (by rw [<- y16, <- htk]; rfl) (.cons rfl (.cons rfl (.cons rfl .nil))))) ⟨i + 1, sp', ck', J', hp', rfl, hlt, ?_, ?_, rfl⟩
  ·rcases k3 with e | ⟨e, e2⟩
   ·exact .inl e
   ·rcases hJ with h | h
    ·exact .inl (e2.trans h)
    ·refine .inr ?_;rw [htk, h, List.map_eq_nil_iff.1 e];rfl
  ·rw [k1, htk, y16]
 have hie : i = ls.length := by
  have h4 : ¬ ((i : Nat) : Int) < (ls.length : Nat) := of_decide_eq_false h3;omega
 rw [hie, y1t] at hJ hlk ⊢;have hJ0 : J = [] := by
  rcases hJ with h | h
  ·exact h
  ·rw [zhp, h] at h1;exact absurd h1 (by decide)
 subst hJ0;rw [y0s] at hlk;refine zb4 ?_;refine zbq ?_;refine zb4 ?_;refine zaa ⟨.inr rfl, _, rfl, 0, sp, ?_, hlk⟩;rw [y06]
end Go.Proofs.YtdolbghhcijonaaGreat
namespace Go.Proofs
open Go.Shelf
def Tryz.lays189_ren : Go.Shelf.Ren := ⟨fun | 189 => 40 | 125 => 65 | 257 => 64 | 128 => 100 | 129 => 101 | 294 => 91 | 295 => 92 | 296 => 93 | 297 => 94 | 298 => 95 | 299 => 96 | 216 => 97 | 300 => 98 | 301 => 99 | 328 => 120 | 329 => 121 | 330 => 122 | 331 => 123 | 332 => 124 | 215 => 125 | 343 => 137 | n => n, fun | 28 => 24 | 3 => 3 | 46 => 101 | 0 => 0 | 51 => 129 | 53 => 131 | 4 => 4 | 183 => 121 | 182 => 120 | 131 => 126 | 5 => 5 | 9 => 9 | 218 => 155 | 222 => 159 | 228 => 168 | 229 => 169 | n => n, fun | n => n⟩
theorem Tryz.lays189 : Go.Proofs.Lays.n189 Tryz.prog Tryz.lays189_ren := {
 mixed := by kernel_rfl
 f125 := Tryz.func65.trans (congrArg some (by kernel_rfl))
 f128 := Tryz.func100.trans (congrArg some (by kernel_rfl))
 f129 := Tryz.func101.trans (congrArg some (by kernel_rfl))
 f189 := Tryz.func40.trans (congrArg some (by kernel_rfl))
 f215 := Tryz.func125.trans (congrArg some (by kernel_rfl))
 f216 := Tryz.func97.trans (congrArg some (by kernel_rfl))
 f257 := Tryz.func64.trans (congrArg some (by kernel_rfl))
 f294 := Tryz.func91.trans (congrArg some (by kernel_rfl))
 f295 := Tryz.func92.trans (congrArg some (by kernel_rfl))
 f296 := Tryz.func93.trans (congrArg some (by kernel_rfl))
 f297 := Tryz.func94.trans (congrArg some (by kernel_rfl))
 f298 := Tryz.func95.trans (congrArg some (by kernel_rfl))
 f299 := Tryz.func96.trans (congrArg some (by kernel_rfl))
 f300 := Tryz.func98.trans (congrArg some (by kernel_rfl))
 f301 := Tryz.func99.trans (congrArg some (by kernel_rfl))
 f328 := Tryz.func120.trans (congrArg some (by kernel_rfl))
 f329 := Tryz.func121.trans (congrArg some (by kernel_rfl))
 f330 := Tryz.func122.trans (congrArg some (by kernel_rfl))
 f331 := Tryz.func123.trans (congrArg some (by kernel_rfl))
 f332 := Tryz.func124.trans (congrArg some (by kernel_rfl))
 f343 := Tryz.func137.trans (congrArg some (by kernel_rfl))
 t0 := Tryz.underlying0
 a0 := Tryz.isAgg0
 z0 := Tryz.sizeOf0
 v0 := Tryz.zeroValue0
 t3 := Tryz.underlying3
 a3 := Tryz.isAgg3
 z3 := Tryz.sizeOf3
 v3 := Tryz.zeroValue3
 t4 := Tryz.underlying4
 a4 := Tryz.isAgg4
 z4 := Tryz.sizeOf4
 v4 := Tryz.zeroValue4
 t5 := Tryz.underlying5
 a5 := Tryz.isAgg5
 z5 := Tryz.sizeOf5
 v5 := Tryz.zeroValue5
 t9 := Tryz.underlying9
 a9 := Tryz.isAgg9
 z9 := Tryz.sizeOf9
 v9 := Tryz.zeroValue9
 t28 := Tryz.underlying24
 a28 := Tryz.isAgg24
 z28 := Tryz.sizeOf24
 v28 := Tryz.zeroValue24
 t46 := Tryz.underlying101
 a46 := Tryz.isAgg101
 z46 := Tryz.sizeOf101
 v46 := Tryz.zeroValue101
 t51 := Tryz.underlying129
 a51 := Tryz.isAgg129
 z51 := Tryz.sizeOf129
 v51 := Tryz.zeroValue129
 t53 := Tryz.underlying131
 a53 := Tryz.isAgg131
 z53 := Tryz.sizeOf131
 v53 := Tryz.zeroValue131
 t131 := Tryz.underlying126
 a131 := Tryz.isAgg126
 z131 := Tryz.sizeOf126
 v131 := Tryz.zeroValue126
 t182 := Tryz.underlying120
 a182 := Tryz.isAgg120
 z182 := Tryz.sizeOf120
 v182 := Tryz.zeroValue120
 t183 := Tryz.underlying121
 a183 := Tryz.isAgg121
 z183 := Tryz.sizeOf121
 v183 := Tryz.zeroValue121
 t218 := Tryz.underlying155
 a218 := Tryz.isAgg155
 z218 := Tryz.sizeOf155
 v218 := Tryz.zeroValue155
 t222 := Tryz.underlying159
 a222 := Tryz.isAgg159
 z222 := Tryz.sizeOf159
 v222 := Tryz.zeroValue159
 t228 := Tryz.underlying168
 a228 := Tryz.isAgg168
 z228 := Tryz.sizeOf168
 v228 := Tryz.zeroValue168
 t229 := Tryz.underlying169
 a229 := Tryz.isAgg169
 z229 := Tryz.sizeOf169
 v229 := Tryz.zeroValue169 }
open Go.Sort Go.RowKit in
theorem Tryz.slices_Sort_int (blk off cap : Nat) (zs : List Int) (w : World) (hH : Holds (Value.int .i64) w blk off zs.toArray) (hblk : blk < w.heap.size) (hsz : zs.length < 4611686018427387904) :
  Calls Tryz.prog 40 #[.slice (some ⟨blk, off, none⟩) zs.length cap] w fun e w' =>
   e = .returned (.tuple #[]) /\ ∃ n os, w' = grow (putRow (Value.int .i64) (Sort.ahead w n) blk off (zs.mergeSort fun x y => decide (x <= y)).toArray) os := Any.slices_Sort_int Tryz.lays189 blk off cap zs w hH hblk hsz
def Tryz.laysNm220_ren : Go.Shelf.Ren := ⟨fun | 20 => 41 | n => n, fun | 22 => 24 | 3 => 3 | 4 => 4 | 0 => 0 | n => n, fun | n => n⟩
theorem Tryz.laysNm220 : Go.Proofs.Lays2.n20 Tryz.prog Tryz.laysNm220_ren := {
 mixed := by kernel_rfl
 f20 := Tryz.func41.trans (congrArg some (by kernel_rfl))
 t0 := Tryz.underlying0
 a0 := Tryz.isAgg0
 z0 := Tryz.sizeOf0
 v0 := Tryz.zeroValue0
 t3 := Tryz.underlying3
 a3 := Tryz.isAgg3
 z3 := Tryz.sizeOf3
 v3 := Tryz.zeroValue3
 t4 := Tryz.underlying4
 a4 := Tryz.isAgg4
 z4 := Tryz.sizeOf4
 v4 := Tryz.zeroValue4
 t22 := Tryz.underlying24
 a22 := Tryz.isAgg24
 z22 := Tryz.sizeOf24
 v22 := Tryz.zeroValue24
 i3 := by kernel_rfl }
open Go.RowKit Go.Lib Go.Sort in
theorem Tryz.slices_Compact_int (blk off cap : Nat) (zs : List Int) (w : World) (hH : Holds (Value.int .i64) w blk off zs.toArray) (hsz : zs.length <= 9223372036854775807) (hcap : zs.length <= cap) :
  Calls Tryz.prog 41 #[.slice (some ⟨blk, off, none⟩) zs.length cap] w fun e w' => e = .returned (.slice (some ⟨blk, off, none⟩) (Lib.compact zs).length cap) /\ ∃ q, w' = putRow (Value.int .i64) (Sort.ahead w q) blk off (Lib.compact zs ++ List.replicate (zs.length - (Lib.compact zs).length) 0).toArray := Any.slices_Compact_int Tryz.laysNm220 blk off cap zs w hH hsz hcap
def Tryz.laysGw17_ren : Go.Shelf.Ren := ⟨fun | 17 => 129 | 15 => 138 | 20 => 140 | n => n, fun | 9 => 9 | 23 => 163 | 4 => 4 | 3 => 3 | 0 => 0 | 21 => 21 | n => n, fun | n => n⟩
theorem Tryz.laysGw17 : Go.Proofs.LaysGw.n17 Tryz.prog Tryz.laysGw17_ren := {
 mixed := by kernel_rfl
 f15 := Tryz.func138.trans (congrArg some (by kernel_rfl))
 f17 := Tryz.func129.trans (congrArg some (by kernel_rfl))
 f20 := Tryz.func140.trans (congrArg some (by kernel_rfl))
 t0 := Tryz.underlying0
 a0 := Tryz.isAgg0
 z0 := Tryz.sizeOf0
 v0 := Tryz.zeroValue0
 i0 := by kernel_rfl
 t3 := Tryz.underlying3
 a3 := Tryz.isAgg3
 z3 := Tryz.sizeOf3
 v3 := Tryz.zeroValue3
 i3 := by kernel_rfl
 t4 := Tryz.underlying4
 a4 := Tryz.isAgg4
 z4 := Tryz.sizeOf4
 v4 := Tryz.zeroValue4
 i4 := by kernel_rfl
 t9 := Tryz.underlying9
 a9 := Tryz.isAgg9
 z9 := Tryz.sizeOf9
 v9 := Tryz.zeroValue9
 i9 := by kernel_rfl
 t21 := Tryz.underlying21
 a21 := Tryz.isAgg21
 z21 := Tryz.sizeOf21
 v21 := Tryz.zeroValue21
 i21 := by kernel_rfl
 t23 := Tryz.underlying163
 a23 := Tryz.isAgg163
 z23 := Tryz.sizeOf163
 v23 := Tryz.zeroValue163
 i23 := by kernel_rfl }
open Go.RowKit Go.Lib in
theorem Tryz.strings_ContainsFunc_grows (g : Nat) (lb : Array Value) (eg : ∀ args w, (callFunc g args).run Tryz.prog w = .ok (.enter g args) w) (p : Nat -> Bool) (s : ByteArray) (w : World) (hp : PredGrows Tryz.prog g lb p w) :
  Calls Tryz.prog 129 #[.string s, .func (.func g) #[] lb] w fun e w' => e = .returned (.bool (decide (0 <= Lib.idxFunc p true s))) /\ Below w.heap.size w w' := Any.strings_ContainsFunc_grows Tryz.laysGw17 g lb eg p s w hp
namespace YtdolbghhcijonaaGreat
open Go Go.Am Go.RowKit
theorem ent64 : Ent Tryz.prog 40 := zob Tryz.func40 rfl (by kernel_rfl)
theorem ent65 : Ent Tryz.prog 41 := zob Tryz.func41 rfl (by kernel_rfl)
theorem ent129 : Ent Tryz.prog 129 := zob Tryz.func129 rfl (by kernel_rfl)
theorem zx1 : Sorts Tryz.prog 40 := fun blk off cap zs w hH hb hz => Tryz.slices_Sort_int blk off cap zs w hH hb hz
theorem cpts65 : Cpts Tryz.prog 41 := fun blk off cap zs w hH hz hc => Tryz.slices_Compact_int blk off cap zs w hH hz hc
end YtdolbghhcijonaaGreat
end Go.Proofs
