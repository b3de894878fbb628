/-
  LISTS AND STATES THAT ARE EQUAL.; VALUES OF EXPRESSIONS, AS THE MACHINE COMPUTES THEM; the rules.; THE MACHINE's LINES; states that are copied.; THE MACHINE's MEMORY; its gates.; A STATE THAT IS COPIED INTO NEW MEMORY.; A REGION IN ALL ITS ORDERS, with operations that lay what only is told.
-/
import Derived.Test.YtdolbghhcijonaaGreatMX6
namespace Go.Proofs.YtdolbghhcijonaaGreat
open Go Go.Am
set_option maxRecDepth 100000
theorem zol {l : List Int} {i : Nat} (h : i < l.length) : zA l i = l[i] := by unfold zA; rw [y0k, y0e h]; rfl
theorem zll {l : List Bool} {i : Nat} (h : i < l.length) : bA l i = l[i] := by unfold bA; rw [y0k, y0e h]; rfl
theorem zhh {α : Type} {a b : List α} (hl : a.length = b.length) (h : ∀ i (h1 : i < a.length) (h2 : i < b.length), a[i] = b[i]) : a = b := List.ext_getElem hl h
def b20_0 : IC := sR [oM 14 (.bin .lss (.t 13) (.t 12))]
 (.seq (.cond (.t 14) (.skip)
 (.exit 0))
 (.seq (.block 1 (sR [oT 15 13,
  oT 5 15]
 (.seq (.region [oT 16 0,
  oT 17 5,
  oM 18 (.idxs 1 (.t 16) (.t 17)),
  oN 19 18,
  oT 20 1,
  oT 21 5,
  oM 22 (.idxs 1 (.t 20) (.t 21)),
  oN 23 22,
  oM 24 (.eqb true (.t 19) (.t 23))] (some [[], [], [0, 1], [2], [], [], [4, 5], [6], [3, 7]]))
 (.cond (.t 24) (sR [oM 4 (.mov (.c (.bool false)))]
 (.ret))
 (.skip)))))
 (.region [oM 25 (.bin .add (.t 13) (cI 1)),
  oT 13 25] none)))
-- slices.Equal[[]bool,bool]
def ic20 : IC := sR [oM 4 (.mov (.c (.bool false)))]
 (.seq (sR [oT 6 0,
  oM 7 (.len false (.t 6)),
  oT 8 1,
  oM 9 (.len false (.t 8)),
  oM 10 (.bin .neq (.t 7) (.t 9))]
 (.cond (.t 10) (sR [oM 4 (.mov (.c (.bool false)))]
 (.ret))
 (.skip)))
 (.seq (sR [oT 11 0,
  oM 12 (.len false (.t 11)),
  oM 13 (.mov (cI 0))]
 (.block 0 (.loop b20_0)))
 (sR [oM 4 (.mov (.c (.bool true)))]
 (.ret))))
theorem fn20 : env0.fn 20 = some ⟨26, ic20, [.t 4]⟩ := by kernel_rfl
set_option maxHeartbeats 2000000 in
set_option maxRecDepth 100000 in
theorem zng (a b : List Bool) (ha : a.length <= 1000000) : PF Tryz.prog 20 [vsB a, vsB b] (.bool (decide (a = b))) := by
 have hal := zhd a;have hbl := zhd b;refine za6 env0_ok fn20 [(0, vsB a), (1, vsB b)] (y04 rfl) rfl fun w0 N0 => ?_;unfold ic20 vsB;refine zbt ?_;rw [hal, hbl];refine za3 rfl rfl rfl (fun h1 => ?_) fun h1 => ?_
 ·have h1 : ¬ ((a.length : Nat) : Int) = (b.length : Nat) := bne_iff_ne.1 h1;rw [decide_eq_false (show ¬ a = b from fun e => h1 (by rw [e]))]
  refine zbt ?_;exact uE
 have h1 : ((a.length : Nat) : Int) = (b.length : Nat) := bne_eq_false_iff_eq.1 h1;have h1 : a.length = b.length := by omega
 refine zcb ?_;refine zav (fun mm S => ∃ i, mm = a.length - i /\ i <= a.length /\ (∀ j, j < i -> bA a j = bA b j) /\ S = st 26 [(0, vsB a), (1, vsB b), (12, .int .i64 (a.length : Nat)), (13, .int .i64 (i : Nat))] [] 0 0) a.length
  (zb2 (.cons rfl (.cons rfl (.cons (by rw [<- hal]; rfl) (.cons rfl .nil))))) ⟨0, rfl, y0q _, fun j hj => absurd hj (y1b _), rfl⟩ ?_
 rintro mm S ⟨i, rfl, hi, hv, rfl⟩;unfold b20_0 vsB;refine zdo ?_
 skip
 refine za3 rfl rfl rfl (fun h3 => ?_) fun h3 => ?_
 ·have hlt : i < a.length := by have h4 : ((i : Nat) : Int) < (a.length : Nat) := of_decide_eq_true h3; omega
  have hga := zpy hlt;have hgb := zpy (l := b) (i := i) (by omega);have hbad : ¬ bA a i = bA b i -> decide (a = b) = false := fun h => decide_eq_false fun e => h (by rw [e]);have hnx : bA a i = bA b i -> ∀ j, j < i + 1 -> bA a j = bA b j := fun h0 j hj => by
   rcases y19.1 hj with hj | rfl
   ·exact hv j hj
   ·exact h0
  have w1 := za9 i (by omega);generalize bA a i = za at *;generalize bA b i = zb at *;cases za <;> cases zb
  all_goals
   refine zbf ?_;first
   | (
     rw [hbad (by decide)];exact uE)
   | (
     rw [w1];exact zad (show a.length - (i + 1) < a.length - i by omega) skp ⟨i + 1, rfl, hlt, hnx rfl, rfl⟩)
 ·have hie : i = a.length := by have h4 : ¬ ((i : Nat) : Int) < (a.length : Nat) := of_decide_eq_false h3; omega
  rw [decide_eq_true (show a = b from zhh h1 fun j g1 g2 => by have := hv j (by omega); rw [zll g1, zll g2] at this; exact this)]
  refine zbb ?_;refine zbp ?_;refine zbb ?_;exact uE
def b81_0 : IC := sR [oM 14 (.bin .lss (.t 13) (.t 12))]
 (.seq (.cond (.t 14) (.skip)
 (.exit 0))
 (.seq (.block 1 (sR [oT 15 13,
  oT 5 15]
 (.seq (.region [oT 16 0,
  oT 17 5,
  oM 18 (.idxs 1 (.t 16) (.t 17)),
  oN 19 18,
  oT 20 1,
  oT 21 5,
  oM 22 (.idxs 1 (.t 20) (.t 21)),
  oN 23 22,
  oM 24 (.bin .neq (.t 19) (.t 23))] (some [[], [], [0, 1], [2], [], [], [4, 5], [6], [3, 7]]))
 (.cond (.t 24) (sR [oM 4 (.mov (.c (.bool false)))]
 (.ret))
 (.skip)))))
 (.region [oM 25 (.bin .add (.t 13) (cI 1)),
  oT 13 25] none)))
-- slices.Equal[[]int,int]
def ic81 : IC := sR [oM 4 (.mov (.c (.bool false)))]
 (.seq (sR [oT 6 0,
  oM 7 (.len false (.t 6)),
  oT 8 1,
  oM 9 (.len false (.t 8)),
  oM 10 (.bin .neq (.t 7) (.t 9))]
 (.cond (.t 10) (sR [oM 4 (.mov (.c (.bool false)))]
 (.ret))
 (.skip)))
 (.seq (sR [oT 11 0,
  oM 12 (.len false (.t 11)),
  oM 13 (.mov (cI 0))]
 (.block 0 (.loop b81_0)))
 (sR [oM 4 (.mov (.c (.bool true)))]
 (.ret))))
theorem fn81 : env0.fn 81 = some ⟨26, ic81, [.t 4]⟩ := by kernel_rfl
set_option maxHeartbeats 2000000 in
set_option maxRecDepth 100000 in
theorem zvf (a b : List Int) (ha : a.length <= 1000000) : PF Tryz.prog 81 [vsI a, vsI b] (.bool (decide (a = b))) := by
 have hal := zev a;have hbl := zev b;refine za6 env0_ok fn81 [(0, vsI a), (1, vsI b)] (y04 rfl) rfl fun w0 N0 => ?_;unfold ic81 vsI;refine zbt ?_;rw [hal, hbl];refine za3 rfl rfl rfl (fun h1 => ?_) fun h1 => ?_
 ·have h1 : ¬ ((a.length : Nat) : Int) = (b.length : Nat) := bne_iff_ne.1 h1;rw [decide_eq_false (show ¬ a = b from fun e => h1 (by rw [e]))]
  refine zbt ?_;exact uE
 have h1 : ((a.length : Nat) : Int) = (b.length : Nat) := bne_eq_false_iff_eq.1 h1;have h1 : a.length = b.length := by omega
 refine zcb ?_;refine zav (fun mm S => ∃ i, mm = a.length - i /\ i <= a.length /\ (∀ j, j < i -> zA a j = zA b j) /\ S = st 26 [(0, vsI a), (1, vsI b), (12, .int .i64 (a.length : Nat)), (13, .int .i64 (i : Nat))] [] 0 0) a.length
  (zb2 (.cons rfl (.cons rfl (.cons (by rw [<- hal]; rfl) (.cons rfl .nil))))) ⟨0, rfl, y0q _, fun j hj => absurd hj (y1b _), rfl⟩ ?_
 rintro mm S ⟨i, rfl, hi, hv, rfl⟩;unfold b81_0 vsI;refine zdo ?_
 skip
 refine za3 rfl rfl rfl (fun h3 => ?_) fun h3 => ?_
 ·have hlt : i < a.length := by have h4 : ((i : Nat) : Int) < (a.length : Nat) := of_decide_eq_true h3; omega
  have hga := zib hlt;have hgb := zib (l := b) (i := i) (by omega);have hbad : ¬ zA a i = zA b i -> decide (a = b) = false := fun h => decide_eq_false fun e => h (by rw [e]);have hnx : zA a i = zA b i -> ∀ j, j < i + 1 -> zA a j = zA b j := fun h0 j hj => by
   rcases y19.1 hj with hj | rfl
   ·exact hv j hj
   ·exact h0
  have w1 := za9 i (by omega);generalize zA a i = za at *;generalize zA b i = zb at *;refine zbf ?_;refine za3 rfl rfl rfl (fun h4 => ?_) fun h4 => ?_
  ·have h4 : ¬ za = zb := by simpa using h4
   refine zbd ?_;rw [hbad h4];exact uE
  ·have h4 : za = zb := by simpa using h4
   refine zbd ?_;rw [w1];exact zad (show a.length - (i + 1) < a.length - i by omega) skp ⟨i + 1, rfl, hlt, hnx h4, rfl⟩
 ·have hie : i = a.length := by have h4 : ¬ ((i : Nat) : Int) < (a.length : Nat) := of_decide_eq_false h3; omega
  rw [decide_eq_true (show a = b from zhh h1 fun j g1 g2 => by have := hv j (by omega); rw [zol g1, zol g2] at this; exact this)]
  refine zbb ?_;refine zbp ?_;refine zbb ?_;exact uE
def b32_0 : IC := .seq (sR [oT 11 5,
  oT 12 0,
  oM 13 (.len false (.t 12)),
  oM 14 (.bin .lss (.t 11) (.t 13))]
 (.cond (.t 14) (.skip)
 (.exit 0)))
 (.seq (.block 1 (.seq (.region [oT 17 0,
  oT 18 5,
  oM 19 (.idxs 1 (.t 17) (.t 18)),
  oN 20 19,
  oT 21 1,
  oT 22 5,
  oM 23 (.idxs 1 (.t 21) (.t 22)),
  oN 24 23,
  oM 25 (.bin .neq (.t 20) (.t 24))] (some [[], [], [0, 1], [2], [], [], [4, 5], [6], [3, 7]]))
 (.cond (.t 25) (sR [oM 4 (.mov (.c (.bool false)))]
 (.ret))
 (.skip))))
 (.region [oT 15 5,
  oM 16 (.bin .add (.t 15) (cI 1)),
  oT 5 16] none))
-- pneumatic/pneumaticref27.sameInts
def ic32 : IC := sR [oM 4 (.mov (.c (.bool false)))]
 (.seq (sR [oT 6 0,
  oM 7 (.len false (.t 6)),
  oT 8 1,
  oM 9 (.len false (.t 8)),
  oM 10 (.bin .neq (.t 7) (.t 9))]
 (.cond (.t 10) (sR [oM 4 (.mov (.c (.bool false)))]
 (.ret))
 (.skip)))
 (.seq (sR [oM 5 (.mov (cI 0))]
 (.block 0 (.loop b32_0)))
 (sR [oM 4 (.mov (.c (.bool true)))]
 (.ret))))
theorem fn32 : env0.fn 32 = some ⟨26, ic32, [.t 4]⟩ := by kernel_rfl
set_option maxHeartbeats 2000000 in
set_option maxRecDepth 100000 in
theorem zve (a b : List Int) (ha : a.length <= 1000000) : PF Tryz.prog 32 [vsI a, vsI b] (.bool (decide (a = b))) := by
 have hal := zev a;have hbl := zev b;refine za6 env0_ok fn32 [(0, vsI a), (1, vsI b)] (y04 rfl) rfl fun w0 N0 => ?_;unfold ic32 vsI;refine zbt ?_;rw [hal, hbl];refine za3 rfl rfl rfl (fun h1 => ?_) fun h1 => ?_
 ·have h1 : ¬ ((a.length : Nat) : Int) = (b.length : Nat) := bne_iff_ne.1 h1;rw [decide_eq_false (show ¬ a = b from fun e => h1 (by rw [e]))]
  refine zbt ?_;exact uE
 have h1 : ((a.length : Nat) : Int) = (b.length : Nat) := bne_eq_false_iff_eq.1 h1;have h1 : a.length = b.length := by omega
 refine zcb ?_;refine zav (fun mm S => ∃ i, mm = a.length - i /\ i <= a.length /\ (∀ j, j < i -> zA a j = zA b j) /\ S = st 26 [(0, vsI a), (1, vsI b), (5, .int .i64 (i : Nat))] [] 0 0) a.length
  skp ⟨0, rfl, y0q _, fun j hj => absurd hj (y1b _), rfl⟩ ?_
 rintro mm S ⟨i, rfl, hi, hv, rfl⟩;unfold b32_0 vsI;refine zbt ?_;rw [hal];refine za3 rfl rfl rfl (fun h3 => ?_) fun h3 => ?_
 ·have hlt : i < a.length := by have h4 : ((i : Nat) : Int) < (a.length : Nat) := of_decide_eq_true h3; omega
  have hga := zib hlt;have hgb := zib (l := b) (i := i) (by omega);have hbad : ¬ zA a i = zA b i -> decide (a = b) = false := fun h => decide_eq_false fun e => h (by rw [e]);have hnx : zA a i = zA b i -> ∀ j, j < i + 1 -> zA a j = zA b j := fun h0 j hj => by
   rcases y19.1 hj with hj | rfl
   ·exact hv j hj
   ·exact h0
  have w1 := za9 i (by omega);generalize zA a i = za at *;generalize zA b i = zb at *;refine zbf ?_;refine za3 rfl rfl rfl (fun h4 => ?_) fun h4 => ?_
  ·have h4 : ¬ za = zb := by simpa using h4
   refine zbd ?_;rw [hbad h4];exact uE
  ·have h4 : za = zb := by simpa using h4
   refine zbd ?_;rw [w1];exact zad (show a.length - (i + 1) < a.length - i by omega) skp ⟨i + 1, rfl, hlt, hnx h4, rfl⟩
 ·have hie : i = a.length := by have h4 : ¬ ((i : Nat) : Int) < (a.length : Nat) := of_decide_eq_false h3; omega
  rw [decide_eq_true (show a = b from zhh h1 fun j g1 g2 => by have := hv j (by omega); rw [zol g1, zol g2] at this; exact this)]
  refine zbb ?_;refine zbp ?_;refine zbb ?_;exact uE
def b33_0 : IC := .seq (sR [oT 11 5,
  oT 12 0,
  oM 13 (.len false (.t 12)),
  oM 14 (.bin .lss (.t 11) (.t 13))]
 (.cond (.t 14) (.skip)
 (.exit 0)))
 (.seq (.block 1 (.seq (.region [oT 17 0,
  oT 18 5,
  oM 19 (.idxs 1 (.t 17) (.t 18)),
  oN 20 19,
  oT 21 1,
  oT 22 5,
  oM 23 (.idxs 1 (.t 21) (.t 22)),
  oN 24 23,
  oM 25 (.eqb true (.t 20) (.t 24))] (some [[], [], [0, 1], [2], [], [], [4, 5], [6], [3, 7]]))
 (.cond (.t 25) (sR [oM 4 (.mov (.c (.bool false)))]
 (.ret))
 (.skip))))
 (.region [oT 15 5,
  oM 16 (.bin .add (.t 15) (cI 1)),
  oT 5 16] none))
-- pneumatic/pneumaticref27.sameBools
def ic33 : IC := sR [oM 4 (.mov (.c (.bool false)))]
 (.seq (sR [oT 6 0,
  oM 7 (.len false (.t 6)),
  oT 8 1,
  oM 9 (.len false (.t 8)),
  oM 10 (.bin .neq (.t 7) (.t 9))]
 (.cond (.t 10) (sR [oM 4 (.mov (.c (.bool false)))]
 (.ret))
 (.skip)))
 (.seq (sR [oM 5 (.mov (cI 0))]
 (.block 0 (.loop b33_0)))
 (sR [oM 4 (.mov (.c (.bool true)))]
 (.ret))))
theorem fn33 : env0.fn 33 = some ⟨26, ic33, [.t 4]⟩ := by kernel_rfl
set_option maxHeartbeats 2000000 in
set_option maxRecDepth 100000 in
theorem zqd (a b : List Bool) (ha : a.length <= 1000000) : PF Tryz.prog 33 [vsB a, vsB b] (.bool (decide (a = b))) := by
 have hal := zhd a;have hbl := zhd b;refine za6 env0_ok fn33 [(0, vsB a), (1, vsB b)] (y04 rfl) rfl fun w0 N0 => ?_;unfold ic33 vsB;refine zbt ?_;rw [hal, hbl];refine za3 rfl rfl rfl (fun h1 => ?_) fun h1 => ?_
 ·have h1 : ¬ ((a.length : Nat) : Int) = (b.length : Nat) := bne_iff_ne.1 h1;rw [decide_eq_false (show ¬ a = b from fun e => h1 (by rw [e]))]
  refine zbt ?_;exact uE
 have h1 : ((a.length : Nat) : Int) = (b.length : Nat) := bne_eq_false_iff_eq.1 h1;have h1 : a.length = b.length := by omega
 refine zcb ?_;refine zav (fun mm S => ∃ i, mm = a.length - i /\ i <= a.length /\ (∀ j, j < i -> bA a j = bA b j) /\ S = st 26 [(0, vsB a), (1, vsB b), (5, .int .i64 (i : Nat))] [] 0 0) a.length
  skp ⟨0, rfl, y0q _, fun j hj => absurd hj (y1b _), rfl⟩ ?_
 rintro mm S ⟨i, rfl, hi, hv, rfl⟩;unfold b33_0 vsB;refine zbt ?_;rw [hal];refine za3 rfl rfl rfl (fun h3 => ?_) fun h3 => ?_
 ·have hlt : i < a.length := by have h4 : ((i : Nat) : Int) < (a.length : Nat) := of_decide_eq_true h3; omega
  have hga := zpy hlt;have hgb := zpy (l := b) (i := i) (by omega);have hbad : ¬ bA a i = bA b i -> decide (a = b) = false := fun h => decide_eq_false fun e => h (by rw [e]);have hnx : bA a i = bA b i -> ∀ j, j < i + 1 -> bA a j = bA b j := fun h0 j hj => by
   rcases y19.1 hj with hj | rfl
   ·exact hv j hj
   ·exact h0
  have w1 := za9 i (by omega);generalize bA a i = za at *;generalize bA b i = zb at *;cases za <;> cases zb
  all_goals
   refine zbf ?_;first
   | (
     rw [hbad (by decide)];exact uE)
   | (
     rw [w1];exact zad (show a.length - (i + 1) < a.length - i by omega) skp ⟨i + 1, rfl, hlt, hnx rfl, rfl⟩)
 ·have hie : i = a.length := by have h4 : ¬ ((i : Nat) : Int) < (a.length : Nat) := of_decide_eq_false h3; omega
  rw [decide_eq_true (show a = b from zhh h1 fun j g1 g2 => by have := hv j (by omega); rw [zll g1, zll g2] at this; exact this)]
  refine zbb ?_;refine zbp ?_;refine zbb ?_;exact uE
theorem zx6 (a b : Sta) : (a.en = b.en /\ a.va = b.va /\ a.inp = b.inp /\ a.vals = b.vals /\ a.tms = b.tms) ↔ a = b := by
 constructor
 ·rintro ⟨h1, h2, h3, h4, h5⟩;cases a; cases b;simp at *;exact ⟨h1, h2, h3, h4, h5⟩
 ·rintro rfl;exact ⟨rfl, rfl, rfl, rfl, rfl⟩
def steB (a b : Sta) : Bool := decide (a.en = b.en) && (decide (a.va = b.va) && (decide (a.inp = b.inp) && (decide (a.vals = b.vals) && decide (a.tms = b.tms))))
theorem zo9 (a b : Sta) : steB a b = true ↔ a = b := by
 rw [<- zx6];unfold steB;simp
structure Shs (s : Sta) : Prop where
 e : s.en.length <= 1000
 v : s.va.length <= 1000
 i : s.inp.length <= 1000
 b : s.vals.length <= 1000
 t : s.tms.length <= 1000
-- pneumatic/pneumaticref27.SameStates
def ic16 : IC := sR [oM 2 (.box (.t 0)),
  oM 3 (.box (.t 1)),
  oM 4 (.mov (.c (.bool false)))]
 (sR [oF 5 0 2,
  oN 6 5,
  oF 7 0 3,
  oN 8 7,
  oM 9 (.call (.c (.fn 32 [] [])) [(.t 6), (.t 8)]),
  oT 10 9,
  ⟨(some 11), .faddr 1 (.t 2), some (10, true)⟩,
  ⟨(some 12), .load none (.t 11), some (10, true)⟩,
  ⟨(some 13), .faddr 1 (.t 3), some (10, true)⟩,
  ⟨(some 14), .load none (.t 13), some (10, true)⟩,
  ⟨(some 15), .call (.c (.fn 33 [] [])) [(.t 12), (.t 14)], some (10, true)⟩,
  oM 16 (.pick (.t 10) (.t 15) (.c (.bool false))),
  oT 17 16,
  ⟨(some 18), .faddr 2 (.t 2), some (17, true)⟩,
  ⟨(some 19), .load none (.t 18), some (17, true)⟩,
  ⟨(some 20), .faddr 2 (.t 3), some (17, true)⟩,
  ⟨(some 21), .load none (.t 20), some (17, true)⟩,
  ⟨(some 22), .call (.c (.fn 33 [] [])) [(.t 19), (.t 21)], some (17, true)⟩,
  oM 23 (.pick (.t 17) (.t 22) (.c (.bool false))),
  oT 24 23,
  ⟨(some 25), .faddr 3 (.t 2), some (24, true)⟩,
  ⟨(some 26), .load none (.t 25), some (24, true)⟩,
  ⟨(some 27), .faddr 3 (.t 3), some (24, true)⟩,
  ⟨(some 28), .load none (.t 27), some (24, true)⟩,
  ⟨(some 29), .call (.c (.fn 33 [] [])) [(.t 26), (.t 28)], some (24, true)⟩,
  oM 30 (.pick (.t 24) (.t 29) (.c (.bool false))),
  oT 31 30,
  ⟨(some 32), .faddr 4 (.t 2), some (31, true)⟩,
  ⟨(some 33), .load none (.t 32), some (31, true)⟩,
  ⟨(some 34), .faddr 4 (.t 3), some (31, true)⟩,
  ⟨(some 35), .load none (.t 34), some (31, true)⟩,
  ⟨(some 36), .call (.c (.fn 32 [] [])) [(.t 33), (.t 35)], some (31, true)⟩,
  oM 37 (.pick (.t 31) (.t 36) (.c (.bool false))),
  oT 4 37]
 (.ret))
theorem fn16 : env0.fn 16 = some ⟨38, ic16, [.t 4]⟩ := by kernel_rfl
set_option maxHeartbeats 2000000 in
set_option maxRecDepth 100000 in
theorem same16 (a b : Sta) (h : Shs a) : PF Tryz.prog 16 [.agg (cS a), .agg (cS b)] (.bool (steB a b)) := by
 have p1 := zve a.en b.en (by have := h.e; omega)
 have p2 := zqd a.va b.va (by have := h.v; omega)
 have p3 := zqd a.inp b.inp (by have := h.i; omega)
 have p4 := zqd a.vals b.vals (by have := h.b; omega)
 have p5 := zve a.tms b.tms (by have := h.t; omega)
 refine za6 env0_ok fn16 [(0, .agg (cS a)), (1, .agg (cS b))] (y04 rfl) rfl fun w0 N0 => ?_;unfold ic16 steB;generalize decide (a.en = b.en) = b1 at *;generalize decide (a.va = b.va) = b2 at *;generalize decide (a.inp = b.inp) = b3 at *;generalize decide (a.vals = b.vals) = b4 at *;generalize decide (a.tms = b.tms) = b5 at *;unfold cS;refine zbd ?_;cases b1 with
 | false =>
  refine zcb ?_;exact uE
 | true =>
  refine zbd ?_;cases b2 with
  | false =>
   refine zcb ?_;exact uE
  | true =>
   refine zbd ?_;cases b3 with
   | false =>
    refine zcb ?_;exact uE
   | true =>
    refine zbd ?_;cases b4 with
    | false =>
     refine zcb ?_;exact uE
    | true =>
     refine zbd ?_;exact uE
-- pneumatic/control.SameStates
def ic56 : IC := sR [oM 2 (.box (.t 0)),
  oM 3 (.box (.t 1)),
  oM 4 (.mov (.c (.bool false)))]
 (sR [oF 5 0 2,
  oN 6 5,
  oF 7 0 3,
  oN 8 7,
  oM 9 (.call (.c (.fn 81 [] [])) [(.t 6), (.t 8)]),
  oT 10 9,
  ⟨(some 11), .faddr 1 (.t 2), some (10, true)⟩,
  ⟨(some 12), .load none (.t 11), some (10, true)⟩,
  ⟨(some 13), .faddr 1 (.t 3), some (10, true)⟩,
  ⟨(some 14), .load none (.t 13), some (10, true)⟩,
  ⟨(some 15), .call (.c (.fn 20 [] [])) [(.t 12), (.t 14)], some (10, true)⟩,
  oM 16 (.pick (.t 10) (.t 15) (.c (.bool false))),
  oT 17 16,
  ⟨(some 18), .faddr 2 (.t 2), some (17, true)⟩,
  ⟨(some 19), .load none (.t 18), some (17, true)⟩,
  ⟨(some 20), .faddr 2 (.t 3), some (17, true)⟩,
  ⟨(some 21), .load none (.t 20), some (17, true)⟩,
  ⟨(some 22), .call (.c (.fn 20 [] [])) [(.t 19), (.t 21)], some (17, true)⟩,
  oM 23 (.pick (.t 17) (.t 22) (.c (.bool false))),
  oT 24 23,
  ⟨(some 25), .faddr 3 (.t 2), some (24, true)⟩,
  ⟨(some 26), .load none (.t 25), some (24, true)⟩,
  ⟨(some 27), .faddr 3 (.t 3), some (24, true)⟩,
  ⟨(some 28), .load none (.t 27), some (24, true)⟩,
  ⟨(some 29), .call (.c (.fn 20 [] [])) [(.t 26), (.t 28)], some (24, true)⟩,
  oM 30 (.pick (.t 24) (.t 29) (.c (.bool false))),
  oT 31 30,
  ⟨(some 32), .faddr 4 (.t 2), some (31, true)⟩,
  ⟨(some 33), .load none (.t 32), some (31, true)⟩,
  ⟨(some 34), .faddr 4 (.t 3), some (31, true)⟩,
  ⟨(some 35), .load none (.t 34), some (31, true)⟩,
  ⟨(some 36), .call (.c (.fn 81 [] [])) [(.t 33), (.t 35)], some (31, true)⟩,
  oM 37 (.pick (.t 31) (.t 36) (.c (.bool false))),
  oT 4 37]
 (.ret))
theorem fn56 : env0.fn 56 = some ⟨38, ic56, [.t 4]⟩ := by kernel_rfl
set_option maxHeartbeats 2000000 in
set_option maxRecDepth 100000 in
theorem same56 (a b : Sta) (h : Shs a) : PF Tryz.prog 56 [.agg (cS a), .agg (cS b)] (.bool (steB a b)) := by
 have p1 := zvf a.en b.en (by have := h.e; omega)
 have p2 := zng a.va b.va (by have := h.v; omega)
 have p3 := zng a.inp b.inp (by have := h.i; omega)
 have p4 := zng a.vals b.vals (by have := h.b; omega)
 have p5 := zvf a.tms b.tms (by have := h.t; omega)
 refine za6 env0_ok fn56 [(0, .agg (cS a)), (1, .agg (cS b))] (y04 rfl) rfl fun w0 N0 => ?_;unfold ic56 steB;generalize decide (a.en = b.en) = b1 at *;generalize decide (a.va = b.va) = b2 at *;generalize decide (a.inp = b.inp) = b3 at *;generalize decide (a.vals = b.vals) = b4 at *;generalize decide (a.tms = b.tms) = b5 at *;unfold cS;refine zbd ?_;cases b1 with
 | false =>
  refine zcb ?_;exact uE
 | true =>
  refine zbd ?_;cases b2 with
  | false =>
   refine zcb ?_;exact uE
  | true =>
   refine zbd ?_;cases b3 with
   | false =>
    refine zcb ?_;exact uE
   | true =>
    refine zbd ?_;cases b4 with
    | false =>
     refine zcb ?_;exact uE
    | true =>
     refine zbd ?_;exact uE
set_option maxRecDepth 100000
def ixE (P : Ex -> Bool) : List Ex -> Nat -> Int
 | [], _ => -1
 | z :: l, j => if P z = true then (j : Nat) else ixE P l (j + 1)
theorem zw3 (P : Ex -> Bool) : ∀ (l : List Ex) (j : Nat), decide (ixE P l j >= 0) = l.any P
 | [], j => rfl
 | z :: l, j => by
  rw [ixE, List.any_cons];split
  ·rename_i h;rw [h, decide_eq_true (by omega)];rfl
  ·rename_i h;rw [zw3 P l (j + 1)];simp [h]
def b113_0 : IC := sR [oM 9 (.bin .lss (.t 8) (.t 7))]
 (.seq (.cond (.t 9) (.skip)
 (.exit 0))
 (.seq (.block 1 (sR [oT 10 8,
  oT 5 10]
 (sR [oT 11 1,
  oT 12 0,
  oT 13 5,
  oM 14 (.idxs 3 (.t 12) (.t 13)),
  oL 15 3 14,
  oM 16 (.call (.t 11) [(.t 15)])]
 (.cond (.t 16) (sR [oT 17 5,
  oT 4 17]
 (.ret))
 (.skip)))))
 (.region [oM 18 (.bin .add (.t 8) (cI 1)),
  oT 8 18] none)))
-- slices.IndexFunc[[]pneumatic/api.Expr,pneumatic/api.Expr]
def ic113 : IC := sR [oM 4 (.mov (cI 0))]
 (.seq (sR [oT 6 0,
  oM 7 (.len false (.t 6)),
  oM 8 (.mov (cI 0))]
 (.block 0 (.loop b113_0)))
 (sR [oM 4 (.mov (cI (-1)))]
 (.ret)))
theorem fn113 : env0.fn 113 = some ⟨19, ic113, [.t 4]⟩ := by kernel_rfl
set_option maxHeartbeats 2000000 in
set_option maxRecDepth 100000 in
theorem index113 {P : Ex -> Bool} {g : FuncId} {v : List Bool} (l : List Ex) (hl : l.length <= 1000000) (hP : ∀ y, y ∈ l -> PF Tryz.prog g [.agg (cX y), .vptr [vsB v]] (.bool (P y))) : PF Tryz.prog 113 [.vs (cXs l), .fn g [] [.vptr [vsB v]]] (.int .i64 (ixE P l 0)) := by
 have hlen : (cXs l).length = l.length := zam l;refine za6 env0_ok fn113 [(0, .vs (cXs l)), (1, .fn g [] [.vptr [vsB v]])] (y04 rfl) rfl fun w0 N0 => ?_;unfold ic113;refine zil ?_;refine zav (fun mm S => ∃ i, mm = l.length - i /\ i <= l.length /\ ixE P l 0 = ixE P (l.drop i) i /\ S = st 19 [(0, .vs (cXs l)), (1, .fn g [] [.vptr [vsB v]]), (7, .int .i64 (l.length : Nat)), (8, .int .i64 (i : Nat))] [] 0 0) l.length
  (zb2 (.cons rfl (.cons rfl (.cons (by rw [<- hlen]; rfl) (.cons rfl .nil))))) ⟨0, rfl, y0q _, rfl, rfl⟩ ?_
 rintro mm S ⟨i, rfl, hi, hx, rfl⟩;unfold b113_0;refine zhj ?_;refine za3 rfl rfl rfl (fun h3 => ?_) fun h3 => ?_
 ·have hlt : i < l.length := y1r.1 (of_decide_eq_true h3);have hge := zej hlt;rw [y0t hlt, ixE] at hx;have w1 := za9 i (by omega);have p := hP l[i] (y13 hlt);generalize l[i] = z at *;obtain ⟨zo, zi, za⟩ := z;refine zil ?_;refine zd5 rfl rfl rfl p (fun _ => rfl) ?_;cases hp : P (.nd zo zi za) with
  | true =>
   rw [hp, if_pos rfl] at hx;refine zfj ?_;exact zab ⟨.inr rfl, _, rfl, by rw [hx]; rfl⟩
  | false =>
   rw [hp, if_neg y21] at hx;refine zlj ?_;rw [w1];exact zad (show l.length - (i + 1) < l.length - i by omega) skp ⟨i + 1, rfl, hlt, hx, rfl⟩
 ·have hie : i = l.length := by
   have h4 : ¬ ((i : Nat) : Int) < (l.length : Nat) := of_decide_eq_false h3;omega
  rw [hie, y1m, ixE] at hx;rw [hx];refine zfj ?_;refine zbp ?_;refine zfj ?_;exact uE
-- slices.ContainsFunc[[]pneumatic/api.Expr,pneumatic/api.Expr]
def ic78 : IC := sR [oM 4 (.mov (.c (.bool false)))]
 (sR [oT 5 0,
  oT 6 1,
  oM 7 (.call (.c (.fn 113 [] [])) [(.t 5), (.t 6)]),
  oM 8 (.bin .geq (.t 7) (cI 0)),
  oT 4 8]
 (.ret))
theorem fn78 : env0.fn 78 = some ⟨9, ic78, [.t 4]⟩ := by kernel_rfl
set_option maxRecDepth 100000 in
theorem zm1 {P : Ex -> Bool} {g : FuncId} {v : List Bool} (l : List Ex) (hl : l.length <= 1000000) (hP : ∀ y, y ∈ l -> PF Tryz.prog g [.agg (cX y), .vptr [vsB v]] (.bool (P y))) : PF Tryz.prog 78 [.vs (cXs l), .fn g [] [.vptr [vsB v]]] (.bool (l.any P)) := by
 have p := index113 l hl hP;have hany := zw3 P l 0;refine za6 env0_ok fn78 [(0, .vs (cXs l)), (1, .fn g [] [.vptr [vsB v]])] (y04 rfl) rfl fun w0 N0 => ?_;unfold ic78;generalize ixE P l 0 = r at *;refine zfj ?_;rw [<- hany];refine za3 rfl rfl rfl (fun h => ?_) fun h => ?_;all_goals
  have h : decide (r >= 0) = _ := h;rw [h];refine zli ?_;exact uE
-- pneumatic/settle.value$1
def ic79 : IC := sR [oM 2 (.box (.t 0)),
  oM 3 (.mov (.c (.bool false)))]
 (sR [oL 4 3 2,
  oN 5 1,
  oM 6 (.call (.c (.fn 55 [] [])) [(.t 4), (.t 5)]),
  oM 7 (.un .not (.t 6)),
  oT 3 7]
 (.ret))
theorem fn79 : env0.fn 79 = some ⟨8, ic79, [.t 3]⟩ := by kernel_rfl
theorem value79 {v : List Bool} {y : Ex} {b : Bool} (h : PF Tryz.prog 55 [.agg (cX y), vsB v] (.bool b)) : PF Tryz.prog 79 [.agg (cX y), .vptr [vsB v]] (.bool !b) := by
 obtain ⟨yo, yi, ya⟩ := y;refine za6 env0_ok fn79 [(0, .agg (cX (.nd yo yi ya))), (1, .vptr [vsB v])] (y04 rfl) rfl fun w0 N0 => ?_;unfold ic79;refine zfj ?_;exact uE
-- pneumatic/settle.value$2
def ic80 : IC := sR [oM 2 (.box (.t 0)),
  oM 3 (.mov (.c (.bool false)))]
 (sR [oL 4 3 2,
  oN 5 1,
  oM 6 (.call (.c (.fn 55 [] [])) [(.t 4), (.t 5)]),
  oT 3 6]
 (.ret))
theorem fn80 : env0.fn 80 = some ⟨7, ic80, [.t 3]⟩ := by kernel_rfl
theorem value80 {v : List Bool} {y : Ex} {b : Bool} (h : PF Tryz.prog 55 [.agg (cX y), vsB v] (.bool b)) : PF Tryz.prog 80 [.agg (cX y), .vptr [vsB v]] (.bool b) := by
 obtain ⟨yo, yi, ya⟩ := y;refine za6 env0_ok fn80 [(0, .agg (cX (.nd yo yi ya))), (1, .vptr [vsB v])] (y04 rfl) rfl fun w0 N0 => ?_;unfold ic80;refine zfj ?_;exact uE
-- pneumatic/settle.value
def ic55 : IC := sR [oM 2 (.box (.t 0)),
  oM 3 (.box (.t 1)),
  oM 4 (.mov (.c (.bool false)))]
 (.seq (sR [oF 5 0 2,
  oN 6 5]
 (.block 0 (sR [oM 8 (.bin .eql (.t 6) (cI 0)),
  oT 7 8]
 (.cond (.t 7) (sR [oF 9 1 2,
  oN 10 9,
  oM 11 (.bin .eql (.t 10) (cI 1)),
  oT 4 11]
 (.ret))
 (sR [oM 13 (.bin .eql (.t 6) (cI 1)),
  oT 12 13]
 (.cond (.t 12) (sR [oN 14 3,
  oF 15 1 2,
  oN 16 15,
  oM 17 (.idxs 1 (.t 14) (.t 16)),
  oN 18 17,
  oT 4 18]
 (.ret))
 (sR [oM 20 (.bin .eql (.t 6) (cI 2)),
  oT 19 20]
 (.cond (.t 19) (.seq (.region [oF 21 2 2,
  oN 22 21,
  oM 23 (.idxs 3 (.t 22) (cI 0)),
  oL 24 3 23,
  oN 25 3,
  oM 26 (.call (.c (.fn 55 [] [])) [(.t 24), (.t 25)]),
  oM 27 (.un .not (.t 26)),
  oT 4 27] (some [[], [0], [1], [2], [], [3, 4], [5], [6, 5, 0, 1, 2, 3, 4, 5, 6]]))
 (.ret))
 (sR [oM 29 (.bin .eql (.t 6) (cI 3)),
  oT 28 29]
 (.cond (.t 28) (sR [oF 30 2 2,
  oN 31 30,
  oM 32 (.mkfn 79 [] [(.t 3)]),
  oM 33 (.call (.c (.fn 78 [] [])) [(.t 31), (.t 32)]),
  oM 34 (.un .not (.t 33)),
  oT 4 34]
 (.ret))
 (.skip)))))))))))
 (sR [oF 35 2 2,
  oN 36 35,
  oM 37 (.mkfn 80 [] [(.t 3)]),
  oM 38 (.call (.c (.fn 78 [] [])) [(.t 36), (.t 37)]),
  oT 4 38]
 (.ret)))
theorem fn55 : env0.fn 55 = some ⟨39, ic55, [.t 4]⟩ := by kernel_rfl
set_option maxHeartbeats 4000000 in
set_option maxRecDepth 100000 in
theorem zr0 (v : List Bool) : ∀ (q : Nat) (x : Ex), SizeOf.sizeOf x <= q -> nds v.length x = 0 -> PF Tryz.prog 55 [.agg (cX x), vsB v] (.bool (zae v x)) := by
 intro q
 induction q with
 | zero => intro x hq; cases x; simp at hq
 | succ q ih =>
 intro x hq hs;obtain ⟨op, ix, args⟩ := x;obtain ⟨hn, hch⟩ := zhq hs;obtain ⟨o0, o5, kl, km, i0, im⟩ := zhs hn;have hlen : args.length <= 256 := by
  unfold zlq at km
  (repeat' split at km) <;> omega
 have hev : ∀ y ∈ args, PF Tryz.prog 55 [.agg (cX y), vsB v] (.bool (zae v y)) := fun y hy => ih y (by have := zh3 (op := op) (ix := ix) hy; omega) (hch y hy)
 have hop : op = 0 \/ op = 1 \/ op = 2 \/ op = 3 \/ op = 4 := by omega
 have hd : zae v (.nd op ix args) = if op = 0 then ix == 1 else if op = 1 then v.getD ix.toNat false else if op = 2 then !(zdi v args).headD false else if op = 3 then (zdi v args).all id else (zdi v args).any id := by rw [zae]
 rw [hd];refine za6 env0_ok fn55 [(0, .agg (cX (.nd op ix args))), (1, vsB v)] (y04 rfl) rfl fun w0 N0 => ?_;unfold ic55;rcases hop with rfl | rfl | rfl | rfl | rfl
 ·rw [if_pos rfl];refine zgw ?_;refine zb5 (op := .eql) (v := .bool (ix == 1)) rfl rfl rfl ?_;refine zfj ?_;exact uE
 ·rw [if_neg (by decide), if_pos rfl];have hi : ix.toNat < v.length := by
   simp [zqo] at im;omega
  have hge := zxl v _ hi;refine zgw ?_;exact uE
 ·rw [if_neg (by decide), if_neg (by decide), if_pos rfl];have h1 : args.length = 1 := by simp [zm9, zlq] at kl km; omega
  obtain ⟨y, rfl⟩ := List.length_eq_one_iff.1 h1;have p := hev y (y0j.2 rfl);rw [zdi, zdi];generalize zae v y = b at *;obtain ⟨yo, yi, ya⟩ := y;refine zgw ?_;refine zc2 env0_ok _ (hL1 p) (fun g => Nat.beq g 55) rfl rfl rfl ?_;refine zhj ?_;refine zc8 rfl rfl (y2b 0) rfl rfl ?_;refine zgw ?_;exact uE
 ·rw [if_neg (by decide), if_neg (by decide), if_neg (by decide), if_pos rfl, zfo];have p := zm1 (P := fun y => !zae v y) (g := 79) args (by omega) fun y hy => value79 (hev y hy);have heq : (args.map (zae v)).all id = !args.any (fun y => !zae v y) := by
   rw [List.all_map, List.not_any_eq_all_not];simp
  rw [heq];generalize args.any (fun y => !zae v y) = b at *;refine zgw ?_;refine zak rfl rfl p (fun _ => rfl) ?_;refine zfj ?_;exact uE
 ·rw [if_neg (by decide), if_neg (by decide), if_neg (by decide), if_neg (by decide), zfo];have p := zm1 (P := fun y => zae v y) (g := 80) args (by omega) fun y hy => value80 (hev y hy);have heq : (args.map (zae v)).any id = args.any (fun y => zae v y) := by
   rw [List.any_map];rfl
  rw [heq];generalize args.any (fun y => zae v y) = b at *;refine zgw ?_;refine zak rfl rfl p (fun _ => rfl) ?_;refine zli ?_;exact uE
def cCh (v : Bool) (t : Int) (b : Bool) : List AV := [.bool v, .int .i64 t, .bool b]
def rul (kd : Int) (v : Bool) (t : Int) (on off : Bool) : Bool × Int × Bool :=
 if kd = 1 then (if on = off then v else on, t, on && off)
 else if kd = 2 then (if on = true then (v, if t = 0 then 1 else t, false) else (false, 0, false))
 else (v, t, false)
def rulA (kd : Int) (v : Bool) (t : Int) (on off : Bool) : AV := .agg (cCh (rul kd v t on off).1 (rul kd v t on off).2.1 (rul kd v t on off).2.2)
-- pneumatic/settle.rules
def ic54 : IC := sR [oM 0 (.alloc [.nilf, .nilf, .nilf])]
 (sR [oM 1 (.build [.nilf, .nilf, .nilf] [(0, 1, (.c (.fn 75 [] []))), (1, 1, (.c (.fn 76 [] []))), (2, 1, (.c (.fn 77 [] [])))]),
  ⟨none, .store 3 (.t 0) (.t 1), none⟩]
 (.ret))
theorem fn54 : env0.fn 54 = some ⟨2, ic54, [.cell 0 (some 3)]⟩ := by kernel_rfl
theorem rules54 : PF Tryz.prog 54 [] (.agg [.fn 75 [] [], .fn 76 [] [], .fn 77 [] []]) := by
 refine za6 env0_ok fn54 [] (y04 rfl) rfl fun w0 N0 => ?_;unfold ic54;refine zgw ?_;exact uE
-- pneumatic/settle.rules$1
def ic75 : IC := sR [oM 3 (.box (.t 0)),
  oM 6 (.alloc [.bool false, .int .i64 0, .bool false])]
 (sR [oL 7 3 3,
  ⟨none, .store 3 (.t 6) (.t 7), none⟩]
 (.ret))
theorem fn75 : env0.fn 75 = some ⟨8, ic75, [.cell 6 (some 3)]⟩ := by kernel_rfl
theorem rule75 (v : Bool) (t : Int) (on off : Bool) : PF Tryz.prog 75 [.agg (cCh v t false), .bool on, .bool off] (rulA 0 v t on off) := by
 refine za6 env0_ok fn75 [(0, .agg (cCh v t false)), (1, .bool on), (2, .bool off)] (y04 rfl) rfl fun w0 N0 => ?_;unfold ic75 cCh;refine zji ?_;exact uE
-- pneumatic/settle.rules$2
def ic76 : IC := sR [oM 3 (.box (.t 0)),
  oM 6 (.alloc [.bool false, .int .i64 0, .bool false])]
 (.seq (sR [oT 7 1,
  oT 8 2,
  oM 9 (.eqb true (.t 7) (.t 8))]
 (.cond (.t 9) (.region [oT 10 1,
  oF 11 0 3,
  ⟨none, .store 1 (.t 11) (.t 10), none⟩] none)
 (.skip)))
 (sR [oT 12 1,
  oT 13 12,
  ⟨(some 14), .mov (.t 2), some (13, true)⟩,
  oM 15 (.pick (.t 13) (.t 14) (.c (.bool false))),
  oF 16 2 3,
  ⟨none, .store 1 (.t 16) (.t 15), none⟩]
 (sR [oL 17 3 3,
  ⟨none, .store 3 (.t 6) (.t 17), none⟩]
 (.ret))))
theorem fn76 : env0.fn 76 = some ⟨18, ic76, [.cell 6 (some 3)]⟩ := by kernel_rfl
theorem rule76 (v : Bool) (t : Int) (on off : Bool) : PF Tryz.prog 76 [.agg (cCh v t false), .bool on, .bool off] (rulA 1 v t on off) := by
 refine za6 env0_ok fn76 [(0, .agg (cCh v t false)), (1, .bool on), (2, .bool off)] (y04 rfl) rfl fun w0 N0 => ?_;unfold ic76 cCh;cases on <;> cases off
 all_goals
  refine zgw ?_;exact uE
-- pneumatic/settle.rules$3
def ic77 : IC := sR [oM 3 (.box (.t 0)),
  oM 6 (.alloc [.bool false, .int .i64 0, .bool false])]
 (.seq (.block 0 (sR [oT 8 1,
  oM 9 (.un .not (.t 8)),
  oT 7 9]
 (.cond (.t 7) (sR [oM 10 (.build [.bool false, .int .i64 0, .bool false] []),
  ⟨none, .store 3 (.t 6) (.t 10), none⟩]
 (.ret))
 (sR [oF 12 1 3,
  oN 13 12,
  oM 14 (.bin .eql (.t 13) (cI 0)),
  oT 11 14]
 (.cond (.t 11) (.region [oF 15 1 3,
  ⟨none, .store 1 (.t 15) (cI 1), none⟩] none)
 (.skip))))))
 (sR [oL 16 3 3,
  ⟨none, .store 3 (.t 6) (.t 16), none⟩]
 (.ret)))
theorem fn77 : env0.fn 77 = some ⟨17, ic77, [.cell 6 (some 3)]⟩ := by kernel_rfl
theorem rule77 (v : Bool) (t : Int) (on off : Bool) : PF Tryz.prog 77 [.agg (cCh v t false), .bool on, .bool off] (rulA 2 v t on off) := by
 refine za6 env0_ok fn77 [(0, .agg (cCh v t false)), (1, .bool on), (2, .bool off)] (y04 rfl) rfl fun w0 N0 => ?_;unfold ic77 cCh;cases on with
 | false =>
  refine zgw ?_;exact uE
 | true =>
  refine zfj ?_;refine za3 rfl rfl rfl (fun h => ?_) fun h => ?_
  ·have h : t = 0 := by simpa using h
   subst h;refine zji ?_;exact uE
  ·have h : ¬ t = 0 := by simpa using h
   refine zji ?_;refine zab ⟨.inr rfl, _, rfl, ?_⟩;unfold rulA rul cCh;rw [if_neg (by decide), if_pos rfl, if_pos rfl, if_neg h];rfl
set_option maxRecDepth 100000
def cM (c : Ctl) (s : Sta) : List AV := cC c ++ (cS s ++ [.int .i64 (fsC c : Nat)])
theorem view_vv {S : AS} {d id sp : Nat} {cap : Option Nat} {a b c : List Bool} (hl : Am.look id S.heap = some (sp, .cells [vsB a, vsB b, vsB c])) : S.view (d + 2) (.ms id sp 1 0 3 cap) = vvb [a, b, c] := by
 have e : S.elems 1 (.ms id sp 1 0 3 cap) = some [[vsB a], [vsB b], [vsB c]] := by
  simp only [AS.elems, hl];rw [if_pos ⟨trivial, trivial, y08 _⟩];rfl
 rw [AS.view];simp only [e];rfl
def b53_0 : IC := sR [oM 13 (.bin .lss (.t 12) (.t 11))]
 (.seq (.cond (.t 13) (.skip)
 (.exit 0))
 (.seq (.block 1 (sR [oM 14 (.idxs 1 (.t 10) (.t 12)),
  oN 15 14,
  oT 5 15]
 (.region [oT 16 3,
  oT 17 5,
  oM 18 (.bin .eql (.t 17) (cI 0)),
  oT 19 5,
  oM 20 (.bin .eql (.t 19) (cI 2)),
  oM 21 (.bslice 1 2 [.bool false, .bool false] [(0, 1, (.t 18)), (1, 1, (.t 20))]),
  oM 22 (.append 1 1 [.bool false] (.t 16) (.t 21)),
  oT 3 22] none)))
 (.region [oM 23 (.bin .add (.t 12) (cI 1)),
  oT 12 23] none)))
-- (*pneumatic/settle.machine).lines
def ic53 : IC := sR [oM 2 (.mov (.c (.nils)))]
 (sR [oM 3 (.mov (.c (.nils)))]
 (.seq (sR [oT 6 0,
  oM 7 (.nilchk (.t 6)),
  oF 8 5 7,
  oF 9 0 8,
  oN 10 9,
  oM 11 (.len false (.t 10)),
  oM 12 (.mov (cI 0))]
 (.block 0 (.loop b53_0)))
 (.seq (.region [oT 24 3,
  oT 25 0,
  oM 26 (.nilchk (.t 25)),
  oF 27 5 26,
  oF 28 2 27,
  oN 29 28,
  oT 30 0,
  oM 31 (.nilchk (.t 30)),
  oF 32 5 31,
  oF 33 3 32,
  oN 34 33,
  oM 35 (.bslice 1 3 [.nils, .nils, .nils] [(0, 1, (.t 24)), (1, 1, (.t 29)), (2, 1, (.t 34))]),
  oM 36 (.call (.c (.fn 74 [] [])) [(.t 35)]),
  oT 2 36] (some [[], [], [1], [2], [3], [4], [], [6], [7], [8], [9], [0, 5, 10], [11], [12, 12, 0, 1, 2, 3, 4, 5, 6, 7, 8, 9, 10, 11, 12]]))
 (.ret))))
theorem fn53 : env0.fn 53 = some ⟨37, ic53, [.t 2]⟩ := by kernel_rfl
set_option maxHeartbeats 4000000 in
set_option maxRecDepth 100000 in
theorem zw6 {c : Ctl} {s : Sta} (hs : Sms s) (h1 : 1 <= s.en.length) : PFo Tryz.prog 53 [.vptr (cM c s)] 1 (zco s).length none (bC (zco s)) := by
 have he40 := hs.e;have hi200 := hs.i;have hb200 := hs.b;have he := zev s.en;have hsl0 := ziy s.en;have hfl : [swL s.en, s.inp, s.vals].flatten = zco s := by
  unfold zco ze0 swL;simp
 have p74 := concat74 [swL s.en, s.inp, s.vals] (by show 3 <= 1000; decide) (by show 1 <= (swL s.en).length + (s.inp.length + (s.vals.length + 0)); omega) (by show (swL s.en).length + (s.inp.length + (s.vals.length + 0)) <= 100000; omega)
 rw [hfl] at p74;refine zeg (zde _) fun w0 N0 => ?_;refine zbr env0_ok fn53 [(0, .vptr (cM c s))] (y04 rfl) rfl ?_;unfold ic53;unfold cM cC cS vsI;refine ggg1 ?_;refine zav (fun mm S => ∃ (i : Nat) (w : AV) (hp : List (Nat × Nat × AObj)) (nx ck : Nat), mm = s.en.length - i /\ i <= s.en.length /\ Gq 1 0 ((swL (s.en.take i)).map fun b => [.bool b]) w hp nx /\ S = st 37 [(0, .vptr (cM c s)), (3, w), (10, vsI s.en), (11, .int .i64 (s.en.length : Nat)), (12, .int .i64 (i : Nat))] hp nx ck) s.en.length
  (zb2 (.cons rfl (.cons rfl (.cons rfl (.cons (by rw [<- he]; rfl) (.cons rfl .nil)))))) ⟨0, .nils, _, _, _, rfl, y0q _, .inl ⟨rfl, rfl⟩, rfl⟩ ?_
 rintro mm S ⟨i, w, hp, nx, ck, rfl, hi, hG, rfl⟩;unfold b53_0 vsI;refine ggg0 ?_;refine za3 rfl rfl rfl (fun h3 => ?_) fun h3 => ?_
 ·have hlt : i < s.en.length := y1r.1 (of_decide_eq_true h3);have hge := zib hlt;have hsw := zob hlt;have hsl := ziy (s.en.take i);rw [List.length_take] at hsl;have w1 := za9 i (by omega);generalize zA s.en i = e at *;refine ggg2 ?_;refine zb5 (op := .eql) (v := .bool (e == 0)) rfl rfl rfl ?_;repeat (first | refine zan rfl ?_)
  refine zb5 (op := .eql) (v := .bool (e == 2)) rfl rfl rfl ?_;repeat (first | refine zcq rfl rfl ?_)
  refine zkx [[.bool (e == 0)], [.bool (e == 2)]] (hG.fresh ck _) (zh2 _) rfl rfl (zew (xs := [[.bool (e == 0)], [.bool (e == 2)]]) (ys := []) za4 rfl fun x hx => by rcases y0d.1 hx with rfl | hx; rfl; obtain rfl := y0j.1 hx; rfl) rfl (by decide) (y0q _) (by rw [y06]; show (swL (s.en.take i)).length + 2 <= 1000000; omega) ?_
  intro w' hp' nx' ck' hG' hnx' hk';refine ggg2 ?_;rw [w1];refine zad (show s.en.length - (i + 1) < s.en.length - i by omega) skp ⟨i + 1, w', hp', nx', ck', rfl, hlt, ?_, rfl⟩
  rw [hsw, y11]; exact hG'
 have hie : i = s.en.length := by
  have h4 : ¬ ((i : Nat) : Int) < (s.en.length : Nat) := of_decide_eq_false h3;omega
 rw [hie, y1o] at hG;refine ggg3 ?_;refine zbp ?_;refine ggg3 ?_;rcases hG with ⟨e, _⟩ | ⟨id, sp, rfl, hl, _, hid, _⟩
 ·have := congrArg List.length e;rw [y06] at this;rw [hsl0] at this;exact absurd (show 2 * s.en.length = 0 from this) (by omega)
 rw [zbh, y06] at *;refine zjv id sp (l' := [(0, .vptr (cM c s)), (3, vsB (swL s.en))]) hl (zhk _) (.cons rfl .same (.cons rfl (.fms (xs := (swL s.en).map fun b => [.bool b]) (y06 ..) (zh2 _) ⟨[], by rw [y26, y0u, zbh]⟩) .nil)) ?_;generalize zbq id hp = hp2;refine z_cut env0_ok 12 [] (fun _ hx => absurd hx y07) (fun _ => false) (fun _ => true) (fun _ => false) (fun i _ h => Bool.noConfusion h) rfl rfl rfl rfl ?_;show Om _ _ _ _ _ [_, _, _, _, _, _, _, _, _, _, _, _] _ _ _;unfold cM cC cS;refine ggg3 ?_;refine zab ⟨rfl, fun rd => ?_⟩;refine AnyF.one 12 rfl (zj2 rfl rfl rfl (congrArg (fun x => [x]) (view_vv (S := st _ _ _ _ _) (d := VD - 2) za4)) p74 (zde _) ?_);refine AnyF.one 13 rfl (za7 rfl rfl (zfa rfl) ?_);refine AnyF.fin rfl (Um.ok ?_);refine ggg4 ?_;exact zab ⟨.inr rfl, _, rfl, _, _, rfl, za4⟩
-- pneumatic/settle.copied
def ic39 : IC := sR [oM 1 (.box (.t 0)),
  oM 2 (.alloc [.nils, .nils, .nils, .nils, .nils])]
 (.seq (.region [oF 3 0 1,
  oN 4 3,
  oM 5 (.call (.c (.fn 58 [] [])) [(.t 4)]),
  oF 6 1 1,
  oN 7 6,
  oM 8 (.call (.c (.fn 59 [] [])) [(.t 7)]),
  oF 9 2 1,
  oN 10 9,
  oM 11 (.call (.c (.fn 59 [] [])) [(.t 10)]),
  oF 12 3 1,
  oN 13 12,
  oM 14 (.call (.c (.fn 59 [] [])) [(.t 13)]),
  oF 15 4 1,
  oN 16 15,
  oM 17 (.call (.c (.fn 58 [] [])) [(.t 16)]),
  oM 18 (.build [.nils, .nils, .nils, .nils, .nils] [(0, 1, (.t 5)), (1, 1, (.t 8)), (2, 1, (.t 11)), (3, 1, (.t 14)), (4, 1, (.t 17))]),
  ⟨none, .store 5 (.t 2) (.t 18), none⟩] (some [[], [0], [1], [], [3], [4, 2], [], [6], [7, 5], [], [9], [10, 8], [], [12], [13, 11], [2, 5, 8, 11, 14], [15, 14, 0, 1, 2, 3, 4, 5, 6, 7, 8, 9, 10, 11, 12, 13, 14, 15]]))
 (.ret))
theorem fn39 : env0.fn 39 = some ⟨19, ic39, [.cell 2 (some 5)]⟩ := by kernel_rfl
set_option maxRecDepth 100000
structure Nms where
 m : Nat
 sm : Nat
 iv : Nat
 sv : Nat
 it : Nat
 tt : Nat
def mcC (c : Ctl) (s : Sta) (q : Nms) : List AV := cC c ++ [vsI s.en, vsB s.va, vsB s.inp, wvA s.vals q.iv q.sv, wtA true s.tms q.it q.tt, .int .i64 (fsC c : Nat)]
structure Mc (c : Ctl) (q : Nms) (s : Sta) (H : HS) : Prop where
 hm : Am.look q.m H.heap = some (q.sm, .cells (mcC c s q))
 lm : q.m < H.next
 hv : s.vals ≠ [] -> Am.look q.iv H.heap = some (q.sv, .cells (bC s.vals)) /\ q.iv < H.next /\ q.iv ≠ q.m
 ht : s.tms ≠ [] -> Am.look q.it H.heap = some (q.tt, .cells (zC s.tms)) /\ q.it < H.next /\ q.it ≠ q.m
 ne : s.vals ≠ [] -> s.tms ≠ [] -> q.iv ≠ q.it
theorem zlg {v : List Bool} {n s : Nat} (h : v ≠ []) : wvA v n s = .ms n s 1 0 v.length none := if_neg h
theorem zj1 {t : List Int} {n s : Nat} (h : t ≠ []) : wtA true t n s = .ms n s 1 0 t.length none := if_pos ⟨rfl, h⟩
theorem zsy {v w : List Bool} {n s : Nat} (h : v.length = w.length) : wvA v n s = wvA w n s := by
 unfold wvA;by_cases e : v = []
 ·have e2 : w = [] := y0l.1 (by rw [<- h, e]; rfl);rw [if_pos e, if_pos e2]
 ·have e2 : ¬ w = [] := fun e2 => e (y0l.1 (by rw [h, e2]; rfl));rw [if_neg e, if_neg e2, h]
theorem wtA_same {v w : List Int} {n s : Nat} (h : v.length = w.length) (e : v ≠ []) : wtA true v n s = wtA true w n s := by
 have e2 : w ≠ [] := fun e2 => e (y0l.1 (by rw [h, e2]; rfl));rw [zj1 e, zj1 e2, h]
theorem zoh {S : AS} {v : List Bool} {n s : Nat} (h : v ≠ [] -> Am.look n S.heap = some (s, .cells (bC v))) (d : Nat) : S.view (d + 1) (wvA v n s) = vsB v := by
 by_cases e : v = []
 ·unfold wvA;rw [if_pos e, e];rfl
 ·rw [zlg e];exact zbv v rfl (h e)
theorem zog {S : AS} {v : List Int} {n s : Nat} (h : v ≠ [] -> Am.look n S.heap = some (s, .cells (zC v))) (d : Nat) : S.view (d + 1) (wtA true v n s) = vsI v := by
 by_cases e : v = []
 ·unfold wtA;rw [if_neg (fun h => h.2 e), e];rfl
 ·rw [zj1 e];exact zfg v rfl (h e)
theorem zxj {c : Ctl} {q : Nms} {s : Sta} {n nx ck : Nat} {l : List (Nat × AV)} {hp : List (Nat × Nat × AObj)} (h : Mc c q s ⟨hp, nx, ck⟩) : (st n l hp nx ck).view VD (.mptr q.m q.sm 0) = .vptr (cM c s) := by
 rw [show VD = (VD - 1) + 1 from rfl, view_p h.hm h.lm]
 unfold mcC cM;rw [y11];simp only [y1a, List.map_nil];rw [show VD - 1 = (VD - 2) + 1 from rfl, zoh (fun e => (h.hv e).1), zog (fun e => (h.ht e).1)]
 rfl
theorem Mc.keep {c : Ctl} {q : Nms} {s : Sta} {H H' : HS} (h : Mc c q s H) (hn : H.next <= H'.next) (hk : ∀ j, j < H.next -> Am.look j H'.heap = Am.look j H.heap) : Mc c q s H' :=
 ⟨(hk _ h.lm).trans h.hm, y0a h.lm hn, fun e => ⟨(hk _ (h.hv e).2.1).trans (h.hv e).1, y0a (h.hv e).2.1 hn, (h.hv e).2.2⟩, fun e => ⟨(hk _ (h.ht e).2.1).trans (h.ht e).1, y0a (h.ht e).2.1 hn, (h.ht e).2.2⟩, h.ne⟩
theorem Mc.new {c : Ctl} {q : Nms} {s : Sta} {hp : List (Nat × Nat × AObj)} {nx ck : Nat} (h : Mc c q s ⟨hp, nx, ck⟩) (o : Nat × AObj) (ck' : Nat) : Mc c q s ⟨(nx, o) :: hp, nx + 1, ck'⟩ :=
 h.keep (y0x _) fun _ hj => za5 hj
theorem Mc.putV {c : Ctl} {q : Nms} {s : Sta} {hp : List (Nat × Nat × AObj)} {nx ck : Nat} (h : Mc c q s ⟨hp, nx, ck⟩) {w : List Bool} (hl : w.length = s.vals.length) (he : s.vals ≠ []) : Mc c q ⟨s.en, s.va, s.inp, w, s.tms⟩ ⟨zau q.iv (q.sv, .cells (bC w)) hp, nx, ck⟩ := by
 obtain ⟨a1, a2, a3⟩ := h.hv he;refine ⟨?_, h.lm, fun _ => ⟨by rw [za0, if_pos rfl], a2, a3⟩, fun e => ?_, fun _ e => h.ne he e⟩
 ·rw [za0, if_neg a3];have : mcC c ⟨s.en, s.va, s.inp, w, s.tms⟩ q = mcC c s q := by
   unfold mcC;rw [zsy hl]
  rw [this];exact h.hm
 ·obtain ⟨b1, b2, b3⟩ := h.ht e;exact ⟨by rw [za0, if_neg (h.ne he e)]; exact b1, b2, b3⟩
theorem Mc.off {c : Ctl} {q : Nms} {s : Sta} {hp : List (Nat × Nat × AObj)} {nx ck j : Nat} {o : Nat × AObj} (h : Mc c q s ⟨hp, nx, ck⟩) (h1 : q.m ≠ j) (h2 : s.vals ≠ [] -> q.iv ≠ j) (h3 : s.tms ≠ [] -> q.it ≠ j) : Mc c q s ⟨zau j o hp, nx, ck⟩ :=
 ⟨by rw [za0, if_neg (fun e => h1 e.symm)]; exact h.hm, h.lm, fun e => ⟨by rw [za0, if_neg (fun e2 => h2 e e2.symm)]; exact (h.hv e).1, (h.hv e).2⟩, fun e => ⟨by rw [za0, if_neg (fun e2 => h3 e e2.symm)]; exact (h.ht e).1, (h.ht e).2⟩, h.ne⟩
def b52_0 : IC := sR [oM 15 (.bin .lss (.t 14) (.t 13))]
 (.seq (.cond (.t 15) (.skip)
 (.exit 0))
 (.seq (.block 1 (sR [oT 16 14,
  oM 17 (.idxs 10 (.t 12) (.t 14)),
  oL 18 10 17,
  oM 4 (.alloc [.str [], .int .i64 0, .int .i64 0, .int .i64 0, .nils, .int .i64 0, .int .i64 0, .nils, .int .i64 0, .bool false]),
  oT 3 16,
  ⟨none, .store 10 (.t 4) (.t 18), none⟩]
 (sR [oF 19 1 4,
  oN 20 19,
  oM 21 (.bin .eql (.t 20) (cI 0))]
 (.cond (.t 21) (sR [oF 22 2 4,
  oL 23 3 22,
  oT 24 2,
  oM 25 (.call (.c (.fn 55 [] [])) [(.t 23), (.t 24)]),
  oT 5 25]
 (.region [oT 26 0,
  oM 27 (.nilchk (.t 26)),
  oF 28 5 27,
  oF 29 3 28,
  oN 30 29,
  oT 31 3,
  oT 32 2,
  oT 33 0,
  oM 34 (.nilchk (.t 33)),
  oF 35 10 34,
  oN 36 35,
  oT 37 3,
  oM 38 (.bin .add (.t 36) (.t 37)),
  oT 39 5,
  oT 40 5,
  oM 41 (.idxs 1 (.t 30) (.t 31)),
  ⟨none, .store 1 (.t 41) (.t 39), none⟩,
  oM 42 (.idxs 1 (.t 32) (.t 38)),
  ⟨none, .store 1 (.t 42) (.t 40), none⟩] (some [[], [0], [1], [2], [3], [], [], [], [7], [8], [9], [], [10, 11], [], [], [4, 5, 0, 1, 2, 3, 4, 5, 10, 13], [15, 13, 0, 1, 2, 3, 4, 5, 10, 13], [6, 12, 0, 1, 2, 3, 4, 5, 6, 7, 8, 9, 10, 11, 12, 13, 14, 15, 16], [17, 14, 16, 0, 1, 2, 3, 4, 5, 6, 7, 8, 9, 10, 11, 12, 13, 14, 15, 16]])))
 (.skip)))))
 (.region [oM 43 (.bin .add (.t 14) (cI 1)),
  oT 14 43] none)))
-- (*pneumatic/settle.machine).gates
def ic52 : IC := sR [oT 6 0,
  oM 7 (.call (.c (.fn 53 [] [])) [(.t 6)]),
  oT 2 7]
 (sR [oT 8 0,
  oM 9 (.nilchk (.t 8)),
  oF 10 0 9,
  oF 11 2 10,
  oN 12 11,
  oM 13 (.len false (.t 12)),
  oM 14 (.mov (cI 0))]
 (.block 0 (.loop b52_0)))
theorem fn52 : env0.fn 52 = some ⟨44, ic52, []⟩ := by kernel_rfl
set_option maxHeartbeats 8000000 in
set_option maxRecDepth 100000 in
theorem gates52 {w0 : World} {N0 : Nat} {c : Ctl} {s : Sta} {q : Nms} (h : Ct c) (hs : Ss c s) (H : HS) (hM : Mc c q s H) : FT Tryz.prog w0 N0 52 [.mptr q.m q.sm 0] H (fun _ H' => Mc c q (zay c s) H' /\ Keep (fun j => j = q.iv) H H') := by
 have hg := ze7 c.sg;obtain ⟨k1, k2, k3, k4, k5⟩ := hs.sh;have a1 := h.a1;have a6 := h.a6;have s16 := h.s16;have i16 := h.i16;have hpl := zfr s.en s.inp;have hfs : fsC c = (ze0 s.en s.inp).length := by rw [hpl]; unfold fsC; omega
 have hfs100 : fsC c <= 100 := by unfold fsC; omega
 have p53 := zw6 (c := c) hs.toSms (by omega);have hal : zco s = ze0 s.en s.inp ++ s.vals := rfl;have hgv : (zay c s) = ⟨s.en, s.va, s.inp, gat (ze0 s.en s.inp) c.sg s.vals c.sg.length, s.tms⟩ := rfl;rw [hgv];rw [hal] at p53;generalize ze0 s.en s.inp = pre at *;have hall : (pre ++ s.vals).length = lnC c := by rw [y0o, <- hfs, k4]; rfl
 rw [hall] at p53;obtain ⟨hp0, nx0, ck0⟩ := H;refine zbr env0_ok fn52 [(0, .mptr q.m q.sm 0)] (y04 rfl) rfl ?_;unfold ic52;refine zdo ?_;refine zwi rfl (congrArg (fun x => [x]) (zxj hM)) p53 (zde _) ?_;have hM1 := hM.new (ck0, .cells (bC (pre ++ s.vals))) (ck0 + 1);refine zbf ?_;refine zaf rfl hM1.hm hM1.lm rfl ?_;refine zcb ?_;unfold vsG;refine zav (fun mm S => ∃ (i : Nat) (hp : List (Nat × Nat × AObj)) (nx ck : Nat), mm = c.sg.length - i /\ i <= c.sg.length /\ Mc c q ⟨s.en, s.va, s.inp, gat pre c.sg s.vals i, s.tms⟩ ⟨hp, nx, ck⟩ /\ Am.look nx0 hp = some (ck0, .cells (bC (pre ++ gat pre c.sg s.vals i))) /\ nx0 < nx /\ Keep (fun j => j = q.iv) ⟨hp0, nx0, ck0⟩ ⟨hp, nx, ck⟩ /\ S = st 44 [(0, .mptr q.m q.sm 0), (2, .ms nx0 ck0 1 0 (lnC c) none), (12, vsG c.sg), (13, .int .i64 (c.sg.length : Nat)), (14, .int .i64 (i : Nat))] hp nx ck) c.sg.length
  (zb2 (.cons rfl (.cons rfl (.cons rfl (.cons (by rw [<- hg]; rfl) (.cons rfl .nil)))))) ⟨0, _, _, _, rfl, y0q _, hM1, za4, y09 _, Keep.new _ ⟨hp0, nx0, ck0⟩ _, rfl⟩ ?_
 rintro mm S ⟨i, hp, nx, ck, rfl, hi, hMi, hli, hnx, hKi, rfl⟩;unfold b52_0 vsG;refine zdo ?_;refine za3 rfl rfl rfl (fun h3 => ?_) fun h3 => ?_
 ·have hlt : i < c.sg.length := y1r.1 (of_decide_eq_true h3);have hge := zdn hlt;have hon := zhr (h.on i hlt);have hgs : gat pre c.sg s.vals (i + 1) = if (sgA c.sg i).kd = 0 then (gat pre c.sg s.vals i).set i (zae (pre ++ gat pre c.sg s.vals i) (sgA c.sg i).on) else gat pre c.sg s.vals i := rfl
  have hgl := zds pre c.sg s.vals i;have w1 := za9 i (by omega);have w2 : IntKind.wrap .i64 (((fsC c : Nat) : Int) + (i : Nat)) = ((fsC c + i : Nat) : Int) := by rw [zbe _ (by omega) (by omega)]; omega
  generalize gat pre c.sg s.vals i = v at *;generalize sgA c.sg i = x at *;have hvl : (pre ++ v).length = lnC c := by rw [y0o, hgl, <- hfs, k4]; rfl
  have hvne : v ≠ [] := fun e => by rw [e] at hgl; simp at hgl; omega
  have pev := zr0 (pre ++ v) _ x.on (y08 _) (by rw [hvl]; exact hon);rw [zif] at pev;have hM2 := hMi.new (ck, .cells (setAt 0 z10 (List.take 10 (c10 x)))) (ck + 1);have hl2 : Am.look nx0 ((nx, ck, AObj.cells (setAt 0 z10 (List.take 10 (c10 x)))) :: hp) = some (ck0, .cells (bC (pre ++ v))) := (za5 hnx).trans hli;refine zbb ?_;refine zaj rfl rfl rfl rfl za4 rfl rfl ?_;rw [zbz];refine zlo ?_;refine zaf rfl za4 (y09 _) rfl ?_;refine za3 rfl rfl rfl (fun h4 => ?_) fun h4 => ?_
  ·have h4 : x.kd = 0 := by simpa using h4
   rw [if_pos h4] at hgs;refine zlo ?_;refine zb9 rfl za4 (y09 _) rfl rfl ?_;repeat (first | refine zan rfl ?_)
   refine zak rfl (by show [_, AS.view _ VD (.ms nx0 ck0 1 0 (lnC c) none)] = _; rw [show VD = (VD - 1) + 1 from rfl, zbv (pre ++ v) hvl hl2]; rfl) pev (fun _ => rfl) ?_
   refine zbf ?_;refine zaf rfl hM2.hm hM2.lm rfl ?_;show Om _ _ _ _ _ _ (st _ ((30, wvA v q.iv q.sv) :: _) _ _ _) _ _;rw [zlg hvne];refine zbf ?_;refine zaf rfl hM2.hm hM2.lm rfl ?_;refine zbf ?_;have ez : ∀ o : Nat, 0 + ((o : Nat) : Int).toNat * 1 = o := fun o => by simp
   rw [ez, w2];obtain ⟨v1, v2, v3⟩ := hM2.hv hvne;have v1 : Am.look q.iv ((nx, ck, AObj.cells (setAt 0 z10 (List.take 10 (c10 x)))) :: hp) = some (q.sv, .cells (bC v)) := v1;have hM3 := hM2.putV (w := v.set i (zae (pre ++ v) x.on)) (y1t ..) hvne;refine zcv (id := q.iv) (sp := q.sv) (off := i) (cs := bC v) rfl rfl rfl v1 (by rw [zdf]; omega) rfl ?_;rw [zj4];refine zgd rfl rfl (y0z _) (by unfold lnC; omega) ?_;rw [ez];have hvn0 : q.iv ≠ nx0 := fun e => absurd (hM.hv (fun e2 => by rw [e2] at k4; simp at k4; omega)).2.1 (by rw [e]; exact y23 _);refine zcv (id := nx0) (sp := ck0) (off := fsC c + i) (cs := bC (pre ++ v)) rfl rfl rfl (by rw [za0, if_neg hvn0]; exact hl2) (by rw [zdf]; unfold lnC at hvl; omega) rfl ?_;have hM4 := hM3.off (j := nx0) (o := (ck0, AObj.cells (bC (pre ++ v.set i (zae (pre ++ v) x.on))))) (fun e => absurd hM.lm (by rw [e]; exact y23 _)) (fun _ => hvn0) (fun e e2 => absurd (hM.ht e).2.1 (by rw [e2]; exact y23 _));rw [zj4, hfs, zwn];rw [<- hgs] at hM4 ⊢;refine zbd ?_;rw [w1];refine zad (show c.sg.length - (i + 1) < c.sg.length - i by omega) skp ⟨i + 1, _, _, _, rfl, hlt, hM4, by rw [za0, if_pos rfl], y1c hnx, ⟨Nat.le_succ_of_le hKi.next, Nat.le_succ_of_le hKi.clk, fun j hj hlt => ?_⟩, rfl⟩
   have hlt : j < nx0 := hlt;show Am.look j (zau nx0 _ (zau q.iv _ _)) = Am.look j hp0;rw [za0, if_neg (by omega), za0, if_neg (fun e => hj e.symm), za5 (by omega)];exact hKi.look j hj hlt
  ·have h4 : ¬ x.kd = 0 := by simpa using h4
   rw [if_neg h4] at hgs;refine zbd ?_;rw [w1];rw [<- hgs] at hM2 hl2;exact zad (show c.sg.length - (i + 1) < c.sg.length - i by omega) skp ⟨i + 1, _, _, _, rfl, hlt, hM2, hl2, y1c hnx, hKi.trans (Keep.new _ ⟨hp, nx, ck⟩ _), rfl⟩
 ·have hie : i = c.sg.length := by
   have h4 : ¬ ((i : Nat) : Int) < (c.sg.length : Nat) := of_decide_eq_false h3;omega
  subst hie;refine zbb ?_;refine zbp ?_;repeat (first | refine zer ?_)
  exact zab ⟨.inl rfl, _, rfl, hMi, hKi⟩
def ArB (v : List Bool) (w : AV) (hp : List (Nat × Nat × AObj)) (nx : Nat) : Prop :=
 w = vsB v \/ (v ≠ [] /\ ∃ id sp, w = .ms id sp 1 0 v.length none /\ Am.look id hp = some (sp, .cells (bC v)) /\ id < nx)
def ArI (v : List Int) (w : AV) (hp : List (Nat × Nat × AObj)) (nx : Nat) : Prop :=
 w = vsI v \/ (v ≠ [] /\ ∃ id sp, w = .ms id sp 1 0 v.length none /\ Am.look id hp = some (sp, .cells (zC v)) /\ id < nx)
theorem ArB.view {v : List Bool} {w : AV} {hp0 hp : List (Nat × Nat × AObj)} {nx0 n nx ck : Nat} (h : ArB v w hp0 nx0) (hk : ∀ j, j < nx0 -> Am.look j hp = Am.look j hp0) (l : List (Nat × AV)) (d : Nat) : (st n l hp nx ck).view (d + 1) w = vsB v := by
 rcases h with rfl | ⟨_, id, sp, rfl, hl, hid⟩
 ·rfl
 ·exact zbv v rfl ((hk id hid).trans hl)
theorem ArI.view {v : List Int} {w : AV} {hp0 hp : List (Nat × Nat × AObj)} {nx0 n nx ck : Nat} (h : ArI v w hp0 nx0) (hk : ∀ j, j < nx0 -> Am.look j hp = Am.look j hp0) (l : List (Nat × AV)) (d : Nat) : (st n l hp nx ck).view (d + 1) w = vsI v := by
 rcases h with rfl | ⟨_, id, sp, rfl, hl, hid⟩
 ·rfl
 ·exact zfg v rfl ((hk id hid).trans hl)
theorem ArB.noM {v : List Bool} {w : AV} {hp : List (Nat × Nat × AObj)} {nx : Nat} (h : ArB v w hp nx) (e : v = []) : hasM w = false := by
 rcases h with rfl | ⟨hn, _⟩
 ·rfl
 ·exact absurd e hn
theorem ArI.noM {v : List Int} {w : AV} {hp : List (Nat × Nat × AObj)} {nx : Nat} (h : ArI v w hp nx) (e : v = []) : hasM w = false := by
 rcases h with rfl | ⟨hn, _⟩
 ·rfl
 ·exact absurd e hn
theorem ArB.cell {v : List Bool} {w : AV} {hp : List (Nat × Nat × AObj)} {nx : Nat} (h : ArB v w hp nx) : w.cells? = some [w] := by
 rcases h with rfl | ⟨_, id, sp, rfl, _, _⟩ <;> rfl
theorem ArI.cell {v : List Int} {w : AV} {hp : List (Nat × Nat × AObj)} {nx : Nat} (h : ArI v w hp nx) : w.cells? = some [w] := by
 rcases h with rfl | ⟨_, id, sp, rfl, _, _⟩ <;> rfl
theorem ArB.new {v : List Bool} {w : AV} {hp : List (Nat × Nat × AObj)} {nx : Nat} (h : ArB v w hp nx) (o : Nat × AObj) : ArB v w ((nx, o) :: hp) (nx + 1) := by
 rcases h with h | ⟨hn, id, sp, e, hl, hid⟩
 ·exact .inl h
 ·exact .inr ⟨hn, id, sp, e, (za5 hid).trans hl, y1c hid⟩
theorem ArI.new {v : List Int} {w : AV} {hp : List (Nat × Nat × AObj)} {nx : Nat} (h : ArI v w hp nx) (o : Nat × AObj) : ArI v w ((nx, o) :: hp) (nx + 1) := by
 rcases h with h | ⟨hn, id, sp, e, hl, hid⟩
 ·exact .inl h
 ·exact .inr ⟨hn, id, sp, e, (za5 hid).trans hl, y1c hid⟩
def rgC2 (bx sb : Nat) (wv wt : AV) (s : Sta) : Reg where
 m := 16
 dst := fun j => j + 3
 qv := fun j => match j with
  | 0 => some fun _ _ => .mptr bx sb (0 + 0)
  | 1 => some fun _ _ => vsI s.en
  | 2 => some fun _ _ => vsI s.en
  | 3 => some fun _ _ => .mptr bx sb (0 + 1)
  | 4 => some fun _ _ => vsB s.va
  | 5 => some fun _ _ => vsB s.va
  | 6 => some fun _ _ => .mptr bx sb (0 + 2)
  | 7 => some fun _ _ => vsB s.inp
  | 8 => some fun _ _ => vsB s.inp
  | 9 => some fun _ _ => .mptr bx sb (0 + 3)
  | 10 => some fun _ _ => wv
  | 11 => if s.vals = [] then some fun _ _ => vsB [] else none
  | 12 => some fun _ _ => .mptr bx sb (0 + 4)
  | 13 => some fun _ _ => wt
  | 14 => if s.tms = [] then some fun _ _ => vsI [] else none
  | 15 => some fun nm sm => .agg [vsI s.en, vsB s.va, vsB s.inp, wvA s.vals (nm 11) (sm 11), wtA true s.tms (nm 14) (sm 14)]
  | _ => none
 lw := fun j n q => match j with | 11 => .ms n q 1 0 s.vals.length none | 14 => .ms n q 1 0 s.tms.length none | _ => .mptr n q 0
 lc := fun j => match j with | 11 => bC s.vals | 14 => zC s.tms | _ => zda
section
variable {bx sb : Nat} {wv wt : AV} {s : Sta} {base : List (Nat × AV)} {b : Nat} {old : Nat -> Option (Nat × AObj)} {D : List Nat} {l : List (Nat × AV)} {hp : List (Nat × Nat × AObj)} {nx : Nat} {nm sm : Nat -> Nat}
theorem c2V (hK : Kr (rgC2 bx sb wv wt s) base b old D l hp nx nm sm) (h : 11 ∈ D) : zac 14 l = some (wvA s.vals (nm 11) (sm 11)) := by
 unfold wvA;by_cases hv : s.vals = []
 ·rw [if_pos hv];exact hK.q 11 _ h (if_pos hv)
 ·rw [if_neg hv];exact hK.lv 11 h (if_neg hv)
theorem c2T (hK : Kr (rgC2 bx sb wv wt s) base b old D l hp nx nm sm) (h : 14 ∈ D) : zac 17 l = some (wtA true s.tms (nm 14) (sm 14)) := by
 unfold wtA;by_cases hv : s.tms = []
 ·rw [if_neg (fun e => e.2 hv), hv];exact hK.q 14 _ h (if_pos hv)
 ·rw [if_pos ⟨rfl, hv⟩];exact hK.lv 14 h (if_neg hv)
end
theorem zo7 {S : AS} {a k : Nat} {p : AV} {cs : List AV} (h1 : S.get a = some p) (d1 : S.deref p = some cs) (hk : k <= cs.length) : S.res [.cell a (some k)] = some (.agg (cs.take k)) := by
 simp only [AS.res, AS.resL, zql, h1, d1, if_pos hk];rfl
structure Kp (M : Nat -> Prop) (H H' : HS) : Prop where
 next : H.next <= H'.next
 look : ∀ i, ¬ M i -> i < H.next -> Am.look i H'.heap = Am.look i H.heap
theorem Keep.kp {M : Nat -> Prop} {H H' : HS} (h : Keep M H H') : Kp M H H' := ⟨h.next, h.look⟩
theorem Kp.refl (M : Nat -> Prop) (H : HS) : Kp M H H := ⟨y08 _, fun _ _ _ => rfl⟩
theorem Kp.trans {M : Nat -> Prop} {H H' H'' : HS} (h : Kp M H H') (k : Kp M H' H'') : Kp M H H'' :=
 ⟨y0s h.next k.next, fun i hm hi => (k.look i hm (y0a hi h.next)).trans (h.look i hm hi)⟩
theorem Kp.new (M : Nat -> Prop) (H : HS) (o : Nat × AObj) (ck : Nat) : Kp M H ⟨(H.next, o) :: H.heap, H.next + 1, ck⟩ :=
 ⟨y0x _, fun _ _ hi => za5 hi⟩
structure Cp (s : Sta) (n1 s1 n2 s2 : Nat) (H H' : HS) : Prop where
 hv : s.vals ≠ [] -> Am.look n1 H'.heap = some (s1, .cells (bC s.vals)) /\ H.next <= n1 /\ n1 < H'.next
 ht : s.tms ≠ [] -> Am.look n2 H'.heap = some (s2, .cells (zC s.tms)) /\ H.next <= n2 /\ n2 < H'.next
 ne : s.vals ≠ [] -> s.tms ≠ [] -> n1 ≠ n2
 kp : Kp (fun _ => False) H H'
set_option maxHeartbeats 4000000 in
set_option maxRecDepth 100000 in
theorem zoy {w0 : World} {N0 : Nat} {s : Sta} {wv wt : AV} (hs : Shs s) (H : HS) (hwv0 : ArB s.vals wv H.heap H.next) (hwt0 : ArI s.tms wt H.heap H.next) :
  FT Tryz.prog w0 N0 39 [.agg [vsI s.en, vsB s.va, vsB s.inp, wv, wt]] H (fun v H' => ∃ n1 s1 n2 s2, v = .agg [vsI s.en, vsB s.va, vsB s.inp, wvA s.vals n1 s1, wtA true s.tms n2 s2] /\ Cp s n1 s1 n2 s2 H H') := by
 obtain ⟨hp, nx, ck⟩ := H;refine zbr env0_ok fn39 [(0, .agg [vsI s.en, vsB s.va, vsB s.inp, wv, wt])] (y04 rfl) rfl ?_;unfold ic39;refine zsr rfl (zcs rfl rfl (zc1 (onu ?_)));have hwv := (hwv0.new (ck, .cells [vsI s.en, vsB s.va, vsB s.inp, wv, wt])).new (ck + 1, .cells zda);have hwt := (hwt0.new (ck, .cells [vsI s.en, vsB s.va, vsB s.inp, wv, wt])).new (ck + 1, .cells zda);have hlb : Am.look nx ((nx + 1, ck + 1, AObj.cells zda) :: (nx, ck, .cells [vsI s.en, vsB s.va, vsB s.inp, wv, wt]) :: hp) = some (ck, .cells [vsI s.en, vsB s.va, vsB s.inp, wv, wt]) := (za5 (y09 _)).trans za4;have hlr : Am.look (nx + 1) ((nx + 1, ck + 1, AObj.cells zda) :: (nx, ck, .cells [vsI s.en, vsB s.va, vsB s.inp, wv, wt]) :: hp) = some (ck + 1, .cells zda) := za4;have hold : ∀ j, j < nx -> Am.look j ((nx + 1, ck + 1, AObj.cells zda) :: (nx, ck, .cells [vsI s.en, vsB s.va, vsB s.inp, wv, wt]) :: hp) = Am.look j hp := fun j hj => (za5 (by show j < nx + 1; omega)).trans (za5 hj)
 show Zm _ _ _ _ _ (st 19 [(2, .mptr (nx + 1) (ck + 1) 0), (1, .mptr nx ck 0), (0, _)] ((nx + 1, ck + 1, AObj.cells zda) :: (nx, ck, .cells [vsI s.en, vsB s.va, vsB s.inp, wv, wt]) :: hp) _ _) _ _;generalize ((nx + 1, ck + 1, AObj.cells zda) :: (nx, ck, .cells [vsI s.en, vsB s.va, vsB s.inp, wv, wt]) :: hp) = hp1 at *;refine zb3 (zlr env0_ok.mix fun rd => ?_);have hbx : nx < nx + 1 + 1 := by omega
 refine zn3 (rgC2 nx ck wv wt s) [(1, .mptr nx ck 0), (2, .mptr (nx + 1) (ck + 1) 0)] (fun j S => ∃ l hp nx3 ck3 n1 s1 n2 s2, S = st 19 l hp nx3 ck3 /\ zac 2 l = some (.mptr (nx + 1) (ck + 1) 0) /\ nx + 1 < nx3 /\ (∀ j, j < nx -> Am.look j hp = Am.look j hp1) /\ (j = 16 -> Am.look (nx + 1) hp = some (ck + 1, .cells zda) /\ zac 18 l = some (.agg [vsI s.en, vsB s.va, vsB s.inp, wvA s.vals n1 s1, wtA true s.tms n2 s2])) /\ (j = 17 -> Am.look (nx + 1) hp = some (ck + 1, .cells [vsI s.en, vsB s.va, vsB s.inp, wvA s.vals n1 s1, wtA true s.tms n2 s2])) /\
   (s.vals ≠ [] -> Am.look n1 hp = some (s1, .cells (bC s.vals)) /\ nx + 1 < n1 /\ n1 < nx3) /\ (s.tms ≠ [] -> Am.look n2 hp = some (s2, .cells (zC s.tms)) /\ nx + 1 < n2 /\ n2 < nx3) /\ (s.vals ≠ [] -> s.tms ≠ [] -> n1 ≠ n2)) 17 rfl rfl ?_ ?_ ?_ ?_ ?_ ?_
 ·intro t v ht;rcases y0d.1 ht with e | ht
  ·cases e; rfl
  ·cases y0j.1 ht; rfl
 ·intro j f e nm sm nm' sm' hp;unfold rgC2 at e;dsimp only at e;split at e;all_goals first
   | (cases e; rfl)
   | (cases e; done)
   | (
     split at e
     ·cases e; try rfl
     ·cases e; try rfl)
   | (
     cases e;have a := hp 11 (by decide);have b := hp 14 (by decide);show AV.agg [vsI s.en, vsB s.va, vsB s.inp, wvA s.vals (nm 11) (sm 11), wtA _ s.tms (nm 14) (sm 14)] = AV.agg [vsI s.en, vsB s.va, vsB s.inp, wvA s.vals (nm' 11) (sm' 11), wtA _ s.tms (nm' 14) (sm' 14)];rw [a.1, a.2, b.1, b.2])
 ·intro j hj n1 D l hp' nx' ck' nm sm hK hp;have hj : j < 16 := hj
  match j, hj with
   | 0, _ => exact fun go => za7 rfl rfl (zao (hK.bs 1 _ (y01 ..))) go
   | 1, _ => exact fun go => za7 rfl rfl (zbc (hK.q 0 _ (hp 0 (y01 ..)) rfl) ((hK.ol nx hbx).trans hlb) (y0a hbx hK.bx) rfl) go
   | 2, _ => exact fun go => ze3 rfl rfl (zdd (hK.q 1 _ (hp 1 (y01 ..)) rfl)) rfl (zn9 s.en (by have := hs.e; omega)) noC (fun m hm => absurd hm y07) go
   | 3, _ => exact fun go => za7 rfl rfl (zao (hK.bs 1 _ (y01 ..))) go
   | 4, _ => exact fun go => za7 rfl rfl (zbc (hK.q 3 _ (hp 3 (y01 ..)) rfl) ((hK.ol nx hbx).trans hlb) (y0a hbx hK.bx) rfl) go
   | 5, _ => exact fun go => ze3 rfl rfl (zdd (hK.q 4 _ (hp 4 (y01 ..)) rfl)) rfl (zih s.va (by have := hs.v; omega)) noC (fun m hm => absurd hm y07) go
   | 6, _ => exact fun go => za7 rfl rfl (zao (hK.bs 1 _ (y01 ..))) go
   | 7, _ => exact fun go => za7 rfl rfl (zbc (hK.q 6 _ (hp 6 (y01 ..)) rfl) ((hK.ol nx hbx).trans hlb) (y0a hbx hK.bx) rfl) go
   | 8, _ => exact fun go => ze3 rfl rfl (zdd (hK.q 7 _ (hp 7 (y01 ..)) rfl)) rfl (zih s.inp (by have := hs.i; omega)) noC (fun m hm => absurd hm y07) go
   | 9, _ => exact fun go => za7 rfl rfl (zao (hK.bs 1 _ (y01 ..))) go
   | 10, _ => exact fun go => za7 rfl rfl (zbc (hK.q 9 _ (hp 9 (y01 ..)) rfl) ((hK.ol nx hbx).trans hlb) (y0a hbx hK.bx) rfl) go
   | 11, _ =>
    by_cases hv : s.vals = []
    ·rw [show (rgC2 nx ck wv wt s).qv 11 = some (fun _ _ => vsB []) from if_pos hv]
     exact fun go => ze3 rfl rfl (zdd (hK.q 10 _ (hp 10 (y01 ..)) rfl)) (congrArg (fun x => [x]) (hwv.view hK.ol _ (VD - 1))) (by have := zih s.vals (by have := hs.b; omega); rw [hv] at this ⊢; exact this) (fun h => absurd h (by show ¬ (hasM wv || false) = true; rw [hwv.noM hv]; exact y21)) (fun m hm => absurd hm y07) go
    ·rw [show (rgC2 nx ck wv wt s).qv 11 = none from if_neg hv]
     exact fun go => zj2 rfl rfl (zdd (hK.q 10 _ (hp 10 (y01 ..)) rfl)) (congrArg (fun x => [x]) (hwv.view hK.ol _ (VD - 1))) (znb s.vals hv (by have := hs.b; omega)) (zde _) go
   | 12, _ => exact fun go => za7 rfl rfl (zao (hK.bs 1 _ (y01 ..))) go
   | 13, _ => exact fun go => za7 rfl rfl (zbc (hK.q 12 _ (hp 12 (y01 ..)) rfl) ((hK.ol nx hbx).trans hlb) (y0a hbx hK.bx) rfl) go
   | 14, _ =>
    by_cases hv : s.tms = []
    ·rw [show (rgC2 nx ck wv wt s).qv 14 = some (fun _ _ => vsI []) from if_pos hv]
     exact fun go => ze3 rfl rfl (zdd (hK.q 13 _ (hp 13 (y01 ..)) rfl)) (congrArg (fun x => [x]) (hwt.view hK.ol _ (VD - 1))) (by have := zn9 s.tms (by have := hs.t; omega); rw [hv] at this ⊢; exact this) (fun h => absurd h (by show ¬ (hasM wt || false) = true; rw [hwt.noM hv]; exact y21)) (fun m hm => absurd hm y07) go
    ·rw [show (rgC2 nx ck wv wt s).qv 14 = none from if_neg hv]
     exact fun go => zj2 rfl rfl (zdd (hK.q 13 _ (hp 13 (y01 ..)) rfl)) (congrArg (fun x => [x]) (hwt.view hK.ol _ (VD - 1))) (zna s.tms hv (by have := hs.t; omega)) (zf9 _) go
   | 15, _ => exact fun go => za7 rfl rfl (zh6 (zo2 (hK.q 2 _ (hp 2 (y01 ..)) rfl) (hK.q 5 _ (hp 5 (me 1 rfl)) rfl) (hK.q 8 _ (hp 8 (me 2 rfl)) rfl) (c2V hK (hp 11 (me 3 rfl))) (c2T hK (hp 14 (me 4 rfl)))) (fill5 rfl rfl rfl (zok _ _ _) (zoj _ _ _ _))) go
   | j + 16, h => exact absurd h (by omega)
 ·intro l hp' nx' ck' nm sm hK;have m : ∀ j, j < 16 -> j ∈ List.range 16 := fun j hj => y0n.2 hj;have q11 : s.vals ≠ [] -> (rgC2 nx ck wv wt s).qv 11 = none := fun hv => if_neg hv;have q14 : s.tms ≠ [] -> (rgC2 nx ck wv wt s).qv 14 = none := fun hv => if_neg hv;exact ⟨l, hp', nx', ck', nm 11, sm 11, nm 14, sm 14, rfl, hK.bs 2 _ (me 1 rfl), hK.bx, fun j hj => hK.ol j (by show j < nx + 1 + 1; omega), fun _ => ⟨(hK.ol _ (y09 _)).trans hlr, hK.q 15 _ (m 15 (by decide)) rfl⟩, fun h => absurd h (by show ¬ 16 = 17; decide),
   fun hv => by obtain ⟨b1, b2, b3⟩ := hK.lh 11 (m 11 (by decide)) (q11 hv); exact ⟨b1, b2, b3⟩, fun hv => by obtain ⟨b1, b2, b3⟩ := hK.lh 14 (m 14 (by decide)) (q14 hv); exact ⟨b1, b2, b3⟩, fun h1 h2 e => absurd (hK.ij 11 14 (m 11 (by decide)) (m 14 (by decide)) (q11 h1) (q14 h2) e) (by decide)⟩
 ·rintro j h1 h2 S ⟨l, hp', nx3, ck3, n1, s1, n2, s2, rfl, a2, hn3, ho, k5, _, kv, kt, kn⟩ m1 D go;have h1 : 16 <= j := h1;obtain rfl : j = 16 := by omega
  obtain ⟨k5, q5⟩ := k5 rfl;refine zg4 rfl (ze4 a2 q5 rfl rfl k5 rfl ?_) (go _ ⟨l, _, _, _, n1, s1, n2, s2, rfl, a2, hn3, fun j hj => ?_, fun h => absurd h (by decide), fun _ => ?_, fun hv => ⟨?_, (kv hv).2⟩, fun hv => ⟨?_, (kt hv).2⟩, kn⟩)
  ·show ([vsI s.en, vsB s.va, vsB s.inp, wvA s.vals n1 s1, wtA true s.tms n2 s2] : List AV).all AV.isCell = true;simp only [y1h, y2h, zfi, zgu];rfl
  ·rw [za0, if_neg (by omega)]; exact ho j hj
  ·rw [za0, if_pos rfl]; rfl
  ·rw [za0, if_neg (by have := (kv hv).2.1; omega)]; exact (kv hv).1
  ·rw [za0, if_neg (by have := (kt hv).2.1; omega)]; exact (kt hv).1
 ·rintro S ⟨l, hp', nx3, ck3, n1, s1, n2, s2, rfl, a2, hn3, ho, _, k5, kv, kt, kn⟩;have k5 := k5 rfl;refine Um.ok ?_;refine zaw (zbu ?_);refine zab ⟨.inr rfl, _, ?_, n1, s1, n2, s2, rfl, ?_⟩
  ·refine (congrArg some (show AV.agg [vsI s.en, vsB s.va, vsB s.inp, wvA s.vals n1 s1, wtA true s.tms n2 s2] = .agg (List.take 5 [vsI s.en, vsB s.va, vsB s.inp, wvA s.vals n1 s1, wtA true s.tms n2 s2]) from rfl)).symm ▸ zo7 ((zc3 2).trans a2) (zc5 (sp := ck + 1) (cs := [vsI s.en, vsB s.va, vsB s.inp, wvA s.vals n1 s1, wtA true s.tms n2 s2]) k5 hn3) (y08 _)
  ·exact ⟨fun hv => ⟨(kv hv).1, by have := (kv hv).2.1; show nx <= n1; omega, (kv hv).2.2⟩, fun hv => ⟨(kt hv).1, by have := (kt hv).2.1; show nx <= n2; omega, (kt hv).2.2⟩, kn, ⟨by show nx <= nx3; omega, fun j _ hj => (ho j hj).trans (hold j hj)⟩⟩
section
variable {P : Program} {w0 : World} {N0 : Nat} {rd : Option (Nat × Nat)} {ios : List Opr} {pres : List (List Nat)} {K : AS -> Prop} {n nn nx ck nx' ck' i : Nat} {D : List Nat} {l : List (Nat × AV)} {hp hp' : List (Nat × Nat × AObj)}
theorem zoi {d : Option Nat} {op : IOp} {g : Nat} {b x : Bool} (hg : zac g l = some (.bool x)) : zag (st nn l hp nx ck) ⟨d, op, some (g, b)⟩ = some (x == b) := by simp [zag, zc3, hg]
theorem zn1 {d : Nat} {op : IOp} {g : Nat} {b x : Bool} (hio : ios[i]? = some ⟨some d, op, some (g, b)⟩) (hd : zcc nn (some d) = true) (hg : zac g l = some (.bool x)) (hx : (x == b) = false) (go : AnyF P w0 N0 rd ios pres n (i :: D) (st nn ((d, .tup []) :: l) hp nx ck) K) : StF P w0 N0 rd ios pres n D (st nn l hp nx ck) K i := fun io h => by
 rw [hio] at h;injection h with h;subst h;exact ⟨hd, .inl ⟨by rw [zoi hg, hx], go⟩⟩
theorem zu9 {d : Nat} {op : IOp} {v : AV} {g : Nat} {b x : Bool} (hio : ios[i]? = some ⟨some d, op, some (g, b)⟩) (hd : zcc nn (some d) = true) (hg : zac g l = some (.bool x)) (hx : (x == b) = true) (hi : iop (st nn l hp nx ck) op = some (v, st nn l hp' nx' ck')) (go : AnyF P w0 N0 rd ios pres n (i :: D) (st nn ((d, v) :: l) hp' nx' ck') K) : StF P w0 N0 rd ios pres n D (st nn l hp nx ck) K i := fun io h => by
 rw [hio] at h;injection h with h;subst h;exact ⟨hd, .inr ⟨by rw [zoi hg, hx], _, zlt hi, fun S1 v1 ⟨e1, e2⟩ => by subst e1 e2; exact ⟨hd, go⟩⟩⟩
theorem zn0 {d : Nat} {f : FuncId} {fa : Arg} {args : List Arg} {vs xs : List AV} {v : AV} {gd : Option (Nat × Bool)} (hio : ios[i]? = some ⟨some d, .call fa args, gd⟩) (hd : zcc nn (some d) = true) (hw : zag (st nn l hp nx ck) ⟨some d, .call fa args, gd⟩ = some true) (hf : zas fa l = some (.fn f [] [])) (ha : zeh args l = some vs) (hv : vs.map ((st nn l hp nx ck).view VD) = xs) (hpf : PF P f xs v) (hfl : hasM.hasML vs = true -> flat v = true)
  (go : AnyF P w0 N0 rd ios pres n (i :: D) (st nn ((d, v) :: l) hp nx ck) K) : StF P w0 N0 rd ios pres n D (st nn l hp nx ck) K i := fun io h => by
 rw [hio] at h;injection h with h;subst h;refine ⟨hd, .inr ⟨hw, ?_⟩⟩;have hc : WpCall P w0 N0 (st nn l hp nx ck) (.fn f [] []) vs fun v' S' => v' = v /\ S' = st nn l hp nx ck := zfv (by rw [y29, y0u, hv]; exact hpf) (by rw [y29, y0u]; exact hfl) (fun m hm => absurd hm y07) ⟨rfl, rfl⟩;obtain ⟨Fk, hct, hk⟩ := hc.ok;refine ⟨fun S2 v2 => ∃ H, Fk v2 H /\ S2 = (st nn l hp nx ck).withH H, zjy rfl ((zai fa).trans hf) ((zf5 args).trans ha) hct fun v H hF => (hk v H hF).1, fun S1 v1 ⟨H, hF, e⟩ => ?_⟩;subst e;obtain ⟨_, rfl, e2⟩ := hk v1 H hF;rw [e2];exact ⟨hd, go⟩
end
def befs (pres : List (List Nat)) : Nat -> List Nat -> List Nat
 | 0, S => S
 | j + 1, S => befs pres j (if S.any (Nat.beq j) then S ++ pres.getD j [] else S)
theorem zn5 {pres : List (List Nat)} {D : List Nat} (hD : ∀ j ∈ D, ∀ p ∈ pres.getD j [], p ∈ D) : ∀ (n : Nat) (S : List Nat), (∀ p ∈ S, p ∈ D) -> ∀ p ∈ befs pres n S, p ∈ D
 | 0, S, h => h
 | j + 1, S, h => by
  unfold befs;refine zn5 hD j _ ?_;split
  ·rename_i e;rw [y2e] at e;obtain ⟨q, hq, e⟩ := e;have e := zfx.1 e;subst e;intro p hp;rcases y1s.1 hp with hp | hp
   ·exact h p hp
   ·exact hD _ (h _ hq) p hp
  ·exact h
inductive RK where
 | c (f : (Nat -> Nat -> Nat) -> AV)
 | l
 | s
structure RegC where
 m : Nat
 dst : Nat -> Nat
 qv : Nat -> RK
 lw : Nat -> (Nat -> Nat) -> AV
 tl : Nat -> (Nat -> Nat) -> List (Nat × Nat × AObj) -> Nat -> Nat -> Prop
 st : ∀ i x hp hp' lo hi, tl i x hp lo hi -> (∀ j, j < hi -> Am.look j hp' = Am.look j hp) -> tl i x hp' lo hi
structure KrC (R : RegC) (base : List (Nat × AV)) (b : Nat) (old : Nat -> Option (Nat × AObj)) (D : List Nat) (l : List (Nat × AV)) (hp : List (Nat × Nat × AObj)) (nx : Nat) (nm : Nat -> Nat -> Nat) (lo hi : Nat -> Nat) : Prop where
 bs : ∀ t v, (t, v) ∈ base -> zac t l = some v
 bx : b <= nx
 ol : ∀ j, j < b -> Am.look j hp = old j
 q : ∀ i f, i ∈ D -> R.qv i = .c f -> zac (R.dst i) l = some (f nm)
 lv : ∀ i, i ∈ D -> R.qv i = .l -> zac (R.dst i) l = some (R.lw i (nm i))
 lh : ∀ i, i ∈ D -> R.qv i = .l -> R.tl i (nm i) hp (lo i) (hi i) /\ b <= lo i /\ hi i <= nx
 ij : ∀ i j, i ∈ D -> j ∈ D -> R.qv i = .l -> R.qv j = .l -> i ≠ j -> hi i <= lo j \/ hi j <= lo i
def updT {α : Type} (f : Nat -> α) (i : Nat) (x : α) : Nat -> α := fun j => if j = i then x else f j
theorem zgj {α : Type} (f : Nat -> α) (i : Nat) (x : α) : updT f i x i = x := if_pos rfl
theorem zcw {α : Type} {f : Nat -> α} {i j : Nat} {x : α} (h : j ≠ i) : updT f i x j = f j := if_neg h
theorem zud {P : Program} {w0 : World} {N0 : Nat} {rd : Option (Nat × Nat)} {ios : List Opr} {pres : List (List Nat)} {K : AS -> Prop} {n nx0 ck0 : Nat} {l0 : List (Nat × AV)} {hp0 : List (Nat × Nat × AObj)} (R : RegC) (base : List (Nat × AV))
  (Z : Nat -> AS -> Prop) (hm : R.m < ios.length) (hp : ∀ i < ios.length, ∀ p ∈ pres.getD i [], p < i) (hlast : ∀ i, R.m <= i -> i < ios.length -> ∀ D : List Nat, (∀ j ∈ D, ∀ p ∈ pres.getD j [], p ∈ D) -> (∀ p ∈ pres.getD i [], p ∈ D) -> ∀ p < i, p ∈ D)
  (hdst : ∀ i < R.m, ∀ j < R.m, R.dst i = R.dst j -> i = j) (hbase : ∀ t v, (t, v) ∈ base -> ∀ i < R.m, R.dst i ≠ t) (hb0 : ∀ t v, (t, v) ∈ base -> zac t l0 = some v)
  (hq : ∀ i f, R.qv i = .c f -> ∀ nm nm' : Nat -> Nat -> Nat, (∀ p ∈ befs pres i (pres.getD i []), nm p = nm' p) -> f nm = f nm')
  (hop : ∀ i < R.m, ∀ n1 D l hp nx ck nm lo hi, KrC R base nx0 (fun j => Am.look j hp0) D l hp nx nm lo hi -> (∀ p ∈ pres.getD i [], p ∈ D) ->
   match R.qv i with
   | .c f => AnyF P w0 N0 rd ios pres n1 (i :: D) (st n ((R.dst i, f nm) :: l) hp nx ck) K -> StF P w0 N0 rd ios pres n1 D (st n l hp nx ck) K i
   | .s => AnyF P w0 N0 rd ios pres n1 (i :: D) (st n l hp nx ck) K -> StF P w0 N0 rd ios pres n1 D (st n l hp nx ck) K i
   | .l => (∀ x hp' nx' ck', nx <= nx' -> (∀ j, j < nx -> Am.look j hp' = Am.look j hp) -> R.tl i x hp' nx nx' -> AnyF P w0 N0 rd ios pres n1 (i :: D) (st n ((R.dst i, R.lw i x) :: l) hp' nx' ck') K) -> StF P w0 N0 rd ios pres n1 D (st n l hp nx ck) K i)
  (hZ : ∀ l hp nx ck nm lo hi, KrC R base nx0 (fun j => Am.look j hp0) (List.range R.m) l hp nx nm lo hi -> Z R.m (st n l hp nx ck))
  (hlops : ∀ j, R.m <= j -> j < ios.length -> ∀ S, Z j S -> ∀ n1 D, (∀ S', Z (j + 1) S' -> AnyF P w0 N0 rd ios pres n1 (j :: D) S' K) -> StF P w0 N0 rd ios pres n1 D S K j)
  (hfin : ∀ S, Z ios.length S -> K S) :
  AnyF P w0 N0 rd ios pres ios.length [] (st n l0 hp0 nx0 ck0) K := by
 refine zn2 hp (fun D S => (∀ i ∈ D, i < R.m) /\ (∀ j ∈ D, ∀ p ∈ pres.getD j [], p ∈ D) /\ (∃ l hp nx ck nm lo hi, S = st n l hp nx ck /\ KrC R base nx0 (fun j => Am.look j hp0) D l hp nx nm lo hi) \/ (∃ j, R.m < j /\ j <= ios.length /\ (∀ i, i ∈ D ↔ i < j) /\ Z j S)) ?_ ?_ ios.length [] _ (.inl ⟨fun i h => absurd h y07, fun i h => absurd h y07, l0, hp0, nx0, ck0, fun _ _ => 0, fun _ => 0, fun _ => 0, rfl, ⟨hb0, y08 _, fun _ _ => rfl, fun i f h => absurd h y07, fun i h => absurd h y07, fun i h => absurd h y07, fun i j h => absurd h y07⟩⟩) ?_
 ·intro n1 D S i hI hi hnD hpD go;rcases hI with ⟨hD, hdc, l, hp1, nx, ck, nm, lo, hi', rfl, hK⟩ | ⟨j, h1, h2, h3, hZj⟩
  ·by_cases hlt : i < R.m
   ·have e3 := hop i hlt n1 D l hp1 nx ck nm lo hi' hK hpD;have hne : ∀ j ∈ D, R.dst i ≠ R.dst j := fun j hj e => hnD (by rw [hdst i hlt j (hD j hj) e]; exact hj);have hdc2 : ∀ j ∈ i :: D, ∀ p ∈ pres.getD j [], p ∈ i :: D := fun j hj p hpp => by
     rcases y0d.1 hj with rfl | hj
     ·exact y0c _ (hpD p hpp)
     ·exact y0c _ (hdc j hj p hpp)
    cases hqv : R.qv i with
    | c f =>
     rw [hqv] at e3;refine e3 (go _ (.inl ⟨fun j hj => ?_, hdc2, _, _, _, _, nm, lo, hi', rfl, ?_⟩))
     ·rcases y0d.1 hj with rfl | hj
      ·exact hlt
      ·exact hD j hj
     ·refine ⟨fun t v ht => ?_, hK.bx, hK.ol, fun j g hj hg => ?_, fun j hj hg => ?_, fun j hj hg => ?_, fun j k hj hk hg hg2 e => ?_⟩
      ·rw [zal (hbase t v ht i hlt)]; exact hK.bs t v ht
      ·rcases y0d.1 hj with rfl | hj
       ·rw [hqv] at hg; injection hg with hg; subst hg;exact zga ..
       ·rw [zal (hne j hj)]; exact hK.q j g hj hg
      ·rcases y0d.1 hj with rfl | hj
       ·rw [hqv] at hg; cases hg
       ·rw [zal (hne j hj)]; exact hK.lv j hj hg
      ·rcases y0d.1 hj with rfl | hj
       ·rw [hqv] at hg; cases hg
       ·exact hK.lh j hj hg
      ·rcases y0d.1 hj with rfl | hj
       ·rw [hqv] at hg; cases hg
       ·rcases y0d.1 hk with rfl | hk
        ·rw [hqv] at hg2; cases hg2
        ·exact hK.ij j k hj hk hg hg2 e
    | s =>
     rw [hqv] at e3;refine e3 (go _ (.inl ⟨fun j hj => ?_, hdc2, _, _, _, _, nm, lo, hi', rfl, ?_⟩))
     ·rcases y0d.1 hj with rfl | hj
      ·exact hlt
      ·exact hD j hj
     ·refine ⟨hK.bs, hK.bx, hK.ol, fun j g hj hg => ?_, fun j hj hg => ?_, fun j hj hg => ?_, fun j k hj hk hg hg2 e => ?_⟩
      ·rcases y0d.1 hj with rfl | hj
       ·rw [hqv] at hg; cases hg
       ·exact hK.q j g hj hg
      ·rcases y0d.1 hj with rfl | hj
       ·rw [hqv] at hg; cases hg
       ·exact hK.lv j hj hg
      ·rcases y0d.1 hj with rfl | hj
       ·rw [hqv] at hg; cases hg
       ·exact hK.lh j hj hg
      ·rcases y0d.1 hj with rfl | hj
       ·rw [hqv] at hg; cases hg
       ·rcases y0d.1 hk with rfl | hk
        ·rw [hqv] at hg2; cases hg2
        ·exact hK.ij j k hj hk hg hg2 e
    | l =>
     rw [hqv] at e3;have hji : ∀ j ∈ D, j ≠ i := fun j hj e => hnD (e ▸ hj);refine e3 fun x hp2 nx2 ck2 hnx hkp htl => go _ (.inl ⟨fun j hj => ?_, hdc2, _, _, _, _, updT nm i x, updT lo i nx, updT hi' i nx2, rfl, ?_⟩)
     ·rcases y0d.1 hj with rfl | hj
      ·exact hlt
      ·exact hD j hj
     ·refine ⟨fun t v ht => ?_, y0s hK.bx hnx, fun j hj => ?_, fun j g hj hg => ?_, fun j hj hg => ?_, fun j hj hg => ?_, fun j k hj hk hg hg2 e => ?_⟩
      ·rw [zal (hbase t v ht i hlt)]; exact hK.bs t v ht
      ·exact (hkp j (y0a hj hK.bx)).trans (hK.ol j hj)
      ·rcases y0d.1 hj with rfl | hj
       ·rw [hqv] at hg; cases hg
       ·rw [zal (hne j hj), hK.q j g hj hg];refine congrArg some (hq j g hg _ _ fun p hpp => ?_);by_cases hpi : p = i
        ·exact absurd (zn5 hdc j _ (hdc j hj) p hpp) (by rw [hpi]; exact hnD)
        ·rw [zcw hpi]
      ·rcases y0d.1 hj with rfl | hj
       ·rw [zgj]; exact zga ..
       ·rw [zal (hne j hj), zcw (hji j hj)]; exact hK.lv j hj hg
      ·rcases y0d.1 hj with rfl | hj
       ·rw [zgj, zgj, zgj]; exact ⟨htl, hK.bx, y08 _⟩
       ·rw [zcw (hji j hj), zcw (hji j hj), zcw (hji j hj)];obtain ⟨a1, a2, a3⟩ := hK.lh j hj hg;exact ⟨R.st _ _ _ _ _ _ a1 fun k hk => hkp k (y0a hk a3), a2, y0s a3 hnx⟩
      ·by_cases e1 : j = i
       ·by_cases e2 : k = i
        ·exact absurd (e1.trans e2.symm) e
        ·have hk' : k ∈ D := (y0d.1 hk).resolve_left e2;subst e1;rw [zgj, zgj, zcw e2, zcw e2];exact .inr (hK.lh k hk' hg2).2.2
       ·have hj' : j ∈ D := (y0d.1 hj).resolve_left e1;by_cases e2 : k = i
        ·subst e2;rw [zgj, zgj, zcw e1, zcw e1];exact .inl (hK.lh j hj' hg).2.2
        ·rw [zcw e1, zcw e2, zcw e1, zcw e2];exact hK.ij j k hj' ((y0d.1 hk).resolve_left e2) hg hg2 e
   ·have him : i = R.m := by
     refine y1f fun hne => ?_;exact absurd (hD R.m (hlast i (by omega) hi D hdc hpD R.m (by omega))) (y23 _)
    subst him;have hall : ∀ j < R.m, j ∈ D := fun j hj => hlast R.m (y08 _) hm D hdc hpD j hj;refine hlops R.m (y08 _) hm _ (hZ l hp1 nx ck nm lo hi' ⟨hK.bs, hK.bx, hK.ol, fun j g hj hg => hK.q j g (hall j (y0n.1 hj)) hg, fun j hj hg => hK.lv j (hall j (y0n.1 hj)) hg, fun j hj hg => hK.lh j (hall j (y0n.1 hj)) hg, fun j k hj hk hg hg2 e => hK.ij j k (hall j (y0n.1 hj)) (hall k (y0n.1 hk)) hg hg2 e⟩) n1 D fun S' hS' => go _ (.inr ⟨R.m + 1, y09 _, hm, fun j => ⟨fun hj => ?_, fun hj => ?_⟩, hS'⟩)
    ·rcases y0d.1 hj with rfl | hj
     ·omega
     ·have := hD j hj; omega
    ·by_cases e : j = R.m
     ·rw [e]; exact y01 ..
     ·exact y0c _ (hall j (by omega))
  ·have hij : i = j := by
    have a1 : ¬ i < j := fun h => hnD ((h3 i).2 h);refine y1f fun hne => ?_;have hcl : ∀ j' ∈ D, ∀ p ∈ pres.getD j' [], p ∈ D := fun j' hj' p hpp => by
     have a2 := (h3 j').1 hj';have a3 := hp j' (by omega) p hpp;exact (h3 p).2 (by omega)
    have := (h3 j).1 (hlast i (by omega) hi D hcl hpD j (by omega));omega
   subst hij;refine hlops i (Nat.le_of_lt h1) hi S hZj n1 D fun S' hS' => go _ (.inr ⟨i + 1, by omega, hi, fun j => ⟨fun hj => ?_, fun hj => ?_⟩, hS'⟩)
   ·rcases y0d.1 hj with rfl | hj
    ·omega
    ·have := (h3 j).1 hj; omega
   ·by_cases e : j = i
    ·rw [e]; exact y01 ..
    ·exact y0c _ ((h3 j).2 (by omega))
 ·intro D S hI hD;rcases hI with ⟨h1, _⟩ | ⟨j, h1, h2, h3, hZ⟩
  ·exact absurd (h1 R.m (hD R.m hm)) (y23 _)
  ·have : j = ios.length := by
    refine y1f fun hne => ?_;have := (h3 j).1 (hD j (by omega));omega
   subst this;exact hfin S hZ
 ·rw [List.filter_eq_self.2 fun i _ => by simp, y2j]
def zhw (m N : Nat) (pres : List (List Nat)) (dst : Nat -> Nat) (bk : List Nat) : Bool :=
 Nat.blt m N && ((List.range N).all fun i => (pres.getD i []).all fun p => Nat.blt p i) && ((List.range N).all fun i => Nat.ble i m || (pres.getD i []).any fun q => Nat.beq q (i - 1)) && ((List.range m).all fun p => (befs pres m (pres.getD m [])).any fun q => Nat.beq q p) &&
  ((List.range m).all fun i => (List.range m).all fun j => Nat.beq i j || !Nat.beq (dst i) (dst j)) && (List.range m).all fun i => bk.all fun t => !Nat.beq (dst i) t
theorem ztm {m N : Nat} {pres : List (List Nat)} (h3 : ∀ i < N, (Nat.ble i m || (pres.getD i []).any fun q => Nat.beq q (i - 1)) = true) (h6 : ∀ p < m, ((befs pres m (pres.getD m [])).any fun q => Nat.beq q p) = true) {D : List Nat} (hD : ∀ j ∈ D, ∀ p ∈ pres.getD j [], p ∈ D) : ∀ k : Nat, m + k < N -> (∀ p ∈ pres.getD (m + k) [], p ∈ D) -> ∀ p < m + k, p ∈ D := by
 intro k
 induction k with
 | zero =>
  intro _ hp p hlt;have := h6 p hlt;rw [y2e] at this;obtain ⟨q, hq, e⟩ := this;rw [<- zfx.1 e];exact zn5 hD m _ hp q hq
 | succ i ih =>
  intro hi hp p hlt;have := h3 (m + i + 1) hi;rw [y0v] at this;rcases this with e | e
  ·have := y04 e;omega
  ·rw [y2e] at e;obtain ⟨q, hq, e⟩ := e;have e := zfx.1 e;rw [Nat.add_sub_cancel] at e;have hin := hp _ hq;rw [e] at hin;by_cases e2 : p = m + i
   ·rw [e2]; exact hin
   ·exact ih (by omega) (fun p' hp' => hD _ hin p' hp') p (by omega)
theorem zfl {P : Program} {w0 : World} {N0 : Nat} {rd : Option (Nat × Nat)} {ios : List Opr} {pres : List (List Nat)} {K : AS -> Prop} {n nx0 ck0 : Nat} {l0 : List (Nat × AV)} {hp0 : List (Nat × Nat × AObj)} (R : RegC) (base : List (Nat × AV))
  (Z : Nat -> AS -> Prop) (N : Nat) (hN : ios.length = N) (hck : zhw R.m N pres R.dst (base.map (·.1)) = true) (hb0 : ∀ t v, (t, v) ∈ base -> zac t l0 = some v)
  (hq : ∀ i f, R.qv i = .c f -> ∀ nm nm' : Nat -> Nat -> Nat, (∀ p ∈ befs pres i (pres.getD i []), nm p = nm' p) -> f nm = f nm')
  (hop : ∀ i < R.m, ∀ n1 D l hp nx ck nm lo hi, KrC R base nx0 (fun j => Am.look j hp0) D l hp nx nm lo hi -> (∀ p ∈ pres.getD i [], p ∈ D) ->
   match R.qv i with
   | .c f => AnyF P w0 N0 rd ios pres n1 (i :: D) (st n ((R.dst i, f nm) :: l) hp nx ck) K -> StF P w0 N0 rd ios pres n1 D (st n l hp nx ck) K i
   | .s => AnyF P w0 N0 rd ios pres n1 (i :: D) (st n l hp nx ck) K -> StF P w0 N0 rd ios pres n1 D (st n l hp nx ck) K i
   | .l => (∀ x hp' nx' ck', nx <= nx' -> (∀ j, j < nx -> Am.look j hp' = Am.look j hp) -> R.tl i x hp' nx nx' -> AnyF P w0 N0 rd ios pres n1 (i :: D) (st n ((R.dst i, R.lw i x) :: l) hp' nx' ck') K) -> StF P w0 N0 rd ios pres n1 D (st n l hp nx ck) K i)
  (hZ : ∀ l hp nx ck nm lo hi, KrC R base nx0 (fun j => Am.look j hp0) (List.range R.m) l hp nx nm lo hi -> Z R.m (st n l hp nx ck))
  (hlops : ∀ j, R.m <= j -> j < N -> ∀ S, Z j S -> ∀ n1 D, (∀ S', Z (j + 1) S' -> AnyF P w0 N0 rd ios pres n1 (j :: D) S' K) -> StF P w0 N0 rd ios pres n1 D S K j)
  (hfin : ∀ S, Z N S -> K S) :
  AnyF P w0 N0 rd ios pres ios.length [] (st n l0 hp0 nx0 ck0) K := by
 subst hN;unfold zhw at hck;rw [y0g, y0g, y0g, y0g, y0g] at hck;obtain ⟨⟨⟨⟨⟨h1, h2⟩, h3⟩, h6⟩, h4⟩, h5⟩ := hck;simp only [y0h, y0n] at h2 h3 h4 h5 h6;refine zud R base Z (zot.1 h1) (fun i hi p hp => zot.1 (h2 i hi p hp)) (fun i hm hi D hD hp => by
  obtain ⟨k, rfl⟩ := Nat.exists_eq_add_of_le hm;exact ztm h3 h6 hD k hi hp) (fun i hi j hj e => ?_) (fun t v ht i hi e => ?_) hb0 hq hop hZ hlops hfin
 ·have := h4 i hi j hj;rw [y0v] at this;rcases this with h | h
  ·exact zfx.1 h
  ·rw [zfx.2 e] at h;cases h
 ·have := h5 i hi t (y0p.2 ⟨(t, v), ht, rfl⟩);rw [zfx.2 e] at this;cases this
end Go.Proofs.YtdolbghhcijonaaGreat
