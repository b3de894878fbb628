/-
  WHAT THE LAWS SHARE: sent, Few, SameInts.
-/
import Derived.Test.YtknomkcdpcnmaaaWV2
import Derived.Test.YtknomkcdpcnmaaaWW1
namespace Go.Proofs.Ytknomkcdpcnmaaa
open Go Go.Am
-- pneumatic/pneumaticlaw09.sent
def ic14 : IC := .seq (.region [⟨(some 1), .box (.t 0), none⟩,
  ⟨(some 2), .alloc [.int .i64 0, .nils], none⟩] none)
 (.seq (.region [⟨(some 3), .faddr 0 (.t 1), none⟩,
  ⟨(some 4), .load none (.t 3), none⟩,
  ⟨(some 5), .faddr 1 (.t 1), none⟩,
  ⟨(some 6), .load none (.t 5), none⟩,
  ⟨(some 7), .build [.int .i64 0, .nils] [(0, 1, (.t 4)), (1, 1, (.t 6))], none⟩,
  ⟨none, .store 2 (.t 2) (.t 7), none⟩] none)
 (.ret))
theorem fn14 : env0.fn 14 = some ⟨8, ic14, [.cell 2 (some 2)]⟩ := by kernel_rfl
-- pneumatic/pneumaticref09.Few
def ic11 : IC := .seq (.region [⟨(some 1), .box (.t 0), none⟩,
  ⟨(some 2), .mov (.c (.bool false)), none⟩] none)
 (.seq (.region [⟨(some 3), .faddr 0 (.t 1), none⟩,
  ⟨(some 4), .load none (.t 3), none⟩,
  ⟨(some 5), .bin .leq (.t 4) (.c (.int .i64 8)), none⟩,
  ⟨(some 6), .mov (.t 5), none⟩,
  ⟨(some 7), .faddr 1 (.t 1), some (6, true)⟩,
  ⟨(some 8), .load none (.t 7), some (6, true)⟩,
  ⟨(some 9), .len false (.t 8), some (6, true)⟩,
  ⟨(some 10), .bin .leq (.t 9) (.c (.int .i64 8)), some (6, true)⟩,
  ⟨(some 11), .pick (.t 6) (.t 10) (.c (.bool false)), none⟩,
  ⟨(some 12), .mov (.t 11), none⟩,
  ⟨(some 13), .faddr 1 (.t 1), some (12, false)⟩,
  ⟨(some 14), .load none (.t 13), some (12, false)⟩,
  ⟨(some 15), .len false (.t 14), some (12, false)⟩,
  ⟨(some 16), .bin .lss (.t 15) (.c (.int .i64 200)), some (12, false)⟩,
  ⟨(some 17), .mov (.t 16), some (12, false)⟩,
  ⟨(some 18), .load (some 2) (.t 1), some (17, true)⟩,
  ⟨(some 19), .call (.c (.fn 38 [] [])) [(.t 18)], some (17, true)⟩,
  ⟨(some 20), .bin .neq (.t 19) (.c (.int .i64 0)), some (17, true)⟩,
  ⟨(some 21), .pick (.t 17) (.t 20) (.c (.bool false)), some (12, false)⟩,
  ⟨(some 22), .pick (.t 12) (.c (.bool true)) (.t 21), none⟩,
  ⟨(some 2), .mov (.t 22), none⟩] none)
 (.ret))
theorem fn11 : env0.fn 11 = some ⟨23, ic11, [.t 2]⟩ := by kernel_rfl
def b16_0 : IC := .seq (.seq (.region [⟨(some 11), .mov (.t 5), none⟩,
  ⟨(some 12), .mov (.t 0), none⟩,
  ⟨(some 13), .len false (.t 12), none⟩,
  ⟨(some 14), .bin .lss (.t 11) (.t 13), none⟩] none)
 (.cond (.t 14) (.skip)
 (.exit 0)))
 (.seq (.block 1 (.seq (.region [⟨(some 17), .mov (.t 0), none⟩,
  ⟨(some 18), .mov (.t 5), none⟩,
  ⟨(some 19), .idxs 1 (.t 17) (.t 18), none⟩,
  ⟨(some 20), .load none (.t 19), none⟩,
  ⟨(some 21), .mov (.t 1), none⟩,
  ⟨(some 22), .mov (.t 5), none⟩,
  ⟨(some 23), .idxs 1 (.t 21) (.t 22), none⟩,
  ⟨(some 24), .load none (.t 23), none⟩,
  ⟨(some 25), .bin .neq (.t 20) (.t 24), none⟩] (some [[], [], [0, 1], [2], [], [], [4, 5], [6], [3, 7]]))
 (.cond (.t 25) (.seq (.region [⟨(some 4), .mov (.c (.bool false)), none⟩] none)
 (.ret))
 (.skip))))
 (.region [⟨(some 15), .mov (.t 5), none⟩,
  ⟨(some 16), .bin .add (.t 15) (.c (.int .i64 1)), none⟩,
  ⟨(some 5), .mov (.t 16), none⟩] none))
-- pneumatic/pneumaticref10.SameInts
def ic16 : IC := .seq (.region [⟨(some 4), .mov (.c (.bool false)), none⟩] none)
 (.seq (.seq (.region [⟨(some 6), .mov (.t 0), none⟩,
  ⟨(some 7), .len false (.t 6), none⟩,
  ⟨(some 8), .mov (.t 1), none⟩,
  ⟨(some 9), .len false (.t 8), none⟩,
  ⟨(some 10), .bin .neq (.t 7) (.t 9), none⟩] none)
 (.cond (.t 10) (.seq (.region [⟨(some 4), .mov (.c (.bool false)), none⟩] none)
 (.ret))
 (.skip)))
 (.seq (.seq (.region [⟨(some 5), .mov (.c (.int .i64 0)), none⟩] none)
 (.block 0 (.loop b16_0)))
 (.seq (.region [⟨(some 4), .mov (.c (.bool true)), none⟩] none)
 (.ret))))
theorem fn16 : env0.fn 16 = some ⟨26, ic16, [.t 4]⟩ := by kernel_rfl
theorem sent14 (n : Int) (s : List (BitVec 64)) : PF Try.prog 14 [cF n s] (cF n s) := by
 refine zby env0_ok fn14 [(0, .agg [.int .i64 n, .vs (cUs s)])] (by show 1 ≤ 8; decide) rfl fun w0 N0 => ?_
 unfold ic14
 repeat (first | refine zaa ?_ | refine za0 rfl ?_ | refine za7 ?_ | refine za8 ?_ | refine zb6 ?_ | refine zar rfl rfl ?_ | refine zau rfl rfl rfl rfl rfl rfl rfl ?_ | refine zak rfl ?_ | refine zaw ?_ | refine zax rfl rfl ?_ | refine zbh rfl rfl ?_)
 exact zbj ⟨.inr rfl, _, rfl, rfl⟩
def fewB (n : Int) (s : List (BitVec 64)) : Bool := if decide (n ≤ 8) && decide (s.length ≤ 8) then true else decide (s.length < 200) && ze4 n s != 0
set_option maxRecDepth 100000 in
set_option maxHeartbeats 2000000 in
theorem few11 (n : Int) (s : List (BitVec 64)) : PF Try.prog 11 [cF n s] (.bool (fewB n s)) := by
 have pC := zl8 n s
 have hcl := zce s
 refine zby env0_ok fn11 [(0, .agg [.int .i64 n, .vs (cUs s)])] (by show 1 ≤ 23; decide) rfl fun w0 N0 => ?_
 unfold ic11
 refine zaa (za0 rfl (zbh rfl rfl (za6 rfl (za7 (za8 ?_)))))
 refine zd9 [] [(0, 0, [.int .i64 n, .vs (cUs s)])] [(1, .vptr [.int .i64 n, .vs (cUs s)])] rfl (.cons rfl rfl .nil) .nil (.cons rfl (.fptr rfl rfl) .nil) ?_
 have tail : ∀ {b : Bool}, (decide (n ≤ 8) && decide (s.length ≤ 8)) = false → (decide (s.length < 200) && ze4 n s != 0) = b → fewB n s = b := fun h1 h2 => by
  unfold fewB
  rw [h1, h2]
  rfl
 have good : (decide (n ≤ 8) && decide (s.length ≤ 8)) = true → fewB n s = true := fun h1 => by
  unfold fewB
  rw [h1]
  rfl
 repeat (first | refine zaa ?_ | refine za0 rfl ?_ | refine zar rfl rfl ?_ | refine za9 rfl rfl rfl ?_)
 refine zbm rfl rfl rfl (fun h => ?_) fun h => ?_
 ·repeat (first | refine zbx rfl ?_ | refine za6 rfl ?_ | refine zar rfl rfl ?_ | refine za9 rfl rfl rfl ?_ | refine zbe rfl rfl ?_)
  refine zbm rfl rfl (by show some (AV.bool (decide ((((cUs s).length : Nat) : Int) ≤ 8))) = _; rfl) (fun h2 => ?_) fun h2 => ?_
  ·have h2 : (((cUs s).length : Nat) : Int) ≤ 8 := of_decide_eq_true h2
   rw [good (by rw [h, decide_eq_true (show s.length ≤ 8 by omega)]; rfl)]
   repeat (first | refine za7 ?_ | refine za8 ?_ | refine zb6 ?_ | refine zbz rfl rfl ?_ | refine zc4 rfl ?_ | refine za6 rfl ?_ | refine zap rfl rfl ?_)
   exact zbj ⟨.inr rfl, _, rfl, rfl⟩
  ·have h2 : ¬ (((cUs s).length : Nat) : Int) ≤ 8 := of_decide_eq_false h2
   have hf : (decide (n ≤ 8) && decide (s.length ≤ 8)) = false := by rw [decide_eq_false (show ¬ s.length ≤ 8 by omega), Bool.and_false]
   repeat (first | refine zbx rfl ?_ | refine za6 rfl ?_ | refine zar rfl rfl ?_ | refine za9 rfl rfl rfl ?_ | refine zap rfl rfl ?_ | refine zbe rfl rfl ?_)
   refine zbm rfl rfl rfl (fun h3 => ?_) fun h3 => ?_
   ·have h3 : (((cUs s).length : Nat) : Int) < 200 := of_decide_eq_true h3
    repeat (first | refine zbx rfl ?_ | refine za6 rfl ?_ | refine zat rfl rfl rfl rfl ?_)
    refine zbu rfl rfl pC (fun h => Bool.noConfusion (show false = true from h)) ?_
    repeat (first | refine zbx rfl ?_)
    refine zbm rfl rfl rfl (fun h4 => ?_) fun h4 => ?_
    ·rw [tail hf (b := true) (by rw [decide_eq_true (show s.length < 200 by omega)]; exact h4)]
     repeat (first | refine za7 ?_ | refine za8 ?_ | refine zb6 ?_ | refine zbx rfl ?_ | refine za6 rfl ?_ | refine zap rfl rfl ?_ | refine zal rfl rfl ?_)
     exact zbj ⟨.inr rfl, _, rfl, rfl⟩
    ·rw [tail hf (b := false) (by rw [decide_eq_true (show s.length < 200 by omega)]; exact h4)]
     repeat (first | refine za7 ?_ | refine za8 ?_ | refine zb6 ?_ | refine zbx rfl ?_ | refine za6 rfl ?_ | refine zap rfl rfl ?_ | refine zal rfl rfl ?_)
     exact zbj ⟨.inr rfl, _, rfl, rfl⟩
   ·have h3 : ¬ (((cUs s).length : Nat) : Int) < 200 := of_decide_eq_false h3
    rw [tail hf (b := false) (by rw [decide_eq_false (show ¬ s.length < 200 by omega)]; rfl)]
    repeat (first | refine za7 ?_ | refine za8 ?_ | refine zb6 ?_ | refine zbx rfl ?_ | refine zbz rfl rfl ?_ | refine za6 rfl ?_ | refine zal rfl rfl ?_)
    exact zbj ⟨.inr rfl, _, rfl, rfl⟩
 ·have hf : (decide (n ≤ 8) && decide (s.length ≤ 8)) = false := by rw [show decide (n ≤ 8) = false from h]; rfl
  repeat (first | refine zbx rfl ?_ | refine zbz rfl rfl ?_ | refine za6 rfl ?_ | refine zar rfl rfl ?_ | refine za9 rfl rfl rfl ?_ | refine zal rfl rfl ?_ | refine zbe rfl rfl ?_)
  refine zbm rfl rfl rfl (fun h3 => ?_) fun h3 => ?_
  ·have h3 : (((cUs s).length : Nat) : Int) < 200 := of_decide_eq_true h3
   repeat (first | refine zbx rfl ?_ | refine za6 rfl ?_ | refine zat rfl rfl rfl rfl ?_)
   refine zbu rfl rfl pC (fun h => Bool.noConfusion (show false = true from h)) ?_
   repeat (first | refine zbx rfl ?_)
   refine zbm rfl rfl rfl (fun h4 => ?_) fun h4 => ?_
   ·rw [tail hf (b := true) (by rw [decide_eq_true (show s.length < 200 by omega)]; exact h4)]
    repeat (first | refine za7 ?_ | refine za8 ?_ | refine zb6 ?_ | refine zbx rfl ?_ | refine za6 rfl ?_ | refine zap rfl rfl ?_ | refine zal rfl rfl ?_)
    exact zbj ⟨.inr rfl, _, rfl, rfl⟩
   ·rw [tail hf (b := false) (by rw [decide_eq_true (show s.length < 200 by omega)]; exact h4)]
    repeat (first | refine za7 ?_ | refine za8 ?_ | refine zb6 ?_ | refine zbx rfl ?_ | refine za6 rfl ?_ | refine zap rfl rfl ?_ | refine zal rfl rfl ?_)
    exact zbj ⟨.inr rfl, _, rfl, rfl⟩
  ·have h3 : ¬ (((cUs s).length : Nat) : Int) < 200 := of_decide_eq_false h3
   rw [tail hf (b := false) (by rw [decide_eq_false (show ¬ s.length < 200 by omega)]; rfl)]
   repeat (first | refine za7 ?_ | refine za8 ?_ | refine zb6 ?_ | refine zbx rfl ?_ | refine zbz rfl rfl ?_ | refine za6 rfl ?_ | refine zal rfl rfl ?_)
   exact zbj ⟨.inr rfl, _, rfl, rfl⟩
theorem ztn {n : Int} {s : List (BitVec 64)} (h : fewB n s = true) : s.length < 200 ∧ (ze4 n s = 0 → n ≤ 8 ∧ s.length ≤ 8) := by
 unfold fewB at h
 split at h
 ·rename_i h1
  simp only [Bool.and_eq_true, decide_eq_true_eq] at h1
  exact ⟨by omega, fun _ => h1⟩
 ·simp only [Bool.and_eq_true, decide_eq_true_eq, bne_iff_ne] at h
  exact ⟨h.1, fun h2 => absurd h2 h.2⟩
set_option maxRecDepth 100000 in
theorem same16 (a : List Int) (ha : a.length ≤ 1000000) : PF Try.prog 16 [vsI a, vsI a] (.bool true) := by
 have hva : (a.map fun z => ([.int .i64 z] : List AV)).length = a.length := List.length_map ..
 refine zby env0_ok fn16 [(0, vsI a), (1, vsI a)] (by show 2 ≤ 26; decide) rfl fun w0 N0 => ?_
 unfold ic16
 repeat (first | refine zaa ?_ | refine za0 rfl ?_ | refine za7 ?_ | refine za8 ?_ | refine za6 rfl ?_ | refine zbe rfl rfl ?_)
 refine zb3 rfl rfl (by show some (AV.bool (!(_ == _))) = _; simp) ?_
 repeat (first | refine zaa ?_ | refine za0 rfl ?_ | refine za7 ?_ | refine za8 ?_ | refine zag ?_ | refine zao ?_ | refine zbl rfl ?_ | refine za6 rfl ?_)
 refine zc9 (fun mm S => ∃ i, mm = a.length - i ∧ i ≤ a.length ∧ S = st 26 [(0, vsI a), (1, vsI a), (5, .int .i64 (i : Nat))] [] 0 0) a.length
  (zb5 (.cons rfl (.cons rfl (.cons rfl .nil)))) ⟨0, rfl, Nat.zero_le _, rfl⟩ ?_
 rintro mm S ⟨i, rfl, hi, rfl⟩
 unfold b16_0 vsI
 repeat (first | refine zaa ?_ | refine za0 rfl ?_ | refine za6 rfl ?_ | refine zbe rfl rfl ?_)
 refine zbm rfl rfl (by show some (AV.bool (decide (((i : Nat) : Int) < ((a.map fun z => ([.int .i64 z] : List AV)).length : Nat)))) = _; rw [hva]) (fun h3 => ?_) fun h3 => ?_
 ·have hlt : i < a.length := Int.ofNat_lt.1 (of_decide_eq_true h3)
  have hg := ze2 hlt
  repeat (first | refine zaa ?_ | refine za7 ?_ | refine za8 ?_ | refine zag ?_ | refine zao ?_ | refine zbo rfl ?_ | refine za6 rfl ?_ | refine zar rfl rfl ?_ | refine zaj env0_ok rfl rfl rfl ?_ | refine zb0 rfl rfl (by omega) (by assumption) rfl ?_)
  refine zb3 rfl rfl (by show some (AV.bool (!(a[i] == a[i]))) = _; simp) ?_
  repeat (first | refine za0 rfl ?_ | refine za7 ?_ | refine za8 ?_ | refine zbf ?_ | refine zao ?_ | refine zbl rfl ?_ | refine za6 rfl ?_ | refine zah (op := .add) rfl rfl rfl ?_)
  rw [zbn i (by omega)]
  exact zbp (show a.length - (i + 1) < a.length - i by omega) (zb5 (.cons rfl (.cons rfl (.cons rfl .nil)))) ⟨i + 1, rfl, hlt, rfl⟩
 ·repeat (first | refine za7 ?_ | refine za8 ?_ | refine zbl rfl ?_ | refine zb2 ?_ | refine za4 ?_)
  refine zd6 ?_
  repeat (first | refine zaa ?_ | refine za0 rfl ?_ | refine za7 ?_ | refine za8 ?_ | refine zb6 ?_ | refine zb1 ?_ | refine za6 rfl ?_)
  exact zbj ⟨.inr rfl, _, rfl, rfl⟩
end Go.Proofs.Ytknomkcdpcnmaaa
