/-
  THE EXACT COVERS OF THE REFERENCE: Size, exactly, Exact.
-/
import Derived.Test.YtknomkcdpcnmaaaYRB
import Derived.Test.YtknomkcdpcnmaaaYVD
import Derived.Test.YtknomkcdpcnmaaaYP4
namespace Go.Proofs.Ytknomkcdpcnmaaa
open Go Go.Am
theorem szN_le : ∀ m x : Nat, szN m x ≤ m
 | 0, _ => Nat.le_refl _
 | m + 1, x => by
  have := szN_le m (x / 2)
  simp only [szN]
  omega
theorem zor (x : BitVec 64) : szB x ≤ 64 := by
 unfold szB
 exact szN_le 64 _
def b55_0 : IC := .seq (.seq (.region [⟨(some 4), .mov (.t 0), none⟩,
  ⟨(some 5), .bin .neq (.t 4) (.c (.int .u64 0)), none⟩] none)
 (.cond (.t 5) (.skip)
 (.exit 0)))
 (.seq (.block 1 (.region [⟨(some 10), .mov (.t 3), none⟩,
  ⟨(some 11), .bin .add (.t 10) (.c (.int .i64 1)), none⟩,
  ⟨(some 3), .mov (.t 11), none⟩] none))
 (.region [⟨(some 6), .mov (.t 0), none⟩,
  ⟨(some 7), .mov (.t 0), none⟩,
  ⟨(some 8), .bin .sub (.t 7) (.c (.int .u64 1)), none⟩,
  ⟨(some 9), .bin .and (.t 6) (.t 8), none⟩,
  ⟨(some 0), .mov (.t 9), none⟩] none))
-- pneumatic/pneumaticref09.Size
def ic55 : IC := .seq (.region [⟨(some 2), .mov (.c (.int .i64 0)), none⟩] none)
 (.seq (.region [⟨(some 3), .mov (.c (.int .i64 0)), none⟩] none)
 (.seq (.block 0 (.loop b55_0))
 (.seq (.region [⟨(some 12), .mov (.t 3), none⟩,
  ⟨(some 2), .mov (.t 12), none⟩] none)
 (.ret))))
theorem fn55 : env0.fn 55 = some ⟨13, ic55, [.t 2]⟩ := by kernel_rfl
set_option maxHeartbeats 2000000 in
theorem size55 (x : BitVec 64) : PF Try.prog 55 [cU x] (.int .i64 (szB x : Nat)) := by
 refine zc2 env0_ok fn55 [(0, cU x)] (by show 1 ≤ 13; decide) rfl fun w0 N0 => ?_
 unfold ic55
 repeat (first | refine zal ?_ | refine za0 rfl ?_ | refine zac ?_ | refine zae ?_ | refine zbf ?_ | refine zah ?_ | refine zas ?_ | refine zbm rfl ?_ | refine zbl rfl ?_ | refine zb3 ?_ | refine zbc ?_ | refine zb2 ?_ | refine za4 ?_ | refine za2 rfl ?_ | refine za3 ?_ | refine za5 ?_ | refine zbp rfl ?_ | refine zbx rfl rfl ?_ | refine zby rfl ?_ | refine zab rfl ?_ | refine zau rfl rfl ?_ | refine zaq rfl rfl rfl rfl ?_ | refine zar rfl rfl rfl rfl rfl rfl rfl ?_ | refine zag rfl ?_ | refine za6 rfl rfl rfl ?_ | refine za1 rfl rfl rfl ?_ | refine za9 rfl rfl rfl rfl ?_ | refine zat ?_ | refine zap rfl rfl ?_ | refine zao rfl rfl ?_ | refine zbz rfl rfl ?_ | refine zbe rfl rfl ?_ | refine zaw rfl rfl ?_ | refine zad rfl rfl ?_ | refine zbg rfl rfl ?_ | refine zaa rfl rfl rfl ?_ | refine zax rfl rfl ?_ | refine zan rfl rfl rfl rfl ?_ | refine za8 rfl rfl rfl rfl ?_ | refine zaj rfl rfl rfl rfl ?_ | refine zb6 rfl rfl ?_ | refine zb5 rfl rfl ?_ | refine za7 rfl rfl ?_ | refine zb9 ?_ | refine zak env0_ok rfl rfl rfl ?_ | refine zaf (op := .add) rfl rfl rfl ?_ | refine zaf (op := .sub) rfl rfl rfl ?_ | refine zb8 rfl rfl rfl ?_ | refine zb7 rfl rfl rfl ?_ | refine zb4 rfl rfl rfl ?_ | refine zb0 rfl rfl rfl ?_ | refine zb1 rfl rfl (by omega) (by assumption) rfl ?_ | refine za1 rfl rfl (decide_eq_true ⟨by omega, by omega⟩) ?_ | refine zav rfl rfl (by omega) (by omega) ?_ | refine zai rfl rfl rfl ?_ | refine zbb rfl ?_ | refine zba rfl ?_)
 refine zcf (fun mm S => ∃ (y : BitVec 64) (i : Nat), mm = szB y ∧ szB y + i = szB x ∧ i ≤ 64 ∧ S = st 13 [(0, cU y), (3, .int .i64 (i : Nat))] [] 0 0) (szB x)
  (zbd (.cons rfl (.cons rfl .nil))) ⟨x, 0, rfl, by omega, by omega, rfl⟩ ?_
 rintro mm S ⟨y, i, rfl, hy, hi, rfl⟩
 unfold b55_0
 repeat (first | refine zal ?_ | refine za0 rfl ?_ | refine zac ?_ | refine zae ?_ | refine zbf ?_ | refine zah ?_ | refine zas ?_ | refine zbm rfl ?_ | refine zbl rfl ?_ | refine zb3 ?_ | refine zbc ?_ | refine zb2 ?_ | refine za4 ?_ | refine za2 rfl ?_ | refine za3 ?_ | refine za5 ?_ | refine zbp rfl ?_ | refine zbx rfl rfl ?_ | refine zby rfl ?_ | refine zab rfl ?_ | refine zau rfl rfl ?_ | refine zaq rfl rfl rfl rfl ?_ | refine zar rfl rfl rfl rfl rfl rfl rfl ?_ | refine zag rfl ?_ | refine za6 rfl rfl rfl ?_ | refine za1 rfl rfl rfl ?_ | refine za9 rfl rfl rfl rfl ?_ | refine zat ?_ | refine zap rfl rfl ?_ | refine zao rfl rfl ?_ | refine zbz rfl rfl ?_ | refine zbe rfl rfl ?_ | refine zaw rfl rfl ?_ | refine zad rfl rfl ?_ | refine zbg rfl rfl ?_ | refine zaa rfl rfl rfl ?_ | refine zax rfl rfl ?_ | refine zan rfl rfl rfl rfl ?_ | refine za8 rfl rfl rfl rfl ?_ | refine zaj rfl rfl rfl rfl ?_ | refine zb6 rfl rfl ?_ | refine zb5 rfl rfl ?_ | refine za7 rfl rfl ?_ | refine zb9 ?_ | refine zak env0_ok rfl rfl rfl ?_ | refine zb8 rfl rfl rfl ?_ | refine zb7 rfl rfl rfl ?_ | refine zb4 rfl rfl rfl ?_ | refine zb0 rfl rfl rfl ?_ | refine zb1 rfl rfl (by omega) (by assumption) rfl ?_ | refine za1 rfl rfl (decide_eq_true ⟨by omega, by omega⟩) ?_ | refine zav rfl rfl (by omega) (by omega) ?_ | refine zai rfl rfl rfl ?_ | refine zbb rfl ?_ | refine zba rfl ?_)
 refine zbv rfl rfl (zgd _ (0#64)) (fun h3 => ?_) fun h3 => ?_
 ·have h0 : y ≠ 0#64 := by simpa using h3
  have hst := sz_step h0
  have w1 : IntKind.wrap .i64 (((i : Nat) : Int) + 1) = ((i + 1 : Nat) : Int) := zbn i (by omega)
  repeat (first | refine zal ?_ | refine za0 rfl ?_ | refine zac ?_ | refine zae ?_ | refine zbf ?_ | refine zah ?_ | refine zas ?_ | refine zbm rfl ?_ | refine zbl rfl ?_ | refine zb3 ?_ | refine zbc ?_ | refine zb2 ?_ | refine za4 ?_ | refine za2 rfl ?_ | refine za3 ?_ | refine za5 ?_ | refine zbp rfl ?_ | refine zbx rfl rfl ?_ | refine zby rfl ?_ | refine zab rfl ?_ | refine zau rfl rfl ?_ | refine zaq rfl rfl rfl rfl ?_ | refine zar rfl rfl rfl rfl rfl rfl rfl ?_ | refine zag rfl ?_ | refine za6 rfl rfl rfl ?_ | refine za1 rfl rfl rfl ?_ | refine za9 rfl rfl rfl rfl ?_ | refine zat ?_ | refine zap rfl rfl ?_ | refine zao rfl rfl ?_ | refine zbz rfl rfl ?_ | refine zbe rfl rfl ?_ | refine zaw rfl rfl ?_ | refine zad rfl rfl ?_ | refine zbg rfl rfl ?_ | refine zaa rfl rfl rfl ?_ | refine zax rfl rfl ?_ | refine zan rfl rfl rfl rfl ?_ | refine za8 rfl rfl rfl rfl ?_ | refine zaj rfl rfl rfl rfl ?_ | refine zb6 rfl rfl ?_ | refine zb5 rfl rfl ?_ | refine za7 rfl rfl ?_ | refine zb9 ?_ | refine zak env0_ok rfl rfl rfl ?_ | refine zb8 rfl rfl rfl ?_ | refine zb7 rfl rfl rfl ?_ | refine zb4 rfl rfl rfl ?_ | refine zb0 rfl rfl rfl ?_ | refine zb1 rfl rfl (by omega) (by assumption) rfl ?_ | refine za1 rfl rfl (decide_eq_true ⟨by omega, by omega⟩) ?_ | refine zav rfl rfl (by omega) (by omega) ?_ | refine zai rfl rfl rfl ?_ | refine zbb rfl ?_ | refine zba rfl ?_)
  refine zaf rfl rfl rfl ?_
  rw [w1]
  repeat (first | refine zal ?_ | refine za0 rfl ?_ | refine zac ?_ | refine zae ?_ | refine zbf ?_ | refine zah ?_ | refine zas ?_ | refine zbm rfl ?_ | refine zbl rfl ?_ | refine zb3 ?_ | refine zbc ?_ | refine zb2 ?_ | refine za4 ?_ | refine za2 rfl ?_ | refine za3 ?_ | refine za5 ?_ | refine zbp rfl ?_ | refine zbx rfl rfl ?_ | refine zby rfl ?_ | refine zab rfl ?_ | refine zau rfl rfl ?_ | refine zaq rfl rfl rfl rfl ?_ | refine zar rfl rfl rfl rfl rfl rfl rfl ?_ | refine zag rfl ?_ | refine za6 rfl rfl rfl ?_ | refine za1 rfl rfl rfl ?_ | refine za9 rfl rfl rfl rfl ?_ | refine zat ?_ | refine zap rfl rfl ?_ | refine zao rfl rfl ?_ | refine zbz rfl rfl ?_ | refine zbe rfl rfl ?_ | refine zaw rfl rfl ?_ | refine zad rfl rfl ?_ | refine zbg rfl rfl ?_ | refine zaa rfl rfl rfl ?_ | refine zax rfl rfl ?_ | refine zan rfl rfl rfl rfl ?_ | refine za8 rfl rfl rfl rfl ?_ | refine zaj rfl rfl rfl rfl ?_ | refine zb6 rfl rfl ?_ | refine zb5 rfl rfl ?_ | refine za7 rfl rfl ?_ | refine zb9 ?_ | refine zak env0_ok rfl rfl rfl ?_ | refine zb8 rfl rfl rfl ?_ | refine zb7 rfl rfl rfl ?_ | refine zb4 rfl rfl rfl ?_ | refine zb0 rfl rfl rfl ?_ | refine zb1 rfl rfl (by omega) (by assumption) rfl ?_ | refine za1 rfl rfl (decide_eq_true ⟨by omega, by omega⟩) ?_ | refine zav rfl rfl (by omega) (by omega) ?_ | refine zai rfl rfl rfl ?_ | refine zbb rfl ?_ | refine zba rfl ?_)
  refine zaf rfl rfl (zkr y (1#64)) ?_
  refine zaf rfl rfl (zdb _ _) ?_
  repeat (first | refine zal ?_ | refine za0 rfl ?_ | refine zac ?_ | refine zae ?_ | refine zbf ?_ | refine zah ?_ | refine zas ?_ | refine zbm rfl ?_ | refine zbl rfl ?_ | refine zb3 ?_ | refine zbc ?_ | refine zb2 ?_ | refine za4 ?_ | refine za2 rfl ?_ | refine za3 ?_ | refine za5 ?_ | refine zbp rfl ?_ | refine zbx rfl rfl ?_ | refine zby rfl ?_ | refine zab rfl ?_ | refine zau rfl rfl ?_ | refine zaq rfl rfl rfl rfl ?_ | refine zar rfl rfl rfl rfl rfl rfl rfl ?_ | refine zag rfl ?_ | refine za6 rfl rfl rfl ?_ | refine za1 rfl rfl rfl ?_ | refine za9 rfl rfl rfl rfl ?_ | refine zat ?_ | refine zap rfl rfl ?_ | refine zao rfl rfl ?_ | refine zbz rfl rfl ?_ | refine zbe rfl rfl ?_ | refine zaw rfl rfl ?_ | refine zad rfl rfl ?_ | refine zbg rfl rfl ?_ | refine zaa rfl rfl rfl ?_ | refine zax rfl rfl ?_ | refine zan rfl rfl rfl rfl ?_ | refine za8 rfl rfl rfl rfl ?_ | refine zaj rfl rfl rfl rfl ?_ | refine zb6 rfl rfl ?_ | refine zb5 rfl rfl ?_ | refine za7 rfl rfl ?_ | refine zb9 ?_ | refine zak env0_ok rfl rfl rfl ?_ | refine zaf (op := .add) rfl rfl rfl ?_ | refine zaf (op := .sub) rfl rfl rfl ?_ | refine zb8 rfl rfl rfl ?_ | refine zb7 rfl rfl rfl ?_ | refine zb4 rfl rfl rfl ?_ | refine zb0 rfl rfl rfl ?_ | refine zb1 rfl rfl (by omega) (by assumption) rfl ?_ | refine za1 rfl rfl (decide_eq_true ⟨by omega, by omega⟩) ?_ | refine zav rfl rfl (by omega) (by omega) ?_ | refine zai rfl rfl rfl ?_ | refine zbb rfl ?_ | refine zba rfl ?_)
  exact zbw (show szB (y &&& (y - 1#64)) < szB y by omega) (zbd (.cons rfl (.cons rfl .nil))) ⟨_, i + 1, rfl, by omega, by have := zor x; omega, rfl⟩
 ·have h0 : y = 0#64 := by simpa using h3
  subst h0
  have hz : szB 0#64 = 0 := zjg.2 rfl
  repeat (first | refine zal ?_ | refine za0 rfl ?_ | refine zac ?_ | refine zae ?_ | refine zbf ?_ | refine zah ?_ | refine zas ?_ | refine zbm rfl ?_ | refine zbl rfl ?_ | refine zb3 ?_ | refine zbc ?_ | refine zb2 ?_ | refine za4 ?_ | refine za2 rfl ?_ | refine za3 ?_ | refine za5 ?_ | refine zbp rfl ?_ | refine zbx rfl rfl ?_ | refine zby rfl ?_ | refine zab rfl ?_ | refine zau rfl rfl ?_ | refine zaq rfl rfl rfl rfl ?_ | refine zar rfl rfl rfl rfl rfl rfl rfl ?_ | refine zag rfl ?_ | refine za6 rfl rfl rfl ?_ | refine za1 rfl rfl rfl ?_ | refine za9 rfl rfl rfl rfl ?_ | refine zat ?_ | refine zap rfl rfl ?_ | refine zao rfl rfl ?_ | refine zbz rfl rfl ?_ | refine zbe rfl rfl ?_ | refine zaw rfl rfl ?_ | refine zad rfl rfl ?_ | refine zbg rfl rfl ?_ | refine zaa rfl rfl rfl ?_ | refine zax rfl rfl ?_ | refine zan rfl rfl rfl rfl ?_ | refine za8 rfl rfl rfl rfl ?_ | refine zaj rfl rfl rfl rfl ?_ | refine zb6 rfl rfl ?_ | refine zb5 rfl rfl ?_ | refine za7 rfl rfl ?_ | refine zb9 ?_ | refine zak env0_ok rfl rfl rfl ?_ | refine zaf (op := .add) rfl rfl rfl ?_ | refine zaf (op := .sub) rfl rfl rfl ?_ | refine zb8 rfl rfl rfl ?_ | refine zb7 rfl rfl rfl ?_ | refine zb4 rfl rfl rfl ?_ | refine zb0 rfl rfl rfl ?_ | refine zb1 rfl rfl (by omega) (by assumption) rfl ?_ | refine za1 rfl rfl (decide_eq_true ⟨by omega, by omega⟩) ?_ | refine zav rfl rfl (by omega) (by omega) ?_ | refine zai rfl rfl rfl ?_ | refine zbb rfl ?_ | refine zba rfl ?_)
  refine zdf ?_
  repeat (first | refine zal ?_ | refine za0 rfl ?_ | refine zac ?_ | refine zae ?_ | refine zbf ?_ | refine zah ?_ | refine zas ?_ | refine zbm rfl ?_ | refine zbl rfl ?_ | refine zb3 ?_ | refine zbc ?_ | refine zb2 ?_ | refine za4 ?_ | refine za2 rfl ?_ | refine za3 ?_ | refine za5 ?_ | refine zbp rfl ?_ | refine zbx rfl rfl ?_ | refine zby rfl ?_ | refine zab rfl ?_ | refine zau rfl rfl ?_ | refine zaq rfl rfl rfl rfl ?_ | refine zar rfl rfl rfl rfl rfl rfl rfl ?_ | refine zag rfl ?_ | refine za6 rfl rfl rfl ?_ | refine za1 rfl rfl rfl ?_ | refine za9 rfl rfl rfl rfl ?_ | refine zat ?_ | refine zap rfl rfl ?_ | refine zao rfl rfl ?_ | refine zbz rfl rfl ?_ | refine zbe rfl rfl ?_ | refine zaw rfl rfl ?_ | refine zad rfl rfl ?_ | refine zbg rfl rfl ?_ | refine zaa rfl rfl rfl ?_ | refine zax rfl rfl ?_ | refine zan rfl rfl rfl rfl ?_ | refine za8 rfl rfl rfl rfl ?_ | refine zaj rfl rfl rfl rfl ?_ | refine zb6 rfl rfl ?_ | refine zb5 rfl rfl ?_ | refine za7 rfl rfl ?_ | refine zb9 ?_ | refine zak env0_ok rfl rfl rfl ?_ | refine zaf (op := .add) rfl rfl rfl ?_ | refine zaf (op := .sub) rfl rfl rfl ?_ | refine zb8 rfl rfl rfl ?_ | refine zb7 rfl rfl rfl ?_ | refine zb4 rfl rfl rfl ?_ | refine zb0 rfl rfl rfl ?_ | refine zb1 rfl rfl (by omega) (by assumption) rfl ?_ | refine za1 rfl rfl (decide_eq_true ⟨by omega, by omega⟩) ?_ | refine zav rfl rfl (by omega) (by omega) ?_ | refine zai rfl rfl rfl ?_ | refine zbb rfl ?_ | refine zba rfl ?_)
  exact zbj ⟨.inr rfl, _, rfl, by show AV.int .i64 (i : Nat) = _; rw [show i = szB x by omega]⟩
def b47_0 : IC := .seq (.seq (.region [⟨(some 7), .mov (.t 6), none⟩,
  ⟨(some 8), .mov (.t 1), none⟩,
  ⟨(some 9), .len false (.t 8), none⟩,
  ⟨(some 10), .bin .lss (.t 7) (.t 9), none⟩] none)
 (.cond (.t 10) (.skip)
 (.exit 0)))
 (.seq (.block 1 (.seq (.seq (.region [⟨(some 13), .faddr 1 (.t 2), none⟩,
  ⟨(some 14), .load none (.t 13), none⟩,
  ⟨(some 15), .mov (.t 1), none⟩,
  ⟨(some 16), .mov (.t 6), none⟩,
  ⟨(some 17), .idxs 1 (.t 15) (.t 16), none⟩,
  ⟨(some 18), .load none (.t 17), none⟩,
  ⟨(some 19), .idxs 1 (.t 14) (.t 18), none⟩,
  ⟨(some 20), .load none (.t 19), none⟩,
  ⟨(some 21), .bin .eql (.t 20) (.c (.int .u64 0)), none⟩] (some [[], [0], [], [], [2, 3], [4], [1, 5], [6], [7]]))
 (.cond (.t 21) (.seq (.region [⟨(some 4), .mov (.c (.bool false)), none⟩] none)
 (.ret))
 (.skip)))
 (.region [⟨(some 22), .mov (.t 5), none⟩,
  ⟨(some 23), .faddr 1 (.t 2), none⟩,
  ⟨(some 24), .load none (.t 23), none⟩,
  ⟨(some 25), .mov (.t 1), none⟩,
  ⟨(some 26), .mov (.t 6), none⟩,
  ⟨(some 27), .idxs 1 (.t 25) (.t 26), none⟩,
  ⟨(some 28), .load none (.t 27), none⟩,
  ⟨(some 29), .idxs 1 (.t 24) (.t 28), none⟩,
  ⟨(some 30), .load none (.t 29), none⟩,
  ⟨(some 31), .call (.c (.fn 55 [] [])) [(.t 30)], none⟩,
  ⟨(some 32), .bin .add (.t 22) (.t 31), none⟩,
  ⟨(some 5), .mov (.t 32), none⟩] (some [[], [], [1], [], [], [3, 4], [5], [2, 6], [7], [8], [0, 9], [10, 9, 0, 1, 2, 3, 4, 5, 6, 7, 8, 9, 10]]))))
 (.region [⟨(some 11), .mov (.t 6), none⟩,
  ⟨(some 12), .bin .add (.t 11) (.c (.int .i64 1)), none⟩,
  ⟨(some 6), .mov (.t 12), none⟩] none))
-- pneumatic/pneumaticref09.exactly
def ic47 : IC := .seq (.region [⟨(some 2), .box (.t 0), none⟩,
  ⟨(some 4), .mov (.c (.bool false)), none⟩] none)
 (.seq (.region [⟨(some 5), .mov (.c (.int .i64 0)), none⟩] none)
 (.seq (.seq (.region [⟨(some 6), .mov (.c (.int .i64 0)), none⟩] none)
 (.block 0 (.loop b47_0)))
 (.seq (.region [⟨(some 33), .mov (.t 5), none⟩,
  ⟨(some 34), .faddr 0 (.t 2), none⟩,
  ⟨(some 35), .load none (.t 34), none⟩,
  ⟨(some 36), .bin .eql (.t 33) (.t 35), none⟩,
  ⟨(some 37), .mov (.t 36), none⟩,
  ⟨(some 38), .load (some 2) (.t 2), some (37, true)⟩,
  ⟨(some 39), .mov (.t 1), some (37, true)⟩,
  ⟨(some 40), .call (.c (.fn 60 [] [])) [(.t 38), (.t 39)], some (37, true)⟩,
  ⟨(some 41), .faddr 0 (.t 2), some (37, true)⟩,
  ⟨(some 42), .load none (.t 41), some (37, true)⟩,
  ⟨(some 43), .call (.c (.fn 54 [] [])) [(.t 42)], some (37, true)⟩,
  ⟨(some 44), .bin .eql (.t 40) (.t 43), some (37, true)⟩,
  ⟨(some 45), .pick (.t 37) (.t 44) (.c (.bool false)), none⟩,
  ⟨(some 4), .mov (.t 45), none⟩] (some [[], [], [1], [0, 2], [3], [4], [4], [5, 6, 4, 4], [4], [8, 4], [9, 7, 4], [7, 10, 4], [4, 11], [12, 10, 0, 1, 2, 3, 4, 5, 6, 7, 8, 9, 10, 11, 12]]))
 (.ret))))
theorem fn47 : env0.fn 47 = some ⟨46, ic47, [.t 4]⟩ := by kernel_rfl
def szs (s : List (BitVec 64)) : List Int → Nat
 | [] => 0
 | k :: c => szB (s.getD k.toNat 0) + szs s c
theorem zvh (s : List (BitVec 64)) (z : Int) : ∀ c : List Int, szs s (c ++ [z]) = szs s c + szB (s.getD z.toNat 0)
 | [] => by simp [szs]
 | k :: c => by
  have := zvh s z c
  show szB _ + szs s (c ++ [z]) = szB _ + szs s c + _
  omega
theorem szs_le (s : List (BitVec 64)) : ∀ c : List Int, szs s c ≤ c.length * 64
 | [] => Nat.le_refl _
 | k :: c => by
  have h1 := szs_le s c
  have h2 := zor (s.getD k.toNat 0)
  show szB _ + szs s c ≤ (c.length + 1) * 64
  omega
def zr8 (s : List (BitVec 64)) (c : List Int) : Bool := c.all fun k => s.getD k.toNat 0 != 0#64
def exR (n : Int) (s : List (BitVec 64)) (c : List Int) : Bool := zr8 s c && (decide ((szs s c : Int) = n) && zrp n s c)
set_option maxHeartbeats 4000000 in
theorem zt8 (n : Int) (n0 : 0 ≤ n) (s : List (BitVec 64)) (c : List Int) (hl : c.length ≤ 1000) (hm : ∀ z ∈ c, 0 ≤ z ∧ z < s.length) : PF Try.prog 47 [cF n s, vsI c] (.bool (exR n s c)) := by
 have pA := all54 n0
 have pU := union60 n s c (by omega) hm
 have hcl := zcl s
 have hva : (c.map fun z => ([.int .i64 z] : List AV)).length = c.length := List.length_map ..
 refine zc2 env0_ok fn47 [(0, cF n s), (1, vsI c)] (by show 2 ≤ 46; decide) rfl fun w0 N0 => ?_
 unfold ic47
 refine zal (za0 rfl (zbg (cs := [.int .i64 n, .vs (cUs s)]) rfl rfl (zab rfl (zac (zae ?_)))))
 refine zdp [] [(0, 0, [.int .i64 n, .vs (cUs s)])] [(1, vsI c), (2, .vptr [.int .i64 n, .vs (cUs s)])] rfl (.cons rfl rfl .nil) .nil (.cons rfl (.same rfl) (.cons rfl (.fptr rfl rfl) .nil)) ?_
 repeat (first | refine zal ?_ | refine za0 rfl ?_ | refine zac ?_ | refine zae ?_ | refine zbf ?_ | refine zah ?_ | refine zas ?_ | refine zbm rfl ?_ | refine zbl rfl ?_ | refine zb3 ?_ | refine zbc ?_ | refine zb2 ?_ | refine za4 ?_ | refine za2 rfl ?_ | refine za3 ?_ | refine za5 ?_ | refine zbp rfl ?_ | refine zbx rfl rfl ?_ | refine zby rfl ?_ | refine zab rfl ?_ | refine zau rfl rfl ?_ | refine zaq rfl rfl rfl rfl ?_ | refine zar rfl rfl rfl rfl rfl rfl rfl ?_ | refine zag rfl ?_ | refine za6 rfl rfl rfl ?_ | refine za1 rfl rfl rfl ?_ | refine za9 rfl rfl rfl rfl ?_ | refine zat ?_ | refine zap rfl rfl ?_ | refine zao rfl rfl ?_ | refine zbz rfl rfl ?_ | refine zbe rfl rfl ?_ | refine zaw rfl rfl ?_ | refine zad rfl rfl ?_ | refine zbg rfl rfl ?_ | refine zaa rfl rfl rfl ?_ | refine zax rfl rfl ?_ | refine zan rfl rfl rfl rfl ?_ | refine za8 rfl rfl rfl rfl ?_ | refine zaj rfl rfl rfl rfl ?_ | refine zb6 rfl rfl ?_ | refine zb5 rfl rfl ?_ | refine za7 rfl rfl ?_ | refine zb9 ?_ | refine zak env0_ok rfl rfl rfl ?_ | refine zaf (op := .add) rfl rfl rfl ?_ | refine zaf (op := .sub) rfl rfl rfl ?_ | refine zb8 rfl rfl rfl ?_ | refine zb7 rfl rfl rfl ?_ | refine zb4 rfl rfl rfl ?_ | refine zb0 rfl rfl rfl ?_ | refine zb1 rfl rfl (by omega) (by assumption) rfl ?_ | refine za1 rfl rfl (decide_eq_true ⟨by omega, by omega⟩) ?_ | refine zav rfl rfl (by omega) (by omega) ?_ | refine zai rfl rfl rfl ?_ | refine zbb rfl ?_ | refine zba rfl ?_)
 refine zcf (fun mm S => ∃ i, mm = c.length - i ∧ i ≤ c.length ∧ zr8 s (c.take i) = true ∧ S = st 46 [(1, vsI c), (2, .vptr [.int .i64 n, .vs (cUs s)]), (5, .int .i64 (szs s (c.take i) : Nat)), (6, .int .i64 (i : Nat))] [] 0 1) c.length
  (zbd (.cons rfl (.cons rfl (.cons rfl (.cons rfl .nil))))) ⟨0, rfl, Nat.zero_le _, rfl, rfl⟩ ?_
 rintro mm S ⟨i, rfl, hi, hnz, rfl⟩
 have hsl := szs_le s (c.take i)
 rw [List.length_take] at hsl
 unfold b47_0
 repeat (first | refine zal ?_ | refine za0 rfl ?_ | refine zac ?_ | refine zae ?_ | refine zbf ?_ | refine zah ?_ | refine zas ?_ | refine zbm rfl ?_ | refine zbl rfl ?_ | refine zb3 ?_ | refine zbc ?_ | refine zb2 ?_ | refine za4 ?_ | refine za2 rfl ?_ | refine za3 ?_ | refine za5 ?_ | refine zbp rfl ?_ | refine zbx rfl rfl ?_ | refine zby rfl ?_ | refine zab rfl ?_ | refine zau rfl rfl ?_ | refine zaq rfl rfl rfl rfl ?_ | refine zar rfl rfl rfl rfl rfl rfl rfl ?_ | refine zag rfl ?_ | refine za6 rfl rfl rfl ?_ | refine za1 rfl rfl rfl ?_ | refine za9 rfl rfl rfl rfl ?_ | refine zat ?_ | refine zap rfl rfl ?_ | refine zao rfl rfl ?_ | refine zbz rfl rfl ?_ | refine zbe rfl rfl ?_ | refine zaw rfl rfl ?_ | refine zad rfl rfl ?_ | refine zbg rfl rfl ?_ | refine zaa rfl rfl rfl ?_ | refine zax rfl rfl ?_ | refine zan rfl rfl rfl rfl ?_ | refine za8 rfl rfl rfl rfl ?_ | refine zaj rfl rfl rfl rfl ?_ | refine zb6 rfl rfl ?_ | refine zb5 rfl rfl ?_ | refine za7 rfl rfl ?_ | refine zb9 ?_ | refine zak env0_ok rfl rfl rfl ?_ | refine zaf (op := .add) rfl rfl rfl ?_ | refine zaf (op := .sub) rfl rfl rfl ?_ | refine zb8 rfl rfl rfl ?_ | refine zb7 rfl rfl rfl ?_ | refine zb4 rfl rfl rfl ?_ | refine zb0 rfl rfl rfl ?_ | refine zb1 rfl rfl (by omega) (by assumption) rfl ?_ | refine za1 rfl rfl (decide_eq_true ⟨by omega, by omega⟩) ?_ | refine zav rfl rfl (by omega) (by omega) ?_ | refine zai rfl rfl rfl ?_ | refine zbb rfl ?_ | refine zba rfl ?_)
 refine zbv rfl rfl (by show some (AV.bool (decide (((i : Nat) : Int) < ((c.map fun z => ([.int .i64 z] : List AV)).length : Nat)))) = _; rw [hva]) (fun h3 => ?_) fun h3 => ?_
 ·have hlt : i < c.length := Int.ofNat_lt.1 (of_decide_eq_true h3)
  have hg := zef hlt
  have hz := hm _ (List.getElem_mem hlt)
  have hts : c.take (i + 1) = c.take i ++ [c[i]] := by rw [List.take_add_one, List.getElem?_eq_getElem hlt]; rfl
  have hsz := zvh s c[i] (c.take i)
  have hnz2 : zr8 s (c.take i ++ [c[i]]) = (zr8 s (c.take i) && (s.getD c[i].toNat 0 != 0#64)) := by
   unfold zr8
   rw [List.all_append]
   simp
  have hzlt : c[i].toNat < s.length := by omega
  have hg2 := zh3 hzlt
  have w1 : IntKind.wrap .i64 (((i : Nat) : Int) + 1) = ((i + 1 : Nat) : Int) := zbn i (by omega)
  have hgd : s[c[i].toNat] = s.getD c[i].toNat 0 := by rw [List.getD_eq_getElem?_getD, List.getElem?_eq_getElem hzlt]; rfl
  repeat (first | refine zal ?_ | refine za0 rfl ?_ | refine zac ?_ | refine zae ?_ | refine zbf ?_ | refine zah ?_ | refine zas ?_ | refine zbm rfl ?_ | refine zbl rfl ?_ | refine zb3 ?_ | refine zbc ?_ | refine zb2 ?_ | refine za4 ?_ | refine za2 rfl ?_ | refine za3 ?_ | refine za5 ?_ | refine zbp rfl ?_ | refine zbx rfl rfl ?_ | refine zby rfl ?_ | refine zab rfl ?_ | refine zau rfl rfl ?_ | refine zaq rfl rfl rfl rfl ?_ | refine zar rfl rfl rfl rfl rfl rfl rfl ?_ | refine zag rfl ?_ | refine za6 rfl rfl rfl ?_ | refine za1 rfl rfl rfl ?_ | refine za9 rfl rfl rfl rfl ?_ | refine zat ?_ | refine zap rfl rfl ?_ | refine zao rfl rfl ?_ | refine zbz rfl rfl ?_ | refine zbe rfl rfl ?_ | refine zaw rfl rfl ?_ | refine zad rfl rfl ?_ | refine zbg rfl rfl ?_ | refine zaa rfl rfl rfl ?_ | refine zax rfl rfl ?_ | refine zan rfl rfl rfl rfl ?_ | refine za8 rfl rfl rfl rfl ?_ | refine zaj rfl rfl rfl rfl ?_ | refine zb6 rfl rfl ?_ | refine zb5 rfl rfl ?_ | refine za7 rfl rfl ?_ | refine zb9 ?_ | refine zak env0_ok rfl rfl rfl ?_ | refine zaf (op := .add) rfl rfl rfl ?_ | refine zaf (op := .sub) rfl rfl rfl ?_ | refine zb8 rfl rfl rfl ?_ | refine zb7 rfl rfl rfl ?_ | refine zb4 rfl rfl rfl ?_ | refine zb0 rfl rfl rfl ?_ | refine zb1 rfl rfl (by omega) (by assumption) rfl ?_ | refine za1 rfl rfl (decide_eq_true ⟨by omega, by omega⟩) ?_ | refine zav rfl rfl (by omega) (by omega) ?_ | refine zai rfl rfl rfl ?_ | refine zbb rfl ?_ | refine zba rfl ?_)
  rw [hgd]
  have pS := size55 (s.getD c[i].toNat 0)
  have hall : zr8 s c = true → s.getD c[i].toNat 0 ≠ 0#64 := fun h => by simpa using List.all_eq_true.1 h c[i] (List.getElem_mem hlt)
  have h64 := zor (s.getD c[i].toNat 0)
  rw [hgd] at hg2
  rw [← hts] at hsz hnz2
  refine zbv rfl rfl (zds _ (0#64)) (fun h4 => ?_) fun h4 => ?_
  ·have hE : exR n s c = false := by
    unfold exR
    cases hn : zr8 s c with
    | false => rfl
    | true => exact absurd (eq_of_beq h4) (hall hn)
   rw [hE]
   repeat (first | refine zal ?_ | refine za0 rfl ?_ | refine zac ?_ | refine zae ?_ | refine zbf ?_ | refine zah ?_ | refine zas ?_ | refine zbm rfl ?_ | refine zbl rfl ?_ | refine zb3 ?_ | refine zbc ?_ | refine zb2 ?_ | refine za4 ?_ | refine za2 rfl ?_ | refine za3 ?_ | refine za5 ?_ | refine zbp rfl ?_ | refine zbx rfl rfl ?_ | refine zby rfl ?_ | refine zab rfl ?_ | refine zau rfl rfl ?_ | refine zaq rfl rfl rfl rfl ?_ | refine zar rfl rfl rfl rfl rfl rfl rfl ?_ | refine zag rfl ?_ | refine za6 rfl rfl rfl ?_ | refine za1 rfl rfl rfl ?_ | refine za9 rfl rfl rfl rfl ?_ | refine zat ?_ | refine zap rfl rfl ?_ | refine zao rfl rfl ?_ | refine zbz rfl rfl ?_ | refine zbe rfl rfl ?_ | refine zaw rfl rfl ?_ | refine zad rfl rfl ?_ | refine zbg rfl rfl ?_ | refine zaa rfl rfl rfl ?_ | refine zax rfl rfl ?_ | refine zan rfl rfl rfl rfl ?_ | refine za8 rfl rfl rfl rfl ?_ | refine zaj rfl rfl rfl rfl ?_ | refine zb6 rfl rfl ?_ | refine zb5 rfl rfl ?_ | refine za7 rfl rfl ?_ | refine zb9 ?_ | refine zak env0_ok rfl rfl rfl ?_ | refine zaf (op := .add) rfl rfl rfl ?_ | refine zaf (op := .sub) rfl rfl rfl ?_ | refine zb8 rfl rfl rfl ?_ | refine zb7 rfl rfl rfl ?_ | refine zb4 rfl rfl rfl ?_ | refine zb0 rfl rfl rfl ?_ | refine zb1 rfl rfl (by omega) (by assumption) rfl ?_ | refine za1 rfl rfl (decide_eq_true ⟨by omega, by omega⟩) ?_ | refine zav rfl rfl (by omega) (by omega) ?_ | refine zai rfl rfl rfl ?_ | refine zbb rfl ?_ | refine zba rfl ?_)
   exact zbj ⟨.inr rfl, _, rfl, rfl⟩
  ·have hnz3 : zr8 s (c.take (i + 1)) = true := by
    rw [hnz2, hnz, bne, h4]
    rfl
   repeat (first | refine zal ?_ | refine za0 rfl ?_ | refine zac ?_ | refine zae ?_ | refine zbf ?_ | refine zah ?_ | refine zas ?_ | refine zbm rfl ?_ | refine zbl rfl ?_ | refine zb3 ?_ | refine zbc ?_ | refine zb2 ?_ | refine za4 ?_ | refine za2 rfl ?_ | refine za3 ?_ | refine za5 ?_ | refine zbp rfl ?_ | refine zbx rfl rfl ?_ | refine zby rfl ?_ | refine zab rfl ?_ | refine zau rfl rfl ?_ | refine zaq rfl rfl rfl rfl ?_ | refine zar rfl rfl rfl rfl rfl rfl rfl ?_ | refine zag rfl ?_ | refine za6 rfl rfl rfl ?_ | refine za1 rfl rfl rfl ?_ | refine za9 rfl rfl rfl rfl ?_ | refine zat ?_ | refine zap rfl rfl ?_ | refine zao rfl rfl ?_ | refine zbz rfl rfl ?_ | refine zbe rfl rfl ?_ | refine zaw rfl rfl ?_ | refine zad rfl rfl ?_ | refine zbg rfl rfl ?_ | refine zaa rfl rfl rfl ?_ | refine zax rfl rfl ?_ | refine zan rfl rfl rfl rfl ?_ | refine za8 rfl rfl rfl rfl ?_ | refine zaj rfl rfl rfl rfl ?_ | refine zb6 rfl rfl ?_ | refine zb5 rfl rfl ?_ | refine za7 rfl rfl ?_ | refine zb9 ?_ | refine zaf (op := .add) rfl rfl rfl ?_ | refine zaf (op := .sub) rfl rfl rfl ?_ | refine zb8 rfl rfl rfl ?_ | refine zb7 rfl rfl rfl ?_ | refine zb4 rfl rfl rfl ?_ | refine zb0 rfl rfl rfl ?_ | refine zb1 rfl rfl (by omega) (by assumption) rfl ?_ | refine za1 rfl rfl (decide_eq_true ⟨by omega, by omega⟩) ?_ | refine zav rfl rfl (by omega) (by omega) ?_ | refine zai rfl rfl rfl ?_ | refine zbb rfl ?_ | refine zba rfl ?_)
   generalize s.getD c[i].toNat 0 = x at *
   refine zga env0_ok [(55, [cU x], .int .i64 (szB x : Nat))] (fun y hy => by
    obtain rfl := List.mem_singleton.1 hy
    exact pS) (fun f => Nat.beq f 55) rfl rfl rfl ?_
   repeat (first | refine zal ?_ | refine za0 rfl ?_ | refine zac ?_ | refine zae ?_ | refine zbf ?_ | refine zah ?_ | refine zas ?_ | refine zbm rfl ?_ | refine zbl rfl ?_ | refine zb3 ?_ | refine zbc ?_ | refine zb2 ?_ | refine za4 ?_ | refine za2 rfl ?_ | refine za3 ?_ | refine za5 ?_ | refine zbp rfl ?_ | refine zbx rfl rfl ?_ | refine zby rfl ?_ | refine zab rfl ?_ | refine zau rfl rfl ?_ | refine zaq rfl rfl rfl rfl ?_ | refine zar rfl rfl rfl rfl rfl rfl rfl ?_ | refine zag rfl ?_ | refine za6 rfl rfl rfl ?_ | refine za1 rfl rfl rfl ?_ | refine za9 rfl rfl rfl rfl ?_ | refine zat ?_ | refine zap rfl rfl ?_ | refine zao rfl rfl ?_ | refine zbz rfl rfl ?_ | refine zbe rfl rfl ?_ | refine zaw rfl rfl ?_ | refine zad rfl rfl ?_ | refine zbg rfl rfl ?_ | refine zaa rfl rfl rfl ?_ | refine zax rfl rfl ?_ | refine zan rfl rfl rfl rfl ?_ | refine za8 rfl rfl rfl rfl ?_ | refine zaj rfl rfl rfl rfl ?_ | refine zb6 rfl rfl ?_ | refine zb5 rfl rfl ?_ | refine za7 rfl rfl ?_ | refine zb9 ?_ | refine zak env0_ok rfl rfl rfl ?_ | refine zaf (op := .add) rfl rfl rfl ?_ | refine zaf (op := .sub) rfl rfl rfl ?_ | refine zb8 rfl rfl rfl ?_ | refine zb7 rfl rfl rfl ?_ | refine zb4 rfl rfl rfl ?_ | refine zb0 rfl rfl rfl ?_ | refine zb1 rfl rfl (by omega) (by assumption) rfl ?_ | refine za1 rfl rfl (decide_eq_true ⟨by omega, by omega⟩) ?_ | refine zav rfl rfl (by omega) (by omega) ?_ | refine zai rfl rfl rfl ?_ | refine zbb rfl ?_ | refine zba rfl ?_)
   refine zc3 rfl rfl zdc (fun h => Bool.noConfusion (show false = true from h)) ?_
   repeat (first | refine zal ?_ | refine za0 rfl ?_ | refine zac ?_ | refine zae ?_ | refine zbf ?_ | refine zah ?_ | refine zas ?_ | refine zbm rfl ?_ | refine zbl rfl ?_ | refine zb3 ?_ | refine zbc ?_ | refine zb2 ?_ | refine za4 ?_ | refine za2 rfl ?_ | refine za3 ?_ | refine za5 ?_ | refine zbp rfl ?_ | refine zbx rfl rfl ?_ | refine zby rfl ?_ | refine zab rfl ?_ | refine zau rfl rfl ?_ | refine zaq rfl rfl rfl rfl ?_ | refine zar rfl rfl rfl rfl rfl rfl rfl ?_ | refine zag rfl ?_ | refine za6 rfl rfl rfl ?_ | refine za1 rfl rfl rfl ?_ | refine za9 rfl rfl rfl rfl ?_ | refine zat ?_ | refine zap rfl rfl ?_ | refine zao rfl rfl ?_ | refine zbz rfl rfl ?_ | refine zbe rfl rfl ?_ | refine zaw rfl rfl ?_ | refine zad rfl rfl ?_ | refine zbg rfl rfl ?_ | refine zaa rfl rfl rfl ?_ | refine zax rfl rfl ?_ | refine zan rfl rfl rfl rfl ?_ | refine za8 rfl rfl rfl rfl ?_ | refine zaj rfl rfl rfl rfl ?_ | refine zb6 rfl rfl ?_ | refine zb5 rfl rfl ?_ | refine za7 rfl rfl ?_ | refine zb9 ?_ | refine zak env0_ok rfl rfl rfl ?_ | refine zaf (op := .add) rfl rfl rfl ?_ | refine zaf (op := .sub) rfl rfl rfl ?_ | refine zb8 rfl rfl rfl ?_ | refine zb7 rfl rfl rfl ?_ | refine zb4 rfl rfl rfl ?_ | refine zb0 rfl rfl rfl ?_ | refine zb1 rfl rfl (by omega) (by assumption) rfl ?_ | refine za1 rfl rfl (decide_eq_true ⟨by omega, by omega⟩) ?_ | refine zav rfl rfl (by omega) (by omega) ?_ | refine zai rfl rfl rfl ?_ | refine zbb rfl ?_ | refine zba rfl ?_)
   rw [w1, show IntKind.wrap .i64 (((szs s (c.take i) : Nat) : Int) + ((szB x : Nat) : Int)) = ((szs s (c.take (i + 1)) : Nat) : Int) by rw [ze1 _ (by omega) (by omega)]; omega]
   exact zbw (show c.length - (i + 1) < c.length - i by omega) (zbd (.cons rfl (.cons rfl (.cons rfl (.cons rfl .nil))))) ⟨i + 1, rfl, hlt, hnz3, rfl⟩
 ·have hi3 : i = c.length := by
   have : ¬ i < c.length := fun h => of_decide_eq_false h3 (Int.ofNat_lt.2 h)
   omega
  rw [hi3, List.take_length] at hnz ⊢
  have hE : exR n s c = (decide ((szs s c : Int) = n) && zrp n s c) := by unfold exR; rw [hnz, Bool.true_and]
  rw [hE]
  repeat (first | refine zal ?_ | refine za0 rfl ?_ | refine zac ?_ | refine zae ?_ | refine zbf ?_ | refine zah ?_ | refine zas ?_ | refine zbm rfl ?_ | refine zbl rfl ?_ | refine zb3 ?_ | refine zbc ?_ | refine zb2 ?_ | refine za4 ?_ | refine za2 rfl ?_ | refine za3 ?_ | refine za5 ?_ | refine zbp rfl ?_ | refine zbx rfl rfl ?_ | refine zby rfl ?_ | refine zab rfl ?_ | refine zau rfl rfl ?_ | refine zaq rfl rfl rfl rfl ?_ | refine zar rfl rfl rfl rfl rfl rfl rfl ?_ | refine zag rfl ?_ | refine za6 rfl rfl rfl ?_ | refine za1 rfl rfl rfl ?_ | refine za9 rfl rfl rfl rfl ?_ | refine zat ?_ | refine zap rfl rfl ?_ | refine zao rfl rfl ?_ | refine zbz rfl rfl ?_ | refine zbe rfl rfl ?_ | refine zaw rfl rfl ?_ | refine zad rfl rfl ?_ | refine zbg rfl rfl ?_ | refine zaa rfl rfl rfl ?_ | refine zax rfl rfl ?_ | refine zan rfl rfl rfl rfl ?_ | refine za8 rfl rfl rfl rfl ?_ | refine zaj rfl rfl rfl rfl ?_ | refine zb6 rfl rfl ?_ | refine zb5 rfl rfl ?_ | refine za7 rfl rfl ?_ | refine zb9 ?_ | refine zak env0_ok rfl rfl rfl ?_ | refine zaf (op := .add) rfl rfl rfl ?_ | refine zaf (op := .sub) rfl rfl rfl ?_ | refine zb8 rfl rfl rfl ?_ | refine zb7 rfl rfl rfl ?_ | refine zb4 rfl rfl rfl ?_ | refine zb0 rfl rfl rfl ?_ | refine zb1 rfl rfl (by omega) (by assumption) rfl ?_ | refine za1 rfl rfl (decide_eq_true ⟨by omega, by omega⟩) ?_ | refine zav rfl rfl (by omega) (by omega) ?_ | refine zai rfl rfl rfl ?_ | refine zbb rfl ?_ | refine zba rfl ?_)
  refine zdf ?_
  repeat (first | refine zal ?_ | refine za0 rfl ?_ | refine zac ?_ | refine zae ?_ | refine zbf ?_ | refine zah ?_ | refine zas ?_ | refine zbm rfl ?_ | refine zbl rfl ?_ | refine zb3 ?_ | refine zbc ?_ | refine zb2 ?_ | refine za4 ?_ | refine za2 rfl ?_ | refine za3 ?_ | refine za5 ?_ | refine zbp rfl ?_ | refine zbx rfl rfl ?_ | refine zby rfl ?_ | refine zab rfl ?_ | refine zau rfl rfl ?_ | refine zaq rfl rfl rfl rfl ?_ | refine zar rfl rfl rfl rfl rfl rfl rfl ?_ | refine zag rfl ?_ | refine za6 rfl rfl rfl ?_ | refine za1 rfl rfl rfl ?_ | refine za9 rfl rfl rfl rfl ?_ | refine zat ?_ | refine zap rfl rfl ?_ | refine zao rfl rfl ?_ | refine zbz rfl rfl ?_ | refine zbe rfl rfl ?_ | refine zaw rfl rfl ?_ | refine zad rfl rfl ?_ | refine zbg rfl rfl ?_ | refine zaa rfl rfl rfl ?_ | refine zax rfl rfl ?_ | refine zan rfl rfl rfl rfl ?_ | refine za8 rfl rfl rfl rfl ?_ | refine zaj rfl rfl rfl rfl ?_ | refine zb6 rfl rfl ?_ | refine zb5 rfl rfl ?_ | refine za7 rfl rfl ?_ | refine zb9 ?_ | refine zaf (op := .add) rfl rfl rfl ?_ | refine zaf (op := .sub) rfl rfl rfl ?_ | refine zb8 rfl rfl rfl ?_ | refine zb7 rfl rfl rfl ?_ | refine zb4 rfl rfl rfl ?_ | refine zb0 rfl rfl rfl ?_ | refine zb1 rfl rfl (by omega) (by assumption) rfl ?_ | refine za1 rfl rfl (decide_eq_true ⟨by omega, by omega⟩) ?_ | refine zav rfl rfl (by omega) (by omega) ?_ | refine zai rfl rfl rfl ?_ | refine zbb rfl ?_ | refine zba rfl ?_)
  refine zga env0_ok [(60, [cF n s, vsI c], cU (uni s c)), (54, [.int .i64 n], cU (zcw n))] (fun x hx => by
   rcases List.mem_cons.1 hx with rfl | hx
   ·exact pU
   obtain rfl := List.mem_singleton.1 hx
   exact pA) (fun f => Nat.beq f 60 || Nat.beq f 54) rfl rfl rfl ?_
  repeat (first | refine zal ?_ | refine za0 rfl ?_ | refine zac ?_ | refine zae ?_ | refine zbf ?_ | refine zah ?_ | refine zas ?_ | refine zbm rfl ?_ | refine zbl rfl ?_ | refine zb3 ?_ | refine zbc ?_ | refine zb2 ?_ | refine za4 ?_ | refine za2 rfl ?_ | refine za3 ?_ | refine za5 ?_ | refine zbp rfl ?_ | refine zbx rfl rfl ?_ | refine zby rfl ?_ | refine zab rfl ?_ | refine zau rfl rfl ?_ | refine zaq rfl rfl rfl rfl ?_ | refine zar rfl rfl rfl rfl rfl rfl rfl ?_ | refine zag rfl ?_ | refine za6 rfl rfl rfl ?_ | refine za1 rfl rfl rfl ?_ | refine za9 rfl rfl rfl rfl ?_ | refine zat ?_ | refine zap rfl rfl ?_ | refine zao rfl rfl ?_ | refine zbz rfl rfl ?_ | refine zbe rfl rfl ?_ | refine zaw rfl rfl ?_ | refine zad rfl rfl ?_ | refine zbg rfl rfl ?_ | refine zaa rfl rfl rfl ?_ | refine zax rfl rfl ?_ | refine zan rfl rfl rfl rfl ?_ | refine za8 rfl rfl rfl rfl ?_ | refine zaj rfl rfl rfl rfl ?_ | refine zb6 rfl rfl ?_ | refine zb5 rfl rfl ?_ | refine za7 rfl rfl ?_ | refine zb9 ?_ | refine zak env0_ok rfl rfl rfl ?_ | refine zaf (op := .add) rfl rfl rfl ?_ | refine zaf (op := .sub) rfl rfl rfl ?_ | refine zb8 rfl rfl rfl ?_ | refine zb7 rfl rfl rfl ?_ | refine zb4 rfl rfl rfl ?_ | refine zb0 rfl rfl rfl ?_ | refine zb1 rfl rfl (by omega) (by assumption) rfl ?_ | refine za1 rfl rfl (decide_eq_true ⟨by omega, by omega⟩) ?_ | refine zav rfl rfl (by omega) (by omega) ?_ | refine zai rfl rfl rfl ?_ | refine zbb rfl ?_ | refine zba rfl ?_)
  refine zbv rfl rfl rfl (fun h4 => ?_) fun h4 => ?_
  ·rw [decide_eq_true (show ((szs s c : Nat) : Int) = n from eq_of_beq h4), Bool.true_and]
   repeat (first | refine zal ?_ | refine za0 rfl ?_ | refine zac ?_ | refine zae ?_ | refine zbf ?_ | refine zah ?_ | refine zas ?_ | refine zbm rfl ?_ | refine zbl rfl ?_ | refine zb3 ?_ | refine zbc ?_ | refine zb2 ?_ | refine za4 ?_ | refine za2 rfl ?_ | refine za3 ?_ | refine za5 ?_ | refine zbp rfl ?_ | refine zbx rfl rfl ?_ | refine zby rfl ?_ | refine zab rfl ?_ | refine zau rfl rfl ?_ | refine zaq rfl rfl rfl rfl ?_ | refine zar rfl rfl rfl rfl rfl rfl rfl ?_ | refine zag rfl ?_ | refine za6 rfl rfl rfl ?_ | refine za1 rfl rfl rfl ?_ | refine za9 rfl rfl rfl rfl ?_ | refine zat ?_ | refine zap rfl rfl ?_ | refine zao rfl rfl ?_ | refine zbz rfl rfl ?_ | refine zbe rfl rfl ?_ | refine zaw rfl rfl ?_ | refine zad rfl rfl ?_ | refine zbg rfl rfl ?_ | refine zaa rfl rfl rfl ?_ | refine zax rfl rfl ?_ | refine zan rfl rfl rfl rfl ?_ | refine za8 rfl rfl rfl rfl ?_ | refine zaj rfl rfl rfl rfl ?_ | refine zb6 rfl rfl ?_ | refine zb5 rfl rfl ?_ | refine za7 rfl rfl ?_ | refine zb9 ?_ | refine zak env0_ok rfl rfl rfl ?_ | refine zaf (op := .add) rfl rfl rfl ?_ | refine zaf (op := .sub) rfl rfl rfl ?_ | refine zb8 rfl rfl rfl ?_ | refine zb7 rfl rfl rfl ?_ | refine zb4 rfl rfl rfl ?_ | refine zb0 rfl rfl rfl ?_ | refine zb1 rfl rfl (by omega) (by assumption) rfl ?_ | refine za1 rfl rfl (decide_eq_true ⟨by omega, by omega⟩) ?_ | refine zav rfl rfl (by omega) (by omega) ?_ | refine zai rfl rfl rfl ?_ | refine zbb rfl ?_ | refine zba rfl ?_)
   refine zc3 rfl rfl zdc (fun h => Bool.noConfusion (show false = true from h)) ?_
   repeat (first | refine zal ?_ | refine za0 rfl ?_ | refine zac ?_ | refine zae ?_ | refine zbf ?_ | refine zah ?_ | refine zas ?_ | refine zbm rfl ?_ | refine zbl rfl ?_ | refine zb3 ?_ | refine zbc ?_ | refine zb2 ?_ | refine za4 ?_ | refine za2 rfl ?_ | refine za3 ?_ | refine za5 ?_ | refine zbp rfl ?_ | refine zbx rfl rfl ?_ | refine zby rfl ?_ | refine zab rfl ?_ | refine zau rfl rfl ?_ | refine zaq rfl rfl rfl rfl ?_ | refine zar rfl rfl rfl rfl rfl rfl rfl ?_ | refine zag rfl ?_ | refine za6 rfl rfl rfl ?_ | refine za1 rfl rfl rfl ?_ | refine za9 rfl rfl rfl rfl ?_ | refine zat ?_ | refine zap rfl rfl ?_ | refine zao rfl rfl ?_ | refine zbz rfl rfl ?_ | refine zbe rfl rfl ?_ | refine zaw rfl rfl ?_ | refine zad rfl rfl ?_ | refine zbg rfl rfl ?_ | refine zaa rfl rfl rfl ?_ | refine zax rfl rfl ?_ | refine zan rfl rfl rfl rfl ?_ | refine za8 rfl rfl rfl rfl ?_ | refine zaj rfl rfl rfl rfl ?_ | refine zb6 rfl rfl ?_ | refine zb5 rfl rfl ?_ | refine za7 rfl rfl ?_ | refine zb9 ?_ | refine zak env0_ok rfl rfl rfl ?_ | refine zaf (op := .add) rfl rfl rfl ?_ | refine zaf (op := .sub) rfl rfl rfl ?_ | refine zb8 rfl rfl rfl ?_ | refine zb7 rfl rfl rfl ?_ | refine zb4 rfl rfl rfl ?_ | refine zb0 rfl rfl rfl ?_ | refine zb1 rfl rfl (by omega) (by assumption) rfl ?_ | refine za1 rfl rfl (decide_eq_true ⟨by omega, by omega⟩) ?_ | refine zav rfl rfl (by omega) (by omega) ?_ | refine zai rfl rfl rfl ?_ | refine zbb rfl ?_ | refine zba rfl ?_)
   refine zc3 rfl rfl (zk2 (by decide) zdc) (fun h => Bool.noConfusion (show false = true from h)) ?_
   repeat (first | refine zal ?_ | refine za0 rfl ?_ | refine zac ?_ | refine zae ?_ | refine zbf ?_ | refine zah ?_ | refine zas ?_ | refine zbm rfl ?_ | refine zbl rfl ?_ | refine zb3 ?_ | refine zbc ?_ | refine zb2 ?_ | refine za4 ?_ | refine za2 rfl ?_ | refine za3 ?_ | refine za5 ?_ | refine zbp rfl ?_ | refine zbx rfl rfl ?_ | refine zby rfl ?_ | refine zab rfl ?_ | refine zau rfl rfl ?_ | refine zaq rfl rfl rfl rfl ?_ | refine zar rfl rfl rfl rfl rfl rfl rfl ?_ | refine zag rfl ?_ | refine za6 rfl rfl rfl ?_ | refine za1 rfl rfl rfl ?_ | refine za9 rfl rfl rfl rfl ?_ | refine zat ?_ | refine zap rfl rfl ?_ | refine zao rfl rfl ?_ | refine zbz rfl rfl ?_ | refine zbe rfl rfl ?_ | refine zaw rfl rfl ?_ | refine zad rfl rfl ?_ | refine zbg rfl rfl ?_ | refine zaa rfl rfl rfl ?_ | refine zax rfl rfl ?_ | refine zan rfl rfl rfl rfl ?_ | refine za8 rfl rfl rfl rfl ?_ | refine zaj rfl rfl rfl rfl ?_ | refine zb6 rfl rfl ?_ | refine zb5 rfl rfl ?_ | refine za7 rfl rfl ?_ | refine zb9 ?_ | refine zak env0_ok rfl rfl rfl ?_ | refine zb8 rfl rfl rfl ?_ | refine zb7 rfl rfl rfl ?_ | refine zb4 rfl rfl rfl ?_ | refine zb0 rfl rfl rfl ?_ | refine zb1 rfl rfl (by omega) (by assumption) rfl ?_ | refine za1 rfl rfl (decide_eq_true ⟨by omega, by omega⟩) ?_ | refine zav rfl rfl (by omega) (by omega) ?_ | refine zai rfl rfl rfl ?_ | refine zbb rfl ?_ | refine zba rfl ?_)
   refine zaf rfl rfl (zds _ _) ?_
   repeat (first | refine zal ?_ | refine za0 rfl ?_ | refine zac ?_ | refine zae ?_ | refine zbf ?_ | refine zah ?_ | refine zas ?_ | refine zbm rfl ?_ | refine zbl rfl ?_ | refine zb3 ?_ | refine zbc ?_ | refine zb2 ?_ | refine za4 ?_ | refine za2 rfl ?_ | refine za3 ?_ | refine za5 ?_ | refine zbp rfl ?_ | refine zbx rfl rfl ?_ | refine zby rfl ?_ | refine zab rfl ?_ | refine zau rfl rfl ?_ | refine zaq rfl rfl rfl rfl ?_ | refine zar rfl rfl rfl rfl rfl rfl rfl ?_ | refine zag rfl ?_ | refine za6 rfl rfl rfl ?_ | refine za1 rfl rfl rfl ?_ | refine za9 rfl rfl rfl rfl ?_ | refine zat ?_ | refine zap rfl rfl ?_ | refine zao rfl rfl ?_ | refine zbz rfl rfl ?_ | refine zbe rfl rfl ?_ | refine zaw rfl rfl ?_ | refine zad rfl rfl ?_ | refine zbg rfl rfl ?_ | refine zaa rfl rfl rfl ?_ | refine zax rfl rfl ?_ | refine zan rfl rfl rfl rfl ?_ | refine za8 rfl rfl rfl rfl ?_ | refine zaj rfl rfl rfl rfl ?_ | refine zb6 rfl rfl ?_ | refine zb5 rfl rfl ?_ | refine za7 rfl rfl ?_ | refine zb9 ?_ | refine zak env0_ok rfl rfl rfl ?_ | refine zaf (op := .add) rfl rfl rfl ?_ | refine zaf (op := .sub) rfl rfl rfl ?_ | refine zb8 rfl rfl rfl ?_ | refine zb7 rfl rfl rfl ?_ | refine zb4 rfl rfl rfl ?_ | refine zb0 rfl rfl rfl ?_ | refine zb1 rfl rfl (by omega) (by assumption) rfl ?_ | refine za1 rfl rfl (decide_eq_true ⟨by omega, by omega⟩) ?_ | refine zav rfl rfl (by omega) (by omega) ?_ | refine zai rfl rfl rfl ?_ | refine zbb rfl ?_ | refine zba rfl ?_)
   exact zbj ⟨.inr rfl, _, rfl, rfl⟩
  ·rw [decide_eq_false (show ¬ ((szs s c : Nat) : Int) = n from fun h => Bool.noConfusion (h4.symm.trans (beq_iff_eq.2 h))), Bool.false_and]
   repeat (first | refine zal ?_ | refine za0 rfl ?_ | refine zac ?_ | refine zae ?_ | refine zbf ?_ | refine zah ?_ | refine zas ?_ | refine zbm rfl ?_ | refine zbl rfl ?_ | refine zb3 ?_ | refine zbc ?_ | refine zb2 ?_ | refine za4 ?_ | refine za2 rfl ?_ | refine za3 ?_ | refine za5 ?_ | refine zbp rfl ?_ | refine zbx rfl rfl ?_ | refine zby rfl ?_ | refine zab rfl ?_ | refine zau rfl rfl ?_ | refine zaq rfl rfl rfl rfl ?_ | refine zar rfl rfl rfl rfl rfl rfl rfl ?_ | refine zag rfl ?_ | refine za6 rfl rfl rfl ?_ | refine za1 rfl rfl rfl ?_ | refine za9 rfl rfl rfl rfl ?_ | refine zat ?_ | refine zap rfl rfl ?_ | refine zao rfl rfl ?_ | refine zbz rfl rfl ?_ | refine zbe rfl rfl ?_ | refine zaw rfl rfl ?_ | refine zad rfl rfl ?_ | refine zbg rfl rfl ?_ | refine zaa rfl rfl rfl ?_ | refine zax rfl rfl ?_ | refine zan rfl rfl rfl rfl ?_ | refine za8 rfl rfl rfl rfl ?_ | refine zaj rfl rfl rfl rfl ?_ | refine zb6 rfl rfl ?_ | refine zb5 rfl rfl ?_ | refine za7 rfl rfl ?_ | refine zb9 ?_ | refine zak env0_ok rfl rfl rfl ?_ | refine zaf (op := .add) rfl rfl rfl ?_ | refine zaf (op := .sub) rfl rfl rfl ?_ | refine zb8 rfl rfl rfl ?_ | refine zb7 rfl rfl rfl ?_ | refine zb4 rfl rfl rfl ?_ | refine zb0 rfl rfl rfl ?_ | refine zb1 rfl rfl (by omega) (by assumption) rfl ?_ | refine za1 rfl rfl (decide_eq_true ⟨by omega, by omega⟩) ?_ | refine zav rfl rfl (by omega) (by omega) ?_ | refine zai rfl rfl rfl ?_ | refine zbb rfl ?_ | refine zba rfl ?_)
   exact zbj ⟨.inr rfl, _, rfl, rfl⟩
end Go.Proofs.Ytknomkcdpcnmaaa
