/-
  THE EXACT COVERS OF THE REFERENCE: Size, exactly, Exact.
-/
import Derived.Test.YtknomkcdpcnmaaaWRB
import Derived.Test.YtknomkcdpcnmaaaWVD
import Derived.Test.YtknomkcdpcnmaaaWP4
namespace Go.Proofs.Ytknomkcdpcnmaaa
open Go Go.Am
theorem szN_le : ∀ m x : Nat, szN m x ≤ m
 | 0, _ => Nat.le_refl _
 | m + 1, x => by
  have := szN_le m (x / 2)
  simp only [szN]
  omega
theorem sz_le64 (x : BitVec 64) : szB x ≤ 64 := by
 unfold szB
 exact szN_le 64 _
def b55_0 : IC := .seq (.seq (.region [⟨(some 4), .mov (.t 0), none⟩,
  ⟨(some 5), .bin .neq (.t 4) (.c (.int .u64 0)), none⟩] none)
 (.cond (.t 5) (.skip)
 (.exit 0)))
 (.seq (.block 1 (.region [⟨(some 10), .mov (.t 3), none⟩,
  ⟨(some 11), .bin .add (.t 10) (.c (.int .i64 1)), none⟩,
  ⟨(some 3), .mov (.t 11), none⟩] none))
 (.region [⟨(some 6), .mov (.t 0), none⟩,
  ⟨(some 7), .mov (.t 0), none⟩,
  ⟨(some 8), .bin .sub (.t 7) (.c (.int .u64 1)), none⟩,
  ⟨(some 9), .bin .and (.t 6) (.t 8), none⟩,
  ⟨(some 0), .mov (.t 9), none⟩] none))
-- pneumatic/pneumaticref09.Size
def ic55 : IC := .seq (.region [⟨(some 2), .mov (.c (.int .i64 0)), none⟩] none)
 (.seq (.region [⟨(some 3), .mov (.c (.int .i64 0)), none⟩] none)
 (.seq (.block 0 (.loop b55_0))
 (.seq (.region [⟨(some 12), .mov (.t 3), none⟩,
  ⟨(some 2), .mov (.t 12), none⟩] none)
 (.ret))))
theorem fn55 : env0.fn 55 = some ⟨13, ic55, [.t 2]⟩ := by kernel_rfl
set_option maxHeartbeats 2000000 in
theorem size55 (x : BitVec 64) : PF Try.prog 55 [cU x] (.int .i64 (szB x : Nat)) := by
 refine zby env0_ok fn55 [(0, cU x)] (by show 1 ≤ 13; decide) rfl fun w0 N0 => ?_
 unfold ic55
 repeat (first | refine zaa ?_ | refine za0 rfl ?_ | refine za7 ?_ | refine za8 ?_ | refine zbf ?_ | refine zag ?_ | refine zao ?_ | refine zbo rfl ?_ | refine zbl rfl ?_ | refine zb2 ?_ | refine zb6 ?_ | refine zb1 ?_ | refine za4 ?_ | refine za3 rfl ?_ | refine za2 ?_ | refine za5 ?_ | refine zbx rfl ?_ | refine zbz rfl rfl ?_ | refine zc4 rfl ?_ | refine za6 rfl ?_ | refine zar rfl rfl ?_ | refine zat rfl rfl rfl rfl ?_ | refine zau rfl rfl rfl rfl rfl rfl rfl ?_ | refine zak rfl ?_ | refine za9 rfl rfl rfl ?_ | refine za1 rfl rfl rfl ?_ | refine zad rfl rfl rfl rfl ?_ | refine zaw ?_ | refine zap rfl rfl ?_ | refine zal rfl rfl ?_ | refine zc7 rfl rfl ?_ | refine zbe rfl rfl ?_ | refine zax rfl rfl ?_ | refine zai rfl rfl ?_ | refine zbh rfl rfl ?_ | refine zae rfl rfl rfl ?_ | refine zaz rfl rfl ?_ | refine zaq rfl rfl rfl rfl ?_ | refine zac rfl rfl rfl rfl ?_ | refine zan rfl rfl rfl rfl ?_ | refine zb8 rfl rfl ?_ | refine zb7 rfl rfl ?_ | refine zab rfl rfl ?_ | refine zbb ?_ | refine zaj env0_ok rfl rfl rfl ?_ | refine zah (op := .add) rfl rfl rfl ?_ | refine zah (op := .sub) rfl rfl rfl ?_ | refine zb9 rfl rfl rfl ?_ | refine zba rfl rfl rfl ?_ | refine zb4 rfl rfl rfl ?_ | refine zb3 rfl rfl rfl ?_ | refine zb0 rfl rfl (by omega) (by assumption) rfl ?_ | refine za1 rfl rfl (decide_eq_true ⟨by omega, by omega⟩) ?_ | refine zav rfl rfl (by omega) (by omega) ?_ | refine zam rfl rfl rfl ?_ | refine zbd rfl ?_ | refine zbc rfl ?_)
 refine zc9 (fun mm S => ∃ (y : BitVec 64) (i : Nat), mm = szB y ∧ szB y + i = szB x ∧ i ≤ 64 ∧ S = st 13 [(0, cU y), (3, .int .i64 (i : Nat))] [] 0 0) (szB x)
  (zb5 (.cons rfl (.cons rfl .nil))) ⟨x, 0, rfl, by omega, by omega, rfl⟩ ?_
 rintro mm S ⟨y, i, rfl, hy, hi, rfl⟩
 unfold b55_0
 repeat (first | refine zaa ?_ | refine za0 rfl ?_ | refine za7 ?_ | refine za8 ?_ | refine zbf ?_ | refine zag ?_ | refine zao ?_ | refine zbo rfl ?_ | refine zbl rfl ?_ | refine zb2 ?_ | refine zb6 ?_ | refine zb1 ?_ | refine za4 ?_ | refine za3 rfl ?_ | refine za2 ?_ | refine za5 ?_ | refine zbx rfl ?_ | refine zbz rfl rfl ?_ | refine zc4 rfl ?_ | refine za6 rfl ?_ | refine zar rfl rfl ?_ | refine zat rfl rfl rfl rfl ?_ | refine zau rfl rfl rfl rfl rfl rfl rfl ?_ | refine zak rfl ?_ | refine za9 rfl rfl rfl ?_ | refine za1 rfl rfl rfl ?_ | refine zad rfl rfl rfl rfl ?_ | refine zaw ?_ | refine zap rfl rfl ?_ | refine zal rfl rfl ?_ | refine zc7 rfl rfl ?_ | refine zbe rfl rfl ?_ | refine zax rfl rfl ?_ | refine zai rfl rfl ?_ | refine zbh rfl rfl ?_ | refine zae rfl rfl rfl ?_ | refine zaz rfl rfl ?_ | refine zaq rfl rfl rfl rfl ?_ | refine zac rfl rfl rfl rfl ?_ | refine zan rfl rfl rfl rfl ?_ | refine zb8 rfl rfl ?_ | refine zb7 rfl rfl ?_ | refine zab rfl rfl ?_ | refine zbb ?_ | refine zaj env0_ok rfl rfl rfl ?_ | refine zb9 rfl rfl rfl ?_ | refine zba rfl rfl rfl ?_ | refine zb4 rfl rfl rfl ?_ | refine zb3 rfl rfl rfl ?_ | refine zb0 rfl rfl (by omega) (by assumption) rfl ?_ | refine za1 rfl rfl (decide_eq_true ⟨by omega, by omega⟩) ?_ | refine zav rfl rfl (by omega) (by omega) ?_ | refine zam rfl rfl rfl ?_ | refine zbd rfl ?_ | refine zbc rfl ?_)
 refine zbm rfl rfl (zfm _ (0#64)) (fun h3 => ?_) fun h3 => ?_
 ·have h0 : y ≠ 0#64 := by simpa using h3
  have hst := sz_step h0
  have w1 : IntKind.wrap .i64 (((i : Nat) : Int) + 1) = ((i + 1 : Nat) : Int) := zbn i (by omega)
  repeat (first | refine zaa ?_ | refine za0 rfl ?_ | refine za7 ?_ | refine za8 ?_ | refine zbf ?_ | refine zag ?_ | refine zao ?_ | refine zbo rfl ?_ | refine zbl rfl ?_ | refine zb2 ?_ | refine zb6 ?_ | refine zb1 ?_ | refine za4 ?_ | refine za3 rfl ?_ | refine za2 ?_ | refine za5 ?_ | refine zbx rfl ?_ | refine zbz rfl rfl ?_ | refine zc4 rfl ?_ | refine za6 rfl ?_ | refine zar rfl rfl ?_ | refine zat rfl rfl rfl rfl ?_ | refine zau rfl rfl rfl rfl rfl rfl rfl ?_ | refine zak rfl ?_ | refine za9 rfl rfl rfl ?_ | refine za1 rfl rfl rfl ?_ | refine zad rfl rfl rfl rfl ?_ | refine zaw ?_ | refine zap rfl rfl ?_ | refine zal rfl rfl ?_ | refine zc7 rfl rfl ?_ | refine zbe rfl rfl ?_ | refine zax rfl rfl ?_ | refine zai rfl rfl ?_ | refine zbh rfl rfl ?_ | refine zae rfl rfl rfl ?_ | refine zaz rfl rfl ?_ | refine zaq rfl rfl rfl rfl ?_ | refine zac rfl rfl rfl rfl ?_ | refine zan rfl rfl rfl rfl ?_ | refine zb8 rfl rfl ?_ | refine zb7 rfl rfl ?_ | refine zab rfl rfl ?_ | refine zbb ?_ | refine zaj env0_ok rfl rfl rfl ?_ | refine zb9 rfl rfl rfl ?_ | refine zba rfl rfl rfl ?_ | refine zb4 rfl rfl rfl ?_ | refine zb3 rfl rfl rfl ?_ | refine zb0 rfl rfl (by omega) (by assumption) rfl ?_ | refine za1 rfl rfl (decide_eq_true ⟨by omega, by omega⟩) ?_ | refine zav rfl rfl (by omega) (by omega) ?_ | refine zam rfl rfl rfl ?_ | refine zbd rfl ?_ | refine zbc rfl ?_)
  refine zah rfl rfl rfl ?_
  rw [w1]
  repeat (first | refine zaa ?_ | refine za0 rfl ?_ | refine za7 ?_ | refine za8 ?_ | refine zbf ?_ | refine zag ?_ | refine zao ?_ | refine zbo rfl ?_ | refine zbl rfl ?_ | refine zb2 ?_ | refine zb6 ?_ | refine zb1 ?_ | refine za4 ?_ | refine za3 rfl ?_ | refine za2 ?_ | refine za5 ?_ | refine zbx rfl ?_ | refine zbz rfl rfl ?_ | refine zc4 rfl ?_ | refine za6 rfl ?_ | refine zar rfl rfl ?_ | refine zat rfl rfl rfl rfl ?_ | refine zau rfl rfl rfl rfl rfl rfl rfl ?_ | refine zak rfl ?_ | refine za9 rfl rfl rfl ?_ | refine za1 rfl rfl rfl ?_ | refine zad rfl rfl rfl rfl ?_ | refine zaw ?_ | refine zap rfl rfl ?_ | refine zal rfl rfl ?_ | refine zc7 rfl rfl ?_ | refine zbe rfl rfl ?_ | refine zax rfl rfl ?_ | refine zai rfl rfl ?_ | refine zbh rfl rfl ?_ | refine zae rfl rfl rfl ?_ | refine zaz rfl rfl ?_ | refine zaq rfl rfl rfl rfl ?_ | refine zac rfl rfl rfl rfl ?_ | refine zan rfl rfl rfl rfl ?_ | refine zb8 rfl rfl ?_ | refine zb7 rfl rfl ?_ | refine zab rfl rfl ?_ | refine zbb ?_ | refine zaj env0_ok rfl rfl rfl ?_ | refine zb9 rfl rfl rfl ?_ | refine zba rfl rfl rfl ?_ | refine zb4 rfl rfl rfl ?_ | refine zb3 rfl rfl rfl ?_ | refine zb0 rfl rfl (by omega) (by assumption) rfl ?_ | refine za1 rfl rfl (decide_eq_true ⟨by omega, by omega⟩) ?_ | refine zav rfl rfl (by omega) (by omega) ?_ | refine zam rfl rfl rfl ?_ | refine zbd rfl ?_ | refine zbc rfl ?_)
  refine zah rfl rfl (zl3 y (1#64)) ?_
  refine zah rfl rfl (zdp _ _) ?_
  repeat (first | refine zaa ?_ | refine za0 rfl ?_ | refine za7 ?_ | refine za8 ?_ | refine zbf ?_ | refine zag ?_ | refine zao ?_ | refine zbo rfl ?_ | refine zbl rfl ?_ | refine zb2 ?_ | refine zb6 ?_ | refine zb1 ?_ | refine za4 ?_ | refine za3 rfl ?_ | refine za2 ?_ | refine za5 ?_ | refine zbx rfl ?_ | refine zbz rfl rfl ?_ | refine zc4 rfl ?_ | refine za6 rfl ?_ | refine zar rfl rfl ?_ | refine zat rfl rfl rfl rfl ?_ | refine zau rfl rfl rfl rfl rfl rfl rfl ?_ | refine zak rfl ?_ | refine za9 rfl rfl rfl ?_ | refine za1 rfl rfl rfl ?_ | refine zad rfl rfl rfl rfl ?_ | refine zaw ?_ | refine zap rfl rfl ?_ | refine zal rfl rfl ?_ | refine zc7 rfl rfl ?_ | refine zbe rfl rfl ?_ | refine zax rfl rfl ?_ | refine zai rfl rfl ?_ | refine zbh rfl rfl ?_ | refine zae rfl rfl rfl ?_ | refine zaz rfl rfl ?_ | refine zaq rfl rfl rfl rfl ?_ | refine zac rfl rfl rfl rfl ?_ | refine zan rfl rfl rfl rfl ?_ | refine zb8 rfl rfl ?_ | refine zb7 rfl rfl ?_ | refine zab rfl rfl ?_ | refine zbb ?_ | refine zaj env0_ok rfl rfl rfl ?_ | refine zah (op := .add) rfl rfl rfl ?_ | refine zah (op := .sub) rfl rfl rfl ?_ | refine zb9 rfl rfl rfl ?_ | refine zba rfl rfl rfl ?_ | refine zb4 rfl rfl rfl ?_ | refine zb3 rfl rfl rfl ?_ | refine zb0 rfl rfl (by omega) (by assumption) rfl ?_ | refine za1 rfl rfl (decide_eq_true ⟨by omega, by omega⟩) ?_ | refine zav rfl rfl (by omega) (by omega) ?_ | refine zam rfl rfl rfl ?_ | refine zbd rfl ?_ | refine zbc rfl ?_)
  exact zbp (show szB (y &&& (y - 1#64)) < szB y by omega) (zb5 (.cons rfl (.cons rfl .nil))) ⟨_, i + 1, rfl, by omega, by have := sz_le64 x; omega, rfl⟩
 ·have h0 : y = 0#64 := by simpa using h3
  subst h0
  have hz : szB 0#64 = 0 := zp7.2 rfl
  repeat (first | refine zaa ?_ | refine za0 rfl ?_ | refine za7 ?_ | refine za8 ?_ | refine zbf ?_ | refine zag ?_ | refine zao ?_ | refine zbo rfl ?_ | refine zbl rfl ?_ | refine zb2 ?_ | refine zb6 ?_ | refine zb1 ?_ | refine za4 ?_ | refine za3 rfl ?_ | refine za2 ?_ | refine za5 ?_ | refine zbx rfl ?_ | refine zbz rfl rfl ?_ | refine zc4 rfl ?_ | refine za6 rfl ?_ | refine zar rfl rfl ?_ | refine zat rfl rfl rfl rfl ?_ | refine zau rfl rfl rfl rfl rfl rfl rfl ?_ | refine zak rfl ?_ | refine za9 rfl rfl rfl ?_ | refine za1 rfl rfl rfl ?_ | refine zad rfl rfl rfl rfl ?_ | refine zaw ?_ | refine zap rfl rfl ?_ | refine zal rfl rfl ?_ | refine zc7 rfl rfl ?_ | refine zbe rfl rfl ?_ | refine zax rfl rfl ?_ | refine zai rfl rfl ?_ | refine zbh rfl rfl ?_ | refine zae rfl rfl rfl ?_ | refine zaz rfl rfl ?_ | refine zaq rfl rfl rfl rfl ?_ | refine zac rfl rfl rfl rfl ?_ | refine zan rfl rfl rfl rfl ?_ | refine zb8 rfl rfl ?_ | refine zb7 rfl rfl ?_ | refine zab rfl rfl ?_ | refine zbb ?_ | refine zaj env0_ok rfl rfl rfl ?_ | refine zah (op := .add) rfl rfl rfl ?_ | refine zah (op := .sub) rfl rfl rfl ?_ | refine zb9 rfl rfl rfl ?_ | refine zba rfl rfl rfl ?_ | refine zb4 rfl rfl rfl ?_ | refine zb3 rfl rfl rfl ?_ | refine zb0 rfl rfl (by omega) (by assumption) rfl ?_ | refine za1 rfl rfl (decide_eq_true ⟨by omega, by omega⟩) ?_ | refine zav rfl rfl (by omega) (by omega) ?_ | refine zam rfl rfl rfl ?_ | refine zbd rfl ?_ | refine zbc rfl ?_)
  refine zd6 ?_
  repeat (first | refine zaa ?_ | refine za0 rfl ?_ | refine za7 ?_ | refine za8 ?_ | refine zbf ?_ | refine zag ?_ | refine zao ?_ | refine zbo rfl ?_ | refine zbl rfl ?_ | refine zb2 ?_ | refine zb6 ?_ | refine zb1 ?_ | refine za4 ?_ | refine za3 rfl ?_ | refine za2 ?_ | refine za5 ?_ | refine zbx rfl ?_ | refine zbz rfl rfl ?_ | refine zc4 rfl ?_ | refine za6 rfl ?_ | refine zar rfl rfl ?_ | refine zat rfl rfl rfl rfl ?_ | refine zau rfl rfl rfl rfl rfl rfl rfl ?_ | refine zak rfl ?_ | refine za9 rfl rfl rfl ?_ | refine za1 rfl rfl rfl ?_ | refine zad rfl rfl rfl rfl ?_ | refine zaw ?_ | refine zap rfl rfl ?_ | refine zal rfl rfl ?_ | refine zc7 rfl rfl ?_ | refine zbe rfl rfl ?_ | refine zax rfl rfl ?_ | refine zai rfl rfl ?_ | refine zbh rfl rfl ?_ | refine zae rfl rfl rfl ?_ | refine zaz rfl rfl ?_ | refine zaq rfl rfl rfl rfl ?_ | refine zac rfl rfl rfl rfl ?_ | refine zan rfl rfl rfl rfl ?_ | refine zb8 rfl rfl ?_ | refine zb7 rfl rfl ?_ | refine zab rfl rfl ?_ | refine zbb ?_ | refine zaj env0_ok rfl rfl rfl ?_ | refine zah (op := .add) rfl rfl rfl ?_ | refine zah (op := .sub) rfl rfl rfl ?_ | refine zb9 rfl rfl rfl ?_ | refine zba rfl rfl rfl ?_ | refine zb4 rfl rfl rfl ?_ | refine zb3 rfl rfl rfl ?_ | refine zb0 rfl rfl (by omega) (by assumption) rfl ?_ | refine za1 rfl rfl (decide_eq_true ⟨by omega, by omega⟩) ?_ | refine zav rfl rfl (by omega) (by omega) ?_ | refine zam rfl rfl rfl ?_ | refine zbd rfl ?_ | refine zbc rfl ?_)
  exact zbj ⟨.inr rfl, _, rfl, by show AV.int .i64 (i : Nat) = _; rw [show i = szB x by omega]⟩
end Go.Proofs.Ytknomkcdpcnmaaa
