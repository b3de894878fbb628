/-
  WHAT THE LAWS SHARE: sent, Few, SameInts.
-/
import Derived.Test.YtknomkcdpcnmaaaEV2
import Derived.Test.YtknomkcdpcnmaaaEW1
namespace Go.Proofs.Ytknomkcdpcnmaaa
open Go Go.Am
-- pneumatic/pneumaticlaw09.sent
def ic14 : IC := .seq (.region [⟨(some 1), .box (.t 0), none⟩,
  ⟨(some 2), .alloc [.int .i64 0, .nils], none⟩] none)
 (.seq (.region [⟨(some 3), .faddr 0 (.t 1), none⟩,
  ⟨(some 4), .load none (.t 3), none⟩,
  ⟨(some 5), .faddr 1 (.t 1), none⟩,
  ⟨(some 6), .load none (.t 5), none⟩,
  ⟨(some 7), .build [.int .i64 0, .nils] [(0, 1, (.t 4)), (1, 1, (.t 6))], none⟩,
  ⟨none, .store 2 (.t 2) (.t 7), none⟩] none)
 (.ret))
theorem fn14 : env0.fn 14 = some ⟨8, ic14, [.cell 2 (some 2)]⟩ := by kernel_rfl
theorem zvq (n : Int) (s : List (BitVec 64)) : PF Try.prog 14 [cF n s] (cF n s) := by
 refine zbd env0_ok fn14 [(0, .agg [.int .i64 n, .vs (cUs s)])] (by show 1 ≤ 8; decide) rfl fun w0 N0 => ?_
 unfold ic14
 repeat (first | refine za6 ?_ | refine za0 rfl ?_ | refine za3 ?_ | refine za4 ?_ | refine zbj ?_ | refine zai ?_ | refine zad ?_ | refine zc1 rfl ?_ | refine zbt rfl ?_ | refine zbc ?_ | refine zas ?_ | refine zbb ?_ | refine zaf ?_ | refine zb7 rfl ?_ | refine za8 ?_ | refine zab ?_ | refine zcp rfl ?_ | refine zh8 rfl rfl ?_ | refine zrp rfl ?_ | refine za1 rfl ?_ | refine zah rfl rfl ?_ | refine zb2 rfl rfl rfl rfl ?_ | refine zb9 rfl rfl rfl rfl rfl rfl rfl ?_ | refine zcu rfl ?_ | refine za9 rfl rfl rfl ?_ | refine zaw rfl rfl rfl ?_ | refine zc7 rfl rfl rfl rfl ?_ | refine zc2 ?_ | refine zan rfl rfl ?_ | refine zam rfl rfl ?_ | refine zqh rfl rfl ?_ | refine zbf rfl rfl ?_ | refine zdc rfl rfl ?_ | refine zbg rfl rfl ?_ | refine zd7 rfl rfl ?_ | refine zc8 rfl rfl rfl ?_ | refine zdo rfl rfl ?_ | refine zct rfl rfl rfl rfl ?_ | refine zc6 rfl rfl rfl rfl ?_ | refine zcw rfl rfl rfl rfl ?_ | refine zec rfl rfl ?_ | refine zdy rfl rfl ?_ | refine zb8 rfl rfl ?_ | refine zfa ?_ | refine zcm env0_ok rfl rfl rfl ?_ | refine zac (op := .add) rfl rfl rfl ?_ | refine zac (op := .sub) rfl rfl rfl ?_ | refine zf9 rfl rfl rfl ?_ | refine zf8 rfl rfl rfl ?_ | refine zbr rfl rfl rfl ?_ | refine zb5 rfl rfl rfl ?_ | refine zba rfl rfl (by omega) (by assumption) rfl ?_ | refine zaw rfl rfl (decide_eq_true ⟨by omega, by omega⟩) ?_ | refine zbv rfl rfl (by omega) (by omega) ?_ | refine zcv rfl rfl rfl ?_ | refine zfc rfl ?_ | refine zfb rfl ?_)
 exact zal ⟨.inr rfl, _, rfl, rfl⟩
end Go.Proofs.Ytknomkcdpcnmaaa
