/-
  WHAT THE LAWS SHARE: sent, Few, SameInts.
-/
import Derived.Test.YtknomkcdpcnmaaaMV2
import Derived.Test.YtknomkcdpcnmaaaMW1
namespace Go.Proofs.Ytknomkcdpcnmaaa
open Go Go.Am
-- pneumatic/pneumaticlaw09.sent
def ic14 : IC := .seq (.region [⟨(some 1), .box (.t 0), none⟩,
  ⟨(some 2), .alloc [.int .i64 0, .nils], none⟩] none)
 (.seq (.region [⟨(some 3), .faddr 0 (.t 1), none⟩,
  ⟨(some 4), .load none (.t 3), none⟩,
  ⟨(some 5), .faddr 1 (.t 1), none⟩,
  ⟨(some 6), .load none (.t 5), none⟩,
  ⟨(some 7), .build [.int .i64 0, .nils] [(0, 1, (.t 4)), (1, 1, (.t 6))], none⟩,
  ⟨none, .store 2 (.t 2) (.t 7), none⟩] none)
 (.ret))
theorem fn14 : env0.fn 14 = some ⟨8, ic14, [.cell 2 (some 2)]⟩ := by kernel_rfl
theorem sent14 (n : Int) (s : List (BitVec 64)) : PF Try.prog 14 [cF n s] (cF n s) := by
 refine zb9 env0_ok fn14 [(0, .agg [.int .i64 n, .vs (cUs s)])] (by show 1 ≤ 8; decide) rfl fun w0 N0 => ?_
 unfold ic14
 repeat (first | refine za5 ?_ | refine za0 rfl ?_ | refine za3 ?_ | refine za4 ?_ | refine zbg ?_ | refine zaf ?_ | refine zac ?_ | refine zbv rfl ?_ | refine zbk rfl ?_ | refine zbc ?_ | refine zao ?_ | refine zbb ?_ | refine zad ?_ | refine zb2 rfl ?_ | refine za8 ?_ | refine za9 ?_ | refine zcr rfl ?_ | refine zg5 rfl rfl ?_ | refine zoa rfl ?_ | refine za1 rfl ?_ | refine zah rfl rfl ?_ | refine zay rfl rfl rfl rfl ?_ | refine zbf rfl rfl rfl rfl rfl rfl rfl ?_ | refine zcf rfl ?_ | refine zab rfl rfl rfl ?_ | refine zar rfl rfl rfl ?_ | refine zbs rfl rfl rfl rfl ?_ | refine zbx ?_ | refine zam rfl rfl ?_ | refine zal rfl rfl ?_ | refine zlm rfl rfl ?_ | refine zb8 rfl rfl ?_ | refine zd1 rfl rfl ?_ | refine zbd rfl rfl ?_ | refine zcw rfl rfl ?_ | refine zbt rfl rfl rfl ?_ | refine zd2 rfl rfl ?_ | refine zce rfl rfl rfl rfl ?_ | refine zbr rfl rfl rfl rfl ?_ | refine zch rfl rfl rfl rfl ?_ | refine zdr rfl rfl ?_ | refine zde rfl rfl ?_ | refine zb4 rfl rfl ?_ | refine zed ?_ | refine zc1 env0_ok rfl rfl rfl ?_ | refine zae (op := .add) rfl rfl rfl ?_ | refine zae (op := .sub) rfl rfl rfl ?_ | refine zds rfl rfl rfl ?_ | refine zec rfl rfl rfl ?_ | refine zbw rfl rfl rfl ?_ | refine zb7 rfl rfl rfl ?_ | refine zbe rfl rfl (by omega) (by assumption) rfl ?_ | refine zar rfl rfl (decide_eq_true ⟨by omega, by omega⟩) ?_ | refine zbm rfl rfl (by omega) (by omega) ?_ | refine zcg rfl rfl rfl ?_ | refine zef rfl ?_ | refine zee rfl ?_)
 exact zaj ⟨.inr rfl, _, rfl, rfl⟩
end Go.Proofs.Ytknomkcdpcnmaaa
