/-
  WHAT THE LAWS SHARE: sent, Few, SameInts.
-/
import Derived.Test.YtknomkcdpcnmaaaJV2
import Derived.Test.YtknomkcdpcnmaaaJW1
namespace Go.Proofs.Ytknomkcdpcnmaaa
open Go Go.Am
-- pneumatic/pneumaticlaw09.sent
def ic14 : IC := .seq (.region [⟨(some 1), .box (.t 0), none⟩,
  ⟨(some 2), .alloc [.int .i64 0, .nils], none⟩] none)
 (.seq (.region [⟨(some 3), .faddr 0 (.t 1), none⟩,
  ⟨(some 4), .load none (.t 3), none⟩,
  ⟨(some 5), .faddr 1 (.t 1), none⟩,
  ⟨(some 6), .load none (.t 5), none⟩,
  ⟨(some 7), .build [.int .i64 0, .nils] [(0, 1, (.t 4)), (1, 1, (.t 6))], none⟩,
  ⟨none, .store 2 (.t 2) (.t 7), none⟩] none)
 (.ret))
theorem fn14 : env0.fn 14 = some ⟨8, ic14, [.cell 2 (some 2)]⟩ := by kernel_rfl
theorem sent14 (n : Int) (s : List (BitVec 64)) : PF Try.prog 14 [cF n s] (cF n s) := by
 refine zc2 env0_ok fn14 [(0, .agg [.int .i64 n, .vs (cUs s)])] (by show 1 ≤ 8; decide) rfl fun w0 N0 => ?_
 unfold ic14
 repeat (first | refine za7 ?_ | refine za0 rfl ?_ | refine za5 ?_ | refine za6 ?_ | refine zaz ?_ | refine zam rfl rfl ?_ | refine zav rfl rfl rfl rfl rfl rfl rfl ?_ | refine zar rfl ?_ | refine zay ?_ | refine zb3 rfl rfl ?_ | refine zbt rfl rfl ?_)
 exact zba ⟨.inr rfl, _, rfl, rfl⟩
end Go.Proofs.Ytknomkcdpcnmaaa
