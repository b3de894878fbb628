/-
  THE STROKES THAT ARE PERMITTED: the reference's Moves, and Permitted twice.
-/
import Derived.Test.YtoiblgbaeglgoaaVH4
namespace Go.Proofs.Ytoiblgbaeglgoaa
open Go Go.Am

theorem cSs_hasM (a : List Sk) : hasM.hasML (cSs a).flatten = false := by
  induction a with
  | nil => rfl
  | cons s a ih =>
    have : (cSs (s :: a)).flatten = .int .i64 s.a :: .bool s.o :: (cSs a).flatten := rfl
    rw [this]
    simp only [hasM.hasML, ih]
    rfl

-- pneumatic/pneumaticlaw50.own
def ic35 : IC := .seq (.region [⟨(some 1), .box (.t 0), none⟩,
    ⟨(some 2), .alloc [.nils], none⟩] none)
  (.seq (.region [⟨(some 3), .load (some 1) (.t 1), none⟩,
    ⟨none, .store 1 (.t 2) (.t 3), none⟩] none)
  (.ret))
theorem fn35 : env0.fn 35 = some ⟨4, ic35, [.cell 2 (some 1)]⟩ := by kernel_rfl

theorem own35 (l : List Ex) : PF Try.prog 35 [.agg [.vs (cXs l)]] (.agg [.vs (cXs l)]) := by
  refine PF_of_Z env0_ok fn35 [(0, .agg [.vs (cXs l)])] (by show 1 ≤ 4; decide) rfl fun w0 N0 => ?_
  unfold ic35
  repeat (first | refine z_seq ?_ | refine z_region rfl ?_ | refine o_nil ?_ | refine u_seq ?_ | refine z_ret ?_ | refine o_loadn rfl rfl rfl rfl ?_ | refine o_store rfl rfl rfl rfl rfl rfl rfl ?_ | refine o_alloc ?_ | refine o_box rfl rfl ?_)
  exact u_end ⟨.inr rfl, _, rfl, rfl⟩

end Go.Proofs.Ytoiblgbaeglgoaa
