/-
  PLACES OF A GUARD: guard.Places.
-/
import Derived.Test.YtoiblgbaeglgoaaXPA
import Derived.Test.YtoiblgbaeglgoaaXCA
namespace Go.Proofs.Ytoiblgbaeglgoaa
open Go Go.Am
-- pneumatic/guard.combinations
def ic82 : IC := .seq (.region [⟨(some 1), .box (.t 0), none⟩,
  ⟨(some 2), .mov (.c (.nilf)), none⟩] none)
 (.seq (.region [⟨(some 3), .mkfn 130 [] [(.t 1)], none⟩,
  ⟨(some 2), .mov (.t 3), none⟩] none)
 (.ret))
theorem fn82 : env0.fn 82 = some ⟨4, ic82, [.t 2]⟩ := by kernel_rfl
theorem comb52 (cs : List (List Int)) : PF Try.prog 82 [css cs] (.fn 130 [] [.vptr [css cs]]) := by
 refine zbc env0_ok fn82 [(0, css cs)] (by show 1 ≤ 4; decide) rfl fun w0 N0 => ?_
 unfold ic82
 repeat (first | refine za6 ?_ | refine za0 rfl ?_ | refine za3 ?_ | refine za2 ?_ | refine zam ?_ | refine za4 rfl ?_ | refine zby rfl rfl ?_ | refine zde rfl rfl ?_)
 exact zak ⟨.inr rfl, _, rfl, rfl⟩
noncomputable def ca27_0 : Code := match env0.fn 27 with
 | some i => ((zcu i.ic)[0]?.getD (.skip, .skip)).1
 | none => .skip
noncomputable def cb27_0 : Code := match env0.fn 27 with
 | some i => ((zcu i.ic)[0]?.getD (.skip, .skip)).2
 | none => .skip
def okL (l : List Ex) (s : List (List Int)) : List (List Int) := s.filter fun p => (zgi l p).isEmpty
structure I34 (l : List Ex) (ltm : List (Nat × AV)) (s : List (List Int)) (H : HS) : Prop where
 nx : 4 ≤ H.next
 h3 : Am.look 3 H.heap = some (2, .loop .ready none 32 (ze0 ltm) [20] ca27_0 cb27_0 (2, 1))
 h2 : Am.look 2 H.heap = some (1, .deferred)
 h0 : ∃ sp, Am.look 0 H.heap = some (0, .cells [.ms 1 sp 1 0 (okL l s).length none]) ∧ Am.look 1 H.heap = some (sp, .cells (zsu (okL l s)))
end Go.Proofs.Ytoiblgbaeglgoaa
