/-
  LISTS OF SETS: slices.Clone, Delete.
-/
import Derived.Test.YtknomkcdpcnmaaaMV3
import Derived.Test.YtknomkcdpcnmaaaMU2
namespace Go.Proofs.Ytknomkcdpcnmaaa
open Go Go.Am
theorem zt7 (l : List (BitVec 64)) : l.map cU = (cUs l).flatten := by
 unfold cUs
 induction l with
 | nil => rfl
 | cons z l ih => simpa using ih
theorem zpa : ∀ l : List (BitVec 64), (l.map cU).all AV.isCell = true
 | [] => rfl
 | z :: l => by
  rw [List.map_cons, List.all_cons, zpa l]
  rfl
theorem cUs_size {l : List (BitVec 64)} : ∀ x ∈ cUs l, x.length = 1 := fun x hx => by
 obtain ⟨s, _, rfl⟩ := List.mem_map.1 hx
 rfl
theorem zmu : ∀ l : List (BitVec 64), hasM.hasML (l.map cU) = false
 | [] => rfl
 | _ :: l => zmu l
-- slices.Clone[[]uint64,uint64]
def ic27 : IC := .seq (.region [⟨(some 2), .mov (.c (.nils)), none⟩] none)
 (.seq (.seq (.region [⟨(some 3), .mov (.t 0), none⟩,
  ⟨(some 4), .nilq false (.t 3), none⟩] none)
 (.cond (.t 4) (.seq (.region [⟨(some 2), .mov (.c (.nils)), none⟩] none)
 (.ret))
 (.skip)))
 (.seq (.region [⟨(some 5), .bslice 1 0 [] [], none⟩,
  ⟨(some 6), .mov (.t 0), none⟩,
  ⟨(some 7), .append 1 8 [.int .u64 0] (.t 5) (.t 6), none⟩,
  ⟨(some 2), .mov (.t 7), none⟩] none)
 (.ret)))
theorem fn27 : env0.fn 27 = some ⟨8, ic27, [.t 2]⟩ := by kernel_rfl
-- slices.Delete[[]uint64,uint64]
theorem clone27t {w0 : World} {N0 : Nat} (c : List (BitVec 64)) (h0 : c ≠ []) (hl : c.length ≤ 1000000) (H : HS) : FT Try.prog w0 N0 27 [.vs (cUs c)] H fun v H' => v = .ms (H.next + 1) (H.clk + 1) 1 0 c.length none ∧ H' = ⟨(H.next + 1, H.clk + 1, .cells (c.map cU)) :: (H.next, H.clk, .cells []) :: H.heap, H.next + 1 + 1, H.clk + 1 + 1⟩ := by
 obtain ⟨x, d, rfl⟩ := List.exists_cons_of_ne_nil h0
 have hcl : (cUs (x :: d)).length = (x :: d).length := List.length_map ..
 refine zco env0_ok fn27 [(0, .vs (cUs (x :: d)))] (by show 1 ≤ 8; decide) rfl ?_
 unfold ic27
 refine za5 (za0 rfl (za1 rfl (za3 (za4 (za5 (za5 (za0 rfl (za1 rfl ?_))))))))
 refine ze7 (v := .bool false) (by rfl) ?_
 repeat (first | refine za5 ?_ | refine za0 rfl ?_ | refine za3 ?_ | refine za4 ?_ | refine zbg ?_ | refine zaf ?_ | refine zac ?_ | refine zbv rfl ?_ | refine zbk rfl ?_ | refine zbc ?_ | refine zao ?_ | refine zbb ?_ | refine zad ?_ | refine zb2 rfl ?_ | refine za8 ?_ | refine za9 ?_ | refine zcr rfl ?_ | refine zg5 rfl rfl ?_ | refine zoa rfl ?_ | refine za1 rfl ?_ | refine zah rfl rfl ?_ | refine zay rfl rfl rfl rfl ?_ | refine zbf rfl rfl rfl rfl rfl rfl rfl ?_ | refine zcf rfl ?_ | refine zab rfl rfl rfl ?_ | refine zar rfl rfl rfl ?_ | refine zbs rfl rfl rfl rfl ?_ | refine zbx ?_ | refine zam rfl rfl ?_ | refine zal rfl rfl ?_ | refine zlm rfl rfl ?_ | refine zb8 rfl rfl ?_ | refine zd1 rfl rfl ?_ | refine zbd rfl rfl ?_ | refine zcw rfl rfl ?_ | refine zbt rfl rfl rfl ?_ | refine zd2 rfl rfl ?_ | refine zce rfl rfl rfl rfl ?_ | refine zbr rfl rfl rfl rfl ?_ | refine zch rfl rfl rfl rfl ?_ | refine zdr rfl rfl ?_ | refine zde rfl rfl ?_ | refine zb4 rfl rfl ?_ | refine zed ?_ | refine zc1 env0_ok rfl rfl rfl ?_ | refine zae (op := .add) rfl rfl rfl ?_ | refine zae (op := .sub) rfl rfl rfl ?_ | refine zds rfl rfl rfl ?_ | refine zec rfl rfl rfl ?_ | refine zbw rfl rfl rfl ?_ | refine zb7 rfl rfl rfl ?_ | refine zbe rfl rfl (by omega) (by assumption) rfl ?_ | refine zar rfl rfl (decide_eq_true ⟨by omega, by omega⟩) ?_ | refine zbm rfl rfl (by omega) (by omega) ?_ | refine zcg rfl rfl rfl ?_ | refine zef rfl ?_ | refine zee rfl ?_)
 refine zhe (cUs (x :: d)) rfl rfl (zph cUs_size) (by rw [hcl]; exact Nat.succ_ne_zero _) (by rw [← zt7]; exact zpa _) (by decide) zaw (by rw [hcl]; omega) ?_
 repeat (first | refine za5 ?_ | refine za0 rfl ?_ | refine za3 ?_ | refine za4 ?_ | refine zbg ?_ | refine zaf ?_ | refine zac ?_ | refine zbv rfl ?_ | refine zbk rfl ?_ | refine zbc ?_ | refine zao ?_ | refine zbb ?_ | refine zad ?_ | refine zb2 rfl ?_ | refine za8 ?_ | refine za9 ?_ | refine zcr rfl ?_ | refine zg5 rfl rfl ?_ | refine zoa rfl ?_ | refine za1 rfl ?_ | refine zah rfl rfl ?_ | refine zay rfl rfl rfl rfl ?_ | refine zbf rfl rfl rfl rfl rfl rfl rfl ?_ | refine zcf rfl ?_ | refine zab rfl rfl rfl ?_ | refine zar rfl rfl rfl ?_ | refine zbs rfl rfl rfl rfl ?_ | refine zbx ?_ | refine zam rfl rfl ?_ | refine zal rfl rfl ?_ | refine zlm rfl rfl ?_ | refine zb8 rfl rfl ?_ | refine zd1 rfl rfl ?_ | refine zbd rfl rfl ?_ | refine zcw rfl rfl ?_ | refine zbt rfl rfl rfl ?_ | refine zd2 rfl rfl ?_ | refine zce rfl rfl rfl rfl ?_ | refine zbr rfl rfl rfl rfl ?_ | refine zch rfl rfl rfl rfl ?_ | refine zdr rfl rfl ?_ | refine zde rfl rfl ?_ | refine zb4 rfl rfl ?_ | refine zed ?_ | refine zc1 env0_ok rfl rfl rfl ?_ | refine zae (op := .add) rfl rfl rfl ?_ | refine zae (op := .sub) rfl rfl rfl ?_ | refine zds rfl rfl rfl ?_ | refine zec rfl rfl rfl ?_ | refine zbw rfl rfl rfl ?_ | refine zb7 rfl rfl rfl ?_ | refine zbe rfl rfl (by omega) (by assumption) rfl ?_ | refine zar rfl rfl (decide_eq_true ⟨by omega, by omega⟩) ?_ | refine zbm rfl rfl (by omega) (by omega) ?_ | refine zcg rfl rfl rfl ?_ | refine zef rfl ?_ | refine zee rfl ?_)
 exact zaj ⟨.inr rfl, _, rfl, by rw [hcl], by rw [← zt7]; rfl⟩
end Go.Proofs.Ytknomkcdpcnmaaa
