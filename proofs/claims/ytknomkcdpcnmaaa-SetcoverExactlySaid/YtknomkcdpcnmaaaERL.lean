/-
  LISTS OF SETS: slices.Clone, Delete.
-/
import Derived.Test.YtknomkcdpcnmaaaEV3
import Derived.Test.YtknomkcdpcnmaaaEU2
namespace Go.Proofs.Ytknomkcdpcnmaaa
open Go Go.Am
theorem ztu (l : List (BitVec 64)) : l.map cU = (cUs l).flatten := by
 unfold cUs
 induction l with
 | nil => rfl
 | cons z l ih => simpa using ih
theorem zpo : ∀ l : List (BitVec 64), (l.map cU).all AV.isCell = true
 | [] => rfl
 | z :: l => by
  rw [List.map_cons, List.all_cons, zpo l]
  rfl
theorem zpp {l : List (BitVec 64)} : ∀ x ∈ cUs l, x.length = 1 := fun x hx => by
 obtain ⟨s, _, rfl⟩ := List.mem_map.1 hx
 rfl
theorem zn6 : ∀ l : List (BitVec 64), hasM.hasML (l.map cU) = false
 | [] => rfl
 | _ :: l => zn6 l
-- slices.Clone[[]uint64,uint64]
def ic27 : IC := .seq (.region [⟨(some 2), .mov (.c (.nils)), none⟩] none)
 (.seq (.seq (.region [⟨(some 3), .mov (.t 0), none⟩,
  ⟨(some 4), .nilq false (.t 3), none⟩] none)
 (.cond (.t 4) (.seq (.region [⟨(some 2), .mov (.c (.nils)), none⟩] none)
 (.ret))
 (.skip)))
 (.seq (.region [⟨(some 5), .bslice 1 0 [] [], none⟩,
  ⟨(some 6), .mov (.t 0), none⟩,
  ⟨(some 7), .append 1 8 [.int .u64 0] (.t 5) (.t 6), none⟩,
  ⟨(some 2), .mov (.t 7), none⟩] none)
 (.ret)))
theorem fn27 : env0.fn 27 = some ⟨8, ic27, [.t 2]⟩ := by kernel_rfl
-- slices.Delete[[]uint64,uint64]
theorem clone27t {w0 : World} {N0 : Nat} (c : List (BitVec 64)) (h0 : c ≠ []) (hl : c.length ≤ 1000000) (H : HS) : FT Try.prog w0 N0 27 [.vs (cUs c)] H fun v H' => v = .ms (H.next + 1) (H.clk + 1) 1 0 c.length none ∧ H' = ⟨(H.next + 1, H.clk + 1, .cells (c.map cU)) :: (H.next, H.clk, .cells []) :: H.heap, H.next + 1 + 1, H.clk + 1 + 1⟩ := by
 obtain ⟨x, d, rfl⟩ := List.exists_cons_of_ne_nil h0
 have hcl : (cUs (x :: d)).length = (x :: d).length := List.length_map ..
 refine zcs env0_ok fn27 [(0, .vs (cUs (x :: d)))] (by show 1 ≤ 8; decide) rfl ?_
 unfold ic27
 refine za6 (za0 rfl (za1 rfl (za3 (za4 (za6 (za6 (za0 rfl (za1 rfl ?_))))))))
 refine ze3 (v := .bool false) (by rfl) ?_
 repeat (first | refine za6 ?_ | refine za0 rfl ?_ | refine za3 ?_ | refine za4 ?_ | refine zbj ?_ | refine zai ?_ | refine zad ?_ | refine zc1 rfl ?_ | refine zbt rfl ?_ | refine zbc ?_ | refine zas ?_ | refine zbb ?_ | refine zaf ?_ | refine zb7 rfl ?_ | refine za8 ?_ | refine zab ?_ | refine zcp rfl ?_ | refine zh8 rfl rfl ?_ | refine zrp rfl ?_ | refine za1 rfl ?_ | refine zah rfl rfl ?_ | refine zb2 rfl rfl rfl rfl ?_ | refine zb9 rfl rfl rfl rfl rfl rfl rfl ?_ | refine zcu rfl ?_ | refine za9 rfl rfl rfl ?_ | refine zaw rfl rfl rfl ?_ | refine zc7 rfl rfl rfl rfl ?_ | refine zc2 ?_ | refine zan rfl rfl ?_ | refine zam rfl rfl ?_ | refine zqh rfl rfl ?_ | refine zbf rfl rfl ?_ | refine zdc rfl rfl ?_ | refine zbg rfl rfl ?_ | refine zd7 rfl rfl ?_ | refine zc8 rfl rfl rfl ?_ | refine zdo rfl rfl ?_ | refine zct rfl rfl rfl rfl ?_ | refine zc6 rfl rfl rfl rfl ?_ | refine zcw rfl rfl rfl rfl ?_ | refine zec rfl rfl ?_ | refine zdy rfl rfl ?_ | refine zb8 rfl rfl ?_ | refine zfa ?_ | refine zcm env0_ok rfl rfl rfl ?_ | refine zac (op := .add) rfl rfl rfl ?_ | refine zac (op := .sub) rfl rfl rfl ?_ | refine zf9 rfl rfl rfl ?_ | refine zf8 rfl rfl rfl ?_ | refine zbr rfl rfl rfl ?_ | refine zb5 rfl rfl rfl ?_ | refine zba rfl rfl (by omega) (by assumption) rfl ?_ | refine zaw rfl rfl (decide_eq_true ⟨by omega, by omega⟩) ?_ | refine zbv rfl rfl (by omega) (by omega) ?_ | refine zcv rfl rfl rfl ?_ | refine zfc rfl ?_ | refine zfb rfl ?_)
 refine zhi (cUs (x :: d)) rfl rfl (zpw zpp) (by rw [hcl]; exact Nat.succ_ne_zero _) (by rw [← ztu]; exact zpo _) (by decide) zav (by rw [hcl]; omega) ?_
 repeat (first | refine za6 ?_ | refine za0 rfl ?_ | refine za3 ?_ | refine za4 ?_ | refine zbj ?_ | refine zai ?_ | refine zad ?_ | refine zc1 rfl ?_ | refine zbt rfl ?_ | refine zbc ?_ | refine zas ?_ | refine zbb ?_ | refine zaf ?_ | refine zb7 rfl ?_ | refine za8 ?_ | refine zab ?_ | refine zcp rfl ?_ | refine zh8 rfl rfl ?_ | refine zrp rfl ?_ | refine za1 rfl ?_ | refine zah rfl rfl ?_ | refine zb2 rfl rfl rfl rfl ?_ | refine zb9 rfl rfl rfl rfl rfl rfl rfl ?_ | refine zcu rfl ?_ | refine za9 rfl rfl rfl ?_ | refine zaw rfl rfl rfl ?_ | refine zc7 rfl rfl rfl rfl ?_ | refine zc2 ?_ | refine zan rfl rfl ?_ | refine zam rfl rfl ?_ | refine zqh rfl rfl ?_ | refine zbf rfl rfl ?_ | refine zdc rfl rfl ?_ | refine zbg rfl rfl ?_ | refine zd7 rfl rfl ?_ | refine zc8 rfl rfl rfl ?_ | refine zdo rfl rfl ?_ | refine zct rfl rfl rfl rfl ?_ | refine zc6 rfl rfl rfl rfl ?_ | refine zcw rfl rfl rfl rfl ?_ | refine zec rfl rfl ?_ | refine zdy rfl rfl ?_ | refine zb8 rfl rfl ?_ | refine zfa ?_ | refine zcm env0_ok rfl rfl rfl ?_ | refine zac (op := .add) rfl rfl rfl ?_ | refine zac (op := .sub) rfl rfl rfl ?_ | refine zf9 rfl rfl rfl ?_ | refine zf8 rfl rfl rfl ?_ | refine zbr rfl rfl rfl ?_ | refine zb5 rfl rfl rfl ?_ | refine zba rfl rfl (by omega) (by assumption) rfl ?_ | refine zaw rfl rfl (decide_eq_true ⟨by omega, by omega⟩) ?_ | refine zbv rfl rfl (by omega) (by omega) ?_ | refine zcv rfl rfl rfl ?_ | refine zfc rfl ?_ | refine zfb rfl ?_)
 exact zal ⟨.inr rfl, _, rfl, by rw [hcl], by rw [← ztu]; rfl⟩
end Go.Proofs.Ytknomkcdpcnmaaa
