/-
  LISTS COPIED, AND WITHOUT AN ELEMENT.
-/
import Derived.Test.YtknomkcdpcnmaaaMV2
namespace Go.Proofs.Ytknomkcdpcnmaaa
open Go Go.Am
-- slices.Clone[[]int,int]
def ic45 : IC := .seq (.region [⟨(some 2), .mov (.c (.nils)), none⟩] none)
 (.seq (.seq (.region [⟨(some 3), .mov (.t 0), none⟩,
  ⟨(some 4), .nilq false (.t 3), none⟩] none)
 (.cond (.t 4) (.seq (.region [⟨(some 2), .mov (.c (.nils)), none⟩] none)
 (.ret))
 (.skip)))
 (.seq (.region [⟨(some 5), .bslice 1 0 [] [], none⟩,
  ⟨(some 6), .mov (.t 0), none⟩,
  ⟨(some 7), .append 1 8 [.int .i64 0] (.t 5) (.t 6), none⟩,
  ⟨(some 2), .mov (.t 7), none⟩] none)
 (.ret)))
theorem fn45 : env0.fn 45 = some ⟨8, ic45, [.t 2]⟩ := by kernel_rfl
-- slices.Delete[[]int,int]
theorem PFn_nil {P : Program} {f : FuncId} {args : List AV} (h : PF P f args (.vs [])) : PFn P f args (.vs []) :=
 ⟨h.1, fun ro w us hg ha => (h.2 ro w us hg ha).mono fun e w' ⟨u, e1, e2, e3⟩ => ⟨u, e1, e2, by
  cases e3 with
  | vs us hl hcap ha hsz hc hv => exact .vs (b := 0) (off := 0) us hl hcap (fun h => absurd rfl h) (fun x hx => hsz x hx) (fun i j e x he => by simp at he) (fun i j e x he => by simp at he)⟩⟩
theorem znt (c : List Int) (hl : c.length ≤ 1000000) : PFn Try.prog 45 [vsI c] (vsI c) := by
 cases c with
 | nil =>
  refine PFn_nil ?_
  refine zb9 env0_ok fn45 [(0, vsI [])] (by show 1 ≤ 8; decide) rfl fun w0 N0 => ?_
  unfold ic45
  refine za5 (za0 rfl (za1 rfl (za3 (za4 (za5 (za5 (za0 rfl (za1 rfl ?_))))))))
  refine o_nilq (es := []) rfl fun b => ?_
  cases b
  ·repeat (first | refine za5 ?_ | refine za0 rfl ?_ | refine za3 ?_ | refine za4 ?_ | refine zbg ?_ | refine zaf ?_ | refine zac ?_ | refine zbv rfl ?_ | refine zbk rfl ?_ | refine zbc ?_ | refine zao ?_ | refine zbb ?_ | refine zad ?_ | refine zb2 rfl ?_ | refine za8 ?_ | refine za9 ?_ | refine zcr rfl ?_ | refine zg5 rfl rfl ?_ | refine zoa rfl ?_ | refine za1 rfl ?_ | refine zah rfl rfl ?_ | refine zay rfl rfl rfl rfl ?_ | refine zbf rfl rfl rfl rfl rfl rfl rfl ?_ | refine zcf rfl ?_ | refine zab rfl rfl rfl ?_ | refine zar rfl rfl rfl ?_ | refine zbs rfl rfl rfl rfl ?_ | refine zbx ?_ | refine zam rfl rfl ?_ | refine zal rfl rfl ?_ | refine zlm rfl rfl ?_ | refine zb8 rfl rfl ?_ | refine zd1 rfl rfl ?_ | refine zbd rfl rfl ?_ | refine zcw rfl rfl ?_ | refine zbt rfl rfl rfl ?_ | refine zd2 rfl rfl ?_ | refine zce rfl rfl rfl rfl ?_ | refine zbr rfl rfl rfl rfl ?_ | refine zch rfl rfl rfl rfl ?_ | refine zdr rfl rfl ?_ | refine zde rfl rfl ?_ | refine zb4 rfl rfl ?_ | refine zed ?_ | refine zc1 env0_ok rfl rfl rfl ?_ | refine zae (op := .add) rfl rfl rfl ?_ | refine zae (op := .sub) rfl rfl rfl ?_ | refine zds rfl rfl rfl ?_ | refine zec rfl rfl rfl ?_ | refine zbw rfl rfl rfl ?_ | refine zb7 rfl rfl rfl ?_ | refine zbe rfl rfl (by omega) (by assumption) rfl ?_ | refine zar rfl rfl (decide_eq_true ⟨by omega, by omega⟩) ?_ | refine zbm rfl rfl (by omega) (by omega) ?_ | refine zcg rfl rfl rfl ?_ | refine zef rfl ?_ | refine zee rfl ?_)
   exact zaj ⟨.inr rfl, _, rfl, rfl⟩
  ·repeat (first | refine za5 ?_ | refine za0 rfl ?_ | refine za3 ?_ | refine za4 ?_ | refine zbg ?_ | refine zaf ?_ | refine zac ?_ | refine zbv rfl ?_ | refine zbk rfl ?_ | refine zbc ?_ | refine zao ?_ | refine zbb ?_ | refine zad ?_ | refine zb2 rfl ?_ | refine za8 ?_ | refine za9 ?_ | refine zcr rfl ?_ | refine zg5 rfl rfl ?_ | refine zoa rfl ?_ | refine za1 rfl ?_ | refine zah rfl rfl ?_ | refine zay rfl rfl rfl rfl ?_ | refine zbf rfl rfl rfl rfl rfl rfl rfl ?_ | refine zcf rfl ?_ | refine zab rfl rfl rfl ?_ | refine zar rfl rfl rfl ?_ | refine zbs rfl rfl rfl rfl ?_ | refine zbx ?_ | refine zam rfl rfl ?_ | refine zal rfl rfl ?_ | refine zlm rfl rfl ?_ | refine zb8 rfl rfl ?_ | refine zd1 rfl rfl ?_ | refine zbd rfl rfl ?_ | refine zcw rfl rfl ?_ | refine zbt rfl rfl rfl ?_ | refine zd2 rfl rfl ?_ | refine zce rfl rfl rfl rfl ?_ | refine zbr rfl rfl rfl rfl ?_ | refine zch rfl rfl rfl rfl ?_ | refine zdr rfl rfl ?_ | refine zde rfl rfl ?_ | refine zb4 rfl rfl ?_ | refine zed ?_ | refine zc1 env0_ok rfl rfl rfl ?_ | refine zae (op := .add) rfl rfl rfl ?_ | refine zae (op := .sub) rfl rfl rfl ?_ | refine zds rfl rfl rfl ?_ | refine zec rfl rfl rfl ?_ | refine zbw rfl rfl rfl ?_ | refine zb7 rfl rfl rfl ?_ | refine zbe rfl rfl (by omega) (by assumption) rfl ?_ | refine zar rfl rfl (decide_eq_true ⟨by omega, by omega⟩) ?_ | refine zbm rfl rfl (by omega) (by omega) ?_ | refine zcg rfl rfl rfl ?_ | refine zef rfl ?_ | refine zee rfl ?_)
   exact zaj ⟨.inr rfl, _, rfl, rfl⟩
 | cons x c =>
  have hcl : ((x :: c).map fun z => ([.int .i64 z] : List AV)).length = (x :: c).length := List.length_map ..
  refine zou env0_ok fn45 [(0, vsI (x :: c))] (by show 1 ≤ 8; decide) rfl fun w0 N0 => ?_
  unfold ic45
  refine za5 (za0 rfl (za1 rfl (za3 (za4 (za5 (za5 (za0 rfl (za1 rfl ?_))))))))
  refine ze7 (v := .bool false) (by rfl) ?_
  repeat (first | refine za5 ?_ | refine za0 rfl ?_ | refine za3 ?_ | refine za4 ?_ | refine zbg ?_ | refine zaf ?_ | refine zac ?_ | refine zbv rfl ?_ | refine zbk rfl ?_ | refine zbc ?_ | refine zao ?_ | refine zbb ?_ | refine zad ?_ | refine zb2 rfl ?_ | refine za8 ?_ | refine za9 ?_ | refine zcr rfl ?_ | refine zg5 rfl rfl ?_ | refine zoa rfl ?_ | refine za1 rfl ?_ | refine zah rfl rfl ?_ | refine zay rfl rfl rfl rfl ?_ | refine zbf rfl rfl rfl rfl rfl rfl rfl ?_ | refine zcf rfl ?_ | refine zab rfl rfl rfl ?_ | refine zar rfl rfl rfl ?_ | refine zbs rfl rfl rfl rfl ?_ | refine zbx ?_ | refine zam rfl rfl ?_ | refine zal rfl rfl ?_ | refine zlm rfl rfl ?_ | refine zb8 rfl rfl ?_ | refine zd1 rfl rfl ?_ | refine zbd rfl rfl ?_ | refine zcw rfl rfl ?_ | refine zbt rfl rfl rfl ?_ | refine zd2 rfl rfl ?_ | refine zce rfl rfl rfl rfl ?_ | refine zbr rfl rfl rfl rfl ?_ | refine zch rfl rfl rfl rfl ?_ | refine zdr rfl rfl ?_ | refine zde rfl rfl ?_ | refine zb4 rfl rfl ?_ | refine zed ?_ | refine zc1 env0_ok rfl rfl rfl ?_ | refine zae (op := .add) rfl rfl rfl ?_ | refine zae (op := .sub) rfl rfl rfl ?_ | refine zds rfl rfl rfl ?_ | refine zec rfl rfl rfl ?_ | refine zbw rfl rfl rfl ?_ | refine zb7 rfl rfl rfl ?_ | refine zbe rfl rfl (by omega) (by assumption) rfl ?_ | refine zar rfl rfl (decide_eq_true ⟨by omega, by omega⟩) ?_ | refine zbm rfl rfl (by omega) (by omega) ?_ | refine zcg rfl rfl rfl ?_ | refine zef rfl ?_ | refine zee rfl ?_)
  refine zhe ((x :: c).map fun z => [.int .i64 z]) rfl rfl (zph zmv) (by rw [hcl]; exact Nat.succ_ne_zero _) (by rw [← zin]; exact ztx _) (by decide) zaw (by rw [hcl]; omega) ?_
  repeat (first | refine za5 ?_ | refine za0 rfl ?_ | refine za3 ?_ | refine za4 ?_ | refine zbg ?_ | refine zaf ?_ | refine zac ?_ | refine zbv rfl ?_ | refine zbk rfl ?_ | refine zbc ?_ | refine zao ?_ | refine zbb ?_ | refine zad ?_ | refine zb2 rfl ?_ | refine za8 ?_ | refine za9 ?_ | refine zcr rfl ?_ | refine zg5 rfl rfl ?_ | refine zoa rfl ?_ | refine za1 rfl ?_ | refine zah rfl rfl ?_ | refine zay rfl rfl rfl rfl ?_ | refine zbf rfl rfl rfl rfl rfl rfl rfl ?_ | refine zcf rfl ?_ | refine zab rfl rfl rfl ?_ | refine zar rfl rfl rfl ?_ | refine zbs rfl rfl rfl rfl ?_ | refine zbx ?_ | refine zam rfl rfl ?_ | refine zal rfl rfl ?_ | refine zlm rfl rfl ?_ | refine zb8 rfl rfl ?_ | refine zd1 rfl rfl ?_ | refine zbd rfl rfl ?_ | refine zcw rfl rfl ?_ | refine zbt rfl rfl rfl ?_ | refine zd2 rfl rfl ?_ | refine zce rfl rfl rfl rfl ?_ | refine zbr rfl rfl rfl rfl ?_ | refine zch rfl rfl rfl rfl ?_ | refine zdr rfl rfl ?_ | refine zde rfl rfl ?_ | refine zb4 rfl rfl ?_ | refine zed ?_ | refine zc1 env0_ok rfl rfl rfl ?_ | refine zae (op := .add) rfl rfl rfl ?_ | refine zae (op := .sub) rfl rfl rfl ?_ | refine zds rfl rfl rfl ?_ | refine zec rfl rfl rfl ?_ | refine zbw rfl rfl rfl ?_ | refine zb7 rfl rfl rfl ?_ | refine zbe rfl rfl (by omega) (by assumption) rfl ?_ | refine zar rfl rfl (decide_eq_true ⟨by omega, by omega⟩) ?_ | refine zbm rfl rfl (by omega) (by omega) ?_ | refine zcg rfl rfl rfl ?_ | refine zef rfl ?_ | refine zee rfl ?_)
  refine zaj ⟨.inr rfl, _, rfl, ?_⟩
  refine OwnR.ints (x :: c) hcl.symm ?_
  show Am.look 1 ((1, 1, _) :: _) = _
  rw [← zin]
  rfl
end Go.Proofs.Ytknomkcdpcnmaaa
