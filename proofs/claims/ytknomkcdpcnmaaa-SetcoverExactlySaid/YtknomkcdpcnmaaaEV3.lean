/-
  LISTS COPIED, AND WITHOUT AN ELEMENT.
-/
import Derived.Test.YtknomkcdpcnmaaaEV2
namespace Go.Proofs.Ytknomkcdpcnmaaa
open Go Go.Am
-- slices.Clone[[]int,int]
def ic45 : IC := .seq (.region [⟨(some 2), .mov (.c (.nils)), none⟩] none)
 (.seq (.seq (.region [⟨(some 3), .mov (.t 0), none⟩,
  ⟨(some 4), .nilq false (.t 3), none⟩] none)
 (.cond (.t 4) (.seq (.region [⟨(some 2), .mov (.c (.nils)), none⟩] none)
 (.ret))
 (.skip)))
 (.seq (.region [⟨(some 5), .bslice 1 0 [] [], none⟩,
  ⟨(some 6), .mov (.t 0), none⟩,
  ⟨(some 7), .append 1 8 [.int .i64 0] (.t 5) (.t 6), none⟩,
  ⟨(some 2), .mov (.t 7), none⟩] none)
 (.ret)))
theorem fn45 : env0.fn 45 = some ⟨8, ic45, [.t 2]⟩ := by kernel_rfl
-- slices.Delete[[]int,int]
theorem PFn_nil {P : Program} {f : FuncId} {args : List AV} (h : PF P f args (.vs [])) : PFn P f args (.vs []) :=
 ⟨h.1, fun ro w us hg ha => (h.2 ro w us hg ha).mono fun e w' ⟨u, e1, e2, e3⟩ => ⟨u, e1, e2, by
  cases e3 with
  | vs us hl hcap ha hsz hc hv => exact .vs (b := 0) (off := 0) us hl hcap (fun h => absurd rfl h) (fun x hx => hsz x hx) (fun i j e x he => by simp at he) (fun i j e x he => by simp at he)⟩⟩
theorem zo6 (c : List Int) (hl : c.length ≤ 1000000) : PFn Try.prog 45 [vsI c] (vsI c) := by
 cases c with
 | nil =>
  refine PFn_nil ?_
  refine zbd env0_ok fn45 [(0, vsI [])] (by show 1 ≤ 8; decide) rfl fun w0 N0 => ?_
  unfold ic45
  refine za6 (za0 rfl (za1 rfl (za3 (za4 (za6 (za6 (za0 rfl (za1 rfl ?_))))))))
  refine o_nilq (es := []) rfl fun b => ?_
  cases b
  ·repeat (first | refine za6 ?_ | refine za0 rfl ?_ | refine za3 ?_ | refine za4 ?_ | refine zbj ?_ | refine zai ?_ | refine zad ?_ | refine zc1 rfl ?_ | refine zbt rfl ?_ | refine zbc ?_ | refine zas ?_ | refine zbb ?_ | refine zaf ?_ | refine zb7 rfl ?_ | refine za8 ?_ | refine zab ?_ | refine zcp rfl ?_ | refine zh8 rfl rfl ?_ | refine zrp rfl ?_ | refine za1 rfl ?_ | refine zah rfl rfl ?_ | refine zb2 rfl rfl rfl rfl ?_ | refine zb9 rfl rfl rfl rfl rfl rfl rfl ?_ | refine zcu rfl ?_ | refine za9 rfl rfl rfl ?_ | refine zaw rfl rfl rfl ?_ | refine zc7 rfl rfl rfl rfl ?_ | refine zc2 ?_ | refine zan rfl rfl ?_ | refine zam rfl rfl ?_ | refine zqh rfl rfl ?_ | refine zbf rfl rfl ?_ | refine zdc rfl rfl ?_ | refine zbg rfl rfl ?_ | refine zd7 rfl rfl ?_ | refine zc8 rfl rfl rfl ?_ | refine zdo rfl rfl ?_ | refine zct rfl rfl rfl rfl ?_ | refine zc6 rfl rfl rfl rfl ?_ | refine zcw rfl rfl rfl rfl ?_ | refine zec rfl rfl ?_ | refine zdy rfl rfl ?_ | refine zb8 rfl rfl ?_ | refine zfa ?_ | refine zcm env0_ok rfl rfl rfl ?_ | refine zac (op := .add) rfl rfl rfl ?_ | refine zac (op := .sub) rfl rfl rfl ?_ | refine zf9 rfl rfl rfl ?_ | refine zf8 rfl rfl rfl ?_ | refine zbr rfl rfl rfl ?_ | refine zb5 rfl rfl rfl ?_ | refine zba rfl rfl (by omega) (by assumption) rfl ?_ | refine zaw rfl rfl (decide_eq_true ⟨by omega, by omega⟩) ?_ | refine zbv rfl rfl (by omega) (by omega) ?_ | refine zcv rfl rfl rfl ?_ | refine zfc rfl ?_ | refine zfb rfl ?_)
   exact zal ⟨.inr rfl, _, rfl, rfl⟩
  ·repeat (first | refine za6 ?_ | refine za0 rfl ?_ | refine za3 ?_ | refine za4 ?_ | refine zbj ?_ | refine zai ?_ | refine zad ?_ | refine zc1 rfl ?_ | refine zbt rfl ?_ | refine zbc ?_ | refine zas ?_ | refine zbb ?_ | refine zaf ?_ | refine zb7 rfl ?_ | refine za8 ?_ | refine zab ?_ | refine zcp rfl ?_ | refine zh8 rfl rfl ?_ | refine zrp rfl ?_ | refine za1 rfl ?_ | refine zah rfl rfl ?_ | refine zb2 rfl rfl rfl rfl ?_ | refine zb9 rfl rfl rfl rfl rfl rfl rfl ?_ | refine zcu rfl ?_ | refine za9 rfl rfl rfl ?_ | refine zaw rfl rfl rfl ?_ | refine zc7 rfl rfl rfl rfl ?_ | refine zc2 ?_ | refine zan rfl rfl ?_ | refine zam rfl rfl ?_ | refine zqh rfl rfl ?_ | refine zbf rfl rfl ?_ | refine zdc rfl rfl ?_ | refine zbg rfl rfl ?_ | refine zd7 rfl rfl ?_ | refine zc8 rfl rfl rfl ?_ | refine zdo rfl rfl ?_ | refine zct rfl rfl rfl rfl ?_ | refine zc6 rfl rfl rfl rfl ?_ | refine zcw rfl rfl rfl rfl ?_ | refine zec rfl rfl ?_ | refine zdy rfl rfl ?_ | refine zb8 rfl rfl ?_ | refine zfa ?_ | refine zcm env0_ok rfl rfl rfl ?_ | refine zac (op := .add) rfl rfl rfl ?_ | refine zac (op := .sub) rfl rfl rfl ?_ | refine zf9 rfl rfl rfl ?_ | refine zf8 rfl rfl rfl ?_ | refine zbr rfl rfl rfl ?_ | refine zb5 rfl rfl rfl ?_ | refine zba rfl rfl (by omega) (by assumption) rfl ?_ | refine zaw rfl rfl (decide_eq_true ⟨by omega, by omega⟩) ?_ | refine zbv rfl rfl (by omega) (by omega) ?_ | refine zcv rfl rfl rfl ?_ | refine zfc rfl ?_ | refine zfb rfl ?_)
   exact zal ⟨.inr rfl, _, rfl, rfl⟩
 | cons x c =>
  have hcl : ((x :: c).map fun z => ([.int .i64 z] : List AV)).length = (x :: c).length := List.length_map ..
  refine zp8 env0_ok fn45 [(0, vsI (x :: c))] (by show 1 ≤ 8; decide) rfl fun w0 N0 => ?_
  unfold ic45
  refine za6 (za0 rfl (za1 rfl (za3 (za4 (za6 (za6 (za0 rfl (za1 rfl ?_))))))))
  refine ze3 (v := .bool false) (by rfl) ?_
  repeat (first | refine za6 ?_ | refine za0 rfl ?_ | refine za3 ?_ | refine za4 ?_ | refine zbj ?_ | refine zai ?_ | refine zad ?_ | refine zc1 rfl ?_ | refine zbt rfl ?_ | refine zbc ?_ | refine zas ?_ | refine zbb ?_ | refine zaf ?_ | refine zb7 rfl ?_ | refine za8 ?_ | refine zab ?_ | refine zcp rfl ?_ | refine zh8 rfl rfl ?_ | refine zrp rfl ?_ | refine za1 rfl ?_ | refine zah rfl rfl ?_ | refine zb2 rfl rfl rfl rfl ?_ | refine zb9 rfl rfl rfl rfl rfl rfl rfl ?_ | refine zcu rfl ?_ | refine za9 rfl rfl rfl ?_ | refine zaw rfl rfl rfl ?_ | refine zc7 rfl rfl rfl rfl ?_ | refine zc2 ?_ | refine zan rfl rfl ?_ | refine zam rfl rfl ?_ | refine zqh rfl rfl ?_ | refine zbf rfl rfl ?_ | refine zdc rfl rfl ?_ | refine zbg rfl rfl ?_ | refine zd7 rfl rfl ?_ | refine zc8 rfl rfl rfl ?_ | refine zdo rfl rfl ?_ | refine zct rfl rfl rfl rfl ?_ | refine zc6 rfl rfl rfl rfl ?_ | refine zcw rfl rfl rfl rfl ?_ | refine zec rfl rfl ?_ | refine zdy rfl rfl ?_ | refine zb8 rfl rfl ?_ | refine zfa ?_ | refine zcm env0_ok rfl rfl rfl ?_ | refine zac (op := .add) rfl rfl rfl ?_ | refine zac (op := .sub) rfl rfl rfl ?_ | refine zf9 rfl rfl rfl ?_ | refine zf8 rfl rfl rfl ?_ | refine zbr rfl rfl rfl ?_ | refine zb5 rfl rfl rfl ?_ | refine zba rfl rfl (by omega) (by assumption) rfl ?_ | refine zaw rfl rfl (decide_eq_true ⟨by omega, by omega⟩) ?_ | refine zbv rfl rfl (by omega) (by omega) ?_ | refine zcv rfl rfl rfl ?_ | refine zfc rfl ?_ | refine zfb rfl ?_)
  refine zhi ((x :: c).map fun z => [.int .i64 z]) rfl rfl (zpw zn7) (by rw [hcl]; exact Nat.succ_ne_zero _) (by rw [← zio]; exact zui _) (by decide) zav (by rw [hcl]; omega) ?_
  repeat (first | refine za6 ?_ | refine za0 rfl ?_ | refine za3 ?_ | refine za4 ?_ | refine zbj ?_ | refine zai ?_ | refine zad ?_ | refine zc1 rfl ?_ | refine zbt rfl ?_ | refine zbc ?_ | refine zas ?_ | refine zbb ?_ | refine zaf ?_ | refine zb7 rfl ?_ | refine za8 ?_ | refine zab ?_ | refine zcp rfl ?_ | refine zh8 rfl rfl ?_ | refine zrp rfl ?_ | refine za1 rfl ?_ | refine zah rfl rfl ?_ | refine zb2 rfl rfl rfl rfl ?_ | refine zb9 rfl rfl rfl rfl rfl rfl rfl ?_ | refine zcu rfl ?_ | refine za9 rfl rfl rfl ?_ | refine zaw rfl rfl rfl ?_ | refine zc7 rfl rfl rfl rfl ?_ | refine zc2 ?_ | refine zan rfl rfl ?_ | refine zam rfl rfl ?_ | refine zqh rfl rfl ?_ | refine zbf rfl rfl ?_ | refine zdc rfl rfl ?_ | refine zbg rfl rfl ?_ | refine zd7 rfl rfl ?_ | refine zc8 rfl rfl rfl ?_ | refine zdo rfl rfl ?_ | refine zct rfl rfl rfl rfl ?_ | refine zc6 rfl rfl rfl rfl ?_ | refine zcw rfl rfl rfl rfl ?_ | refine zec rfl rfl ?_ | refine zdy rfl rfl ?_ | refine zb8 rfl rfl ?_ | refine zfa ?_ | refine zcm env0_ok rfl rfl rfl ?_ | refine zac (op := .add) rfl rfl rfl ?_ | refine zac (op := .sub) rfl rfl rfl ?_ | refine zf9 rfl rfl rfl ?_ | refine zf8 rfl rfl rfl ?_ | refine zbr rfl rfl rfl ?_ | refine zb5 rfl rfl rfl ?_ | refine zba rfl rfl (by omega) (by assumption) rfl ?_ | refine zaw rfl rfl (decide_eq_true ⟨by omega, by omega⟩) ?_ | refine zbv rfl rfl (by omega) (by omega) ?_ | refine zcv rfl rfl rfl ?_ | refine zfc rfl ?_ | refine zfb rfl ?_)
  refine zal ⟨.inr rfl, _, rfl, ?_⟩
  refine OwnR.ints (x :: c) hcl.symm ?_
  show Am.look 1 ((1, 1, _) :: _) = _
  rw [← zio]
  rfl
end Go.Proofs.Ytknomkcdpcnmaaa
