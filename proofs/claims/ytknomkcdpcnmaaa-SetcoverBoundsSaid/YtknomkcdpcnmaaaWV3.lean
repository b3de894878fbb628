/-
  LISTS COPIED, AND WITHOUT AN ELEMENT.
-/
import Derived.Test.YtknomkcdpcnmaaaWV2
namespace Go.Proofs.Ytknomkcdpcnmaaa
open Go Go.Am
-- slices.Clone[[]int,int]
def ic45 : IC := .seq (.region [⟨(some 2), .mov (.c (.nils)), none⟩] none)
 (.seq (.seq (.region [⟨(some 3), .mov (.t 0), none⟩,
  ⟨(some 4), .nilq false (.t 3), none⟩] none)
 (.cond (.t 4) (.seq (.region [⟨(some 2), .mov (.c (.nils)), none⟩] none)
 (.ret))
 (.skip)))
 (.seq (.region [⟨(some 5), .bslice 1 0 [] [], none⟩,
  ⟨(some 6), .mov (.t 0), none⟩,
  ⟨(some 7), .append 1 8 [.int .i64 0] (.t 5) (.t 6), none⟩,
  ⟨(some 2), .mov (.t 7), none⟩] none)
 (.ret)))
theorem fn45 : env0.fn 45 = some ⟨8, ic45, [.t 2]⟩ := by kernel_rfl
-- slices.Delete[[]int,int]
theorem PFn_nil {P : Program} {f : FuncId} {args : List AV} (h : PF P f args (.vs [])) : PFn P f args (.vs []) :=
 ⟨h.1, fun ro w us hg ha => (h.2 ro w us hg ha).mono fun e w' ⟨u, e1, e2, e3⟩ => ⟨u, e1, e2, by
  cases e3 with
  | vs us hl hcap ha hsz hc hv => exact .vs (b := 0) (off := 0) us hl hcap (fun h => absurd rfl h) (fun x hx => hsz x hx) (fun i j e x he => by simp at he) (fun i j e x he => by simp at he)⟩⟩
theorem zo7 (c : List Int) (hl : c.length ≤ 1000000) : PFn Try.prog 45 [vsI c] (vsI c) := by
 cases c with
 | nil =>
  refine PFn_nil ?_
  refine zby env0_ok fn45 [(0, vsI [])] (by show 1 ≤ 8; decide) rfl fun w0 N0 => ?_
  unfold ic45
  refine zaa (za0 rfl (za6 rfl (za7 (za8 (zaa (zaa (za0 rfl (za6 rfl ?_))))))))
  refine o_nilq (es := []) rfl fun b => ?_
  cases b
  ·repeat (first | refine zaa ?_ | refine za0 rfl ?_ | refine za7 ?_ | refine za8 ?_ | refine zao ?_ | refine zbl rfl ?_ | refine zb6 ?_ | refine za6 rfl ?_ | refine zai rfl rfl ?_ | refine zaq rfl rfl rfl rfl ?_)
   exact zbj ⟨.inr rfl, _, rfl, rfl⟩
  ·repeat (first | refine zaa ?_ | refine za0 rfl ?_ | refine za7 ?_ | refine za8 ?_ | refine zbo rfl ?_ | refine zb6 ?_ | refine za2 ?_ | refine za6 rfl ?_)
   exact zbj ⟨.inr rfl, _, rfl, rfl⟩
 | cons x c =>
  have hcl : ((x :: c).map fun z => ([.int .i64 z] : List AV)).length = (x :: c).length := List.length_map ..
  refine zpd env0_ok fn45 [(0, vsI (x :: c))] (by show 1 ≤ 8; decide) rfl fun w0 N0 => ?_
  unfold ic45
  refine zaa (za0 rfl (za6 rfl (za7 (za8 (zaa (zaa (za0 rfl (za6 rfl ?_))))))))
  refine zeg (v := .bool false) (by rfl) ?_
  repeat (first | refine zaa ?_ | refine za0 rfl ?_ | refine za7 ?_ | refine za8 ?_ | refine zao ?_ | refine zbl rfl ?_ | refine za6 rfl ?_ | refine zai rfl rfl ?_)
  refine zfb ((x :: c).map fun z => [.int .i64 z]) rfl rfl (zq2 zn4) (by rw [hcl]; exact Nat.succ_ne_zero _) (by rw [← zgo]; exact zn3 _) (by decide) zbq (by rw [hcl]; omega) ?_
  repeat (first | refine za7 ?_ | refine za8 ?_ | refine zb6 ?_ | refine za6 rfl ?_)
  refine zbj ⟨.inr rfl, _, rfl, ?_⟩
  refine OwnR.ints (x :: c) hcl.symm ?_
  show Am.look 1 ((1, 1, _) :: _) = _
  rw [← zgo]
  rfl
end Go.Proofs.Ytknomkcdpcnmaaa
