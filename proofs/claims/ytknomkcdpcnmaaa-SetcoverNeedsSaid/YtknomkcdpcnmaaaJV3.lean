/-
  LISTS COPIED, AND WITHOUT AN ELEMENT.
-/
import Derived.Test.YtknomkcdpcnmaaaJV2
namespace Go.Proofs.Ytknomkcdpcnmaaa
open Go Go.Am
-- slices.Clone[[]int,int]
def ic45 : IC := .seq (.region [⟨(some 2), .mov (.c (.nils)), none⟩] none)
 (.seq (.seq (.region [⟨(some 3), .mov (.t 0), none⟩,
  ⟨(some 4), .nilq false (.t 3), none⟩] none)
 (.cond (.t 4) (.seq (.region [⟨(some 2), .mov (.c (.nils)), none⟩] none)
 (.ret))
 (.skip)))
 (.seq (.region [⟨(some 5), .bslice 1 0 [] [], none⟩,
  ⟨(some 6), .mov (.t 0), none⟩,
  ⟨(some 7), .append 1 8 [.int .i64 0] (.t 5) (.t 6), none⟩,
  ⟨(some 2), .mov (.t 7), none⟩] none)
 (.ret)))
theorem fn45 : env0.fn 45 = some ⟨8, ic45, [.t 2]⟩ := by kernel_rfl
-- slices.Delete[[]int,int]
theorem PFn_nil {P : Program} {f : FuncId} {args : List AV} (h : PF P f args (.vs [])) : PFn P f args (.vs []) :=
 ⟨h.1, fun ro w us hg ha => (h.2 ro w us hg ha).mono fun e w' ⟨u, e1, e2, e3⟩ => ⟨u, e1, e2, by
  cases e3 with
  | vs us hl hcap ha hsz hc hv => exact .vs (b := 0) (off := 0) us hl hcap (fun h => absurd rfl h) (fun x hx => hsz x hx) (fun i j e x he => by simp at he) (fun i j e x he => by simp at he)⟩⟩
theorem zo9 (c : List Int) (hl : c.length ≤ 1000000) : PFn Try.prog 45 [vsI c] (vsI c) := by
 cases c with
 | nil =>
  refine PFn_nil ?_
  refine zc2 env0_ok fn45 [(0, vsI [])] (by show 1 ≤ 8; decide) rfl fun w0 N0 => ?_
  unfold ic45
  refine za7 (za0 rfl (za1 rfl (za5 (za6 (za7 (za7 (za0 rfl (za1 rfl ?_))))))))
  refine o_nilq (es := []) rfl fun b => ?_
  cases b
  ·repeat (first | refine za7 ?_ | refine za0 rfl ?_ | refine za5 ?_ | refine za6 ?_ | refine zag ?_ | refine zby rfl ?_ | refine zaz ?_ | refine za1 rfl ?_ | refine zal rfl rfl ?_ | refine zaq rfl rfl rfl rfl ?_)
   exact zba ⟨.inr rfl, _, rfl, rfl⟩
  ·repeat (first | refine za7 ?_ | refine za0 rfl ?_ | refine za5 ?_ | refine za6 ?_ | refine zbz rfl ?_ | refine zaz ?_ | refine za3 ?_ | refine za1 rfl ?_)
   exact zba ⟨.inr rfl, _, rfl, rfl⟩
 | cons x c =>
  have hcl : ((x :: c).map fun z => ([.int .i64 z] : List AV)).length = (x :: c).length := List.length_map ..
  refine zpd env0_ok fn45 [(0, vsI (x :: c))] (by show 1 ≤ 8; decide) rfl fun w0 N0 => ?_
  unfold ic45
  refine za7 (za0 rfl (za1 rfl (za5 (za6 (za7 (za7 (za0 rfl (za1 rfl ?_))))))))
  refine zeh (v := .bool false) (by rfl) ?_
  repeat (first | refine za7 ?_ | refine za0 rfl ?_ | refine za5 ?_ | refine za6 ?_ | refine zag ?_ | refine zby rfl ?_ | refine za1 rfl ?_ | refine zal rfl rfl ?_)
  refine zht ((x :: c).map fun z => [.int .i64 z]) rfl rfl (zq2 zn8) (by rw [hcl]; exact Nat.succ_ne_zero _) (by rw [← ziy]; exact zur _) (by decide) zbp (by rw [hcl]; omega) ?_
  repeat (first | refine za5 ?_ | refine za6 ?_ | refine zaz ?_ | refine za1 rfl ?_)
  refine zba ⟨.inr rfl, _, rfl, ?_⟩
  refine OwnR.ints (x :: c) hcl.symm ?_
  show Am.look 1 ((1, 1, _) :: _) = _
  rw [← ziy]
  rfl
theorem zhd {α : Type} (i : Nat) (v : α) : ∀ l : List (Nat × α), zcp i (zbw i v l) = zcp i l
 | [] => by simp [zqr, zmw, zdy]
 | (j, u) :: l => by
  rw [zjq]
  by_cases h : j = i
  ·rw [if_pos h, zdy, if_pos rfl, zdy, if_pos h]
  ·rw [if_neg h, zdy, if_neg h, zdy, if_neg h, zhd i v l]
theorem zj8 : ∀ {l : List AV}, hasM.hasML l = false ↔ ∀ x ∈ l, hasM x = false
 | [] => by simp [hasM.hasML]
 | x :: l => by
  rw [hasM.hasML, Bool.or_eq_false_iff, @zj8 l]
  simp
theorem zj9 {i : Nat} {xs vs : List AV} (h1 : hasM.hasML xs = false) (h2 : hasM.hasML vs = false) : hasM.hasML (setAt i xs vs) = false := by
 rw [zj8] at *
 intro x hx
 unfold setAt at hx
 rcases List.mem_append.1 hx with hx | hx
 ·rcases List.mem_append.1 hx with hx | hx
  ·exact h1 x (List.mem_of_mem_take hx)
  ·exact h2 x hx
 ·exact h1 x (List.mem_of_mem_drop hx)
end Go.Proofs.Ytknomkcdpcnmaaa
