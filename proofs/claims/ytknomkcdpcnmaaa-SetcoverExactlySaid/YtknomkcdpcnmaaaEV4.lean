/-
  SPARE SETS.
-/
import Derived.Test.YtknomkcdpcnmaaaEV3
namespace Go.Proofs.Ytknomkcdpcnmaaa
open Go Go.Am
section
variable {P : Program} {w0 : World} {N0 : Nat} {k : List Fr} {Q : Exit → AS → Prop} {pf : Kn} {ios : List Opr} {n nx ck : Nat} {mk : List (Nat × Nat)} {md : Md} {l : List (Nat × AV)} {hp : List (Nat × Nat × AObj)}
theorem o_slv {d sz : Nat} {ax : Arg} {al ah : Option Arg} {es fs : List (List AV)} {lv hv : Option AV} {lo hh : Int} (hx : zb1 ax l = some (.vs es)) (h1 : oargA al l = some lv) (h2 : zc4 lv 0 = some lo) (h3 : oargA ah l = some hv) (h4 : zc4 hv es.length = some hh)
  (b0 : 0 ≤ lo) (b1 : lo ≤ hh) (b2 : hh ≤ es.length) (hs : ∀ e ∈ es, e.length = sz) (hfs : (es.drop lo.toNat).take (hh.toNat - lo.toNat) = fs) (go : Om P w0 N0 md pf ios (st n ((d, .vs fs) :: l) hp nx ck mk) k Q) :
  Om P w0 N0 md pf (⟨some d, .slsl sz ax al ah none, none⟩ :: ios) (st n l hp nx ck mk) k Q := by
 subst hfs
 have hi : iop (st n l hp nx ck mk) (.slsl sz ax al ah none) = some (.vs ((es.drop lo.toNat).take (hh.toNat - lo.toNat)), st n l hp nx ck mk) := by
  have e1 : (st n l hp nx ck mk).oarg al = some lv := (zv3 al).trans h1
  have e3 : (st n l hp nx ck mk).oarg ah = some hv := (zv3 ah).trans h3
  have e5 : (st n l hp nx ck mk).oarg none = some none := rfl
  simp only [iop, zat, hx, e1, e3, e5]
  unfold zry
  simp only [h2, h4]
  rw [if_pos ⟨b0, b1, b2, by rw [List.all_eq_true]; intro e he; simpa using hs e he⟩]
  rfl
 exact ze3 hi go
end
def vL (l : List Int) : List (List AV) := l.map fun z => [.int .i64 z]
theorem zns (l : List Int) : (vL l).length = l.length := List.length_map ..
theorem vL_size (l : List Int) : ∀ x ∈ vL l, x.length = 1 := zn7
theorem vL_take (l : List Int) (i : Nat) : (vL l).take i = vL (l.take i) := by unfold vL; rw [List.map_take]
end Go.Proofs.Ytknomkcdpcnmaaa
