/-
  SPARE SETS.
-/
import Derived.Test.YtknomkcdpcnmaaaXV3
namespace Go.Proofs.Ytknomkcdpcnmaaa
open Go Go.Am
section
variable {P : Program} {w0 : World} {N0 : Nat} {k : List Fr} {Q : Exit → AS → Prop} {pf : Kn} {ios : List Opr} {n nx ck : Nat} {mk : List (Nat × Nat)} {md : Md} {l : List (Nat × AV)} {hp : List (Nat × Nat × AObj)}
theorem o_slv {d sz : Nat} {ax : Arg} {al ah : Option Arg} {es fs : List (List AV)} {lv hv : Option AV} {lo hh : Int} (hx : zc5 ax l = some (.vs es)) (h1 : oargA al l = some lv) (h2 : zct lv 0 = some lo) (h3 : oargA ah l = some hv) (h4 : zct hv es.length = some hh)
  (b0 : 0 ≤ lo) (b1 : lo ≤ hh) (b2 : hh ≤ es.length) (hs : ∀ e ∈ es, e.length = sz) (hfs : (es.drop lo.toNat).take (hh.toNat - lo.toNat) = fs) (go : Om P w0 N0 md pf ios (st n ((d, .vs fs) :: l) hp nx ck mk) k Q) :
  Om P w0 N0 md pf (⟨some d, .slsl sz ax al ah none, none⟩ :: ios) (st n l hp nx ck mk) k Q := by
 subst hfs
 have hi : iop (st n l hp nx ck mk) (.slsl sz ax al ah none) = some (.vs ((es.drop lo.toNat).take (hh.toNat - lo.toNat)), st n l hp nx ck mk) := by
  have e1 : (st n l hp nx ck mk).oarg al = some lv := (zuo al).trans h1
  have e3 : (st n l hp nx ck mk).oarg ah = some hv := (zuo ah).trans h3
  have e5 : (st n l hp nx ck mk).oarg none = some none := rfl
  simp only [iop, zby, hx, e1, e3, e5]
  unfold zrl
  simp only [h2, h4]
  rw [if_pos ⟨b0, b1, b2, by rw [List.all_eq_true]; intro e he; simpa using hs e he⟩]
  rfl
 exact zen hi go
end
def vL (l : List Int) : List (List AV) := l.map fun z => [.int .i64 z]
theorem zc1 (l : List Int) : (vL l).length = l.length := List.length_map ..
theorem zdw (l : List Int) : ∀ x ∈ vL l, x.length = 1 := zmx
theorem zfq (l : List Int) : (vL l).flatten = l.map (AV.int .i64) := (zgt l).symm
theorem zm1 (l : List Int) : (vL l).flatten.all AV.isCell = true := by rw [zfq]; exact zmw l
theorem zvn (l : List Int) (i : Nat) : (vL l).take i = vL (l.take i) := by unfold vL; rw [List.map_take]
theorem vL_drop (l : List Int) (i : Nat) : (vL l).drop i = vL (l.drop i) := by unfold vL; rw [List.map_drop]
-- pneumatic/pneumaticref09.Without
def ic61 : IC := .seq (.region [⟨(some 4), .mov (.c (.nils)), none⟩] none)
 (.seq (.region [⟨(some 5), .bslice 1 0 [] [], none⟩,
  ⟨(some 6), .mov (.t 0), none⟩,
  ⟨(some 7), .mov (.t 1), none⟩,
  ⟨(some 8), .slsl 1 (.t 6) none (some (.t 7)) none, none⟩,
  ⟨(some 9), .append 1 8 [.int .i64 0] (.t 5) (.t 8), none⟩,
  ⟨(some 10), .mov (.t 0), none⟩,
  ⟨(some 11), .mov (.t 1), none⟩,
  ⟨(some 12), .bin .add (.t 11) (.c (.int .i64 1)), none⟩,
  ⟨(some 13), .slsl 1 (.t 10) (some (.t 12)) none none, none⟩,
  ⟨(some 14), .append 1 8 [.int .i64 0] (.t 9) (.t 13), none⟩,
  ⟨(some 4), .mov (.t 14), none⟩] (some [[], [], [], [1, 2], [0, 3], [], [], [6], [5, 7], [4, 8, 4], [9, 9, 0, 1, 2, 3, 4, 5, 6, 7, 8, 9]]))
 (.ret))
theorem fn61 : env0.fn 61 = some ⟨15, ic61, [.t 4]⟩ := by kernel_rfl
theorem zvu (c : List Int) (hl : c.length ≤ 1000000) (i : Nat) (hi : i < c.length) : PF Try.prog 61 [vsI c, .int .i64 (i : Nat)] (vsI (c.eraseIdx i)) := by
 have hvl := zc1 c
 have w1 : IntKind.wrap .i64 (((i : Nat) : Int) + 1) = ((i + 1 : Nat) : Int) := zbo i (by omega)
 have ht : ((vL c).drop (0 : Int).toNat).take ((((i : Nat) : Int)).toNat - (0 : Int).toNat) = vL (c.take i) := by
  rw [Int.toNat_natCast, show (0 : Int).toNat = 0 from rfl, List.drop_zero, Nat.sub_zero, zvn]
 have hd : ((vL c).drop (((i + 1 : Nat) : Int)).toNat).take ((((vL c).length : Nat) : Int).toNat - (((i + 1 : Nat) : Int)).toNat) = vL (c.drop (i + 1)) := by
  rw [Int.toNat_natCast, Int.toNat_natCast, vL_drop, List.take_of_length_le (by rw [zc1, List.length_drop]; omega)]
 have hlt : (c.take i).length = i := by rw [List.length_take]; omega
 have hld : (c.drop (i + 1)).length = c.length - (i + 1) := List.length_drop ..
 have hER : c.eraseIdx i = c.take i ++ c.drop (i + 1) := List.eraseIdx_eq_take_drop_succ ..
 refine zc2 env0_ok fn61 [(0, .vs (vL c)), (1, .int .i64 (i : Nat))] (by show 2 ≤ 15; decide) rfl fun w0 N0 => ?_
 unfold ic61
 refine zan (za1 rfl (zab rfl (zai (zaj (zan (zah env0_ok rfl rfl rfl (zac rfl rfl (zab rfl (zab rfl ?_)))))))))
 refine o_slv rfl rfl rfl rfl rfl (Int.le_refl _) (Int.natCast_nonneg i) (by rw [hvl]; omega) (zdw c) ht ?_
 by_cases h0 : i = 0
 ·subst h0
  refine zal (es := []) rfl rfl rfl rfl ?_
  refine zab rfl (zab rfl (zad (op := .add) rfl rfl rfl ?_))
  rw [w1]
  refine o_slv rfl rfl rfl rfl rfl (Int.natCast_nonneg _) (by rw [hvl]; omega) (Int.le_refl _) (zdw c) hd ?_
  by_cases h1 : c.drop (0 + 1) = []
  ·rw [h1] at hER ⊢
   refine zal (es := []) rfl rfl rfl rfl ?_
   repeat (first | refine zai ?_ | refine zaj ?_ | refine zbc ?_ | refine zab rfl ?_)
   refine zbj ⟨.inr rfl, _, rfl, ?_⟩
   rw [hER]
   refine ze6 (d := 3) (sp := 0) (c.take 0 ++ []) ?_ ?_
   ·rfl
   ·rfl
  ·refine zdq (vL (c.drop (0 + 1))) rfl rfl (zgq (zdw _)) (by rw [zc1]; exact fun h => h1 (List.length_eq_zero_iff.1 h)) (zm1 _) (by decide) rfl (by rw [zc1]; omega) ?_
   repeat (first | refine zai ?_ | refine zaj ?_ | refine zbc ?_ | refine zab rfl ?_)
   refine zbj ⟨.inr rfl, _, rfl, ?_⟩
   rw [hER]
   refine ze6 (d := 3) (sp := 1) (c.take 0 ++ c.drop (0 + 1)) ?_ ?_
   ·rw [zc1]
    rfl
   ·rw [List.take_zero, List.nil_append, ← zfq]
    rfl
 ·refine zdq (vL (c.take i)) rfl rfl (zgq (zdw _)) (by rw [zc1]; omega) (zm1 _) (by decide) rfl (by rw [zc1]; omega) ?_
  refine zab rfl (zab rfl (zad (op := .add) rfl rfl rfl ?_))
  rw [w1]
  refine o_slv rfl rfl rfl rfl rfl (Int.natCast_nonneg _) (by rw [hvl]; omega) (Int.le_refl _) (zdw c) hd ?_
  by_cases h1 : c.drop (i + 1) = []
  ·rw [h1] at hER ⊢
   refine zal (es := []) rfl rfl rfl rfl ?_
   repeat (first | refine zai ?_ | refine zaj ?_ | refine zbc ?_ | refine zab rfl ?_)
   refine zbj ⟨.inr rfl, _, rfl, ?_⟩
   rw [hER]
   refine ze6 (d := 3) (sp := 1) (c.take i ++ []) ?_ ?_
   ·rw [zc1, List.append_nil]
   ·rw [List.append_nil, ← zfq]
    rfl
  ·refine zcv (vL (c.drop (i + 1))) rfl rfl (zgq (zdw _)) (by rw [zc1]; exact fun h => h1 (List.length_eq_zero_iff.1 h)) (zm1 _) (by decide) rfl (by rw [zf1 (zdw _)]) (by rw [zc1, zc1]; omega) ?_
   repeat (first | refine zai ?_ | refine zaj ?_ | refine zbc ?_ | refine zab rfl ?_)
   refine zbj ⟨.inr rfl, _, rfl, ?_⟩
   rw [hER]
   refine ze6 (d := 3) (sp := 2) (c.take i ++ c.drop (i + 1)) ?_ ?_
   ·rw [zc1, zc1, List.length_append]
   ·rw [List.map_append, ← zfq, ← zfq]
    rfl
end Go.Proofs.Ytknomkcdpcnmaaa
