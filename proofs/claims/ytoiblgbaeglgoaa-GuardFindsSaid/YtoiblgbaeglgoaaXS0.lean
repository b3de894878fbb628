/-
  MAKE OF A LIST OF A LENGTH THAT IS NOT KNOWN; STATES PUT ANEW, WITH MARKS.
-/
import Derived.Test.YtoiblgbaeglgoaaXS8
namespace Go.Proofs.Ytoiblgbaeglgoaa
open Go Go.Am
section
variable {P : Program} {w0 : World} {N0 : Nat} {k : List Fr} {Q : Exit → AS → Prop} {pf : Kn} {ios : List Opr} {n nx ck : Nat} {mk : List (Nat × Nat)} {md : Md} {l : List (Nat × AV)} {hp : List (Nat × Nat × AObj)}
theorem o_mks {d sz bytes : Nat} {z : List AV} {a c : Arg} {lv cv : Int} {kd kc : IntKind} (ha : zbv a l = some (.int kd lv)) (hc : zbv c l = some (.int kc cv)) (hb : 0 ≤ lv ∧ lv ≤ cv ∧ cv ≤ 1048576 ∧ bytes ≤ 16777216)
  (go : Om P w0 N0 md pf ios (st n ((d, .ms nx ck sz 0 lv.toNat (some cv.toNat)) :: l) ((nx, ck, .cells (znk cv.toNat z)) :: hp) (nx + 1) (ck + 1) mk) k Q) (hx : Ops pf (st n l hp nx ck mk) (.mkslice sz bytes z a c) := by exact trivial) :
  Om P w0 N0 md pf (⟨some d, .mkslice sz bytes z a c, none⟩ :: ios) (st n l hp nx ck mk) k Q :=
 zfd (by simp only [iop, zbl, ha, hc, if_pos hb]; rfl) go hx
theorem zin {d sz m : Nat} {ax : Arg} {al ah : Option Arg} {id sp off : Nat} {lv hv : Option AV} {lo hh : Int} (hx : zbv ax l = some (.mptr id sp off)) (h1 : oargA al l = some lv) (h2 : zd3 lv 0 = some lo) (h3 : oargA ah l = some hv) (h4 : zd3 hv m = some hh)
  (hb : 0 ≤ lo ∧ lo ≤ hh ∧ hh ≤ m) (go : Om P w0 N0 md pf ios (st n ((d, .ms id sp sz (off + lo.toNat * sz) (hh.toNat - lo.toNat) (some (m - lo.toNat))) :: l) hp nx ck mk) k Q) (hxx : Ops pf (st n l hp nx ck mk) (.slarr m sz ax al ah) := by exact trivial) :
  Om P w0 N0 md pf (⟨some d, .slarr m sz ax al ah, none⟩ :: ios) (st n l hp nx ck mk) k Q := by
 have e1 : (st n l hp nx ck mk).oarg al = some lv := (zvu al).trans h1
 have e3 : (st n l hp nx ck mk).oarg ah = some hv := (zvu ah).trans h3
 exact zfd (by simp only [iop, zbl, hx, e1, e3, h2, h4, if_pos hb]) go hxx
theorem zq {ic : IC} {q : Nat} (hq : mk.length = q) (live : zgj) (fz : List (Nat × Nat × List AV)) (l' : List (Nat × AV)) (hok : okW (fz.map (·.1)) live = true) (hf : RnF hp fz) (h1 : RnH live fz hp live) (h2 : RnA live fz l l') (h : Zm P w0 N0 none ic (st n l' (zc9 0 live ++ zcc live.length q) (q + live.length) 1 (ze5 live.length q)) k Q) : Zm P w0 N0 none ic (st n l hp nx ck mk) k Q := by
 subst hq
 exact z_renwm live fz l' hok hf h1 h2 h
theorem sq {l' : List (Nat × AV)} {hp' : List (Nat × Nat × AObj)} {nx' q : Nat} {mk' : List (Nat × Nat)} (hq : mk.length = q) (live : zgj) (fz : List (Nat × Nat × List AV)) (hh : hp' = zc9 0 live ++ zcc live.length q) (hx : nx' = q + live.length) (hm : mk' = ze5 live.length q) (hok : okW (fz.map (·.1)) live = true) (hf : RnF hp fz) (h1 : RnH live fz hp live) (h2 : RnA live fz l l') : Sub0 w0 N0 (st n l hp nx ck mk) (st n l' hp' nx' 1 mk') := by
 subst hq hm
 exact zkt live fz hh hx hok hf h1 h2
end
theorem zot (m : Nat) : znk m [.bool false] = (List.replicate m false).map AV.bool := by
 induction m with
 | zero => rfl
 | succ m ih => rw [znk, ih, List.replicate_succ, List.map_cons]; rfl
end Go.Proofs.Ytoiblgbaeglgoaa
