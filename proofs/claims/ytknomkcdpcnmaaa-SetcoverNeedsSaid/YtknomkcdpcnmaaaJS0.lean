/-
  MAKE OF A LIST OF A LENGTH THAT IS NOT KNOWN; STATES PUT ANEW, WITH MARKS; RESULTS IN CELLS.
-/
import Derived.Test.YtknomkcdpcnmaaaJU1
namespace Go.Proofs.Ytknomkcdpcnmaaa
open Go Go.Am
section
variable {P : Program} {w0 : World} {N0 : Nat} {k : List Fr} {Q : Exit → AS → Prop} {pf : Kn} {ios : List Opr} {n nx ck : Nat} {mk : List (Nat × Nat)} {md : Md} {l : List (Nat × AV)} {hp : List (Nat × Nat × AObj)}
theorem o_mks {d sz bytes : Nat} {z : List AV} {a c : Arg} {lv cv : Int} {kd kc : IntKind} (ha : zbu a l = some (.int kd lv)) (hc : zbu c l = some (.int kc cv)) (hb : 0 ≤ lv ∧ lv ≤ cv ∧ cv ≤ 1048576 ∧ bytes ≤ 16777216)
  (go : Om P w0 N0 md pf ios (st n ((d, .ms nx ck sz 0 lv.toNat (some cv.toNat)) :: l) ((nx, ck, .cells (zf9 cv.toNat z)) :: hp) (nx + 1) (ck + 1) mk) k Q) (hx : Ops pf (st n l hp nx ck mk) (.mkslice sz bytes z a c) := by exact trivial) :
  Om P w0 N0 md pf (⟨some d, .mkslice sz bytes z a c, none⟩ :: ios) (st n l hp nx ck mk) k Q :=
 zeh (by simp only [iop, zbb, ha, hc, if_pos hb]; rfl) go hx
theorem zq {ic : IC} {q : Nat} (hq : mk.length = q) (live : zi1) (fz : List (Nat × Nat × List AV)) (l' : List (Nat × AV)) (hok : okW (fz.map (·.1)) live = true) (hf : RnF hp fz) (h1 : RnH live fz hp live) (h2 : RnA live fz l l') (h : Zm P w0 N0 none ic (st n l' (zfd 0 live ++ zfz live.length q) (q + live.length) 1 (zjk live.length q)) k Q) : Zm P w0 N0 none ic (st n l hp nx ck mk) k Q := by
 subst hq
 exact z_renwm live fz l' hok hf h1 h2 h
theorem sq {l' : List (Nat × AV)} {hp' : List (Nat × Nat × AObj)} {nx' q : Nat} {mk' : List (Nat × Nat)} (hq : mk.length = q) (live : zi1) (fz : List (Nat × Nat × List AV)) (hh : hp' = zfd 0 live ++ zfz live.length q) (hx : nx' = q + live.length) (hm : mk' = zjk live.length q) (hok : okW (fz.map (·.1)) live = true) (hf : RnF hp fz) (h1 : RnH live fz hp live) (h2 : RnA live fz l l') : Sub0 w0 N0 (st n l hp nx ck mk) (st n l' hp' nx' 1 mk') := by
 subst hq hm
 exact zjw live fz hh hx hok hf h1 h2
end
def zej : IC → List (Code × Code)
 | .seq a b => zej a ++ zej b
 | .cond _ a b => zej a ++ zej b
 | .block _ b => zej b
 | .loop b => zej b
 | .rangeFunc _ _ ca cb _ _ => [(ca, cb)]
 | _ => []
theorem zi3 {S : AS} {id sp off : Nat} {v : AV} {cs ws : List AV} (h : Am.look id S.heap = some (sp, .cells cs)) (hlt : id < S.next) (hd : cs.drop off = v :: ws) : S.deref (.mptr id sp off) = some (v :: ws) := by
 simp only [AS.deref, h]
 rw [if_pos ⟨trivial, hlt⟩, hd]
theorem zkw {S : AS} {a b : Nat} {pa pb va vb : AV} {ra rb : List AV} (h1 : S.get a = some pa) (d1 : S.deref pa = some (va :: ra)) (h2 : S.get b = some pb) (d2 : S.deref pb = some (vb :: rb)) :
  S.res [.cell a none, .cell b none] = some (.tup [va, vb]) := by
 simp [AS.res, AS.resL, loadA, h1, h2, d1, d2]
theorem zf1 : ∀ (ms : List (Nat × Nat)) (hp : List (Nat × Nat × AObj)) (k : Nat), (∀ z ∈ ms, z.1 ≠ k) → Am.look k (zgc ms hp) = Am.look k hp
 | [], _, _, _ => rfl
 | z :: ms, hp, k, h => by
  rw [zmv, zf1 ms _ k fun y hy => h y (List.mem_cons_of_mem _ hy), zb8, if_neg (h z (List.mem_cons_self ..))]
end Go.Proofs.Ytknomkcdpcnmaaa
