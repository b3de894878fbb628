/-
  MAKE OF A LIST OF A LENGTH THAT IS NOT KNOWN; STATES PUT ANEW, WITH MARKS; RESULTS IN CELLS.
-/
import Derived.Test.YtknomkcdpcnmaaaEU1
namespace Go.Proofs.Ytknomkcdpcnmaaa
open Go Go.Am
section
variable {P : Program} {w0 : World} {N0 : Nat} {k : List Fr} {Q : Exit → AS → Prop} {pf : Kn} {ios : List Opr} {n nx ck : Nat} {mk : List (Nat × Nat)} {md : Md} {l : List (Nat × AV)} {hp : List (Nat × Nat × AObj)}
theorem o_mks {d sz bytes : Nat} {z : List AV} {a c : Arg} {lv cv : Int} {kd kc : IntKind} (ha : zb1 a l = some (.int kd lv)) (hc : zb1 c l = some (.int kc cv)) (hb : 0 ≤ lv ∧ lv ≤ cv ∧ cv ≤ 1048576 ∧ bytes ≤ 16777216)
  (go : Om P w0 N0 md pf ios (st n ((d, .ms nx ck sz 0 lv.toNat (some cv.toNat)) :: l) ((nx, ck, .cells (zjw cv.toNat z)) :: hp) (nx + 1) (ck + 1) mk) k Q) (hx : Ops pf (st n l hp nx ck mk) (.mkslice sz bytes z a c) := by exact trivial) :
  Om P w0 N0 md pf (⟨some d, .mkslice sz bytes z a c, none⟩ :: ios) (st n l hp nx ck mk) k Q :=
 ze3 (by simp only [iop, zat, ha, hc, if_pos hb]; rfl) go hx
theorem zq {ic : IC} {q : Nat} (hq : mk.length = q) (live : zhm) (fz : List (Nat × Nat × List AV)) (l' : List (Nat × AV)) (hok : okW (fz.map (·.1)) live = true) (hf : RnF hp fz) (h1 : RnH live fz hp live) (h2 : RnA live fz l l') (h : Zm P w0 N0 none ic (st n l' (zf3 0 live ++ zfs live.length q) (q + live.length) 1 (zjb live.length q)) k Q) : Zm P w0 N0 none ic (st n l hp nx ck mk) k Q := by
 subst hq
 exact z_renwm live fz l' hok hf h1 h2 h
theorem sq {l' : List (Nat × AV)} {hp' : List (Nat × Nat × AObj)} {nx' q : Nat} {mk' : List (Nat × Nat)} (hq : mk.length = q) (live : zhm) (fz : List (Nat × Nat × List AV)) (hh : hp' = zf3 0 live ++ zfs live.length q) (hx : nx' = q + live.length) (hm : mk' = zjb live.length q) (hok : okW (fz.map (·.1)) live = true) (hf : RnF hp fz) (h1 : RnH live fz hp live) (h2 : RnA live fz l l') : Sub0 w0 N0 (st n l hp nx ck mk) (st n l' hp' nx' 1 mk') := by
 subst hq hm
 exact zjl live fz hh hx hok hf h1 h2
end
def ze0 : IC → List (Code × Code)
 | .seq a b => ze0 a ++ ze0 b
 | .cond _ a b => ze0 a ++ ze0 b
 | .block _ b => ze0 b
 | .loop b => ze0 b
 | .rangeFunc _ _ ca cb _ _ => [(ca, cb)]
 | _ => []
theorem zhu {S : AS} {id sp off : Nat} {v : AV} {cs ws : List AV} (h : Am.look id S.heap = some (sp, .cells cs)) (hlt : id < S.next) (hd : cs.drop off = v :: ws) : S.deref (.mptr id sp off) = some (v :: ws) := by
 simp only [AS.deref, h]
 rw [if_pos ⟨trivial, hlt⟩, hd]
theorem zko {S : AS} {a b : Nat} {pa pb va vb : AV} {ra rb : List AV} (h1 : S.get a = some pa) (d1 : S.deref pa = some (va :: ra)) (h2 : S.get b = some pb) (d2 : S.deref pb = some (vb :: rb)) :
  S.res [.cell a none, .cell b none] = some (.tup [va, vb]) := by
 simp [AS.res, AS.resL, loadA, h1, h2, d1, d2]
theorem zen : ∀ (ms : List (Nat × Nat)) (hp : List (Nat × Nat × AObj)) (k : Nat), (∀ z ∈ ms, z.1 ≠ k) → Am.look k (zg4 ms hp) = Am.look k hp
 | [], _, _, _ => rfl
 | z :: ms, hp, k, h => by
  rw [zmv, zen ms _ k fun y hy => h y (List.mem_cons_of_mem _ hy), zaj, if_neg (h z (List.mem_cons_self ..))]
end Go.Proofs.Ytknomkcdpcnmaaa
