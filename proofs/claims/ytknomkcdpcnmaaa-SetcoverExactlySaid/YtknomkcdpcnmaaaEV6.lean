/-
  LISTS THAT GROW IN SPARE ROOM; all choices: setcover.choices.
-/
import Derived.Test.YtknomkcdpcnmaaaEV3
namespace Go.Proofs.Ytknomkcdpcnmaaa
open Go Go.Am
theorem zer {P : Program} {w0 : World} {N0 n nx ck : Nat} {mk : List (Nat × Nat)} {md : Md} {l : List (Nat × AV)} {hp : List (Nat × Nat × AObj)} {k : List Fr} {Q : Exit → AS → Prop} {ios : List Opr} {pf : Kn} {d sz bytes : Nat} {z : List AV} {s x : Arg} {xv : AV} (es : List (List AV)) {id sp len c : Nat} {cs : List AV} (hs : zb1 s l = some (.ms id sp sz 0 len (some c))) (hx : zb1 x l = some xv) (he : (st n l hp nx ck mk).elems sz xv = some es) (hne : es.length ≠ 0) (hc : es.flatten.all AV.isCell = true) (hb : bytes ≤ 16777216) (hlk : Am.look id hp = some (sp, .cells cs))
  (h0 : len * sz ≤ cs.length) (h2 : len + es.length ≤ 1048576) (h3 : c < len + es.length) (go : Om P w0 N0 md pf ios (st n ((d, .ms nx ck sz 0 (len + es.length) none) :: l) ((nx, ck, .cells (cs.take (len * sz) ++ es.flatten)) :: hp) (nx + 1) (ck + 1) mk) k Q)
  (hxo : Ops pf (st n l hp nx ck mk) (.append sz bytes z s x) := by first | exact fun _ _ _ _ _ _ _ => rfl | exact zss rfl rfl | exact zux rfl) :
  Om P w0 N0 md pf (⟨some d, .append sz bytes z s x, none⟩ :: ios) (st n l hp nx ck mk) k Q := by
 have hi : iop (st n l hp nx ck mk) (.append sz bytes z s x) = some (.ms nx ck sz 0 (len + es.length) none, st n l ((nx, ck, .cells (cs.take (len * sz) ++ es.flatten)) :: hp) (nx + 1) (ck + 1) mk) := by
  simp only [iop, zat, hs, hx, he]
  unfold zbo
  rw [if_neg hne, if_pos ⟨hc, hb⟩]
  simp only [show (st n l hp nx ck mk).heap = hp from rfl, hlk]
  rw [if_pos ⟨trivial, trivial, by omega, h2⟩]
  rw [if_neg (by omega), List.drop_zero]
  rfl
 exact ze3 hi go hxo
def asc (n : Nat) : Nat → Nat → List (List Int)
 | 0, _ => [[]]
 | k + 1, f => (List.range' f (n - f)).flatMap fun i : Nat => (asc n k (i + 1)).map fun c => ((i : Nat) : Int) :: c
theorem zky {n : Nat} : ∀ {k f : Nat}, n < f + k → f ≤ n → asc n k f = []
 | 0, f, h, h2 => by omega
 | k + 1, f, h, h2 => by
  rw [asc, List.flatMap_eq_nil_iff]
  intro i hi
  rw [List.mem_range'_1] at hi
  rw [zky (k := k) (f := i + 1) (by omega) (by omega)]
  rfl
def ascR (n k i : Nat) : List (List Int) := (List.range' i (n - i)).flatMap fun j : Nat => (asc n k (j + 1)).map fun c => (j : Int) :: c
theorem zkz (n k f : Nat) : asc n (k + 1) f = ascR n k f := rfl
theorem zmp {n k i : Nat} (h : i < n) : ascR n k i = ((asc n k (i + 1)).map fun c => ((i : Nat) : Int) :: c) ++ ascR n k (i + 1) := by
 unfold ascR
 rw [show n - i = (n - (i + 1)) + 1 by omega, List.range'_succ, List.flatMap_cons]
theorem ascR_nil {n k i : Nat} (h : n < i + k + 1) : ascR n k i = [] := by
 unfold ascR
 rw [List.flatMap_eq_nil_iff]
 intro j hj
 rw [List.mem_range'_1] at hj
 rw [zky (by omega) (by omega)]
 rfl
def beh (vs : List Int) (L : List (List Int)) : List (List Int) := L.map fun c => vs ++ c
theorem zpk (vs : List Int) (i : Int) (L : List (List Int)) : beh vs (L.map fun c => i :: c) = beh (vs ++ [i]) L := by
 unfold beh
 rw [List.map_map]
 refine List.map_congr_left fun c _ => ?_
 show vs ++ i :: c = vs ++ [i] ++ c
 simp
theorem zt2 (vs : List Int) (A B : List (List Int)) : beh vs (A ++ B) = beh vs A ++ beh vs B := List.map_append ..
def zd9 (vs : List Int) (X : List AV) : List AV := vs.map (AV.int .i64) ++ X
theorem zm3 (vs : List Int) (X : List AV) : (zd9 vs X).length = vs.length + X.length := by
 unfold zd9
 rw [List.length_append, List.length_map]
theorem zm4 {vs : List Int} {x : AV} {X : List AV} (i : Int) : setAt (vs.length * 1) (zd9 vs (x :: X)) [AV.int .i64 i] = zd9 (vs ++ [i]) X := by
 unfold setAt zd9
 have h : (vs.map (AV.int .i64)).length = vs.length * 1 := by rw [List.length_map, Nat.mul_one]
 rw [← h, List.take_left, List.map_append, List.append_assoc, List.append_assoc]
 congr 1
 rw [List.length_singleton, List.drop_append, List.drop_eq_nil_of_le (by omega)]
 simp
theorem zji {vs : List Int} {X : List AV} : (zd9 vs X).take (vs.length * 1) = vs.map (AV.int .i64) := by
 unfold zd9
 have h : (vs.map (AV.int .i64)).length = vs.length * 1 := by rw [List.length_map, Nat.mul_one]
 rw [← h, List.take_left]
end Go.Proofs.Ytknomkcdpcnmaaa
