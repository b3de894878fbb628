/-
  ALL LISTS OF THE REFERENCE: Lists.
-/
import Derived.Test.YtknomkcdpcnmaaaXV4
import Derived.Test.YtknomkcdpcnmaaaXVA
import Derived.Test.YtknomkcdpcnmaaaXS0
namespace Go.Proofs.Ytknomkcdpcnmaaa
open Go Go.Am
def zkk (out : List (List Int)) : List AV := out.map vsI
def css (cs : List (List Int)) : AV := .vs (cs.map fun c => [vsI c])
theorem zt3 {cs : List (List Int)} {i : Nat} (h : i < cs.length) : (cs.map fun c => ([vsI c] : List AV))[((i : Nat) : Int).toNat]? = some [vsI cs[i]] := by
 rw [Int.toNat_natCast, List.getElem?_map, List.getElem?_eq_getElem h]
 rfl
theorem zjk : ∀ out : List (List Int), hasM.hasML (zkk out) = false
 | [] => rfl
 | p :: out => by
  show (hasM (vsI p) || hasM.hasML (zkk out)) = false
  rw [zjk out]
  rfl
theorem zna (out : List (List Int)) (p : List Int) : zkk (out ++ [p]) = zkk out ++ [vsI p] := by
 unfold zkk
 rw [List.map_append]
 rfl
theorem zqf (out : List (List Int)) : (zkk out).length = out.length := List.length_map ..
theorem view_row {S : AS} {d id sp len : Nat} {cap : Option Nat} (out : List (List Int)) (hn : out.length = len) (hl : Am.look id S.heap = some (sp, .cells (zkk out))) : S.view (d + 2) (.ms id sp 1 0 len cap) = css out := by
 subst hn
 have hf : zkk out = ((zkk out).map fun v => ([v] : List AV)).flatten := by
  clear hl
  generalize zkk out = l
  induction l with
  | nil => rfl
  | cons b l ih => simpa using ih
 have e : S.elems 1 (.ms id sp 1 0 out.length cap) = some ((zkk out).map fun v => [v]) := by
  obtain ⟨n, t, hp, nx, ck, mk⟩ := S
  exact zcf (ys := []) (cap := cap) (n := n) (nx := nx) (ck := ck) (mk := mk) (l := []) (hp := hp) (by rw [List.append_nil, ← hf]; exact hl) (by rw [List.length_map, zqf]) (fun x hx => by obtain ⟨s, _, rfl⟩ := List.mem_map.1 hx; rfl)
 simp only [AS.view, e]
 unfold css zkk
 congr 1
 rw [List.map_map, List.map_map]
 apply List.map_congr_left
 intro s _
 show [S.view (d + 1) (vsI s)] = _
 rw [zm4]
def zpc (l : List Int) : Nat := if l = [] then 0 else (l.getLastD 0 + 1).toNat
def zjs (n i : Nat) (l : List Int) : List (List Int) := (List.range' i (n - i)).map fun j : Nat => l ++ [(j : Int)]
theorem zta {n i : Nat} (h : i < n) (l : List Int) : zjs n i l = (l ++ [(i : Int)]) :: zjs n (i + 1) l := by
 unfold zjs
 rw [show n - i = (n - (i + 1)) + 1 by omega, List.range'_succ, List.map_cons]
theorem extF_nil {n i : Nat} (h : n ≤ i) (l : List Int) : zjs n i l = [] := by
 unfold zjs
 rw [show n - i = 0 by omega]
 rfl
theorem zp9 (n : Nat) : ∀ (k f : Nat), asc n (k + 1) f = (asc n k f).flatMap fun l => zjs n (if l = [] then f else (l.getLastD 0 + 1).toNat) l
 | 0, f => by
  rw [asc]
  show _ = zjs n f [] ++ []
  rw [List.append_nil]
  unfold zjs
  simp only [asc, List.map_cons, List.map_nil, List.nil_append]
  induction List.range' f (n - f) with
  | nil => rfl
  | cons i l ih => rw [List.flatMap_cons, ih]; rfl
 | k + 1, f => by
  rw [asc]
  conv => rhs; rw [asc]
  rw [List.flatMap_assoc]
  refine congrArg List.flatten (List.map_congr_left fun i _ => ?_)
  rw [zp9 n k (i + 1), List.map_flatMap, List.flatMap_map]
  refine congrArg List.flatten (List.map_congr_left fun l _ => ?_)
  unfold zjs
  rw [if_neg (List.cons_ne_nil _ _), List.map_map]
  by_cases hl : l = []
  ·subst hl
   rw [if_pos rfl]
   show _ = List.map _ (List.range' ((i : Int) + 1).toNat (n - ((i : Int) + 1).toNat))
   rw [show ((i : Int) + 1).toNat = i + 1 by omega]
   rfl
  ·rw [if_neg hl, show ((i : Int) :: l).getLastD 0 = l.getLastD 0 by
    cases l with
    | nil => exact absurd rfl hl
    | cons a l => rfl]
   rfl
theorem asc_beh (n k : Nat) : asc n (k + 1) 0 = (asc n k 0).flatMap fun l => zjs n (zpc l) l := by
 rw [zp9]
 rfl
theorem zig (n : Nat) : ∀ (k f : Nat), (asc n k f).length ≤ 2 ^ (n - f)
 | 0, f => by show 1 ≤ _; exact Nat.one_le_two_pow
 | k + 1, f => by
  have key : ∀ m i : Nat, n - i = m → (zsg n k i).length + 1 ≤ 2 ^ m := by
   intro m
   induction m with
   | zero =>
    intro i hi
    rw [zsg, hi]
    exact Nat.le_refl _
   | succ m ih =>
    intro i hi
    have h1 := ih (i + 1) (by omega)
    have h2 := zig n k (i + 1)
    rw [show n - (i + 1) = m by omega] at h2
    rw [zme (by omega), List.length_append, List.length_map, Nat.pow_succ]
    omega
  have := key (n - f) f rfl
  rw [zpb]
  omega
theorem zmp {α β : Type} (g : α → List β) (L : List α) {i : Nat} (h : i < L.length) : (L.take (i + 1)).flatMap g = (L.take i).flatMap g ++ g L[i] := by
 rw [List.take_add_one, List.getElem?_eq_getElem h, List.flatMap_append]
 simp
theorem zpz {l : List Int} (h : l ≠ []) : l.getLastD 0 = l[l.length - 1]'(by have := List.length_pos_iff.2 h; omega) := by
 rw [List.getLastD_eq_getLast?, List.getLast?_eq_getElem?, List.getElem?_eq_getElem (by have := List.length_pos_iff.2 h; omega)]
 rfl
end Go.Proofs.Ytknomkcdpcnmaaa
