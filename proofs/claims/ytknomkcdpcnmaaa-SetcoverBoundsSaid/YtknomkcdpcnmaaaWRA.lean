/-
  ALL LISTS OF THE REFERENCE: Lists.
-/
import Derived.Test.YtknomkcdpcnmaaaWV4
import Derived.Test.YtknomkcdpcnmaaaWVA
import Derived.Test.YtknomkcdpcnmaaaWS0
namespace Go.Proofs.Ytknomkcdpcnmaaa
open Go Go.Am
def zkp (out : List (List Int)) : List AV := out.map vsI
def css (cs : List (List Int)) : AV := .vs (cs.map fun c => [vsI c])
theorem ztf {cs : List (List Int)} {i : Nat} (h : i < cs.length) : (cs.map fun c => ([vsI c] : List AV))[((i : Nat) : Int).toNat]? = some [vsI cs[i]] := by
 rw [Int.toNat_natCast, List.getElem?_map, List.getElem?_eq_getElem h]
 rfl
theorem zjn : ∀ out : List (List Int), hasM.hasML (zkp out) = false
 | [] => rfl
 | p :: out => by
  show (hasM (vsI p) || hasM.hasML (zkp out)) = false
  rw [zjn out]
  rfl
theorem znj (out : List (List Int)) (p : List Int) : zkp (out ++ [p]) = zkp out ++ [vsI p] := by
 unfold zkp
 rw [List.map_append]
 rfl
theorem zqx (out : List (List Int)) : (zkp out).length = out.length := List.length_map ..
theorem view_row {S : AS} {d id sp len : Nat} {cap : Option Nat} (out : List (List Int)) (hn : out.length = len) (hl : Am.look id S.heap = some (sp, .cells (zkp out))) : S.view (d + 2) (.ms id sp 1 0 len cap) = css out := by
 subst hn
 have hf : zkp out = ((zkp out).map fun v => ([v] : List AV)).flatten := by
  clear hl
  generalize zkp out = l
  induction l with
  | nil => rfl
  | cons b l ih => simpa using ih
 have e : S.elems 1 (.ms id sp 1 0 out.length cap) = some ((zkp out).map fun v => [v]) := by
  obtain ⟨n, t, hp, nx, ck, mk⟩ := S
  exact zcq (ys := []) (cap := cap) (n := n) (nx := nx) (ck := ck) (mk := mk) (l := []) (hp := hp) (by rw [List.append_nil, ← hf]; exact hl) (by rw [List.length_map, zqx]) (fun x hx => by obtain ⟨s, _, rfl⟩ := List.mem_map.1 hx; rfl)
 simp only [AS.view, e]
 unfold css zkp
 congr 1
 rw [List.map_map, List.map_map]
 apply List.map_congr_left
 intro s _
 show [S.view (d + 1) (vsI s)] = _
 rw [zme]
def zpp (l : List Int) : Nat := if l = [] then 0 else (l.getLastD 0 + 1).toNat
def zjw (n i : Nat) (l : List Int) : List (List Int) := (List.range' i (n - i)).map fun j : Nat => l ++ [(j : Int)]
theorem ztm {n i : Nat} (h : i < n) (l : List Int) : zjw n i l = (l ++ [(i : Int)]) :: zjw n (i + 1) l := by
 unfold zjw
 rw [show n - i = (n - (i + 1)) + 1 by omega, List.range'_succ, List.map_cons]
theorem extF_nil {n i : Nat} (h : n ≤ i) (l : List Int) : zjw n i l = [] := by
 unfold zjw
 rw [show n - i = 0 by omega]
 rfl
theorem zpo (n : Nat) : ∀ (k f : Nat), asc n (k + 1) f = (asc n k f).flatMap fun l => zjw n (if l = [] then f else (l.getLastD 0 + 1).toNat) l
 | 0, f => by
  rw [asc]
  show _ = zjw n f [] ++ []
  rw [List.append_nil]
  unfold zjw
  simp only [asc, List.map_cons, List.map_nil, List.nil_append]
  induction List.range' f (n - f) with
  | nil => rfl
  | cons i l ih => rw [List.flatMap_cons, ih]; rfl
 | k + 1, f => by
  rw [asc]
  conv => rhs; rw [asc]
  rw [List.flatMap_assoc]
  refine congrArg List.flatten (List.map_congr_left fun i _ => ?_)
  rw [zpo n k (i + 1), List.map_flatMap, List.flatMap_map]
  refine congrArg List.flatten (List.map_congr_left fun l _ => ?_)
  unfold zjw
  rw [if_neg (List.cons_ne_nil _ _), List.map_map]
  by_cases hl : l = []
  ·subst hl
   rw [if_pos rfl]
   show _ = List.map _ (List.range' ((i : Int) + 1).toNat (n - ((i : Int) + 1).toNat))
   rw [show ((i : Int) + 1).toNat = i + 1 by omega]
   rfl
  ·rw [if_neg hl, show ((i : Int) :: l).getLastD 0 = l.getLastD 0 by
    cases l with
    | nil => exact absurd rfl hl
    | cons a l => rfl]
   rfl
theorem asc_beh (n k : Nat) : asc n (k + 1) 0 = (asc n k 0).flatMap fun l => zjw n (zpp l) l := by
 rw [zpo]
 rfl
theorem zid (n : Nat) : ∀ (k f : Nat), (asc n k f).length ≤ 2 ^ (n - f)
 | 0, f => by show 1 ≤ _; exact Nat.one_le_two_pow
 | k + 1, f => by
  have key : ∀ m i : Nat, n - i = m → (zsu n k i).length + 1 ≤ 2 ^ m := by
   intro m
   induction m with
   | zero =>
    intro i hi
    rw [zsu, hi]
    exact Nat.le_refl _
   | succ m ih =>
    intro i hi
    have h1 := ih (i + 1) (by omega)
    have h2 := zid n k (i + 1)
    rw [show n - (i + 1) = m by omega] at h2
    rw [zic (by omega), List.length_append, List.length_map, Nat.pow_succ]
    omega
  have := key (n - f) f rfl
  rw [zht]
  omega
theorem zmx {α β : Type} (g : α → List β) (L : List α) {i : Nat} (h : i < L.length) : (L.take (i + 1)).flatMap g = (L.take i).flatMap g ++ g L[i] := by
 rw [List.take_add_one, List.getElem?_eq_getElem h, List.flatMap_append]
 simp
theorem zqd {l : List Int} (h : l ≠ []) : l.getLastD 0 = l[l.length - 1]'(by have := List.length_pos_iff.2 h; omega) := by
 rw [List.getLastD_eq_getLast?, List.getLast?_eq_getElem?, List.getElem?_eq_getElem (by have := List.length_pos_iff.2 h; omega)]
 rfl
end Go.Proofs.Ytknomkcdpcnmaaa
