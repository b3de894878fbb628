/-
  THE REFERENCE's SIMPLE FORM OF A NODE.; SIMPLE FORMS: what they are, in plain Lean.; SIMPLE FORMS: the same value, the same in the reference, simple again, no deeper, no new variable.; A LIST OF NUMBERS THAT GROWS; slices.Index, Contains, Equal.; THE VARIABLES THAT OCCUR, AS THE REFERENCE LISTS THEM.; RANGING OVER THE NODES OF A TREE, WHEN A STEP MAY ONLY BE TAKEN SO OFTEN.; THE LIBRARY's CONTRACT
-/
import Derived.Test.YtmnkjofaodbokaaMX6
import Derived.Shelf.Sort.Plain
import Derived.Shelf.Slices.CompactI
namespace Go.Proofs.Ytmnkjofaodbokaa
open Go Go.Am
theorem zw3 : ∀ {x : Ex}, Thin x → Slim x := by
 intro x h
 induction h with
 | nd h k ih => exact .nd (by omega) ih
theorem slim_sz {x : Ex} (h : szX x ≤ 256) : Slim x := zw3 (zpi x h)
end Go.Proofs.Ytmnkjofaodbokaa
namespace Go.Proofs.Ytmnkjofaodbokaa
open Go Go.Am
mutual
theorem zld : ∀ x y : Ex, eqX x y = true ↔ x = y
 | .nd o i a, .nd o' i' b => by
  rw [eqX, Bool.and_eq_true, Bool.and_eq_true, beq_iff_eq, beq_iff_eq, zqd a b, Ex.nd.injEq]
theorem zqd : ∀ a b : List Ex, zk0 a b = true ↔ a = b
 | [], [] => by simp [zk0]
 | x :: xs, y :: ys => by rw [zk0, Bool.and_eq_true, zld x y, zqd xs ys, List.cons.injEq]
 | [], _ :: _ => by simp [zk0]
 | _ :: _, [] => by simp [zk0]
end
theorem zfx {l : List Ex} {z : Ex} : memX l z = true ↔ z ∈ l := by
 unfold memX
 rw [List.any_eq_true]
 constructor
 ·rintro ⟨y, hy, e⟩
  rw [(zld z y).1 e]; exact hy
 ·exact fun h => ⟨z, h, (zld z z).2 rfl⟩
theorem zqq {n op ix : Int} {args : List Ex} (h : zc4 op ix args.length n = 0) (k : ∀ y ∈ args, nds n y = 0) : nds n (.nd op ix args) = 0 := by
 rw [nds, if_pos h]
 clear h
 induction args with
 | nil => rw [zqp]
 | cons y ys ih => rw [zqp, if_pos (k y (List.mem_cons_self ..))]; exact ih fun z hz => k z (List.mem_cons_of_mem _ hz)
theorem zm3 {op ix k n : Int} (h0 : 0 ≤ op) (h1 : op < 5) (h2 : zc0 op ≤ k) (h3 : k ≤ zcf op) (h4 : 0 ≤ ix) (h5 : ix ≤ zcb op n) : zc4 op ix k n = 0 := by
 unfold zc4
 rw [if_neg (by omega), if_neg (by omega), if_neg (by omega)]
theorem zts (n : Int) (b : Bool) : nds n (zk3 b) = 0 := by
 refine zqq (zm3 (by decide) (by decide) (by decide) (by decide) ?_ ?_) fun y hy => absurd hy List.not_mem_nil
 ·cases b <;> decide
 ·cases b <;> (simp [zcb])
theorem zrh {n : Int} {z : Ex} (h : nds n z = 0) (h0 : opX z = 0) : z = zk3 (ixX z == 1) := by
 obtain ⟨o, i, a⟩ := z
 obtain rfl : o = 0 := h0
 obtain ⟨hv, _⟩ := zcv h
 obtain ⟨_, _, _, h3, h4, h5⟩ := zfd hv
 have ha : a = [] := List.length_eq_zero_iff.1 (by
  have : zcf 0 = 0 := by decide
  omega)
 have hi : zcb 0 n = 1 := by simp [zcb]
 rw [hi] at h5
 subst ha
 show Ex.nd 0 i [] = zk3 (i == 1)
 have : i = 0 ∨ i = 1 := by omega
 rcases this with rfl | rfl <;> rfl
theorem is_op {z : Ex} {b : Bool} (h : opX z ≠ 0) : isX z b = false := by
 unfold isX
 rw [beq_eq_false_iff_ne.2 h, Bool.false_and]
theorem is_zero {z : Ex} {b : Bool} (h : opX z = 0) (k : isX z b = false) : isX z (!b) = true := by
 unfold isX at *
 rw [h] at *
 revert k
 cases (ixX z == 1) <;> cases b <;> decide
theorem zeh (op : Int) (ne : Bool) : ∀ (args l : List Ex), zdv op ne l args = (args.flatMap (zdt op)).foldl (zds ne) l
 | [], l => rfl
 | y :: ys, l => by
  rw [List.flatMap_cons, List.foldl_append]
  exact zeh op ne ys _
theorem zhl (ne : Bool) (l : List Ex) (z : Ex) : (isX z ne = true ∨ z ∈ l) ∧ zds ne l z = l ∨ isX z ne = false ∧ z ∉ l ∧ zds ne l z = l ++ [z] := by
 unfold zds
 by_cases h1 : isX z ne = true
 ·exact .inl ⟨.inl h1, by rw [h1]; rfl⟩
 ·have h1 : isX z ne = false := by simpa using h1
  by_cases h2 : z ∈ l
  ·exact .inl ⟨.inr h2, by rw [h1, zfx.2 h2]; rfl⟩
  ·refine .inr ⟨h1, h2, ?_⟩
   rw [h1, show memX l z = false from by rw [← Bool.not_eq_true, zfx]; exact h2]
   rfl
theorem zqz {ne : Bool} : ∀ {zs l : List Ex} {z : Ex}, z ∈ zs.foldl (zds ne) l → z ∈ l ∨ z ∈ zs ∧ isX z ne = false
 | [], l, z, h => .inl h
 | y :: ys, l, z, h => by
  rcases zqz (zs := ys) h with h | ⟨h, k⟩
  ·rcases zhl ne l y with ⟨_, e⟩ | ⟨e1, _, e⟩
   ·rw [e] at h; exact .inl h
   ·rw [e] at h
    rcases List.mem_append.1 h with h | h
    ·exact .inl h
    ·obtain rfl := List.mem_singleton.1 h
     exact .inr ⟨List.mem_cons_self .., e1⟩
  ·exact .inr ⟨List.mem_cons_of_mem _ h, k⟩
theorem zm9 {ne : Bool} : ∀ {zs l : List Ex} {z : Ex}, z ∈ l → z ∈ zs.foldl (zds ne) l
 | [], l, z, h => h
 | y :: ys, l, z, h => zm9 (zs := ys) (by
  rcases zhl ne l y with ⟨_, e⟩ | ⟨_, _, e⟩
  ·rw [e]; exact h
  ·rw [e]; exact List.mem_append.2 (.inl h))
theorem zm8 {ne : Bool} : ∀ {zs l : List Ex} {z : Ex}, z ∈ zs → isX z ne = true ∨ z ∈ zs.foldl (zds ne) l
 | y :: ys, l, z, h => by
  rcases List.mem_cons.1 h with rfl | h
  ·rcases zhl ne l z with ⟨e1 | e1, e⟩ | ⟨_, _, e⟩
   ·exact .inl e1
   ·exact .inr (zm9 (zs := ys) (by rw [e]; exact e1))
   ·exact .inr (zm9 (zs := ys) (by rw [e]; exact List.mem_append.2 (.inr (List.mem_singleton.2 rfl))))
  ·exact zm8 (zs := ys) h
theorem zkm {ne : Bool} : ∀ {zs l : List Ex}, l.Nodup → (zs.foldl (zds ne) l).Nodup
 | [], l, h => h
 | y :: ys, l, h => zkm (zs := ys) (by
  rcases zhl ne l y with ⟨_, e⟩ | ⟨_, e1, e⟩
  ·rw [e]; exact h
  ·rw [e]
   refine List.nodup_append.2 ⟨h, List.pairwise_singleton .., fun a ha b hb => ?_⟩
   obtain rfl := List.mem_singleton.1 hb
   exact fun e2 => e1 (e2 ▸ ha))
theorem zvk {ne : Bool} : ∀ {zs l : List Ex}, szL (zs.foldl (zds ne) l) ≤ szL l + szL zs
 | [], l => by rw [szL]; show szL l ≤ szL l + 0; omega
 | y :: ys, l => by
  have h1 := zvk (ne := ne) (zs := ys) (l := zds ne l y)
  have h2 := zdq y
  rw [szL]
  show szL (ys.foldl (zds ne) (zds ne l y)) ≤ _
  rcases zhl ne l y with ⟨_, e⟩ | ⟨_, _, e⟩
  ·rw [e] at h1 ⊢; omega
  ·rw [e] at h1 ⊢
   rw [zmf, szL, szL] at h1
   omega
theorem zvj {ne : Bool} : ∀ {zs l : List Ex}, (∀ z ∈ zs, isX z ne = false) → (l ++ zs).Nodup → zs.foldl (zds ne) l = l ++ zs
 | [], l, _, _ => by rw [List.append_nil]; rfl
 | y :: ys, l, h, k => by
  have hy : y ∉ l := fun hy => (List.nodup_append.1 k).2.2 y hy y (List.mem_cons_self ..) rfl
  have e : zds ne l y = l ++ [y] := by
   rcases zhl ne l y with ⟨e1 | e1, _⟩ | ⟨_, _, e⟩
   ·rw [h y (List.mem_cons_self ..)] at e1; cases e1
   ·exact absurd e1 hy
   ·exact e
  show ys.foldl (zds ne) (zds ne l y) = _
  rw [e, zvj (zs := ys) (fun z hz => h z (List.mem_cons_of_mem _ hz)) (by rw [List.append_assoc]; exact k), List.append_assoc]
  rfl
theorem zqv (op : Int) : ∀ args : List Ex, szL (args.flatMap (zdt op)) ≤ szL args
 | [] => by rw [List.flatMap_nil]; exact Int.le_refl _
 | y :: ys => by
  have h1 := zqv op ys
  rw [List.flatMap_cons, zmf, szL]
  have : szL (zdt op y) ≤ szX y := by
   unfold zdt
   split
   ·rw [zph]; omega
   ·rw [szL, szL]; omega
  omega
theorem gath_sz (op : Int) (ne : Bool) (args : List Ex) : szL (zdv op ne [] args) ≤ szL args := by
 have h1 := zvk (ne := ne) (zs := args.flatMap (zdt op)) (l := [])
 have h2 := zqv op args
 rw [zeh]
 rw [szL] at h1
 omega
theorem zf7 {op : Int} {ne : Bool} {args : List Ex} {z : Ex} (h : z ∈ zdv op ne [] args) : isX z ne = false ∧ ∃ y, y ∈ args ∧ (opX y = op ∧ z ∈ zrm y ∨ opX y ≠ op ∧ z = y) := by
 rw [zeh] at h
 rcases zqz h with h | ⟨h, k⟩
 ·cases h
 ·refine ⟨k, ?_⟩
  obtain ⟨y, hy, hz⟩ := List.mem_flatMap.1 h
  refine ⟨y, hy, ?_⟩
  unfold zdt at hz
  split at hz
  ·rename_i e; exact .inl ⟨e, hz⟩
  ·rename_i e; exact .inr ⟨e, List.mem_singleton.1 hz⟩
theorem zkf (y : Ex) : y = .nd (opX y) (ixX y) (zrm y) := by cases y; rfl
theorem arg_rgt {n : Int} {y z : Ex} (h : nds n y = 0) (hz : z ∈ zrm y) : nds n z = 0 := by
 rw [zkf y] at h
 exact (zcv h).2 z hz
theorem gath_rgt {n op : Int} {ne : Bool} {args : List Ex} (h : ∀ y ∈ args, nds n y = 0) {z : Ex} (hz : z ∈ zdv op ne [] args) : nds n z = 0 := by
 obtain ⟨_, y, hy, ⟨_, k⟩ | ⟨_, rfl⟩⟩ := zf7 hz
 ·exact arg_rgt (h y hy) k
 ·exact h z hy
theorem zn7 (op : Int) (ne : Bool) (l : List Ex) : (∃ b, zk1 op ne l = zk3 b) ∨ (∃ y ∈ l, zk1 op ne l = y) ∨ (l.any (zoo ne l) = false ∧ 2 ≤ l.length ∧ zk1 op ne l = .nd op 0 l) := by
 unfold zk1
 by_cases h : l.any (zoo ne l) = true
 ·rw [if_pos h]; exact .inl ⟨_, rfl⟩
 ·rw [if_neg h]
  match l with
  | [] => exact .inl ⟨_, rfl⟩
  | [y] => exact .inr (.inl ⟨y, List.mem_cons_self .., rfl⟩)
  | y :: z :: r => exact .inr (.inr ⟨by simpa using h, Nat.le_add_left 2 r.length, rfl⟩)
theorem fin_rgt {n op : Int} {ne : Bool} {l : List Ex} (ho : op = 3 ∨ op = 4) (h : ∀ y ∈ l, nds n y = 0) (hl : szL l ≤ 255) : nds n (zk1 op ne l) = 0 := by
 rcases zn7 op ne l with ⟨b, e⟩ | ⟨y, hy, e⟩ | ⟨_, h2, e⟩
 ·rw [e]; exact zts n b
 ·rw [e]; exact h y hy
 ·rw [e]
  have := zd7 l
  refine zqq (zm3 (by omega) (by omega) ?_ ?_ (by omega) ?_) h
  ·rcases ho with rfl | rfl <;> (show (2 : Int) ≤ l.length; omega)
  ·rcases ho with rfl | rfl <;> (show (l.length : Int) ≤ 256; omega)
  ·rcases ho with rfl | rfl <;> (show (0 : Int) ≤ 0; omega)
theorem fin_sz (op : Int) (ne : Bool) (l : List Ex) : szX (zk1 op ne l) ≤ 1 + szL l := by
 have hn := zc9 l
 rcases zn7 op ne l with ⟨b, e⟩ | ⟨y, hy, e⟩ | ⟨_, _, e⟩
 ·rw [e]; unfold zk3; rw [szX, szL]; omega
 ·rw [e]; have := zw9 hy; omega
 ·rw [e, szX]; omega
theorem ze7 {n ix : Int} {args : List Ex} (h : nds n (.nd 2 ix args) = 0) : ix = 0 ∧ ∃ y, args = [y] ∧ nds n y = 0 := by
 obtain ⟨hv, hk⟩ := zcv h
 obtain ⟨_, _, h2, h3, h4, h5⟩ := zfd hv
 have e1 : zc0 2 = 1 := by decide
 have e2 : zcf 2 = 1 := by decide
 have e3 : zcb 2 n = 0 := by simp [zcb]
 have hl : args.length = 1 := by omega
 obtain ⟨y, rfl⟩ := List.length_eq_one_iff.1 hl
 exact ⟨by omega, y, rfl, hk y (List.mem_cons_self ..)⟩
theorem rgt_low {n op ix : Int} {args : List Ex} (h : nds n (.nd op ix args) = 0) (h2 : op ≠ 2) (h3 : op ≠ 3) (h4 : op ≠ 4) : (op = 0 ∨ op = 1) ∧ args = [] := by
 obtain ⟨hv, _⟩ := zcv h
 obtain ⟨a, b, _, k3, _, _⟩ := zfd hv
 have : op = 0 ∨ op = 1 := by omega
 refine ⟨this, List.length_eq_zero_iff.1 ?_⟩
 have : zcf op = 0 := by rcases this with rfl | rfl <;> decide
 omega
theorem not_rgt {n : Int} {y : Ex} (h : nds n y = 0) : nds n (zp7 0 y) = 0 ∧ szX (zp7 0 y) ≤ 1 + szX y := by
 have hp := zdq y
 unfold zp7
 split
 ·exact ⟨zts n _, by unfold zk3; rw [szX, szL]; omega⟩
 ·split
  ·rename_i e
   obtain ⟨o, i, a⟩ := y
   obtain rfl : o = 2 := e
   obtain ⟨_, z, rfl, hz⟩ := ze7 h
   exact ⟨hz, by show szX z ≤ 1 + szX (.nd 2 i [z]); rw [szX, szL, szL]; omega⟩
  ·refine ⟨zqq (zm3 (by decide) (by decide) (by show (1 : Int) ≤ 1; decide) (by show (1 : Int) ≤ 1; decide) (by decide) (by simp [zcb])) (fun z hz => by obtain rfl := List.mem_singleton.1 hz; exact h), ?_⟩
   rw [szX, szL, szL]; omega
theorem zez {n ix : Int} {y : Ex} (h : nds n (.nd 2 ix [y]) = 0) : zd4 (.nd 2 ix [y]) = zp7 0 y := by
 rw [zhi, (ze7 h).1]
theorem zs5 {n : Int} {x : Ex} (h : nds n x = 0) (hs : szX x ≤ 256) : nds n (zd4 x) = 0 ∧ szX (zd4 x) ≤ szX x := by
 obtain ⟨op, ix, args⟩ := x
 by_cases h2 : op = 2
 ·subst h2
  obtain ⟨_, y, rfl, hy⟩ := ze7 h
  rw [zez h, szX, szL, szL]
  obtain ⟨a, b⟩ := not_rgt hy
  exact ⟨a, by omega⟩
 ·by_cases ho : op = 3 ∨ op = 4
  ·rw [zdm ix args ho]
   rw [szX] at hs ⊢
   have h1 := gath_sz op (op == 3) args
   have h3 := fin_sz op (op == 3) (zdv op (op == 3) [] args)
   exact ⟨fin_rgt ho (fun y hy => gath_rgt (zcv h).2 hy) (by omega), by omega⟩
  ·rw [zdn ix args h2 (fun e => ho (.inl e)) (fun e => ho (.inr e))]
   exact ⟨h, Int.le_refl _⟩
def zcx (x : Ex) : Ex := zmn zd4 x
theorem zfi (op ix : Int) (args : List Ex) : zcx (.nd op ix args) = zd4 (.nd op ix (args.map zcx)) := by
 show zmn zd4 _ = _
 rw [zmn, zlz]
 rfl
theorem zw8 {f : Ex → Ex} : ∀ {l : List Ex}, (∀ y ∈ l, szX (f y) ≤ szX y) → szL (l.map f) ≤ szL l
 | [], _ => by rw [List.map_nil]; exact Int.le_refl _
 | y :: ys, h => by
  have := h y (List.mem_cons_self ..)
  have := zw8 (l := ys) fun z hz => h z (List.mem_cons_of_mem _ hz)
  rw [List.map_cons, szL, szL]; omega
theorem zer {n : Int} : ∀ (q : Nat) (x : Ex), SizeOf.sizeOf x ≤ q → nds n x = 0 → szX x ≤ 256 → nds n (zcx x) = 0 ∧ szX (zcx x) ≤ szX x ∧ ∀ op ix args, x = .nd op ix args → nds n (.nd op ix (args.map zcx)) = 0 ∧ szX (.nd op ix (args.map zcx)) ≤ szX x := by
 intro q
 induction q with
 | zero => intro x hq; cases x; simp at hq
 | succ q ih =>
  intro x hq hx hs
  obtain ⟨op, ix, args⟩ := x
  obtain ⟨hv, hk⟩ := zcv hx
  have hsz : ∀ y ∈ args, szX y ≤ 256 := fun y hy => by have := zgg (op := op) (ix := ix) hy; omega
  have h1 : ∀ y ∈ args, nds n (zcx y) = 0 ∧ szX (zcx y) ≤ szX y := fun y hy => by
   obtain ⟨a, b, _⟩ := ih y (by have := zf3 (op := op) (ix := ix) hy; omega) (hk y hy) (hsz y hy)
   exact ⟨a, b⟩
  have h2 : nds n (.nd op ix (args.map zcx)) = 0 := zqq (by rw [List.length_map]; exact hv) fun z hz => by
   obtain ⟨y, hy, rfl⟩ := List.mem_map.1 hz
   exact (h1 y hy).1
  have h3 : szX (.nd op ix (args.map zcx)) ≤ szX (.nd op ix args) := by
   have := zw8 fun y hy => (h1 y hy).2
   rw [szX, szX]; omega
  obtain ⟨h4, h5⟩ := zs5 h2 (by omega)
  rw [zfi]
  refine ⟨h4, by omega, fun o i a e => ?_⟩
  injection e with e1 e2 e3
  subst e1 e2 e3
  exact ⟨h2, h3⟩
end Go.Proofs.Ytmnkjofaodbokaa
namespace Go.Proofs.Ytmnkjofaodbokaa
open Go Go.Am
theorem zfv (v : List Bool) (b : Bool) : zbw v (zk3 b) = b := by
 unfold zk3
 rw [zbw, if_pos rfl]
 cases b <;> rfl
theorem zlj {v : List Bool} {z : Ex} {b : Bool} (h : isX z b = true) : zbw v z = b := by
 obtain ⟨o, i, a⟩ := z
 unfold isX at h
 obtain ⟨e0, e1⟩ := Bool.and_eq_true_iff.1 h
 have e0 : o = 0 := beq_iff_eq.1 e0
 rw [zbw, if_pos e0]
 exact beq_iff_eq.1 e1
theorem zlk (v : List Bool) (y : Ex) : zbw v (.nd 2 0 [y]) = !zbw v y := by
 rw [zbw, if_neg (by decide), if_neg (by decide), if_pos rfl, zf9, zf9]
 rfl
theorem zqh (v : List Bool) (i : Int) (y : Ex) : zbw v (.nd 2 i [y]) = !zbw v y := by
 rw [zbw, if_neg (by decide), if_neg (by decide), if_pos rfl, zf9, zf9]
 rfl
theorem zi0 (v : List Bool) (i : Int) (l : List Ex) : zbw v (.nd 3 i l) = l.all (zbw v) := by
 rw [zbw, if_neg (by decide), if_neg (by decide), if_neg (by decide), if_pos rfl, zfa, List.all_map]
 rfl
theorem zll (v : List Bool) (i : Int) (l : List Ex) : zbw v (.nd 4 i l) = l.any (zbw v) := by
 rw [zbw, if_neg (by decide), if_neg (by decide), if_neg (by decide), if_neg (by decide), zfa, List.any_map]
 rfl
theorem gath_all (v : List Bool) (args : List Ex) : (zdv 3 true [] args).all (zbw v) = args.all (zbw v) := by
 rw [Bool.eq_iff_iff, List.all_eq_true, List.all_eq_true]
 constructor
 ·intro h y hy
  have key : ∀ z ∈ zdt 3 y, zbw v z = true := fun z hz => by
   rcases zm8 (ne := true) (l := []) (List.mem_flatMap.2 ⟨y, hy, hz⟩) with e | e
   ·exact zlj e
   ·exact h z (by rw [zeh]; exact e)
  unfold zdt at key
  split at key
  ·rename_i e
   rw [zkf y, e, zi0, List.all_eq_true]
   exact key
  ·exact key y (List.mem_singleton.2 rfl)
 ·intro h z hz
  obtain ⟨_, y, hy, ⟨e, k⟩ | ⟨_, rfl⟩⟩ := zf7 hz
  ·have := h y hy
   rw [zkf y, e, zi0, List.all_eq_true] at this
   exact this z k
  ·exact h z hy
theorem gath_any (v : List Bool) (args : List Ex) : (zdv 4 false [] args).any (zbw v) = args.any (zbw v) := by
 rw [Bool.eq_iff_iff, List.any_eq_true, List.any_eq_true]
 constructor
 ·rintro ⟨z, hz, h⟩
  obtain ⟨_, y, hy, ⟨e, k⟩ | ⟨_, rfl⟩⟩ := zf7 hz
  ·refine ⟨y, hy, ?_⟩
   rw [zkf y, e, zll, List.any_eq_true]
   exact ⟨z, k, h⟩
  ·exact ⟨z, hy, h⟩
 ·rintro ⟨y, hy, h⟩
  have key : ∀ z ∈ zdt 4 y, zbw v z = true → ∃ u ∈ zdv 4 false [] args, zbw v u = true := fun z hz k => by
   rcases zm8 (ne := false) (l := []) (List.mem_flatMap.2 ⟨y, hy, hz⟩) with e | e
   ·rw [zlj e] at k; cases k
   ·exact ⟨z, by rw [zeh]; exact e, k⟩
  unfold zdt at key
  split at key
  ·rename_i e
   rw [zkf y, e, zll, List.any_eq_true] at h
   obtain ⟨z, hz, k⟩ := h
   exact key z hz k
  ·exact key y (List.mem_singleton.2 rfl) h
theorem fin_all (v : List Bool) (l : List Ex) : zbw v (zk1 3 true l) = l.all (zbw v) := by
 unfold zk1
 by_cases h : l.any (zoo true l) = true
 ·rw [if_pos h, zfv]
  obtain ⟨y, hy, e⟩ := List.any_eq_true.1 h
  symm
  rw [Bool.not_true, ← Bool.not_eq_true, List.all_eq_true]
  intro k
  unfold zoo at e
  rcases Bool.or_eq_true_iff.1 e with e | e
  ·have := k y hy
   rw [zlj e] at this
   cases this
  ·have h1 := k y hy
   have h2 := k _ (zfx.1 e)
   unfold negX at h2
   rw [zlk, h1] at h2
   cases h2
 ·rw [if_neg h]
  match l with
  | [] => exact zfv v true
  | [y] => show zbw v y = (zbw v y && true); rw [Bool.and_true]
  | y :: z :: r => exact zi0 v 0 _
theorem fin_any (v : List Bool) (l : List Ex) : zbw v (zk1 4 false l) = l.any (zbw v) := by
 unfold zk1
 by_cases h : l.any (zoo false l) = true
 ·rw [if_pos h, zfv]
  obtain ⟨y, hy, e⟩ := List.any_eq_true.1 h
  symm
  rw [Bool.not_false, List.any_eq_true]
  unfold zoo at e
  rcases Bool.or_eq_true_iff.1 e with e | e
  ·exact ⟨y, hy, zlj e⟩
  ·by_cases hb : zbw v y = true
   ·exact ⟨y, hy, hb⟩
   ·refine ⟨_, zfx.1 e, ?_⟩
    unfold negX
    rw [zlk, show zbw v y = false from by simpa using hb]
    rfl
 ·rw [if_neg h]
  match l with
  | [] => exact zfv v false
  | [y] => show zbw v y = (zbw v y || false); rw [Bool.or_false]
  | y :: z :: r => exact zll v 0 _
theorem hold_not {n : Int} (v : List Bool) {y : Ex} (h : nds n y = 0) : zbw v (zp7 0 y) = !zbw v y := by
 unfold zp7
 split
 ·rename_i e
  have := zrh h e
  rw [zfv]
  rw [this, zfv]
  have : ixX y = 0 ∨ ixX y = 1 := by
   obtain ⟨o, i, a⟩ := y
   obtain ⟨hv, _⟩ := zcv h
   obtain ⟨_, _, _, _, h4, h5⟩ := zfd hv
   obtain rfl : o = 0 := e
   have : zcb 0 n = 1 := by simp [zcb]
   show i = 0 ∨ i = 1
   omega
  have hix : ixX (zk3 (ixX y == 1)) = ixX y := by rcases this with e | e <;> rw [e] <;> rfl
  rw [hix]
  rcases this with e | e <;> rw [e] <;> rfl
 ·split
  ·rename_i e
   obtain ⟨o, i, a⟩ := y
   obtain rfl : o = 2 := e
   obtain ⟨_, z, rfl, hz⟩ := ze7 h
   rw [zqh]
   show zbw v z = _
   rw [Bool.not_not]
  ·exact zlk v y
theorem zop {n : Int} (v : List Bool) {x : Ex} (h : nds n x = 0) : zbw v (zd4 x) = zbw v x := by
 obtain ⟨op, ix, args⟩ := x
 by_cases h2 : op = 2
 ·subst h2
  obtain ⟨e, y, rfl, hy⟩ := ze7 h
  rw [zez h, hold_not v hy, zqh]
 ·by_cases h3 : op = 3
  ·subst h3
   rw [zdm ix args (.inl rfl)]
   show zbw v (zk1 3 true (zdv 3 true [] args)) = _
   rw [fin_all, gath_all, zi0]
  ·by_cases h4 : op = 4
   ·subst h4
    rw [zdm ix args (.inr rfl)]
    show zbw v (zk1 4 false (zdv 4 false [] args)) = _
    rw [fin_any, gath_any, zll]
   ·rw [zdn ix args h2 h3 h4]
theorem zug (v : List Bool) (op ix : Int) {f : Ex → Ex} {args : List Ex} (h : ∀ y ∈ args, zbw v (f y) = zbw v y) : zbw v (.nd op ix (args.map f)) = zbw v (.nd op ix args) := by
 have : zf9 v (args.map f) = zf9 v args := by
  rw [zfa, zfa, List.map_map]
  exact List.map_congr_left fun y hy => h y hy
 rw [zbw, zbw, this]
theorem zuh {n : Int} (v : List Bool) : ∀ (q : Nat) (x : Ex), SizeOf.sizeOf x ≤ q → nds n x = 0 → szX x ≤ 256 → zbw v (zcx x) = zbw v x := by
 intro q
 induction q with
 | zero => intro x hq; cases x; simp at hq
 | succ q ih =>
  intro x hq hx hs
  obtain ⟨_, _, h3⟩ := zer _ x (Nat.le_refl _) hx hs
  obtain ⟨op, ix, args⟩ := x
  rw [zfi, zop v (h3 op ix args rfl).1]
  exact zug v op ix fun y hy => ih y (by have := zf3 (op := op) (ix := ix) hy; omega) ((zcv hx).2 y hy) (by have := zgg (op := op) (ix := ix) hy; omega)
end Go.Proofs.Ytmnkjofaodbokaa
namespace Go.Proofs.Ytmnkjofaodbokaa
open Go Go.Am
def gZ (o : List Int) (v : Nat) : Int := o.getD v 0
def dnx (P : Nat → Bool) (m i : Nat) : Int := match ((List.range m).drop i).find? P with
 | some u => (u : Nat)
 | none => -1
theorem dnx_step {P : Nat → Bool} {m i : Nat} (h : i < m) : dnx P m i = if P i = true then ((i : Nat) : Int) else dnx P m (i + 1) := by
 unfold dnx
 rw [List.drop_eq_getElem_cons (by rw [List.length_range]; exact h), List.getElem_range, List.find?_cons]
 cases P i <;> rfl
theorem dnx_end (P : Nat → Bool) (m : Nat) : dnx P m m = -1 := by
 unfold dnx
 rw [List.drop_of_length_le (by rw [List.length_range]; exact Nat.le_refl _)]
 rfl
def Gv (b : Nat) (q : List Int) (w : AV) (hp : List (Nat × Nat × AObj)) (nx : Nat) : Prop :=
 (q = [] ∧ w = .nils) ∨ ∃ id sp, w = .ms id sp 1 0 q.length none ∧ Am.look id hp = some (sp, .cells (q.map (AV.int .i64))) ∧ b < id ∧ id < nx
section
variable {b nx : Nat} {q : List Int} {w : AV} {hp : List (Nat × Nat × AObj)}
theorem Gv.fresh (h : Gv b q w hp nx) (ck : Nat) (x : AObj) : Gv b q w ((nx, ck, x) :: hp) (nx + 1) := by
 rcases h with h | ⟨id, sp, e, hl, h1, h2⟩
 ·exact .inl h
 ·exact .inr ⟨id, sp, e, by rw [zbl, if_neg (by omega)]; exact hl, h1, by omega⟩
theorem Gv.put (h : Gv b q w hp nx) {i : Nat} (hi : i ≤ b) (x : Nat × AObj) : Gv b q w (zcc i x hp) nx := by
 rcases h with h | ⟨id, sp, e, hl, h1, h2⟩
 ·exact .inl h
 ·exact .inr ⟨id, sp, e, by rw [za6, if_neg (by omega)]; exact hl, h1, h2⟩
theorem Gv.view {S : AS} {d : Nat} (h : Gv b q w S.heap nx) : S.view (d + 1) w = vsI q := by
 rcases h with ⟨rfl, rfl⟩ | ⟨id, sp, rfl, hl, _, _⟩
 ·rfl
 ·exact zwi q rfl hl
end
theorem gZ_at {o : List Int} {i : Nat} (h : i < o.length) : o[i] = gZ o i := by
 unfold gZ
 rw [List.getD_eq_getElem?_getD, List.getElem?_eq_getElem h]
 rfl
def b66_0 : IC := .seq (.region [⟨(some 9), .bin .lss (.t 8) (.t 7), none⟩] none)
 (.seq (.cond (.t 9) (.skip)
 (.exit 0))
 (.seq (.block 1 (.seq (.region [⟨(some 10), .mov (.t 8), none⟩,
  ⟨(some 5), .mov (.t 10), none⟩] none)
 (.seq (.region [⟨(some 11), .mov (.t 1), none⟩,
  ⟨(some 12), .mov (.t 0), none⟩,
  ⟨(some 13), .mov (.t 5), none⟩,
  ⟨(some 14), .idxs 1 (.t 12) (.t 13), none⟩,
  ⟨(some 15), .load none (.t 14), none⟩,
  ⟨(some 16), .bin .eql (.t 11) (.t 15), none⟩] none)
 (.cond (.t 16) (.seq (.region [⟨(some 17), .mov (.t 5), none⟩,
  ⟨(some 4), .mov (.t 17), none⟩] none)
 (.ret))
 (.skip)))))
 (.region [⟨(some 18), .bin .add (.t 8) (.c (.int .i64 1)), none⟩,
  ⟨(some 8), .mov (.t 18), none⟩] none)))
-- slices.Index[[]int,int]
def ic66 : IC := .seq (.region [⟨(some 4), .mov (.c (.int .i64 0)), none⟩] none)
 (.seq (.seq (.region [⟨(some 6), .mov (.t 0), none⟩,
  ⟨(some 7), .len false (.t 6), none⟩,
  ⟨(some 8), .mov (.c (.int .i64 0)), none⟩] none)
 (.block 0 (.loop b66_0)))
 (.seq (.region [⟨(some 4), .mov (.c (.int .i64 (-1))), none⟩] none)
 (.ret)))
theorem fn66 : env0.fn 66 = some ⟨19, ic66, [.t 4]⟩ := by kernel_rfl
set_option maxHeartbeats 1000000 in
theorem index66 (a : List Int) (x : Int) (ha : a.length ≤ 1000000) : PF Try.prog 66 [vsI a, .int .i64 x] (.int .i64 (dnx (fun i => gZ a i == x) a.length 0)) := by
 have hva : (a.map fun z => ([.int .i64 z] : List AV)).length = a.length := List.length_map ..
 refine zbv env0_ok fn66 [(0, vsI a), (1, .int .i64 x)] (by show 2 ≤ 19; decide) rfl fun w0 N0 => ?_
 unfold ic66
 repeat (first | refine zar ?_ | refine za1 rfl ?_ | refine zak ?_ | refine zal ?_ | refine zan ?_ | refine zao rfl ?_ | refine zbf rfl rfl ?_)
 refine zdu (fun mm S => ∃ i, mm = a.length - i ∧ i ≤ a.length ∧ dnx (fun i => gZ a i == x) a.length i = dnx (fun i => gZ a i == x) a.length 0 ∧ S = st 19 [(0, vsI a), (1, .int .i64 x), (7, .int .i64 (a.length : Nat)), (8, .int .i64 (i : Nat))] [] 0 0) a.length
  (zbm (.cons rfl (.cons rfl (.cons (by rw [← hva]; rfl) (.cons rfl .nil))))) ⟨0, rfl, Nat.zero_le _, rfl, rfl⟩ ?_
 rintro mm S ⟨i, rfl, hi, hd, rfl⟩
 unfold b66_0
 repeat (first | refine zar ?_ | refine za1 rfl ?_)
 refine zbr rfl rfl rfl (fun h3 => ?_) fun h3 => ?_
 ·have hlt : i < a.length := Int.ofNat_lt.1 (of_decide_eq_true h3)
  have w1 : IntKind.wrap .i64 (((i : Nat) : Int) + 1) = ((i + 1 : Nat) : Int) := zc2 i (by omega)
  have hg : (a.map fun z => ([.int .i64 z] : List AV))[((i : Nat) : Int).toNat]? = some [.int .i64 (gZ a i)] := by rw [zwk hlt, gZ_at]
  rw [dnx_step hlt] at hd
  repeat (first | refine zar ?_ | refine za1 rfl ?_ | refine zak ?_ | refine zal ?_ | refine zan ?_ | refine zaw ?_ | refine zbj rfl ?_ | refine zao rfl ?_ | refine zav rfl rfl ?_ | refine zb4 rfl rfl (by omega) (by assumption) rfl ?_)
  refine zbr rfl rfl rfl (fun h4 => ?_) fun h4 => ?_
  ·have h4 : x = gZ a i := by simpa using h4
   rw [if_pos (by simp [h4])] at hd
   rw [← hd]
   repeat (first | refine zar ?_ | refine za1 rfl ?_ | refine zak ?_ | refine zal ?_ | refine zbj rfl ?_ | refine zb0 ?_ | refine za3 ?_ | refine za5 ?_ | refine zao rfl ?_)
   exact zbh ⟨.inr rfl, _, rfl, rfl⟩
  ·have h4 : ¬ x = gZ a i := by simpa using h4
   rw [if_neg (by simp; exact fun e => h4 e.symm)] at hd
   repeat (first | refine za1 rfl ?_ | refine zak ?_ | refine zal ?_ | refine zbe ?_ | refine zaw ?_ | refine zbk rfl ?_ | refine zao rfl ?_ | refine zas (op := .add) rfl rfl rfl ?_)
   rw [w1]
   exact zcg (show a.length - (i + 1) < a.length - i by omega) (zbm (.cons rfl (.cons rfl (.cons rfl (.cons rfl .nil))))) ⟨i + 1, rfl, hlt, hd, rfl⟩
 ·have hi2 : i = a.length := by
   have : ¬ i < a.length := fun h => of_decide_eq_false h3 (Int.ofNat_lt.2 h)
   omega
  subst hi2
  rw [dnx_end] at hd
  rw [← hd]
  repeat (first | refine zar ?_ | refine zak ?_ | refine zal ?_ | refine zbk rfl ?_ | refine zb2 ?_ | refine za4 ?_)
  refine zev ?_
  repeat (first | refine zar ?_ | refine za1 rfl ?_ | refine zak ?_ | refine zal ?_ | refine zb0 ?_ | refine zb1 ?_ | refine zao rfl ?_)
  exact zbh ⟨.inr rfl, _, rfl, rfl⟩
theorem dnx_ge {P : Nat → Bool} {m : Nat} : dnx P m 0 ≥ 0 ↔ ∃ i, i < m ∧ P i = true := by
 unfold dnx
 rw [List.drop_zero]
 constructor
 ·intro h
  split at h
  ·rename_i u hu
   exact ⟨u, List.mem_range.1 (List.mem_of_find?_eq_some hu), List.find?_some hu⟩
  ·omega
 ·rintro ⟨i, h1, h2⟩
  split
  ·omega
  ·rename_i hn
   exact absurd h2 (List.find?_eq_none.1 hn i (List.mem_range.2 h1))
theorem dnx_has (a : List Int) (x : Int) : decide (dnx (fun i => gZ a i == x) a.length 0 ≥ 0) = a.contains x := by
 rw [Bool.eq_iff_iff, decide_eq_true_eq, dnx_ge, List.contains_iff_mem]
 constructor
 ·rintro ⟨i, h1, h2⟩
  rw [beq_iff_eq, ← gZ_at h1] at h2
  rw [← h2]
  exact List.getElem_mem h1
 ·intro h
  obtain ⟨i, h1, h2⟩ := List.mem_iff_getElem.1 h
  exact ⟨i, h1, by rw [beq_iff_eq, ← gZ_at h1]; exact h2⟩
-- slices.Contains[[]int,int]
def ic29 : IC := .seq (.region [⟨(some 4), .mov (.c (.bool false)), none⟩] none)
 (.seq (.region [⟨(some 5), .mov (.t 0), none⟩,
  ⟨(some 6), .mov (.t 1), none⟩,
  ⟨(some 7), .call (.c (.fn 66 [] [])) [(.t 5), (.t 6)], none⟩,
  ⟨(some 8), .bin .geq (.t 7) (.c (.int .i64 0)), none⟩,
  ⟨(some 4), .mov (.t 8), none⟩] none)
 (.ret))
theorem fn29 : env0.fn 29 = some ⟨9, ic29, [.t 4]⟩ := by kernel_rfl
set_option maxHeartbeats 1000000 in
theorem zrw (a : List Int) (x : Int) (ha : a.length ≤ 1000000) : PF Try.prog 29 [vsI a, .int .i64 x] (.bool (a.contains x)) := by
 have p26 := index66 a x ha
 have hh := dnx_has a x
 generalize dnx (fun i => gZ a i == x) a.length 0 = d at *
 refine zbv env0_ok fn29 [(0, vsI a), (1, .int .i64 x)] (by show 2 ≤ 9; decide) rfl fun w0 N0 => ?_
 unfold ic29
 repeat (first | refine zar ?_ | refine za1 rfl ?_ | refine zak ?_ | refine zal ?_ | refine zao rfl ?_)
 refine zbp rfl rfl p26 (fun h => Bool.noConfusion (show false = true from h)) ?_
 refine zbr rfl rfl rfl (fun h => ?_) fun h => ?_
 ·rw [← hh, show decide (d ≥ 0) = true from h]
  repeat (first | refine zak ?_ | refine zal ?_ | refine zb0 ?_ | refine zao rfl ?_)
  exact zbh ⟨.inr rfl, _, rfl, rfl⟩
 ·rw [← hh, show decide (d ≥ 0) = false from h]
  repeat (first | refine zak ?_ | refine zal ?_ | refine zb0 ?_ | refine zao rfl ?_)
  exact zbh ⟨.inr rfl, _, rfl, rfl⟩
-- slices.Equal[[]int,int]
end Go.Proofs.Ytmnkjofaodbokaa
namespace Go.Proofs.Ytmnkjofaodbokaa
open Go Go.Am
mutual
def zi4 (v : Int) : Ex → Bool
 | .nd op ix args => if op = 1 then decide (ix = v) else occL v args
def occL (v : Int) : List Ex → Bool
 | [] => false
 | y :: ys => zi4 v y || occL v ys
end
def zrd (x : Ex) (n : Nat) : List Int := ((List.range n).filter fun v => zi4 (v : Nat) x).map fun v => ((v : Nat) : Int)
theorem zre (x : Ex) (n : Nat) : (zrd x n).length ≤ n := by
 unfold zrd
 rw [List.length_map]
 have := List.length_filter_le (fun v => zi4 (v : Nat) x) (List.range n)
 rw [List.length_range] at this
 exact this
def varsV (x : Ex) (n : Int) : AV := if zch x n = 0 then .tup [vsI (zrd x n.toNat), .int .i64 0] else .tup [.vs [], .int .i64 (zch x n)]
end Go.Proofs.Ytmnkjofaodbokaa
namespace Go.Proofs.Ytmnkjofaodbokaa
open Go Go.Am
section
variable {σ τ : Type} {step : σ → Int → Ex → σ ⊕ τ} {M : Nat → Prop} {I : σ → HS → Prop} {J : τ → HS → Prop}
mutual
theorem zwl {m : σ → Int} (hm : ∀ s d x s1, step s d x = .inl s1 → m s1 ≤ m s + 1) : ∀ (x : Ex) (d : Int) (s s1 : σ), zdj step d x s = .inl s1 → m s1 ≤ m s + szX x
 | .nd op ix args => fun d s s1 h => by
  rw [zdj] at h
  rw [szX]
  cases hst : step s d (.nd op ix args) with
  | inr t => rw [hst] at h; cases h
  | inl s2 =>
   rw [hst] at h
   have h1 := hm s d _ s2 hst
   have h2 := zpj hm args d s2 s1 h
   omega
theorem zpj {m : σ → Int} (hm : ∀ s d x s1, step s d x = .inl s1 → m s1 ≤ m s + 1) : ∀ (l : List Ex) (d : Int) (s s1 : σ), zdh step d l s = .inl s1 → m s1 ≤ m s + szL l
 | [] => fun d s s1 h => by
  rw [zdh] at h
  injection h with h
  subst h
  rw [szL]; omega
 | y :: ys => fun d s s1 h => by
  have hp := zdq y
  rw [zdh] at h
  rw [szL]
  by_cases hd : d ≤ 16
  ·rw [if_pos hd] at h
   cases hw : zdj step (d + 1) y s with
   | inr t => rw [hw] at h; cases h
   | inl s2 =>
    rw [hw] at h
    have h1 := zwl hm y (d + 1) s s2 hw
    have h2 := zpj hm ys d s2 s1 h
    omega
  ·rw [if_neg hd] at h
   have h2 := zpj hm ys d s s1 h
   omega
end
set_option maxHeartbeats 4000000 in
theorem visitB {w0 : World} {N0 a sa b sb id sp : Nat} (hloc : Local M I) {B : Int} {m : σ → Int} (hm : ∀ s d x s1, step s d x = .inl s1 → m s1 ≤ m s + 1) (hy : ∀ s d x H, m s + 1 ≤ B → I s H → CT Try.prog w0 N0 (.yield id sp) [.int .i64 d, .agg (cX x)] H (zrj M I J H (step s d x))) :
  ∀ (n : Nat) (x : Ex) (d : Int) (H : HS) (s : σ), SizeOf.sizeOf x ≤ n → Slim x → 0 ≤ d → d ≤ 17 → I s H → Cap M a sa b sb id sp H → m s + szX x ≤ B →
   FT Try.prog w0 N0 91 [.agg (cX x), .int .i64 d, .mptr a sa 0, .mptr b sb 0] H (zrj M I J H (zdj step d x s)) := by
 intro n
 induction n with
 | zero => intro x d H s hn; cases x; simp at hn
 | succ n ih =>
  intro x d H s hn hw h0 h17 hI hC hB
  have hszp := zdq x
  obtain ⟨op, ix, args⟩ := x
  refine zic env0_ok fn91 [(0, .agg (cX (.nd op ix args))), (1, .int .i64 d), (2, .mptr a sa 0), (3, .mptr b sb 0)] (by show 4 ≤ 32; decide) rfl ?_
  unfold ic91
  repeat (first | refine zar ?_ | refine za1 rfl ?_ | refine zak ?_ | refine zal ?_ | refine zao rfl ?_ | refine zbd rfl rfl ?_)
  have hC1 := hC.keep (Keep.new M H (H.clk, .cells (cX (.nd op ix args))))
  refine zd2 rfl hC1.ha hC1.la rfl ?_
  repeat (first | refine zao rfl ?_)
  refine zfe rfl zbz (Nat.lt_succ_self _) rfl rfl ?_
  refine o_ct _ rfl rfl (hy s d (.nd op ix args) ⟨_, _, _⟩ (by omega) (hloc.new hI _ _)) (fun _ _ _ _ hm => absurd hm List.not_mem_nil) fun v H2 hF => ?_
  obtain ⟨hK, hF⟩ := hF
  have hK2 : Keep M H H2 := (Keep.new M H _).trans hK
  have hC2 := hC.keep hK2
  obtain ⟨hlen, hsl⟩ : args.length < 9223372036854775808 ∧ ∀ y ∈ args, Slim y := by cases hw with | nd h k => exact ⟨h, k⟩
  have hwx : zdj step d (.nd op ix args) s = match step s d (.nd op ix args) with | .inr t => .inr t | .inl s' => zdh step d args s' := by rw [zdj]; cases step s d (.nd op ix args) <;> rfl
  rw [hwx]
  cases hst : step s d (.nd op ix args) with
  | inr t =>
   rw [hst] at hF
   obtain ⟨rfl, hJ⟩ := hF
   repeat (first | refine zar ?_ | refine za1 rfl ?_ | refine zak ?_ | refine zal ?_ | refine zbj rfl ?_ | refine zb0 ?_ | refine za3 ?_ | refine zao rfl ?_ | refine zbs rfl rfl ?_)
   exact zbh ⟨.inr rfl, _, rfl, hK2, rfl, hJ⟩
  | inl s1 =>
   rw [hst] at hF
   obtain ⟨rfl, hI1⟩ := hF
   repeat (first | refine zar ?_ | refine za1 rfl ?_ | refine zak ?_ | refine zal ?_ | refine zaw ?_ | refine zbk rfl ?_ | refine za7 rfl ?_ | refine zbs rfl rfl ?_)
   refine zd2 rfl ((hK.look H.next (fun hm => Nat.lt_irrefl _ (hloc.lt s H hI _ hm)) (Nat.lt_succ_self _)).trans zbz) (Nat.lt_of_lt_of_le (Nat.lt_succ_self _) hK.next) rfl ?_
   repeat (first | refine zak ?_ | refine zal ?_ | refine zan ?_ | refine zao rfl ?_ | refine zbf rfl rfl ?_)
   refine zdu (fun mm S => ∃ i s' H', mm = args.length - i ∧ i ≤ args.length ∧ zdh step d args s1 = zdh step d (args.drop i) s' ∧ m s' + szL (args.drop i) ≤ B ∧ I s' H' ∧ Keep M H H' ∧
     S = st 32 [(1, .int .i64 d), (3, .mptr b sb 0), (15, .vs (cXs args)), (16, .int .i64 (cXs args).length), (17, .int .i64 (i : Nat))] H'.heap H'.next H'.clk) args.length
    (zbm (.cons rfl (.cons rfl (.cons rfl (.cons rfl (.cons rfl .nil)))))) ⟨0, s1, H2, rfl, Nat.zero_le _, rfl, (by have := hm s d _ s1 hst; rw [szX] at hB; rw [List.drop_zero]; omega), hI1, hK2, rfl⟩ ?_
   rintro mm S ⟨i, s', H', rfl, hi, hwl, hB', hI', hK', rfl⟩
   have hC' := hC.keep hK'
   unfold zth
   repeat (first | refine zar ?_ | refine za1 rfl ?_)
   refine zbr rfl rfl rfl (fun h1 => ?_) fun h1 => ?_
   ·have hlt : i < args.length := by
     have := of_decide_eq_true h1
     rw [zbi] at this
     omega
    have hd : args.drop i = args[i] :: args.drop (i + 1) := List.drop_eq_getElem_cons hlt
    rw [hd] at hwl hB'
    rw [szL] at hB'
    have hszq := zc9 (args.drop (i + 1))
    have hszy := zdq args[i]
    have hge := zdb hlt
    have hmem : args[i] ∈ args := List.getElem_mem hlt
    generalize args[i] = y at hwl hge hmem hB' hszy
    obtain ⟨yo, yi, ya⟩ := y
    repeat (first | refine zar ?_ | refine za1 rfl ?_ | refine zak ?_ | refine zal ?_ | refine zan ?_ | refine zaw ?_ | refine zbj rfl ?_)
    refine zb4 rfl rfl (Int.natCast_nonneg i) hge rfl ?_
    repeat (first | refine zap rfl rfl rfl rfl ?_ | refine zaq ?_)
    refine zam rfl rfl rfl rfl zbz rfl rfl ?_
    rw [zea]
    repeat (first | refine zar ?_ | refine za1 rfl ?_ | refine zak ?_ | refine zal ?_ | refine zao rfl ?_)
    refine zbr rfl rfl rfl (fun h2 => ?_) fun h2 => ?_
    ·have hd1 : d ≤ 16 := of_decide_eq_true h2
     repeat (first | refine zbn rfl ?_ | refine zao rfl ?_)
     refine zd2 rfl ((zc8 hC'.lb).trans hC'.hb) (Nat.lt_succ_of_lt hC'.lb) rfl ?_
     repeat (first | refine zbn rfl ?_)
     refine zfe rfl zbz (Nat.lt_succ_self _) rfl rfl ?_
     repeat (first | refine zbn rfl ?_ | refine zao rfl ?_ | refine zas (op := .add) rfl rfl rfl ?_)
     rw [show IntKind.wrap .i64 (d + 1) = d + 1 from wrap_small _ (by omega) (by omega)]
     refine o_ct _ rfl rfl (ct_fn (ih (.nd yo yi ya) (d + 1) ⟨_, _, _⟩ s' (by have := zf3 (op := op) (ix := ix) hmem; omega) (hsl _ hmem) (by omega) (by omega) (hloc.new hI' _ _) (hC'.keep (Keep.new M H' _)) (by omega))) (fun _ _ _ _ hm => absurd hm List.not_mem_nil) fun v H3 hF3 => ?_
     obtain ⟨hK3, hF3⟩ := hF3
     have hK4 : Keep M H H3 := hK'.trans ((Keep.new M H' _).trans hK3)
     cases hwk : zdj step (d + 1) (.nd yo yi ya) s' with
     | inr t =>
      rw [hwk] at hF3
      obtain ⟨rfl, hJ⟩ := hF3
      repeat (first | refine zar ?_ | refine za1 rfl ?_ | refine zak ?_ | refine zal ?_ | refine zbj rfl ?_ | refine zb0 ?_ | refine za3 ?_ | refine za5 ?_ | refine zbn rfl ?_ | refine zao rfl ?_ | refine zaj rfl rfl ?_ | refine zbs rfl rfl ?_)
      refine zft ?_
      repeat (first | refine za3 ?_ | refine za5 ?_)
      refine zbh ⟨.inr rfl, _, rfl, hK4, ?_⟩
      simp only [hwl, zdh, if_pos hd1, hwk]
      exact ⟨trivial, hJ⟩
     | inl s2 =>
      rw [hwk] at hF3
      obtain ⟨rfl, hI2⟩ := hF3
      repeat (first | refine za1 rfl ?_ | refine zak ?_ | refine zal ?_ | refine zbe ?_ | refine zaw ?_ | refine zbk rfl ?_ | refine zbn rfl ?_ | refine zao rfl ?_ | refine zaj rfl rfl ?_ | refine zbs rfl rfl ?_ | refine zas (op := .add) rfl rfl rfl ?_)
      rw [zc2 i (by omega)]
      exact zcg (show args.length - (i + 1) < args.length - i by omega) (zbm (.cons rfl (.cons rfl (.cons rfl (.cons rfl (.cons rfl .nil)))))) ⟨i + 1, s2, H3, rfl, hlt, by rw [hwl]; simp only [zdh, if_pos hd1, hwk], by have := zwl hm (.nd yo yi ya) (d + 1) s' s2 hwk; omega, hI2, hK4, rfl⟩
    ·have hd1 : ¬ d ≤ 16 := of_decide_eq_false h2
     repeat (first | refine za1 rfl ?_ | refine zak ?_ | refine zal ?_ | refine zbe ?_ | refine zaw ?_ | refine zbk rfl ?_ | refine zbq rfl rfl ?_ | refine zao rfl ?_ | refine zac rfl rfl ?_ | refine zas (op := .add) rfl rfl rfl ?_)
     rw [zc2 i (by omega)]
     exact zcg (show args.length - (i + 1) < args.length - i by omega) (zbm (.cons rfl (.cons rfl (.cons rfl (.cons rfl (.cons rfl .nil)))))) ⟨i + 1, s', ⟨_, _, _⟩, rfl, hlt, by rw [hwl]; simp only [zdh, if_neg hd1], by omega, hloc.new hI' _ _, hK'.trans (Keep.new M H' _), rfl⟩
   ·have hi2 : i = args.length := by
     have := of_decide_eq_false h1
     rw [zbi] at this
     omega
    repeat (first | refine zar ?_ | refine zak ?_ | refine zal ?_ | refine zbk rfl ?_ | refine zb2 ?_ | refine za4 ?_)
    refine zev ?_
    repeat (first | refine zar ?_ | refine za1 rfl ?_ | refine zak ?_ | refine zal ?_ | refine zb0 ?_ | refine zb1 ?_ | refine zao rfl ?_)
    refine zbh ⟨.inr rfl, _, rfl, hK', ?_⟩
    subst hi2
    simp only [hwl, List.drop_length, zdh]
    exact ⟨trivial, hI'⟩
theorem rangeB {w0 : World} {N0 id sp : Nat} (hloc : Local M I) {B : Int} {m : σ → Int} (hm : ∀ s d x s1, step s d x = .inl s1 → m s1 ≤ m s + 1) (hy : ∀ s d x H, m s + 1 ≤ B → I s H → CT Try.prog w0 N0 (.yield id sp) [.int .i64 d, .agg (cX x)] H (zrj M I J H (step s d x))) (x : Ex) (H : HS) (s : σ) (hx : Slim x) (hI : I s H) (hB : m s + szX x ≤ B) :
  FT Try.prog w0 N0 90 [.yield id sp, .vptr (cX x)] H fun _ H' => Keep M H H' ∧ match zdj step 1 x s with
   | .inl s' => I s' H'
   | .inr t => J t H' := by
 refine zic env0_ok fn90 [(0, .yield id sp), (1, .vptr (cX x))] (by show 2 ≤ 8; decide) rfl ?_
 obtain ⟨op, ix, args⟩ := x
 unfold ic90
 repeat (first | refine zar ?_ | refine za1 rfl ?_ | refine zak ?_ | refine zal ?_ | refine zaq ?_ | refine zbd rfl rfl ?_ | refine zb5 rfl rfl ?_)
 refine zam rfl rfl rfl rfl zbz rfl rfl ?_
 rw [zea]
 repeat (first | refine za1 rfl ?_ | refine zak ?_ | refine zal ?_)
 refine zd2 rfl zbz (Nat.lt_succ_self _) rfl ?_
 repeat (first | refine zap rfl rfl rfl rfl ?_)
 have hlt := hloc.lt s H hI
 have hk0 : Keep M H ⟨(H.next + 1, H.clk + 1, .cells (setAt 0 [.nilf] [.fn 91 [] [.mptr H.next H.clk 0, .mptr (H.next + 1) (H.clk + 1) 0]])) :: (H.next, H.clk, .cells [.yield id sp]) :: H.heap, H.next + 1 + 1, H.clk + 1 + 1⟩ := (Keep.new M H (H.clk, .cells [.yield id sp])).trans (Keep.new M ⟨(H.next, H.clk, .cells [.yield id sp]) :: H.heap, H.next + 1, H.clk + 1⟩ (H.clk + 1, _))
 refine o_ct _ rfl rfl (ct_fn (visitB hloc hm hy (SizeOf.sizeOf (Ex.nd op ix args)) (.nd op ix args) 1 ⟨_, _, _⟩ s (Nat.le_refl _) hx (by decide) (by decide) (hloc.of s H ⟨_, _, _⟩ hI hk0.next fun i hm => (zc8 (Nat.lt_succ_of_lt (hlt i hm))).trans (zc8 (hlt i hm)))
  ⟨fun hm => Nat.lt_irrefl _ (hlt _ hm), fun hm => Nat.not_succ_lt_self (hlt _ hm), (zc8 (Nat.lt_succ_self _)).trans zbz, zbz, Nat.lt_succ_of_lt (Nat.lt_succ_self _), Nat.lt_succ_self _⟩ hB)) (fun _ _ _ _ hm => absurd hm List.not_mem_nil) fun v H2 hF => ?_
 obtain ⟨hK, hF⟩ := hF
 repeat (first | refine zak ?_)
 refine zbh ⟨.inl rfl, _, rfl, hk0.trans hK, ?_⟩
 cases hw : zdj step 1 (.nd op ix args) s with
 | inl s' => rw [hw] at hF; exact hF.2
 | inr t => rw [hw] at hF; exact hF.2
end
end Go.Proofs.Ytmnkjofaodbokaa
namespace Go.Proofs
open Go.Shelf
def Try.lays189_ren : Go.Shelf.Ren := ⟨fun | 189 => 64 | 125 => 93 | 257 => 92 | 128 => 115 | 129 => 116 | 294 => 106 | 295 => 107 | 296 => 108 | 297 => 109 | 298 => 110 | 299 => 111 | 216 => 112 | 300 => 113 | 301 => 114 | 328 => 120 | 329 => 121 | 330 => 122 | 331 => 123 | 332 => 124 | 215 => 125 | 343 => 126 | n => n, fun | 28 => 61 | 3 => 3 | 46 => 137 | 0 => 0 | 51 => 151 | 53 => 43 | 4 => 4 | 183 => 143 | 182 => 142 | 131 => 148 | 5 => 5 | 9 => 9 | 218 => 155 | 222 => 159 | 228 => 162 | 229 => 163 | n => n, fun | n => n⟩
theorem Try.lays189 : Go.Proofs.Lays.n189 Try.prog Try.lays189_ren := {
 mixed := by kernel_rfl
 f125 := Try.func93.trans (congrArg some (by kernel_rfl))
 f128 := Try.func115.trans (congrArg some (by kernel_rfl))
 f129 := Try.func116.trans (congrArg some (by kernel_rfl))
 f189 := Try.func64.trans (congrArg some (by kernel_rfl))
 f215 := Try.func125.trans (congrArg some (by kernel_rfl))
 f216 := Try.func112.trans (congrArg some (by kernel_rfl))
 f257 := Try.func92.trans (congrArg some (by kernel_rfl))
 f294 := Try.func106.trans (congrArg some (by kernel_rfl))
 f295 := Try.func107.trans (congrArg some (by kernel_rfl))
 f296 := Try.func108.trans (congrArg some (by kernel_rfl))
 f297 := Try.func109.trans (congrArg some (by kernel_rfl))
 f298 := Try.func110.trans (congrArg some (by kernel_rfl))
 f299 := Try.func111.trans (congrArg some (by kernel_rfl))
 f300 := Try.func113.trans (congrArg some (by kernel_rfl))
 f301 := Try.func114.trans (congrArg some (by kernel_rfl))
 f328 := Try.func120.trans (congrArg some (by kernel_rfl))
 f329 := Try.func121.trans (congrArg some (by kernel_rfl))
 f330 := Try.func122.trans (congrArg some (by kernel_rfl))
 f331 := Try.func123.trans (congrArg some (by kernel_rfl))
 f332 := Try.func124.trans (congrArg some (by kernel_rfl))
 f343 := Try.func126.trans (congrArg some (by kernel_rfl))
 t0 := Try.underlying0
 a0 := Try.isAgg0
 z0 := Try.sizeOf0
 v0 := Try.zeroValue0
 t3 := Try.underlying3
 a3 := Try.isAgg3
 z3 := Try.sizeOf3
 v3 := Try.zeroValue3
 t4 := Try.underlying4
 a4 := Try.isAgg4
 z4 := Try.sizeOf4
 v4 := Try.zeroValue4
 t5 := Try.underlying5
 a5 := Try.isAgg5
 z5 := Try.sizeOf5
 v5 := Try.zeroValue5
 t9 := Try.underlying9
 a9 := Try.isAgg9
 z9 := Try.sizeOf9
 v9 := Try.zeroValue9
 t28 := Try.underlying61
 a28 := Try.isAgg61
 z28 := Try.sizeOf61
 v28 := Try.zeroValue61
 t46 := Try.underlying137
 a46 := Try.isAgg137
 z46 := Try.sizeOf137
 v46 := Try.zeroValue137
 t51 := Try.underlying151
 a51 := Try.isAgg151
 z51 := Try.sizeOf151
 v51 := Try.zeroValue151
 t53 := Try.underlying43
 a53 := Try.isAgg43
 z53 := Try.sizeOf43
 v53 := Try.zeroValue43
 t131 := Try.underlying148
 a131 := Try.isAgg148
 z131 := Try.sizeOf148
 v131 := Try.zeroValue148
 t182 := Try.underlying142
 a182 := Try.isAgg142
 z182 := Try.sizeOf142
 v182 := Try.zeroValue142
 t183 := Try.underlying143
 a183 := Try.isAgg143
 z183 := Try.sizeOf143
 v183 := Try.zeroValue143
 t218 := Try.underlying155
 a218 := Try.isAgg155
 z218 := Try.sizeOf155
 v218 := Try.zeroValue155
 t222 := Try.underlying159
 a222 := Try.isAgg159
 z222 := Try.sizeOf159
 v222 := Try.zeroValue159
 t228 := Try.underlying162
 a228 := Try.isAgg162
 z228 := Try.sizeOf162
 v228 := Try.zeroValue162
 t229 := Try.underlying163
 a229 := Try.isAgg163
 z229 := Try.sizeOf163
 v229 := Try.zeroValue163 }
open Go.Sort Go.RowKit in
theorem Try.slices_Sort_int (blk off cap : Nat) (zs : List Int) (w : World) (hH : Holds (Value.int .i64) w blk off zs.toArray) (hblk : blk < w.heap.size) (hsz : zs.length < 4611686018427387904) :
  Calls Try.prog 64 #[.slice (some ⟨blk, off, none⟩) zs.length cap] w fun e w' =>
   e = .returned (.tuple #[]) ∧ ∃ n os, w' = grow (putRow (Value.int .i64) (Sort.ahead w n) blk off (zs.mergeSort fun x y => decide (x ≤ y)).toArray) os := Any.slices_Sort_int Try.lays189 blk off cap zs w hH hblk hsz
def Try.laysNm220_ren : Go.Shelf.Ren := ⟨fun | 20 => 65 | n => n, fun | 22 => 61 | 3 => 3 | 4 => 4 | 0 => 0 | n => n, fun | n => n⟩
theorem Try.laysNm220 : Go.Proofs.Lays2.n20 Try.prog Try.laysNm220_ren := {
 mixed := by kernel_rfl
 f20 := Try.func65.trans (congrArg some (by kernel_rfl))
 t0 := Try.underlying0
 a0 := Try.isAgg0
 z0 := Try.sizeOf0
 v0 := Try.zeroValue0
 t3 := Try.underlying3
 a3 := Try.isAgg3
 z3 := Try.sizeOf3
 v3 := Try.zeroValue3
 t4 := Try.underlying4
 a4 := Try.isAgg4
 z4 := Try.sizeOf4
 v4 := Try.zeroValue4
 t22 := Try.underlying61
 a22 := Try.isAgg61
 z22 := Try.sizeOf61
 v22 := Try.zeroValue61
 i3 := by kernel_rfl }
open Go.RowKit Go.Lib Go.Sort in
theorem Try.slices_Compact_int (blk off cap : Nat) (zs : List Int) (w : World) (hH : Holds (Value.int .i64) w blk off zs.toArray) (hsz : zs.length ≤ 9223372036854775807) (hcap : zs.length ≤ cap) :
  Calls Try.prog 65 #[.slice (some ⟨blk, off, none⟩) zs.length cap] w fun e w' => e = .returned (.slice (some ⟨blk, off, none⟩) (Lib.compact zs).length cap) ∧ ∃ q, w' = putRow (Value.int .i64) (Sort.ahead w q) blk off (Lib.compact zs ++ List.replicate (zs.length - (Lib.compact zs).length) 0).toArray := Any.slices_Compact_int Try.laysNm220 blk off cap zs w hH hsz hcap
namespace Ytmnkjofaodbokaa
open Go Go.Am Go.RowKit
theorem ent64 : Ent Try.prog 64 := zu2 Try.func64 rfl (by kernel_rfl)
theorem ent65 : Ent Try.prog 65 := zu2 Try.func65 rfl (by kernel_rfl)
theorem sorts64 : Sorts Try.prog 64 := fun blk off cap zs w hH hb hz => Try.slices_Sort_int blk off cap zs w hH hb hz
theorem cpts65 : Cpts Try.prog 65 := fun blk off cap zs w hH hz hc => Try.slices_Compact_int blk off cap zs w hH hz hc
end Ytmnkjofaodbokaa
end Go.Proofs
namespace Go.Proofs.Ytmnkjofaodbokaa
open Go Go.Am
noncomputable def zmv : Code := match env0.fn 28 with
 | some i => ((zd3 i.ic)[0]?.getD (.skip, .skip)).1
 | none => .skip
noncomputable def zmw : Code := match env0.fn 28 with
 | some i => ((zd3 i.ic)[0]?.getD (.skip, .skip)).2
 | none => .skip
def zo7 : IC := .region [⟨(some 9), .alloc [.int .i64 0, .int .i64 0, .nils], none⟩,
  ⟨none, .store 3 (.t 9) (.t 19), none⟩] none
def zvn : IC := .block 1 (.seq (.region [⟨(some 20), .faddr 0 (.t 9), none⟩,
  ⟨(some 21), .load none (.t 20), none⟩,
  ⟨(some 22), .bin .eql (.t 21) (.c (.int .i64 1)), none⟩] none)
 (.cond (.t 22) (.region [⟨(some 23), .load none (.t 7), none⟩,
  ⟨(some 24), .faddr 1 (.t 9), none⟩,
  ⟨(some 25), .load none (.t 24), none⟩,
  ⟨(some 26), .bslice 1 1 [.int .i64 0] [(0, 1, (.t 25))], none⟩,
  ⟨(some 27), .append 1 8 [.int .i64 0] (.t 23) (.t 26), none⟩,
  ⟨none, .store 1 (.t 7) (.t 27), none⟩] none)
 (.skip)))
-- pneumatic/boolexp.Variables
noncomputable def ic28 : IC := .seq (.region [⟨(some 2), .box (.t 0), none⟩,
  ⟨(some 4), .mov (.c (.nils)), none⟩,
  ⟨(some 5), .mov (.c (.int .i64 0)), none⟩] none)
 (.seq (.seq (.region [⟨(some 10), .load (some 3) (.t 2), none⟩,
  ⟨(some 11), .mov (.t 1), none⟩,
  ⟨(some 12), .call (.c (.fn 32 [] [])) [(.t 10), (.t 11)], none⟩,
  ⟨(some 6), .mov (.t 12), none⟩] none)
 (.seq (.region [⟨(some 13), .mov (.t 6), none⟩,
  ⟨(some 14), .bin .neq (.t 13) (.c (.int .i64 0)), none⟩] none)
 (.cond (.t 14) (.seq (.region [⟨(some 15), .mov (.t 6), none⟩,
  ⟨(some 4), .mov (.c (.nils)), none⟩,
  ⟨(some 5), .mov (.t 15), none⟩] none)
 (.ret))
 (.skip))))
 (.seq (.region [⟨(some 7), .alloc [.nils], none⟩] none)
 (.seq (.seq (.region [⟨(some 16), .load (some 3) (.t 2), none⟩,
  ⟨(some 17), .call (.c (.fn 63 [] [])) [(.t 16)], none⟩] none)
 (.block 0 (.rangeFunc (.t 17) [18, 19] zmv zmw zo7 zvn)))
 (.seq (.region [⟨(some 28), .load none (.t 7), none⟩,
  ⟨(some 29), .call (.c (.fn 64 [] [])) [(.t 28)], none⟩] none)
 (.seq (.region [⟨(some 30), .load none (.t 7), none⟩,
  ⟨(some 31), .call (.c (.fn 65 [] [])) [(.t 30)], none⟩,
  ⟨(some 4), .mov (.t 31), none⟩,
  ⟨(some 5), .mov (.c (.int .i64 0)), none⟩] none)
 (.ret))))))
theorem fn28 : env0.fn 28 = some ⟨32, ic28, [.t 4, .t 5]⟩ := by kernel_rfl
mutual
def zrv : Ex → List Int
 | .nd op ix args => (if op = 1 then [ix] else []) ++ zmy args
def zmy : List Ex → List Int
 | [] => []
 | y :: ys => zrv y ++ zmy ys
end
def zny (s : List Int) (_ : Int) (x : Ex) : List Int ⊕ Unit := match x with
 | .nd op ix _ => .inl (if op = 1 then s ++ [ix] else s)
theorem stepV_m (s : List Int) (d : Int) (x : Ex) (s1 : List Int) (h : zny s d x = .inl s1) : (s1.length : Int) ≤ (s.length : Int) + 1 := by
 obtain ⟨op, ix, args⟩ := x
 unfold zny at h
 injection h with h
 subst h
 split
 ·rw [List.length_append]; show ((s.length + 1 : Nat) : Int) ≤ _; omega
 ·omega
mutual
theorem walkV : ∀ (x : Ex) (d : Int) (s : List Int), d ≤ 17 → zci (17 - d).toNat x = true → zdj zny d x s = .inl (s ++ zrv x)
 | .nd op ix args => fun d s h17 hb => by
  have h16 : d ≤ 16 := by
   by_cases h : d ≤ 16
   ·exact h
   ·rw [show (17 - d).toNat = 0 by omega] at hb
    simp [zci] at hb
  rw [show (17 - d).toNat = (16 - d).toNat + 1 by omega, zco] at hb
  rw [zdj, zrv]
  have hst : zny s d (.nd op ix args) = .inl (if op = 1 then s ++ [ix] else s) := rfl
  rw [hst]
  dsimp only
  rw [walkLV args d _ h16 hb]
  by_cases h1 : op = 1
  ·rw [if_pos h1, if_pos h1, List.append_assoc]
  ·rw [if_neg h1, if_neg h1, List.nil_append]
theorem walkLV : ∀ (l : List Ex) (d : Int) (s : List Int), d ≤ 16 → l.all (zci (16 - d).toNat) = true → zdh zny d l s = .inl (s ++ zmy l)
 | [] => fun d s h16 hb => by rw [zdh, zmy, List.append_nil]
 | y :: ys => fun d s h16 hb => by
  rw [List.all_cons, Bool.and_eq_true] at hb
  rw [zdh, if_pos h16, walkV y (d + 1) s (by omega) (by rw [show (17 - (d + 1)).toNat = (16 - d).toNat by omega]; exact hb.1)]
  dsimp only
  rw [walkLV ys d _ h16 hb.2, zmy, List.append_assoc]
end
structure I28 (ltm : List (Nat × AV)) (s : List Int) (H : HS) : Prop where
 nx : 4 ≤ H.next
 h3 : Am.look 3 H.heap = some (2, .loop .ready none 32 (zec ltm) [18, 19] zmv zmw (2, 1))
 h2 : Am.look 2 H.heap = some (1, .deferred)
 h0 : ∃ sp, Am.look 0 H.heap = some (0, .cells [.ms 1 sp 1 0 s.length none]) ∧ Am.look 1 H.heap = some (sp, .cells (s.map (AV.int .i64)))
theorem local28 (ltm : List (Nat × AV)) : Local (fun i => i < 4) (I28 ltm) :=
 ⟨fun s H h i hi => Nat.lt_of_lt_of_le hi h.nx, fun s H H' h hn hl =>
  ⟨Nat.le_trans h.nx hn, (hl 3 (by decide)).trans h.h3, (hl 2 (by decide)).trans h.h2, let ⟨sp, a, b⟩ := h.h0; ⟨sp, (hl 0 (by decide)).trans a, (hl 1 (by decide)).trans b⟩⟩⟩
set_option maxHeartbeats 2000000 in
theorem yield28 {w0 : World} {N0 : Nat} (ltm : List (Nat × AV)) (g7 : zc7 (.t 7) ltm = some (.mptr 0 0 0)) (ha : Com Try.prog zmv zo7) (hb : Com Try.prog zmw zvn) (s : List Int) (d : Int) (x : Ex) (H : HS) (hm : (s.length : Int) + 1 ≤ 256) (h : I28 ltm s H) :
  CT Try.prog w0 N0 (.yield 3 2) [.int .i64 d, .agg (cX x)] H (zrj (fun i => i < 4) (I28 ltm) (fun (_ : Unit) _ => False) H (zny s d x)) := by
 obtain ⟨op, ix, args⟩ := x
 obtain ⟨nx, h3, h2, sp, h0, h1⟩ := h
 refine zn0 (l0 := (19, .agg (cX (.nd op ix args))) :: (18, .int .i64 d) :: ltm) h3 ha hb rfl (by decide) rfl ?_
 unfold zo7
 repeat (first | refine za1 rfl ?_ | refine zaq ?_)
 refine zam (sp := H.clk) (cs := [.int .i64 0, .int .i64 0, .nils]) rfl rfl rfl rfl zbz rfl rfl ?_
 repeat (first | refine zak ?_)
 refine zbh ⟨rfl, _, _, _, _, rfl, ?_, ?_⟩
 ·rw [zea, zbl, if_neg (by omega)]; exact h3
 rw [zea]
 unfold zvn
 repeat (first | refine zar ?_ | refine za1 rfl ?_ | refine zan ?_)
 repeat (first | refine za7 rfl ?_)
 refine zd2 (sp := H.clk) (cs := cX (.nd op ix args)) rfl (by rw [za6, if_neg (by omega)]; exact zbz) (by omega) rfl ?_
 refine zbr rfl rfl rfl (fun hg => ?_) fun hg => ?_
 ·have hg : op = 1 := by simpa using hg
  have hst : zny s d (.nd op ix args) = .inl (s ++ [ix]) := by
   show Sum.inl (if op = 1 then s ++ [ix] else s) = _
   rw [if_pos hg]
  rw [hst]
  repeat (first | refine za1 rfl ?_ | refine zak ?_ | refine zal ?_ | refine zbj rfl ?_)
  refine zd2 (sp := 0) (cs := [.ms 1 sp 1 0 s.length none]) g7 (by rw [za6, if_neg (by decide), zc8 (by omega)]; exact h0) (by omega) rfl ?_
  refine za7 rfl ?_
  refine zd2 (sp := H.clk) (cs := cX (.nd op ix args)) rfl (by rw [za6, if_neg (by omega)]; exact zbz) (by omega) rfl ?_
  refine zad rfl rfl ?_
  refine zjj [[.int .i64 ix]] (id := 1) (sp := sp) (len := s.length) (cs := s.map (AV.int .i64)) rfl rfl (zgs (xs := [[.int .i64 ix]]) (ys := []) zbz rfl fun x hx => by obtain rfl := List.mem_singleton.1 hx; rfl) (fun h => Nat.noConfusion h) rfl (by decide) (by rw [zbl, if_neg (by omega), za6, if_neg (by decide), zc8 (by omega)]; exact h1) (by rw [List.length_map, Nat.mul_one]) (by show _ + 1 ≤ _; omega) ?_
  refine zam (sp := 0) (cs := [.ms 1 sp 1 0 s.length none]) g7 rfl rfl rfl (by rw [za6, if_neg (by decide), zbl, if_neg (by omega), za6, if_neg (by decide), zc8 (by omega)]; exact h0) rfl rfl ?_
  repeat (first | refine zak ?_ | refine zbe ?_)
  refine zbh ⟨32, zec ltm, [18, 19], zmv, zmw, (2, 1), ?_, none, rfl, ⟨by show H.next ≤ H.next + 1 + 1; omega, by show H.clk ≤ H.clk + 1 + 1 + 1; omega, fun i hi hj => ?_⟩, ?_⟩
  ·dsimp only [st]
   rw [za6, if_neg (by decide), za6, if_neg (by decide), zbl, if_neg (by omega), za6, if_pos rfl]
  ·dsimp only [st]
   rw [za6, if_neg (by omega), za6, if_neg (by omega), za6, if_neg (by omega), zbl, if_neg (by omega), za6, if_neg (by omega), zc8 (by omega)]
  ·refine ⟨rfl, by show 4 ≤ H.next + 1 + 1; omega, ?_, ?_, H.clk + 1 + 1, ?_, ?_⟩
   ·dsimp only [st]
    rw [za6, if_pos rfl]; rfl
   all_goals
    dsimp only [st]
    rw [za6, if_neg (by decide)]
   ·rw [za6, if_neg (by decide), za6, if_neg (by decide), zbl, if_neg (by omega), za6, if_neg (by decide), zc8 (by omega)]; exact h2
   ·rw [za6, if_pos rfl, List.length_append]; rfl
   ·rw [za6, if_neg (by decide), za6, if_pos rfl, List.map_append]; rfl
 ·have hg : ¬ op = 1 := by simpa using hg
  have hst : zny s d (.nd op ix args) = .inl s := by
   show Sum.inl (if op = 1 then s ++ [ix] else s) = _
   rw [if_neg hg]
  rw [hst]
  repeat (first | refine zak ?_ | refine zal ?_ | refine zbe ?_ | refine zaw ?_ | refine zbk rfl ?_)
  refine zbh ⟨32, zec ltm, [18, 19], zmv, zmw, (2, 1), ?_, none, rfl, ⟨Nat.le_succ _, Nat.le_succ _, fun i hi hj => ?_⟩, ?_⟩
  ·dsimp only [st]
   rw [za6, if_pos rfl]
  ·dsimp only [st]
   rw [za6, if_neg (by omega), za6, if_neg (by omega), zc8 (by omega)]
  ·refine ⟨rfl, Nat.le_succ_of_le nx, ?_, ?_, sp, ?_, ?_⟩
   ·dsimp only [st]
    rw [za6, if_pos rfl]; rfl
   all_goals
    dsimp only [st]
    rw [za6, if_neg (by decide), za6, if_neg (by decide), zc8 (by omega)]
   ·exact h2
   ·exact h0
   ·exact h1
def tabS64 : Tab := [(64, [([.vs []], .tup [])]), (65, [([.vs []], .vs [])])]
theorem zo0 : TabOk Try.prog tabS64 := TabOk.of_run (env0_ok.tab TabOk.nil (pure := [])) (n := 60) (by kernel_rfl)
theorem ints64 : PF Try.prog 64 [.vs []] (.tup []) := zo0 _ (List.mem_cons_self ..) _ (List.mem_cons_self ..)
theorem ztr : PF Try.prog 65 [.vs []] (.vs []) := zo0 _ (List.mem_cons_of_mem _ (List.mem_cons_self ..)) _ (List.mem_cons_self ..)
mutual
theorem zq1 : ∀ x : Ex, ((zrv x).length : Int) ≤ szX x
 | .nd op ix args => by
  rw [zrv, szX, List.length_append]
  have h := zmz args
  split
  ·show ((1 + (zmy args).length : Nat) : Int) ≤ _; omega
  ·show ((0 + (zmy args).length : Nat) : Int) ≤ _; omega
theorem zmz : ∀ l : List Ex, ((zmy l).length : Int) ≤ szL l
 | [] => by rw [zmy, szL]; show ((0 : Nat) : Int) ≤ 0; omega
 | y :: ys => by
  rw [zmy, szL, List.length_append]
  have h1 := zq1 y
  have h2 := zmz ys
  omega
end
def varL (x : Ex) : List Int := cps (srt (zrv x))
def varsP (x : Ex) (n : Int) : AV := if zch x n = 0 then .tup [vsI (varL x), .int .i64 0] else .tup [.vs [], .int .i64 (zch x n)]
set_option maxHeartbeats 2000000 in
theorem zjw (x : Ex) (hs : Slim x) (n : Int) : PF Try.prog 28 [.agg (cX x), .int .i64 n] (varsP x n) := by
 have p32 := zl4 x hs n
 rw [zf5] at p32
 unfold varsP
 have hlt : zch x n = 0 → zdk x = true := fun h => by
  unfold zch at h
  split at h
  ·omega
  ·split at h
   ·assumption
   ·omega
 generalize zch x n = e at *
 obtain ⟨op, ix, args⟩ := x
 refine zbv env0_ok fn28 [(0, .agg (cX (.nd op ix args))), (1, .int .i64 n)] (by show 2 ≤ 32; decide) rfl fun w0 N0 => ?_
 unfold ic28
 refine zar (za1 rfl (zbd rfl rfl (zao rfl (zao rfl (zak (zal ?_))))))
 refine zct [] [(0, 0, cX (.nd op ix args))] [(1, .int .i64 n), (2, .vptr (cX (.nd op ix args)))] rfl (.cons rfl rfl .nil) .nil (.cons rfl (.same rfl) (.cons rfl (.fptr rfl rfl) .nil)) ?_
 repeat (first | refine zar ?_ | refine za1 rfl ?_ | refine zao rfl ?_ | refine zap rfl rfl rfl rfl ?_)
 refine zbp rfl rfl p32 (fun h => Bool.noConfusion (show false = true from h)) ?_
 repeat (first | refine zar ?_ | refine za1 rfl ?_ | refine zak ?_ | refine zal ?_ | refine zao rfl ?_)
 refine zbr rfl rfl rfl (fun h => ?_) fun h => ?_
 ·rw [if_neg (by simpa using h)]
  repeat (first | refine zar ?_ | refine za1 rfl ?_ | refine zak ?_ | refine zal ?_ | refine zbj rfl ?_ | refine zb0 ?_ | refine za3 ?_ | refine zao rfl ?_)
  exact zbh ⟨.inr rfl, _, rfl, rfl⟩
 have h : e = 0 := by simpa using h
 rw [if_pos h]
 have hl := hlt h
 repeat (first | refine zar ?_ | refine za1 rfl ?_ | refine zak ?_ | refine zal ?_ | refine zaw ?_ | refine zbk rfl ?_ | refine zap rfl rfl rfl rfl ?_ | refine zaq ?_)
 refine zbp rfl rfl (zhj (.nd op ix args)) (fun h => Bool.noConfusion (show false = true from h)) ?_
 refine zak (zal ?_)
 refine zct [(some (0, 1), [.ms 1 0 1 0 0 none]), (none, [])] [] [(2, .vptr (cX (.nd op ix args))), (7, .mptr 0 0 0), (17, .fn 90 [] [.vptr (cX (.nd op ix args))])] rfl .nil (.cons rfl (.cons (.grow rfl) .nil) (.new .nil)) (.cons rfl (.same rfl) (.cons rfl (.mptr rfl) (.cons rfl (.same rfl) .nil))) ?_
 refine zan ?_
 have hsz := (zde _).1 hl
 refine zmm (.inl rfl) rfl fun ha hb => (rangeB (local28 _) (B := 256) (m := fun s : List Int => (s.length : Int)) stepV_m (fun s d x H hm h => yield28 _ rfl ha hb s d x H hm h) (.nd op ix args) ⟨_, _, _⟩ [] hs ⟨Nat.le_refl _, rfl, rfl, 0, rfl, rfl⟩ (by show ((0 : Nat) : Int) + _ ≤ _; omega)).mono fun v H2 hF => ?_
 obtain ⟨hK, hF⟩ := hF
 rw [walkV _ 1 [] (by decide) hsz.2, List.nil_append] at hF
 obtain ⟨nx, h3, h2, sp, h0, h1⟩ := hF
 refine ⟨_, _, .normal, _, _, _, _, _, _, h3, by simp, rfl, fun z hz => ?_, ?_⟩
 ·obtain rfl := List.mem_singleton.1 hz
  rw [zbg, if_neg (by decide)]; exact h2
 have hcl := zq1 (.nd op ix args)
 have hcl : (zrv (.nd op ix args)).length ≤ 256 := by have := hsz.1; omega
 unfold varL
 generalize zrv (.nd op ix args) = L at *
 refine zbe (zal ?_)
 by_cases hL : L = []
 ·subst hL
  refine zwp [(some (0, 0), [.vs []])] [(1, sp, [])] [(2, .vptr (cX (.nd op ix args))), (7, .mptr 0 0 0)] rfl (.cons (by show Am.look 1 (zca 3 H2.heap) = _; rw [zbg, if_neg (by decide)]; exact h1) rfl .nil) (.cons (by show Am.look 0 (zca 3 H2.heap) = _; rw [zbg, if_neg (by decide)]; exact h0) (.cons (.fms (cs := []) (xs := []) (by simp [fzl]) rfl (fun y hy => by cases hy) ⟨[], rfl⟩) .nil) .nil) (.cons rfl (.same rfl) (.cons rfl (.mptr rfl) .nil)) ?_
  repeat (first | refine zar ?_ | refine za1 rfl ?_ | refine zav rfl rfl ?_)
  refine zbp rfl rfl ints64 (fun h => Bool.noConfusion (show false = true from h)) ?_ (fun m hm => by obtain rfl := List.mem_singleton.1 hm; rfl)
  repeat (first | refine zar ?_ | refine za1 rfl ?_ | refine zak ?_ | refine zal ?_ | refine zav rfl rfl ?_)
  refine zbp rfl rfl ztr (fun h => Bool.noConfusion (show false = true from h)) ?_ (fun m hm => by obtain rfl := List.mem_singleton.1 hm; rfl)
  repeat (first | refine zak ?_ | refine zal ?_ | refine zb0 ?_ | refine zao rfl ?_)
  have e0 : cps (srt []) = [] := List.length_eq_zero_iff.1 (by have h1 := ztu (srt []); have h2 := zju []; rw [h2] at h1; exact Nat.le_zero.1 h1)
  exact zbh ⟨.inr rfl, _, rfl, by rw [e0]; rfl⟩
 ·refine zwp [(some (0, 0), [.ms 1 0 1 0 L.length none]), (some (1, sp), L.map (AV.int .i64))] [] [(2, .vptr (cX (.nd op ix args))), (7, .mptr 0 0 0)] rfl .nil (.cons (by show Am.look 0 (zca 3 H2.heap) = _; rw [zbg, if_neg (by decide)]; exact h0) (.cons (.ms rfl) .nil) (.cons (by show Am.look 1 (zca 3 H2.heap) = _; rw [zbg, if_neg (by decide)]; exact h1) (.keep (zkb _)) .nil)) (.cons rfl (.same rfl) (.cons rfl (.mptr rfl) .nil)) ?_
  have hne2 : srt L ≠ [] := fun e => hL (by have := zju L; rw [e] at this; exact List.length_eq_zero_iff.1 this.symm)
  repeat (first | refine zar ?_ | refine za1 rfl ?_ | refine zav rfl rfl ?_)
  refine o_ct _ rfl rfl (zgi (FT_sort (cap := none) (zs := L) ent64 sorts64 hL (by omega) rfl)) (fun v H hF => ?_) fun v H hF => ?_
  ·obtain ⟨rfl, rfl⟩ := hF
   intro m hm
   obtain rfl := List.mem_singleton.1 hm
   rfl
  obtain ⟨rfl, rfl⟩ := hF
  repeat (first | refine zar ?_ | refine za1 rfl ?_ | refine zak ?_ | refine zal ?_ | refine zav rfl rfl ?_)
  refine o_ct _ rfl (by rw [← zju L]; rfl) (zgi (zri (cap := none) (zs := srt L) (sp := 0) (id := 1) ent65 cpts65 hne2 (by rw [zju]; omega) rfl)) (fun v H hF => ?_) fun v H hF => ?_
  ·obtain ⟨rfl, rfl⟩ := hF
   intro m hm
   obtain rfl := List.mem_singleton.1 hm
   rfl
  obtain ⟨rfl, rfl⟩ := hF
  repeat (first | refine zak ?_ | refine zal ?_ | refine zb0 ?_ | refine zao rfl ?_)
  exact zbh ⟨.inr rfl, _, rfl, congrArg AV.tup (zjl (zo1 (J := (List.replicate ((srt L).length - (cps (srt L)).length) 0).map (AV.int .i64)) (cps (srt L)) rfl (by rw [← List.map_append]; rfl)) rfl)⟩
end Go.Proofs.Ytmnkjofaodbokaa
namespace Go.Proofs.Ytmnkjofaodbokaa
open Go Go.Am
theorem zgr : ∀ (m : Nat) (x : Ex), zci m x = true → zci (m + 1) x = true
 | 0, x, h => by cases x; rw [zci] at h; cases h
 | m + 1, .nd op ix args, h => by
  rw [zco, List.all_eq_true] at h ⊢
  exact fun y hy => zgr m y (h y hy)
theorem zn1 {m : Nat} {y z : Ex} (h : zci m y = true) (hz : z ∈ zrm y) : zci m z = true := by
 obtain ⟨o, i, a⟩ := y
 match m, h with
 | 0, h => rw [zci] at h; cases h
 | m + 1, h =>
  rw [zco, List.all_eq_true] at h
  exact zgr m z (h z hz)
theorem zq7 {m : Nat} (h : 0 < m) (b : Bool) : zci m (zk3 b) = true := by
 match m, h with
 | m + 1, _ =>
  unfold zk3
  rw [zco]; rfl
theorem deep_pos {m : Nat} {x : Ex} (h : zci m x = true) : 0 < m := by
 match m, h with
 | 0, h => cases x; rw [zci] at h; cases h
 | m + 1, _ => omega
theorem zoh {n : Int} {m : Nat} {x : Ex} (hx : nds n x = 0) (hd : zci m x = true) : zci m (zd4 x) = true := by
 obtain ⟨op, ix, args⟩ := x
 obtain ⟨m, rfl⟩ : ∃ k, m = k + 1 := ⟨m - 1, by have := deep_pos hd; omega⟩
 have hp : 0 < m + 1 := Nat.succ_pos m
 have h : ∀ y ∈ args, zci m y = true := by
  have := hd
  rw [zco, List.all_eq_true] at this
  exact this
 by_cases h2 : op = 2
 ·subst h2
  obtain ⟨_, y, rfl, hy⟩ := ze7 hx
  rw [zez hx]
  have hyd := h y (List.mem_cons_self ..)
  unfold zp7
  split
  ·exact zq7 hp _
  ·split
   ·rename_i e
    obtain ⟨o, i, a⟩ := y
    obtain rfl : o = 2 := e
    obtain ⟨_, z, rfl, hz⟩ := ze7 hy
    exact zgr m z (zn1 hyd (List.mem_cons_self ..))
   ·rw [zco, List.all_eq_true]
    intro z hz
    obtain rfl := List.mem_singleton.1 hz
    exact hyd
 ·by_cases ho : op = 3 ∨ op = 4
  ·rw [zdm ix args ho]
   have hg : ∀ z ∈ zdv op (op == 3) [] args, zci m z = true := fun z hz => by
    obtain ⟨_, y, hy, ⟨_, k⟩ | ⟨_, rfl⟩⟩ := zf7 hz
    ·exact zn1 (h y hy) k
    ·exact h z hy
   rcases zn7 op (op == 3) (zdv op (op == 3) [] args) with ⟨b, e⟩ | ⟨y, hy, e⟩ | ⟨_, _, e⟩
   ·rw [e]; exact zq7 hp b
   ·rw [e]; exact zgr m y (hg y hy)
   ·rw [e, zco, List.all_eq_true]; exact hg
  ·rw [zdn ix args h2 (fun e => ho (.inl e)) (fun e => ho (.inr e))]
   exact hd
theorem ztx {n : Int} : ∀ (q : Nat) (x : Ex) (m : Nat), SizeOf.sizeOf x ≤ q → nds n x = 0 → szX x ≤ 256 → zci m x = true → zci m (zcx x) = true := by
 intro q
 induction q with
 | zero => intro x m hq; cases x; simp at hq
 | succ q ih =>
  intro x m hq hx hs hd
  obtain ⟨_, _, h3⟩ := zer _ x (Nat.le_refl _) hx hs
  obtain ⟨op, ix, args⟩ := x
  rw [zfi]
  refine zoh (h3 op ix args rfl).1 ?_
  match m, hd with
  | 0, hd => rw [zci] at hd; cases hd
  | m + 1, hd =>
   rw [zco, List.all_eq_true] at hd ⊢
   intro z hz
   obtain ⟨y, hy, rfl⟩ := List.mem_map.1 hz
   exact ih y m (by have := zf3 (op := op) (ix := ix) hy; omega) ((zcv hx).2 y hy) (by have := zgg (op := op) (ix := ix) hy; omega) (hd y hy)
theorem zs2 {n : Int} {x : Ex} (hx : nds n x = 0) (h : zdk x = true) : zdk (zcx x) = true := by
 obtain ⟨h1, h2⟩ := (zde x).1 h
 obtain ⟨_, h3, _⟩ := zer _ x (Nat.le_refl _) hx h1
 exact (zde _).2 ⟨by omega, ztx _ x 16 (Nat.le_refl _) hx h1 h2⟩
theorem zff {w : Int} : ∀ {l : List Ex}, occL w l = true ↔ ∃ y ∈ l, zi4 w y = true
 | [] => by rw [occL]; simp
 | y :: ys => by rw [occL, Bool.or_eq_true, zff (l := ys)]; simp
theorem zvd (w : Int) (b : Bool) : zi4 w (zk3 b) = false := by
 unfold zk3
 rw [zi4, if_neg (by decide)]; rfl
theorem zqt {w : Int} {y z : Ex} (h1 : opX y ≠ 1) (hz : z ∈ zrm y) (h : zi4 w z = true) : zi4 w y = true := by
 obtain ⟨o, i, a⟩ := y
 have h1 : o ≠ 1 := h1
 rw [zi4, if_neg h1]
 exact zff.2 ⟨z, hz, h⟩
theorem zs7 {n w : Int} {x : Ex} (hx : nds n x = 0) (h : zi4 w (zd4 x) = true) : zi4 w x = true := by
 obtain ⟨op, ix, args⟩ := x
 by_cases h2 : op = 2
 ·subst h2
  obtain ⟨_, y, rfl, hy⟩ := ze7 hx
  rw [zez hx] at h
  rw [zi4, if_neg (by decide)]
  refine zff.2 ⟨y, List.mem_cons_self .., ?_⟩
  unfold zp7 at h
  split at h
  ·rw [zvd] at h; cases h
  ·split at h
   ·rename_i e
    obtain ⟨o, i, a⟩ := y
    obtain rfl : o = 2 := e
    obtain ⟨_, z, rfl, hz⟩ := ze7 hy
    exact zqt (show (2 : Int) ≠ 1 by decide) (List.mem_cons_self ..) h
   ·rw [zi4, if_neg (by decide), zff] at h
    obtain ⟨z, hz, k⟩ := h
    obtain rfl := List.mem_singleton.1 hz
    exact k
 ·by_cases ho : op = 3 ∨ op = 4
  ·rw [zdm ix args ho] at h
   have h1 : op ≠ 1 := by omega
   rw [zi4, if_neg h1]
   have hg : ∀ z ∈ zdv op (op == 3) [] args, zi4 w z = true → ∃ y ∈ args, zi4 w y = true := fun z hz k => by
    obtain ⟨_, y, hy, ⟨e, hk⟩ | ⟨_, rfl⟩⟩ := zf7 hz
    ·exact ⟨y, hy, zqt (by rw [e]; exact h1) hk k⟩
    ·exact ⟨z, hy, k⟩
   refine zff.2 ?_
   rcases zn7 op (op == 3) (zdv op (op == 3) [] args) with ⟨b, e⟩ | ⟨y, hy, e⟩ | ⟨_, _, e⟩
   ·rw [e, zvd] at h; cases h
   ·rw [e] at h; exact hg y hy h
   ·rw [e, zi4, if_neg h1, zff] at h
    obtain ⟨z, hz, k⟩ := h
    exact hg z hz k
  ·rw [zdn ix args h2 (fun e => ho (.inl e)) (fun e => ho (.inr e))] at h
   exact h
theorem occ_simp {n w : Int} : ∀ (q : Nat) (x : Ex), SizeOf.sizeOf x ≤ q → nds n x = 0 → szX x ≤ 256 → zi4 w (zcx x) = true → zi4 w x = true := by
 intro q
 induction q with
 | zero => intro x hq; cases x; simp at hq
 | succ q ih =>
  intro x hq hx hs h
  obtain ⟨_, _, h3⟩ := zer _ x (Nat.le_refl _) hx hs
  obtain ⟨op, ix, args⟩ := x
  rw [zfi] at h
  have h := zs7 (h3 op ix args rfl).1 h
  rw [zi4] at h ⊢
  by_cases h1 : op = 1
  ·rw [if_pos h1] at h ⊢; exact h
  ·rw [if_neg h1, zff] at h ⊢
   obtain ⟨z, hz, k⟩ := h
   obtain ⟨y, hy, rfl⟩ := List.mem_map.1 hz
   exact ⟨y, hy, ih y (by have := zf3 (op := op) (ix := ix) hy; omega) ((zcv hx).2 y hy) (by have := zgg (op := op) (ix := ix) hy; omega) k⟩
inductive NF : Ex → Prop
 | con (b : Bool) : NF (zk3 b)
 | var (ix : Int) : NF (.nd 1 ix [])
 | neg {y : Ex} (h : NF y) (h0 : opX y ≠ 0) (h2 : opX y ≠ 2) : NF (.nd 2 0 [y])
 | op {op : Int} {l : List Ex} (ho : op = 3 ∨ op = 4) (hl : 2 ≤ l.length) (h : ∀ y ∈ l, NF y) (h0 : ∀ y ∈ l, opX y ≠ 0 ∧ opX y ≠ op) (hd : l.Nodup) (hn : ∀ y ∈ l, negX y ∉ l) : NF (.nd op 0 l)
theorem zna {op : Int} : ∀ {l : List Ex}, (∀ y ∈ l, opX y ≠ op) → l.flatMap (zdt op) = l
 | [], _ => rfl
 | y :: ys, h => by
  rw [List.flatMap_cons, zna fun z hz => h z (List.mem_cons_of_mem _ hz)]
  unfold zdt
  rw [if_neg (h y (List.mem_cons_self ..))]
  rfl
theorem nf_fix {y : Ex} (h : NF y) : zcx y = y := by
 induction h with
 | con b => show zcx (.nd 0 _ []) = _; rw [zfi, List.map_nil, zdn _ _ (by decide) (by decide) (by decide)]; rfl
 | var ix => rw [zfi, List.map_nil, zdn _ _ (by decide) (by decide) (by decide)]
 | @neg y h h0 h2 ih =>
  rw [zfi, List.map_cons, List.map_nil, ih, zhi]
  unfold zp7
  rw [if_neg h0, if_neg h2]
 | @op op l ho hl h h0 hd hn ih =>
  have hm : l.map zcx = l := by
   have : l.map zcx = l.map id := List.map_congr_left fun y hy => ih y hy
   rw [this, List.map_id]
  rw [zfi, hm, zdm _ _ ho]
  have hg : zdv op (op == 3) [] l = l := by
   rw [zeh, zna fun y hy => (h0 y hy).2]
   exact zvj (l := []) (fun z hz => is_op (h0 z hz).1) hd
  rw [hg]
  unfold zk1
  rw [if_neg (by
   rw [List.any_eq_true]
   rintro ⟨y, hy, e⟩
   unfold zoo at e
   rw [is_op (h0 y hy).1, Bool.false_or, zfx] at e
   exact hn y hy e)]
  match l, hl with
  | y :: z :: r, _ => rfl
theorem nf_args {op : Int} {y z : Ex} (h : NF y) (e : opX y = op) (ho : op = 3 ∨ op = 4) (hz : z ∈ zrm y) : NF z ∧ opX z ≠ 0 ∧ opX z ≠ op := by
 cases h with
 | con b => have : (0 : Int) = op := e; omega
 | var ix => have : (1 : Int) = op := e; omega
 | neg h h0 h2 => have : (2 : Int) = op := e; omega
 | op ho hl h h0 hd hn =>
  have e := e
  subst e
  exact ⟨h z hz, h0 z hz⟩
theorem zv9 {n : Int} {op ix : Int} {args : List Ex} (hx : nds n (.nd op ix args) = 0) (h : ∀ y ∈ args, NF y) : NF (zd4 (.nd op ix args)) := by
 by_cases h2 : op = 2
 ·subst h2
  obtain ⟨_, y, rfl, hy⟩ := ze7 hx
  rw [zez hx]
  have hn := h y (List.mem_cons_self ..)
  unfold zp7
  split
  ·exact .con _
  ·split
   ·rename_i e
    cases hn with
    | con b => have : (0 : Int) = 2 := e; omega
    | var ix => have : (1 : Int) = 2 := e; omega
    | neg h h0 h2 => rename NF _ => h'; exact h'
    | op ho => exfalso; rcases ho with rfl | rfl; exact absurd (show (3 : Int) = 2 from e) (by decide); exact absurd (show (4 : Int) = 2 from e) (by decide)
   ·rename_i e0 e2
    exact .neg hn e0 e2
 ·by_cases ho : op = 3 ∨ op = 4
  ·rw [zdm ix args ho]
   have hg : ∀ z ∈ zdv op (op == 3) [] args, NF z ∧ opX z ≠ op := fun z hz => by
    obtain ⟨_, y, hy, ⟨e, k⟩ | ⟨e, rfl⟩⟩ := zf7 hz
    ·obtain ⟨a, _, b⟩ := nf_args (h y hy) e ho k
     exact ⟨a, b⟩
    ·exact ⟨h z hy, e⟩
   rcases zn7 op (op == 3) (zdv op (op == 3) [] args) with ⟨b, e⟩ | ⟨y, hy, e⟩ | ⟨h1, hl, e⟩
   ·rw [e]; exact .con b
   ·rw [e]; exact (hg y hy).1
   ·rw [e]
    have hh : ∀ y ∈ zdv op (op == 3) [] args, zoo (op == 3) (zdv op (op == 3) [] args) y = false := fun y hy => by
     rw [← Bool.not_eq_true]
     intro k
     have := List.any_eq_true.2 ⟨y, hy, k⟩
     rw [h1] at this
     cases this
    refine .op ho hl (fun y hy => (hg y hy).1) (fun y hy => ⟨fun e0 => ?_, (hg y hy).2⟩) (by rw [zeh]; exact zkm List.nodup_nil) fun y hy hn => ?_
    ·have := hh y hy
     unfold zoo at this
     rw [is_zero e0 (zf7 hy).1] at this
     cases this
    ·have := hh y hy
     unfold zoo at this
     rw [zfx.2 hn, Bool.or_true] at this
     cases this
  ·rw [zdn ix args h2 (fun e => ho (.inl e)) (fun e => ho (.inr e))]
   obtain ⟨h01, ha⟩ := rgt_low hx h2 (fun e => ho (.inl e)) (fun e => ho (.inr e))
   subst ha
   rcases h01 with rfl | rfl
   ·rw [zrh hx rfl]; exact .con _
   ·exact .var ix
theorem nf_simp {n : Int} : ∀ (q : Nat) (x : Ex), SizeOf.sizeOf x ≤ q → nds n x = 0 → szX x ≤ 256 → NF (zcx x) := by
 intro q
 induction q with
 | zero => intro x hq; cases x; simp at hq
 | succ q ih =>
  intro x hq hx hs
  obtain ⟨_, _, h3⟩ := zer _ x (Nat.le_refl _) hx hs
  obtain ⟨op, ix, args⟩ := x
  rw [zfi]
  refine zv9 (h3 op ix args rfl).1 fun z hz => ?_
  obtain ⟨y, hy, rfl⟩ := List.mem_map.1 hz
  exact ih y (by have := zf3 (op := op) (ix := ix) hy; omega) ((zcv hx).2 y hy) (by have := zgg (op := op) (ix := ix) hy; omega)
theorem zw2 {n : Int} {x : Ex} (hx : nds n x = 0) (hs : szX x ≤ 256) : zcx (zcx x) = zcx x := nf_fix (nf_simp _ x (Nat.le_refl _) hx hs)
end Go.Proofs.Ytmnkjofaodbokaa
namespace Go.Proofs.Ytmnkjofaodbokaa
open Go Go.Am
theorem merged58 {n : Int} {x : Ex} (h : nds n x = 0) (hs : szX x ≤ 256) : PF Try.prog 58 [.agg (cX x)] (.agg (cX (zd4 x))) := by
 obtain ⟨op, ix, args⟩ := x
 rw [szX] at hs
 by_cases h2 : op = 2
 ·subst h2
  obtain ⟨_, y, rfl, hy⟩ := ze7 h
  rw [zhi]
  refine zv7 ix y fun e => ?_
  rw [zkf y, e] at hy
  obtain ⟨_, z, ez, _⟩ := ze7 hy
  exact ⟨z, [], ez⟩
 ·by_cases ho : op = 3 ∨ op = 4
  ·rw [zdm ix args ho]
   exact zv6 ix args ho (by omega)
  ·rw [zdn ix args h2 (fun e => ho (.inl e)) (fun e => ho (.inr e))]
   exact zv8 ix args h2 (fun e => ho (.inl e)) (fun e => ho (.inr e))
theorem zp3 {n : Int} {x : Ex} (h : nds n x = 0) (hs : szX x ≤ 256) : PF Try.prog 57 [.agg (cX x), .fn 58 [] []] (.agg (cX (zcx x))) := by
 refine mapped57 58 [] rfl rfl (fun _ => rfl) (fun _ => rfl) zd4 (fun y => nds n y = 0 ∧ szX y ≤ 256) (fun op ix args ⟨h1, h2⟩ => ?_) _ x (Nat.le_refl _) ⟨h, hs⟩
 have hll := zd7 args
 obtain ⟨_, _, h3⟩ := zer _ _ (Nat.le_refl _) h1 h2
 obtain ⟨h4, h5⟩ := h3 op ix args rfl
 rw [zlz, show args.map (zmn zd4) = args.map zcx from rfl]
 have h2' := h2
 rw [szX] at h2'
 exact ⟨by omega, fun y hy => ⟨(zcv h1).2 y hy, by have := zgg (op := op) (ix := ix) hy; omega⟩, merged58 h4 (by omega)⟩
theorem zgo {x : Ex} {n : Int} (h : zch x n = 0) : zdk x = true := by
 unfold zch at h
 split at h
 ·cases h
 ·split at h
  ·assumption
  ·cases h
theorem zpz {x : Ex} {n : Int} (h : zch x n = 0) : szX x ≤ 256 := ((zde x).1 (zgo h)).1
def simpV (x : Ex) (n : Int) : AV := if zch x n = 0 then .tup [.agg (cX (zcx x)), .int .i64 0] else .tup [.agg (cX (.nd 0 0 [])), .int .i64 (zch x n)]
-- pneumatic/boolexp.Simplify
def ic23 : IC := .seq (.region [⟨(some 2), .box (.t 0), none⟩,
  ⟨(some 4), .alloc [.int .i64 0, .int .i64 0, .nils], none⟩,
  ⟨(some 5), .mov (.c (.int .i64 0)), none⟩] none)
 (.seq (.seq (.region [⟨(some 7), .load (some 3) (.t 2), none⟩,
  ⟨(some 8), .mov (.t 1), none⟩,
  ⟨(some 9), .call (.c (.fn 32 [] [])) [(.t 7), (.t 8)], none⟩,
  ⟨(some 6), .mov (.t 9), none⟩] none)
 (.seq (.region [⟨(some 10), .mov (.t 6), none⟩,
  ⟨(some 11), .bin .neq (.t 10) (.c (.int .i64 0)), none⟩] none)
 (.cond (.t 11) (.seq (.region [⟨(some 12), .build [.int .i64 0, .int .i64 0, .nils] [], none⟩,
  ⟨(some 13), .mov (.t 6), none⟩,
  ⟨none, .store 3 (.t 4) (.t 12), none⟩,
  ⟨(some 5), .mov (.t 13), none⟩] none)
 (.ret))
 (.skip))))
 (.seq (.region [⟨(some 14), .load (some 3) (.t 2), none⟩,
  ⟨(some 15), .call (.c (.fn 57 [] [])) [(.t 14), (.c (.fn 58 [] []))], none⟩,
  ⟨none, .store 3 (.t 4) (.t 15), none⟩,
  ⟨(some 5), .mov (.c (.int .i64 0)), none⟩] none)
 (.ret)))
theorem fn23 : env0.fn 23 = some ⟨16, ic23, [.cell 4 (some 3), .t 5]⟩ := by kernel_rfl
theorem zkt (x : Ex) (hs : Slim x) (n : Int) : PF Try.prog 23 [.agg (cX x), .int .i64 n] (simpV x n) := by
 have p32 := zl4 x hs n
 rw [zf5] at p32
 have p57 : zch x n = 0 → PF Try.prog 57 [.agg (cX x), .fn 58 [] []] (.agg (cX (zcx x))) := fun h => zp3 (znm h) (zpz h)
 unfold simpV
 generalize zch x n = c at *
 generalize zcx x = R at *
 obtain ⟨op, ix, args⟩ := x
 refine zbv env0_ok fn23 [(0, .agg (cX (.nd op ix args))), (1, .int .i64 n)] (by show 2 ≤ 16; decide) rfl fun w0 N0 => ?_
 unfold ic23
 refine zar (za1 rfl (zbd rfl rfl (zaq (zao rfl (zak (zal ?_))))))
 refine zct [(some (1, 1), [.int .i64 0, .int .i64 0, .nils])] [(0, 0, cX (.nd op ix args))] [(1, .int .i64 n), (2, .vptr (cX (.nd op ix args))), (4, .mptr 0 0 0)] rfl (.cons rfl rfl .nil) (.cons rfl (.cons (.same rfl) (.cons (.same rfl) (.cons (.same rfl) .nil))) .nil) (.cons rfl (.same rfl) (.cons rfl (.fptr rfl rfl) (.cons rfl (.mptr rfl) .nil))) ?_
 repeat (first | refine zar ?_ | refine za1 rfl ?_ | refine zak ?_ | refine zal ?_ | refine zbe ?_ | refine zan ?_ | refine zaw ?_ | refine zbj rfl ?_ | refine zbk rfl ?_ | refine zb2 ?_ | refine zb0 ?_ | refine zb1 ?_ | refine za4 ?_ | refine za2 rfl ?_ | refine za3 ?_ | refine za5 ?_ | refine zbn rfl ?_ | refine zbq rfl rfl ?_ | refine zbu rfl ?_ | refine zao rfl ?_ | refine zav rfl rfl ?_ | refine zap rfl rfl rfl rfl ?_ | refine zam rfl rfl rfl rfl rfl rfl rfl ?_ | refine za7 rfl ?_ | refine zae rfl rfl rfl ?_ | refine za0 rfl rfl rfl ?_ | refine zab rfl rfl rfl rfl ?_ | refine zaq ?_ | refine zaj rfl rfl ?_ | refine zac rfl rfl ?_ | refine zbs rfl rfl ?_ | refine zbf rfl rfl ?_ | refine zay rfl rfl ?_ | refine zad rfl rfl ?_ | refine zbd rfl rfl ?_ | refine zaa rfl rfl rfl ?_ | refine zau rfl rfl ?_ | refine zah rfl rfl rfl rfl ?_ | refine za8 rfl rfl rfl rfl ?_ | refine zag rfl rfl rfl rfl ?_ | refine zb8 rfl rfl ?_ | refine zb5 rfl rfl ?_ | refine za9 rfl rfl ?_ | refine zb9 ?_ | refine zai env0_ok rfl rfl rfl ?_ | refine zas (op := .add) rfl rfl rfl ?_ | refine zas (op := .sub) rfl rfl rfl ?_ | refine zb7 rfl rfl rfl ?_ | refine zb6 rfl rfl rfl ?_ | refine zb3 rfl rfl rfl ?_ | refine zaz rfl rfl rfl ?_ | refine zb4 rfl rfl (by omega) (by assumption) rfl ?_ | refine za0 rfl rfl (decide_eq_true ⟨by omega, by omega⟩) ?_ | refine zax rfl rfl (by omega) (by omega) ?_ | refine zaf rfl rfl rfl ?_ | refine zbb rfl ?_ | refine zba rfl ?_)
 refine zbp rfl rfl p32 (fun h => Bool.noConfusion (show false = true from h)) ?_
 repeat (first | refine zar ?_ | refine za1 rfl ?_ | refine zak ?_ | refine zal ?_ | refine zbe ?_ | refine zan ?_ | refine zaw ?_ | refine zbj rfl ?_ | refine zbk rfl ?_ | refine zb2 ?_ | refine zb0 ?_ | refine zb1 ?_ | refine za4 ?_ | refine za2 rfl ?_ | refine za3 ?_ | refine za5 ?_ | refine zbn rfl ?_ | refine zbq rfl rfl ?_ | refine zbu rfl ?_ | refine zao rfl ?_ | refine zav rfl rfl ?_ | refine zap rfl rfl rfl rfl ?_ | refine zam rfl rfl rfl rfl rfl rfl rfl ?_ | refine za7 rfl ?_ | refine zae rfl rfl rfl ?_ | refine za0 rfl rfl rfl ?_ | refine zab rfl rfl rfl rfl ?_ | refine zaq ?_ | refine zaj rfl rfl ?_ | refine zac rfl rfl ?_ | refine zbs rfl rfl ?_ | refine zbf rfl rfl ?_ | refine zay rfl rfl ?_ | refine zad rfl rfl ?_ | refine zbd rfl rfl ?_ | refine zaa rfl rfl rfl ?_ | refine zau rfl rfl ?_ | refine zah rfl rfl rfl rfl ?_ | refine za8 rfl rfl rfl rfl ?_ | refine zag rfl rfl rfl rfl ?_ | refine zb8 rfl rfl ?_ | refine zb5 rfl rfl ?_ | refine za9 rfl rfl ?_ | refine zb9 ?_ | refine zai env0_ok rfl rfl rfl ?_ | refine zas (op := .add) rfl rfl rfl ?_ | refine zas (op := .sub) rfl rfl rfl ?_ | refine zb7 rfl rfl rfl ?_ | refine zb6 rfl rfl rfl ?_ | refine zb3 rfl rfl rfl ?_ | refine zaz rfl rfl rfl ?_ | refine zb4 rfl rfl (by omega) (by assumption) rfl ?_ | refine za0 rfl rfl (decide_eq_true ⟨by omega, by omega⟩) ?_ | refine zax rfl rfl (by omega) (by omega) ?_ | refine zaf rfl rfl rfl ?_ | refine zbb rfl ?_ | refine zba rfl ?_)
 refine zbr rfl rfl rfl (fun hc => ?_) fun hc => ?_
 ·rw [if_neg (bne_iff_ne.1 hc)]
  repeat (first | refine zar ?_ | refine za1 rfl ?_ | refine zak ?_ | refine zal ?_ | refine zbe ?_ | refine zan ?_ | refine zaw ?_ | refine zbj rfl ?_ | refine zbk rfl ?_ | refine zb2 ?_ | refine zb0 ?_ | refine zb1 ?_ | refine za4 ?_ | refine za2 rfl ?_ | refine za3 ?_ | refine za5 ?_ | refine zbn rfl ?_ | refine zbq rfl rfl ?_ | refine zbu rfl ?_ | refine zao rfl ?_ | refine zav rfl rfl ?_ | refine zap rfl rfl rfl rfl ?_ | refine zam rfl rfl rfl rfl rfl rfl rfl ?_ | refine za7 rfl ?_ | refine zae rfl rfl rfl ?_ | refine za0 rfl rfl rfl ?_ | refine zab rfl rfl rfl rfl ?_ | refine zaq ?_ | refine zaj rfl rfl ?_ | refine zac rfl rfl ?_ | refine zbs rfl rfl ?_ | refine zbf rfl rfl ?_ | refine zay rfl rfl ?_ | refine zad rfl rfl ?_ | refine zbd rfl rfl ?_ | refine zaa rfl rfl rfl ?_ | refine zau rfl rfl ?_ | refine zah rfl rfl rfl rfl ?_ | refine za8 rfl rfl rfl rfl ?_ | refine zag rfl rfl rfl rfl ?_ | refine zb8 rfl rfl ?_ | refine zb5 rfl rfl ?_ | refine za9 rfl rfl ?_ | refine zb9 ?_ | refine zai env0_ok rfl rfl rfl ?_ | refine zas (op := .add) rfl rfl rfl ?_ | refine zas (op := .sub) rfl rfl rfl ?_ | refine zb7 rfl rfl rfl ?_ | refine zb6 rfl rfl rfl ?_ | refine zb3 rfl rfl rfl ?_ | refine zaz rfl rfl rfl ?_ | refine zb4 rfl rfl (by omega) (by assumption) rfl ?_ | refine za0 rfl rfl (decide_eq_true ⟨by omega, by omega⟩) ?_ | refine zax rfl rfl (by omega) (by omega) ?_ | refine zaf rfl rfl rfl ?_ | refine zbb rfl ?_ | refine zba rfl ?_)
  exact zbh ⟨.inr rfl, _, rfl, rfl⟩
 ·have hc : c = 0 := by simpa using hc
  have q57 := p57 hc
  rw [if_pos hc]
  obtain ⟨ro, ri, ra⟩ := R
  repeat (first | refine zar ?_ | refine za1 rfl ?_ | refine zak ?_ | refine zal ?_ | refine zbe ?_ | refine zan ?_ | refine zaw ?_ | refine zbj rfl ?_ | refine zbk rfl ?_ | refine zb2 ?_ | refine zb0 ?_ | refine zb1 ?_ | refine za4 ?_ | refine za2 rfl ?_ | refine za3 ?_ | refine za5 ?_ | refine zbn rfl ?_ | refine zbq rfl rfl ?_ | refine zbu rfl ?_ | refine zao rfl ?_ | refine zav rfl rfl ?_ | refine zap rfl rfl rfl rfl ?_ | refine zam rfl rfl rfl rfl rfl rfl rfl ?_ | refine za7 rfl ?_ | refine zae rfl rfl rfl ?_ | refine za0 rfl rfl rfl ?_ | refine zab rfl rfl rfl rfl ?_ | refine zaq ?_ | refine zaj rfl rfl ?_ | refine zac rfl rfl ?_ | refine zbs rfl rfl ?_ | refine zbf rfl rfl ?_ | refine zay rfl rfl ?_ | refine zad rfl rfl ?_ | refine zbd rfl rfl ?_ | refine zaa rfl rfl rfl ?_ | refine zau rfl rfl ?_ | refine zah rfl rfl rfl rfl ?_ | refine za8 rfl rfl rfl rfl ?_ | refine zag rfl rfl rfl rfl ?_ | refine zb8 rfl rfl ?_ | refine zb5 rfl rfl ?_ | refine za9 rfl rfl ?_ | refine zb9 ?_ | refine zai env0_ok rfl rfl rfl ?_ | refine zas (op := .add) rfl rfl rfl ?_ | refine zas (op := .sub) rfl rfl rfl ?_ | refine zb7 rfl rfl rfl ?_ | refine zb6 rfl rfl rfl ?_ | refine zb3 rfl rfl rfl ?_ | refine zaz rfl rfl rfl ?_ | refine zb4 rfl rfl (by omega) (by assumption) rfl ?_ | refine za0 rfl rfl (decide_eq_true ⟨by omega, by omega⟩) ?_ | refine zax rfl rfl (by omega) (by omega) ?_ | refine zaf rfl rfl rfl ?_ | refine zbb rfl ?_ | refine zba rfl ?_)
  refine zbp rfl rfl q57 (fun h => Bool.noConfusion (show false = true from h)) ?_
  repeat (first | refine zar ?_ | refine za1 rfl ?_ | refine zak ?_ | refine zal ?_ | refine zbe ?_ | refine zan ?_ | refine zaw ?_ | refine zbj rfl ?_ | refine zbk rfl ?_ | refine zb2 ?_ | refine zb0 ?_ | refine zb1 ?_ | refine za4 ?_ | refine za2 rfl ?_ | refine za3 ?_ | refine za5 ?_ | refine zbn rfl ?_ | refine zbq rfl rfl ?_ | refine zbu rfl ?_ | refine zao rfl ?_ | refine zav rfl rfl ?_ | refine zap rfl rfl rfl rfl ?_ | refine zam rfl rfl rfl rfl rfl rfl rfl ?_ | refine za7 rfl ?_ | refine zae rfl rfl rfl ?_ | refine za0 rfl rfl rfl ?_ | refine zab rfl rfl rfl rfl ?_ | refine zaq ?_ | refine zaj rfl rfl ?_ | refine zac rfl rfl ?_ | refine zbs rfl rfl ?_ | refine zbf rfl rfl ?_ | refine zay rfl rfl ?_ | refine zad rfl rfl ?_ | refine zbd rfl rfl ?_ | refine zaa rfl rfl rfl ?_ | refine zau rfl rfl ?_ | refine zah rfl rfl rfl rfl ?_ | refine za8 rfl rfl rfl rfl ?_ | refine zag rfl rfl rfl rfl ?_ | refine zb8 rfl rfl ?_ | refine zb5 rfl rfl ?_ | refine za9 rfl rfl ?_ | refine zb9 ?_ | refine zai env0_ok rfl rfl rfl ?_ | refine zas (op := .add) rfl rfl rfl ?_ | refine zas (op := .sub) rfl rfl rfl ?_ | refine zb7 rfl rfl rfl ?_ | refine zb6 rfl rfl rfl ?_ | refine zb3 rfl rfl rfl ?_ | refine zaz rfl rfl rfl ?_ | refine zb4 rfl rfl (by omega) (by assumption) rfl ?_ | refine za0 rfl rfl (decide_eq_true ⟨by omega, by omega⟩) ?_ | refine zax rfl rfl (by omega) (by omega) ?_ | refine zaf rfl rfl rfl ?_ | refine zbb rfl ?_ | refine zba rfl ?_)
  exact zbh ⟨.inr rfl, _, rfl, rfl⟩
end Go.Proofs.Ytmnkjofaodbokaa
namespace Go.Proofs.Ytmnkjofaodbokaa
open Go Go.Am
def ptB (n k : Nat) : List Bool := (List.range n).map fun i => k.testBit i
theorem zhk (n k : Nat) : (ptB n k).length = n := by simp [ptB]
def tbB (n : Nat) (x : Ex) : Nat → BitVec 64
 | 0 => 0#64
 | k + 1 => if zbw (ptB n k) x = true then tbB n x k ||| 1#64 <<< k else tbB n x k
theorem bin_shl1 {n : Nat} (h : n ≤ 6) : Am.binOp .shl (.int .i64 1) (.int .i64 (n : Nat)) = some (.int .i64 ((2 ^ n : Nat) : Int)) := by
 match n, h with
 | 0, _ => rfl
 | 1, _ => rfl
 | 2, _ => rfl
 | 3, _ => rfl
 | 4, _ => rfl
 | 5, _ => rfl
 | 6, _ => rfl
theorem pow_le64 {n : Nat} (h : n ≤ 6) : 2 ^ n ≤ 64 := Nat.pow_le_pow_right (n := 2) (by decide) h
def tbV (n : Nat) (x : Ex) : AV := .agg [.int .i64 (n : Nat), cU (tbB n x (2 ^ n))]
def zwc (x : Ex) (n : Nat) : AV := if n > 6 then .tup [.agg [.int .i64 0, .int .u64 0], .int .i64 2] else if zch x (n : Nat) = 0 then .tup [tbV n x, .int .i64 0] else .tup [.agg [.int .i64 0, .int .u64 0], .int .i64 (zch x (n : Nat))]
end Go.Proofs.Ytmnkjofaodbokaa
