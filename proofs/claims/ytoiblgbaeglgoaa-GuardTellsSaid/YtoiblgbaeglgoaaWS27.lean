/-
  THE LAW OF WHAT IS TOLD: its plain part.
-/
import Derived.Test.YtoiblgbaeglgoaaWD3
import Derived.Test.YtoiblgbaeglgoaaWS24
namespace Go.Proofs.Ytoiblgbaeglgoaa
open Go Go.Am
theorem zpz (m : Int) : ∀ (f g : List Ex), zmi m (f ++ g) = if zmi m f = 0 then zmi m g else zmi m f
 | [], g => by rw [List.nil_append, zmi, if_pos rfl]
 | y :: f, g => by
  rw [List.cons_append, zmi, zpz m f g, zmi]
  by_cases h : zd3 y m = 0
  ·rw [if_pos h, if_pos h]
  ·rw [if_neg h, if_neg h, if_neg h]
theorem zi0 {f : List Ex} {n : Int} (h : zc5 f n = 0) : ¬ (n < 1 ∨ n > 6) ∧ zmi (2 * n) f = 0 := by
 unfold zc5 at h
 split at h
 ·exact absurd h (by decide)
 rename_i h1
 split at h
 ·exact absurd h (by decide)
 exact ⟨h1, h⟩
theorem zol {f : List Ex} {x : Ex} {n : Int} (h1 : zc5 f n = 0) (h2 : zc5 [x] n = 0) (hf : f.length ≤ 8) : zc5 (f ++ [x]) n = 0 := by
 obtain ⟨a1, b1⟩ := zi0 h1
 obtain ⟨_, b2⟩ := zi0 h2
 unfold zc5
 rw [if_neg a1, List.length_append, if_neg (by show ¬ f.length + 1 > 256; omega), zpz, if_pos b1]
 exact b2
theorem cXs_app (f g : List Ex) : cXs (f ++ g) = cXs f ++ cXs g := by
 induction f with
 | nil => rfl
 | cons y f ih => rw [List.cons_append, cXs, ih, cXs]; rfl
theorem zn5 {p : Ex → Bool} : ∀ (i : Nat) (l : List Ex), (idxs p i l).isEmpty = true ↔ ∀ y ∈ l, p y = false
 | _, [] => ⟨fun _ y hy => absurd hy List.not_mem_nil, fun _ => rfl⟩
 | i, y :: ys => by
  rw [idxs]
  cases h : p y with
  | true =>
   rw [if_pos rfl]
   exact ⟨fun e => Bool.noConfusion e, fun e => by have := e y (List.mem_cons_self ..); rw [h] at this; exact Bool.noConfusion this⟩
  | false =>
   rw [if_neg (fun e => Bool.noConfusion e), zn5 (i + 1) ys]
   exact ⟨fun e z hz => by
    rcases List.mem_cons.1 hz with rfl | hz
    ·exact h
    ·exact e z hz, fun e z hz => e z (List.mem_cons_of_mem _ hz)⟩
theorem zs2 {f : List Ex} {x : Ex} {q : List Int} (h : (zek (f ++ [x]) q).isEmpty = true) : (zek f q).isEmpty = true := by
 unfold zek at h ⊢
 rw [zn5] at h ⊢
 exact fun y hy => h y (List.mem_append_left _ hy)
theorem znz {f : List Ex} {n : Nat} {q : List Int} (hq : q ∈ ze0 (List.replicate n [0, 2])) : ((zb3 f n).any fun y => decide (y = q)) = (zek f q).isEmpty := by
 unfold zb3
 cases h : (zek f q).isEmpty with
 | true =>
  rw [List.any_eq_true]
  exact ⟨q, List.mem_filter.2 ⟨hq, h⟩, decide_eq_true rfl⟩
 | false =>
  rw [List.any_eq_false]
  intro y hy
  have := (List.mem_filter.1 hy).2
  simp only [decide_eq_true_eq]
  rintro rfl
  rw [h] at this
  exact Bool.noConfusion this
theorem zmw : ∀ n ∈ [1, 2, 3, 4], (ze0 (List.replicate n [0, 2])).Pairwise fun a b => 0 ≤ zri b a := by decide +kernel
theorem zjx {f : List Ex} {n : Nat} (h1 : 1 ≤ n) (h4 : n ≤ 4) : ∀ i (h : i + 1 < (zb3 f n).length), 0 ≤ zri (zb3 f n)[i + 1] (zb3 f n)[i] := by
 have h := zmw n (by simp; omega)
 have h2 : (zb3 f n).Pairwise fun a b => 0 ≤ zri b a := List.Pairwise.filter _ h
 intro i hi
 exact List.pairwise_iff_getElem.1 h2 i (i + 1) (by omega) hi (by omega)
theorem ztf : ∀ n ∈ [0, 1, 2, 3, 4], (ze0 (List.replicate n [0, 2])).length ≤ 16 := by decide +kernel
theorem zd6 {f : List Ex} {n : Nat} (h4 : n ≤ 4) : (zb3 f n).length ≤ 100000 ∧ ∀ p ∈ zb3 f n, p.length ≤ 100000 := by
 have hl := ztf n (by simp; omega)
 have hr := zmv (List.replicate n [0, 2])
 unfold zb3
 refine ⟨Nat.le_trans (List.length_filter_le ..) (by omega), fun p hp => ?_⟩
 have := hr p (List.mem_filter.1 hp).1
 rw [List.length_replicate] at this
 omega
def zb9 (m k : Nat) : List Int := (List.range m).map fun i => if k / 2 ^ (m - 1 - i) % 2 = 1 then 2 else 0
theorem zsw : ∀ m ∈ [1, 2, 3, 4], ∀ k ∈ List.range 16, k < 2 ^ m → zb9 m k ∈ ze0 (List.replicate m [0, 2]) ∧ posL (zb9 m k) = 0 := by decide +kernel
theorem zsx (m k : Nat) : (zb9 m k).length = m := by unfold zb9; rw [List.length_map, List.length_range]
end Go.Proofs.Ytoiblgbaeglgoaa
