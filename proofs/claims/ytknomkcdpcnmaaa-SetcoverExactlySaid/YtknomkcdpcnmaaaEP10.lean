/-
  WHAT BETWEEN COMPARES: the plain law.
-/
import Derived.Test.YtknomkcdpcnmaaaEP5
import Derived.Test.YtknomkcdpcnmaaaEP7
import Derived.Test.YtknomkcdpcnmaaaEP8
import Derived.Test.YtknomkcdpcnmaaaEV4
namespace Go.Proofs.Ytknomkcdpcnmaaa
open Go Go.Am
theorem zpi {N : Nat} : ∀ {d : List Int} {f : Nat}, d.Pairwise (· < ·) → (∀ z ∈ d, (f : Int) ≤ z ∧ z < N) → d ∈ asc N d.length f
 | [], f, _, _ => by
  show [] ∈ asc N 0 f
  rw [asc]
  exact List.mem_singleton.2 rfl
 | k :: d, f, hp, hm => by
  obtain ⟨h1, h2⟩ := List.pairwise_cons.1 hp
  have hk := hm k (List.mem_cons_self ..)
  show _ ∈ asc N (d.length + 1) f
  rw [asc]
  refine List.mem_flatMap.2 ⟨k.toNat, by rw [List.mem_range'_1]; omega, List.mem_map.2 ⟨d, zpi h2 fun z hz => ?_, ?_⟩⟩
  ·have := h1 z hz
   have := (hm z (List.mem_cons_of_mem _ hz)).2
   omega
  ·rw [show ((k.toNat : Nat) : Int) = k by omega]
theorem up_pw : ∀ {c : List Int}, Up c → c.Pairwise (· < ·)
 | [], _ => List.Pairwise.nil
 | _ :: _, ⟨_, _, h2, h3⟩ => List.pairwise_cons.2 ⟨h2, up_pw h3⟩
theorem ascM_add (N k a : Nat) : ∀ b : Nat, zny N k (a + b) = zny N k a ++ zny N (k + a) b := by
 intro b
 unfold zny
 rw [← List.flatMap_append, List.range'_append_1]
theorem few_min {n : Int} {s : List (BitVec 64)} {c d : List Int} (h : fewO n s = some c) (hp : d.Pairwise (· < ·)) (hm : ∀ z ∈ d, 0 ≤ z ∧ z < s.length) (hd : uni s d = zce n) : c.length ≤ d.length := by
 refine Nat.le_of_not_lt fun hlt => ?_
 have hcl := (few_mem h).1
 unfold fewO at h
 obtain ⟨e, he⟩ : ∃ e, s.length + 1 = c.length + e := ⟨s.length + 1 - c.length, by omega⟩
 rw [he, ascM_add, List.find?_append] at h
 have hmem : d ∈ zny s.length 0 c.length := by
  unfold zny
  refine List.mem_flatMap.2 ⟨d.length, by rw [List.mem_range'_1]; omega, zpi hp fun z hz => ?_⟩
  have := hm z hz
  omega
 have hs : ((zny s.length 0 c.length).find? (zs7 n s)).isSome = true := by
  rw [List.find?_isSome]
  exact ⟨d, hmem, by unfold zs7; rw [hd]; exact beq_self_eq_true _⟩
 obtain ⟨x, hx⟩ := Option.isSome_iff_exists.1 hs
 rw [hx] at h
 obtain rfl := Option.some.inj h
 have h2 := List.mem_of_find?_eq_some hx
 unfold zny at h2
 obtain ⟨j, hj, hm2⟩ := List.mem_flatMap.1 h2
 rw [List.mem_range'_1] at hj
 have hm2 : x.length = j ∧ ∀ z ∈ x, ((0 : Nat) : Int) ≤ z ∧ z < s.length := zgz hm2
 omega
end Go.Proofs.Ytknomkcdpcnmaaa
