/-
  WHAT NEEDS COMPARES: the plain law.
-/
import Derived.Test.YtknomkcdpcnmaaaJP5
namespace Go.Proofs.Ytknomkcdpcnmaaa
open Go Go.Am
theorem once_mem (s : List (BitVec 64)) (b : Nat) : (ze4 s s.length).1.getLsbD b = true ↔ ∃ x ∈ s, x.getLsbD b = true := by
 rw [zfg s b s.length (Nat.le_refl _)]
 constructor
 ·rintro ⟨j, hj, hb⟩
  rw [zem hj] at hb
  exact ⟨s[j], List.getElem_mem hj, hb⟩
 ·rintro ⟨x, hx, hb⟩
  obtain ⟨j, hj, rfl⟩ := List.getElem_of_mem hx
  exact ⟨j, hj, by rw [zem hj]; exact hb⟩
theorem zry (s : List (BitVec 64)) (i : Nat) : (ze4 (s.eraseIdx i) (s.eraseIdx i).length).1 = uni s ((zca s.length).eraseIdx i) := by
 refine zhb fun b => ?_
 rw [once_mem, zgk, List.any_eq_true]
 constructor
 ·rintro ⟨x, hx, hb⟩
  rw [List.mem_eraseIdx_iff_getElem] at hx
  obtain ⟨j, hj, hne, rfl⟩ := hx
  exact ⟨(j : Int), zep.2 ⟨j, hj, hne, rfl⟩, by rw [Int.toNat_natCast, zem hj]; exact hb⟩
 ·rintro ⟨z, hz, hb⟩
  obtain ⟨j, hj, hne, rfl⟩ := zep.1 hz
  rw [Int.toNat_natCast, zem hj] at hb
  exact ⟨s[j], List.mem_eraseIdx_iff_getElem.2 ⟨j, hj, hne, rfl⟩, hb⟩
theorem ztq {n : Int} {s t : List (BitVec 64)} (hc : zek n s = 0) (hl : t.length ≤ s.length) (hm : ∀ x ∈ t, x ∈ s) : zek n t = 0 := by
 obtain ⟨n0, n1, s1, hb⟩ := zfc hc
 unfold zek zs4
 rw [if_neg (by omega), if_neg (by omega), if_neg (by omega), if_neg]
 rw [List.any_eq_true]
 rintro ⟨x, hx, h⟩
 rw [hb x (hm x hx)] at h
 cases h
theorem zqf {n : Int} {s : List (BitVec 64)} {i : Nat} (h : i < s.length) : (zv0 n s s.length).contains (i : Int) = (uni s ((zca s.length).eraseIdx i) != zcy n) := by
 rw [Bool.eq_iff_iff, List.contains_iff_mem]
 unfold zv0
 rw [List.mem_map]
 constructor
 ·rintro ⟨k, hk, e⟩
  obtain ⟨h1, h2⟩ := List.mem_filter.1 hk
  have : k = i := by omega
  rw [← this]
  exact h2
 ·intro h2
  exact ⟨i, List.mem_filter.2 ⟨List.mem_range.2 h, h2⟩, rfl⟩
theorem need_few {n : Int} {s : List (BitVec 64)} (hc : zek n s = 0) {i : Nat} (h : i < s.length) : (zv0 n s s.length).contains (i : Int) = (zq4 n (s.eraseIdx i)).isNone := by
 have hc2 : zek n (s.eraseIdx i) = 0 := ztq hc (List.length_eraseIdx_le ..) fun x hx => List.mem_of_mem_eraseIdx hx
 have hi := zsu hc2
 rw [zqf h, ← zry s i]
 generalize (ze4 (s.eraseIdx i) (s.eraseIdx i).length).1 = u at *
 cases hF : zq4 n (s.eraseIdx i) with
 | none =>
  rw [hF] at hi
  exact bne_iff_ne.2 fun e => by have := hi.1 e; cases this
 | some c =>
  rw [hF] at hi
  rw [hi.2 rfl]
  show (zcy n != zcy n) = false
  rw [bne, beq_self_eq_true]
  rfl
theorem need_in {n : Int} {s : List (BitVec 64)} (hc : zek n s = 0) {i : Nat} (h : i < s.length) {c : List Int} (hF : zq4 n s = some c) (hn : (zv0 n s s.length).contains (i : Int) = true) : c.contains (i : Int) = true := by
 obtain ⟨_, hcov, hm⟩ := zob hF
 rw [zqf h, bne_iff_ne] at hn
 rw [List.contains_iff_mem]
 refine Classical.byContradiction fun hni => hn (zhb fun b => ?_)
 obtain ⟨_, _, _, hb⟩ := zfc hc
 constructor
 ·intro hx
  rw [zgk, List.any_eq_true] at hx
  obtain ⟨z, hz, hzb⟩ := hx
  obtain ⟨j, hj, _, rfl⟩ := zep.1 hz
  rw [Int.toNat_natCast, zem hj] at hzb
  exact zt9 (hb _ (List.getElem_mem hj)) hzb
 ·intro ha
  unfold zsf at hcov
  rw [← eq_of_beq hcov, zgk, List.any_eq_true] at ha
  obtain ⟨z, hz, hzb⟩ := ha
  have hzm := hm z hz
  rw [zgk, List.any_eq_true]
  refine ⟨z, zep.2 ⟨z.toNat, by omega, fun e => hni ?_, by omega⟩, hzb⟩
  rw [← e, show ((z.toNat : Nat) : Int) = z by omega]
  exact hz
end Go.Proofs.Ytknomkcdpcnmaaa
