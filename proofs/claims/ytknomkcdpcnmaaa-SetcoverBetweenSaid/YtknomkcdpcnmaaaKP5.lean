/-
  WHAT FINDS COMPARES: the plain law.
-/
import Derived.Test.YtknomkcdpcnmaaaKRD
import Derived.Test.YtknomkcdpcnmaaaKVO
namespace Go.Proofs.Ytknomkcdpcnmaaa
open Go Go.Am
theorem zkc (s : List (BitVec 64)) (c : List Int) (b : Nat) : (uni s c).getLsbD b = c.any fun i => (s.getD i.toNat 0).getLsbD b := by
 have key : ∀ (c : List Int) (a : BitVec 64), (c.foldl (fun a i => a ||| s.getD i.toNat 0) a).getLsbD b = (a.getLsbD b || c.any fun i => (s.getD i.toNat 0).getLsbD b) := by
  intro c
  induction c with
  | nil => intro a; simp
  | cons z c ih => intro a; rw [List.foldl_cons, ih, BitVec.getLsbD_or, List.any_cons, Bool.or_assoc]
 unfold uni
 rw [key c 0]
 simp
theorem zgj {s : List (BitVec 64)} {i : Nat} (h : i < s.length) : s.getD i 0 = s[i] := by
 rw [List.getD_eq_getElem?_getD, List.getElem?_eq_getElem h]; rfl
theorem zh7 (s : List (BitVec 64)) (b : Nat) : ∀ i ≤ s.length, ((zgn s i).1.getLsbD b = true ↔ ∃ j < i, (s.getD j 0).getLsbD b = true)
 | 0, _ => by
  unfold zgn
  simp
 | i + 1, h => by
  have ih := zh7 s b i (by omega)
  rw [zl8 (show i < s.length by omega)]
  simp only [BitVec.getLsbD_or, Bool.or_eq_true, ih]
  constructor
  ·rintro (⟨j, hj, hb⟩ | hb)
   ·exact ⟨j, by omega, hb⟩
   ·exact ⟨i, by omega, by rw [zgj (show i < s.length by omega)]; exact hb⟩
  ·rintro ⟨j, hj, hb⟩
   by_cases hji : j = i
   ·subst hji
    rw [zgj (show j < s.length by omega)] at hb
    exact .inr hb
   ·exact .inl ⟨j, by omega, hb⟩
theorem zfj {x y : BitVec 64} (h : ∀ b, x.getLsbD b = true ↔ y.getLsbD b = true) : x = y := by
 refine BitVec.eq_of_getLsbD_eq fun b _ => ?_
 have := h b
 cases hx : x.getLsbD b <;> cases hy : y.getLsbD b <;> simp_all
theorem zu7 {x : BitVec 64} : (x != 0#64) = true ↔ ∃ b, x.getLsbD b = true := by
 rw [bne_iff_ne]
 constructor
 ·intro h
  refine Classical.byContradiction fun h2 => h (zfj fun b => ?_)
  simp only [not_exists] at h2
  simp [h2 b]
 ·rintro ⟨b, hb⟩ rfl
  simp at hb
theorem zu2 {n : Int} {x : BitVec 64} (h : zql n x = false) {b : Nat} (hb : x.getLsbD b = true) : (zc5 n).getLsbD b = true := by
 unfold zql at h
 cases ha : (zc5 n).getLsbD b with
 | true => rfl
 | false =>
  have : (x &&& ~~~zc5 n != 0#64) = true := zu7.2 ⟨b, by
   have hlt : b < 64 := BitVec.lt_of_getLsbD hb
   simp only [BitVec.getLsbD_and, BitVec.getLsbD_not, hb, ha, decide_eq_true hlt]
   rfl⟩
  rw [this] at h
  cases h
theorem zqk (n : Nat) : ∀ m f : Nat, f + m = n → ((List.range' f m).map fun k : Nat => ((k : Nat) : Int)) ∈ asc n m f
 | 0, f, _ => by
  rw [asc]
  exact List.mem_singleton.2 rfl
 | m + 1, f, h => by
  rw [asc, List.range'_succ, List.map_cons]
  refine List.mem_flatMap.2 ⟨f, ?_, List.mem_map.2 ⟨_, zqk n m (f + 1) (by omega), rfl⟩⟩
  rw [List.mem_range'_1]
  omega
theorem upTo_asc (m : Nat) : zcr m ∈ asc m m 0 := by
 have := zqk m m 0 (Nat.zero_add m)
 unfold zcr
 rw [List.range_eq_range']
 exact this
theorem zlx {n : Int} {s : List (BitVec 64)} {c : List Int} (h : zqz n s = some c) : c.length ≤ s.length ∧ zki n s c = true ∧ ∀ z ∈ c, 0 ≤ z ∧ z < s.length := by
 have h2 := List.mem_of_find?_eq_some h
 have h3 := List.find?_some h
 unfold zok at h2
 obtain ⟨j, hj, hm⟩ := List.mem_flatMap.1 h2
 rw [List.mem_range'_1] at hj
 have hm : c.length = j ∧ ∀ z ∈ c, ((0 : Nat) : Int) ≤ z ∧ z < s.length := zhh hm
 exact ⟨by omega, h3, fun z hz => by have := hm.2 z hz; omega⟩
theorem zto {n : Int} {s : List (BitVec 64)} (hc : zfa n s = 0) : (zgn s s.length).1 = zc5 n ↔ (zqz n s).isSome = true := by
 obtain ⟨_, _, _, hb⟩ := ze5 hc
 have h1 := fun b => zh7 s b s.length (Nat.le_refl _)
 have hsub : ∀ b, (zgn s s.length).1.getLsbD b = true → (zc5 n).getLsbD b = true := fun b h => by
  obtain ⟨j, hj, hjb⟩ := (h1 b).1 h
  rw [zgj hj] at hjb
  exact zu2 (hb _ (List.getElem_mem hj)) hjb
 constructor
 ·intro h
  unfold zqz
  rw [List.find?_isSome]
  refine ⟨zcr s.length, ?_, ?_⟩
  ·unfold zok
   refine List.mem_flatMap.2 ⟨s.length, ?_, upTo_asc _⟩
   rw [List.mem_range'_1]
   omega
  ·unfold zki
   rw [beq_iff_eq, ← h]
   refine zfj fun b => ?_
   rw [h1, zkc, List.any_eq_true]
   constructor
   ·rintro ⟨z, hz, hzb⟩
    have := upTo_mem hz
    exact ⟨z.toNat, by omega, hzb⟩
   ·rintro ⟨j, hj, hjb⟩
    refine ⟨(j : Int), ?_, hjb⟩
    unfold zcr
    exact List.mem_map.2 ⟨j, List.mem_range.2 hj, rfl⟩
 ·intro h
  obtain ⟨c, hF⟩ := Option.isSome_iff_exists.1 h
  obtain ⟨_, hcov, hm⟩ := zlx hF
  unfold zki at hcov
  rw [beq_iff_eq] at hcov
  refine zfj fun b => ⟨hsub b, fun ha => ?_⟩
  rw [← hcov, zkc, List.any_eq_true] at ha
  obtain ⟨z, hz, hzb⟩ := ha
  have := hm z hz
  exact (h1 b).2 ⟨z.toNat, by omega, hzb⟩
end Go.Proofs.Ytknomkcdpcnmaaa
