/-
  WHAT FINDS COMPARES: the plain law.
-/
import Derived.Test.YtknomkcdpcnmaaaJRD
import Derived.Test.YtknomkcdpcnmaaaJVO
namespace Go.Proofs.Ytknomkcdpcnmaaa
open Go Go.Am
theorem zgk (s : List (BitVec 64)) (c : List Int) (b : Nat) : (uni s c).getLsbD b = c.any fun i => (s.getD i.toNat 0).getLsbD b := by
 have key : ∀ (c : List Int) (a : BitVec 64), (c.foldl (fun a i => a ||| s.getD i.toNat 0) a).getLsbD b = (a.getLsbD b || c.any fun i => (s.getD i.toNat 0).getLsbD b) := by
  intro c
  induction c with
  | nil => intro a; simp
  | cons z c ih => intro a; rw [List.foldl_cons, ih, BitVec.getLsbD_or, List.any_cons, Bool.or_assoc]
 unfold uni
 rw [key c 0]
 simp
theorem zem {s : List (BitVec 64)} {i : Nat} (h : i < s.length) : s.getD i 0 = s[i] := by
 rw [List.getD_eq_getElem?_getD, List.getElem?_eq_getElem h]; rfl
theorem zfg (s : List (BitVec 64)) (b : Nat) : ∀ i ≤ s.length, ((ze4 s i).1.getLsbD b = true ↔ ∃ j < i, (s.getD j 0).getLsbD b = true)
 | 0, _ => by
  unfold ze4
  simp
 | i + 1, h => by
  have ih := zfg s b i (by omega)
  rw [zhk (show i < s.length by omega)]
  simp only [BitVec.getLsbD_or, Bool.or_eq_true, ih]
  constructor
  ·rintro (⟨j, hj, hb⟩ | hb)
   ·exact ⟨j, by omega, hb⟩
   ·exact ⟨i, by omega, by rw [zem (show i < s.length by omega)]; exact hb⟩
  ·rintro ⟨j, hj, hb⟩
   by_cases hji : j = i
   ·subst hji
    rw [zem (show j < s.length by omega)] at hb
    exact .inr hb
   ·exact .inl ⟨j, by omega, hb⟩
theorem zng (s : List (BitVec 64)) (b : Nat) : ∀ i ≤ s.length, ((ze4 s i).2.getLsbD b = true ↔ ∃ j k, j < k ∧ k < i ∧ (s.getD j 0).getLsbD b = true ∧ (s.getD k 0).getLsbD b = true)
 | 0, _ => by
  unfold ze4
  simp
 | i + 1, h => by
  have ih := zng s b i (by omega)
  have h1 := zfg s b i (by omega)
  rw [zhk (show i < s.length by omega)]
  simp only [BitVec.getLsbD_or, BitVec.getLsbD_and, Bool.or_eq_true, Bool.and_eq_true, ih, h1]
  constructor
  ·rintro (⟨j, k, hj, hk, hb, hd⟩ | ⟨⟨j, hj, hb⟩, hd⟩)
   ·exact ⟨j, k, hj, by omega, hb, hd⟩
   ·exact ⟨j, i, hj, by omega, hb, by rw [zem (show i < s.length by omega)]; exact hd⟩
  ·rintro ⟨j, k, hj, hk, hb, hd⟩
   by_cases hki : k = i
   ·subst hki
    rw [zem (show k < s.length by omega)] at hd
    exact .inr ⟨⟨j, hj, hb⟩, hd⟩
   ·exact .inl ⟨j, k, hj, by omega, hb, hd⟩
theorem zhb {x y : BitVec 64} (h : ∀ b, x.getLsbD b = true ↔ y.getLsbD b = true) : x = y := by
 refine BitVec.eq_of_getLsbD_eq fun b _ => ?_
 have := h b
 cases hx : x.getLsbD b <;> cases hy : y.getLsbD b <;> simp_all
theorem zte {x : BitVec 64} : (x != 0#64) = true ↔ ∃ b, x.getLsbD b = true := by
 rw [bne_iff_ne]
 constructor
 ·intro h
  refine Classical.byContradiction fun h2 => h (zhb fun b => ?_)
  simp only [not_exists] at h2
  simp [h2 b]
 ·rintro ⟨b, hb⟩ rfl
  simp at hb
theorem zr4 (m : Nat) (i : Nat) (h : i < (zca m).length) : (zca m)[i] = (i : Int) := by
 have h2 : i < m := by rw [zme] at h; exact h
 have : (zca m)[i]? = some (i : Int) := by
  unfold zca
  rw [List.getElem?_map, List.getElem?_range h2]
  rfl
 obtain ⟨_, h3⟩ := List.getElem?_eq_some_iff.1 this
 exact h3
theorem zep {m k : Nat} {z : Int} : z ∈ (zca m).eraseIdx k ↔ ∃ i, i < m ∧ i ≠ k ∧ z = (i : Int) := by
 rw [List.mem_eraseIdx_iff_getElem]
 constructor
 ·rintro ⟨i, hi, hk, rfl⟩
  rw [zme] at hi
  exact ⟨i, hi, hk, zr4 ..⟩
 ·rintro ⟨i, hi, hk, rfl⟩
  have hi' : i < (zca m).length := by rw [zme]; exact hi
  exact ⟨i, hi', hk, zr4 ..⟩
theorem zva {n : Int} {s : List (BitVec 64)} (h : (ze4 s s.length).1 = zcy n) : zi0 s (ze4 s s.length).2 s.length = zv0 n s s.length := by
 unfold zi0 zv0
 refine congrArg _ (List.filter_congr fun k hk => ?_)
 have hk := List.mem_range.1 hk
 rw [Bool.eq_iff_iff, zte]
 have h1 := fun b => zfg s b s.length (Nat.le_refl _)
 have h2 := fun b => zng s b s.length (Nat.le_refl _)
 rw [h] at h1
 have hE : ∀ b, (uni s ((zca s.length).eraseIdx k)).getLsbD b = true ↔ ∃ i, i < s.length ∧ i ≠ k ∧ (s.getD i 0).getLsbD b = true := fun b => by
  rw [zgk, List.any_eq_true]
  constructor
  ·rintro ⟨z, hz, hb⟩
   obtain ⟨i, hi, hn, rfl⟩ := zep.1 hz
   exact ⟨i, hi, hn, hb⟩
  ·rintro ⟨i, hi, hn, hb⟩
   exact ⟨(i : Int), zep.2 ⟨i, hi, hn, rfl⟩, hb⟩
 constructor
 ·rintro ⟨b, hb⟩
  rw [bne_iff_ne]
  intro he
  simp only [BitVec.getLsbD_and, BitVec.getLsbD_not, Bool.and_eq_true, Bool.not_eq_true', decide_eq_true_eq] at hb
  have ha : (zcy n).getLsbD b = true := (h1 b).2 ⟨k, hk, hb.1⟩
  rw [← he, hE] at ha
  obtain ⟨i, hi, hn, hib⟩ := ha
  have ht : (ze4 s s.length).2.getLsbD b = true := by
   rw [h2]
   by_cases hik : i < k
   ·exact ⟨i, k, hik, hk, hib, hb.1⟩
   ·exact ⟨k, i, by omega, hi, hb.1, hib⟩
  rw [ht] at hb
  simp at hb
 ·intro hne
  rw [bne_iff_ne] at hne
  refine Classical.byContradiction fun hx => hne (zhb fun b => ?_)
  rw [hE, h1]
  constructor
  ·rintro ⟨i, hi, _, hb⟩
   exact ⟨i, hi, hb⟩
  ·rintro ⟨i, hi, hb⟩
   by_cases hik : i = k
   ·subst hik
    refine Classical.byContradiction fun hy => hx ⟨b, ?_⟩
    have hlt : b < 64 := BitVec.lt_of_getLsbD hb
    simp only [BitVec.getLsbD_and, BitVec.getLsbD_not, Bool.and_eq_true, Bool.not_eq_true', decide_eq_true hlt, Bool.true_and]
    refine ⟨hb, ?_⟩
    cases ht : (ze4 s s.length).2.getLsbD b with
    | false => rfl
    | true =>
     obtain ⟨j, l, hj, hl, hjb, hlb⟩ := (h2 b).1 ht
     by_cases hji : j = i
     ·exact absurd ⟨l, hl, by omega, hlb⟩ hy
     ·exact absurd ⟨j, by omega, hji, hjb⟩ hy
   ·exact ⟨i, hi, hik, hb⟩
theorem zt9 {n : Int} {x : BitVec 64} (h : zse n x = false) {b : Nat} (hb : x.getLsbD b = true) : (zcy n).getLsbD b = true := by
 unfold zse at h
 cases ha : (zcy n).getLsbD b with
 | true => rfl
 | false =>
  have : (x &&& ~~~zcy n != 0#64) = true := zte.2 ⟨b, by
   have hlt : b < 64 := BitVec.lt_of_getLsbD hb
   simp only [BitVec.getLsbD_and, BitVec.getLsbD_not, hb, ha, decide_eq_true hlt]
   rfl⟩
  rw [this] at h
  cases h
theorem zpn (n : Nat) : ∀ m f : Nat, f + m = n → ((List.range' f m).map fun k : Nat => ((k : Nat) : Int)) ∈ asc n m f
 | 0, f, _ => by
  rw [asc]
  exact List.mem_singleton.2 rfl
 | m + 1, f, h => by
  rw [asc, List.range'_succ, List.map_cons]
  refine List.mem_flatMap.2 ⟨f, ?_, List.mem_map.2 ⟨_, zpn n m (f + 1) (by omega), rfl⟩⟩
  rw [List.mem_range'_1]
  omega
theorem upTo_asc (m : Nat) : zca m ∈ asc m m 0 := by
 have := zpn m m 0 (Nat.zero_add m)
 unfold zca
 rw [List.range_eq_range']
 exact this
theorem zob {n : Int} {s : List (BitVec 64)} {c : List Int} (h : zq4 n s = some c) : c.length ≤ s.length ∧ zsf n s c = true ∧ ∀ z ∈ c, 0 ≤ z ∧ z < s.length := by
 have h2 := List.mem_of_find?_eq_some h
 have h3 := List.find?_some h
 unfold ascM at h2
 obtain ⟨j, hj, hm⟩ := List.mem_flatMap.1 h2
 rw [List.mem_range'_1] at hj
 have hm : c.length = j ∧ ∀ z ∈ c, ((0 : Nat) : Int) ≤ z ∧ z < s.length := zo3 hm
 exact ⟨by omega, h3, fun z hz => by have := hm.2 z hz; omega⟩
theorem zsu {n : Int} {s : List (BitVec 64)} (hc : zek n s = 0) : (ze4 s s.length).1 = zcy n ↔ (zq4 n s).isSome = true := by
 obtain ⟨_, _, _, hb⟩ := zfc hc
 have h1 := fun b => zfg s b s.length (Nat.le_refl _)
 have hsub : ∀ b, (ze4 s s.length).1.getLsbD b = true → (zcy n).getLsbD b = true := fun b h => by
  obtain ⟨j, hj, hjb⟩ := (h1 b).1 h
  rw [zem hj] at hjb
  exact zt9 (hb _ (List.getElem_mem hj)) hjb
 constructor
 ·intro h
  unfold zq4
  rw [List.find?_isSome]
  refine ⟨zca s.length, ?_, ?_⟩
  ·unfold ascM
   refine List.mem_flatMap.2 ⟨s.length, ?_, upTo_asc _⟩
   rw [List.mem_range'_1]
   omega
  ·unfold zsf
   rw [beq_iff_eq, ← h]
   refine zhb fun b => ?_
   rw [h1, zgk, List.any_eq_true]
   constructor
   ·rintro ⟨z, hz, hzb⟩
    have := upTo_mem hz
    exact ⟨z.toNat, by omega, hzb⟩
   ·rintro ⟨j, hj, hjb⟩
    refine ⟨(j : Int), ?_, hjb⟩
    unfold zca
    exact List.mem_map.2 ⟨j, List.mem_range.2 hj, rfl⟩
 ·intro h
  obtain ⟨c, hF⟩ := Option.isSome_iff_exists.1 h
  obtain ⟨_, hcov, hm⟩ := zob hF
  unfold zsf at hcov
  rw [beq_iff_eq] at hcov
  refine zhb fun b => ⟨hsub b, fun ha => ?_⟩
  rw [← hcov, zgk, List.any_eq_true] at ha
  obtain ⟨z, hz, hzb⟩ := ha
  have := hm z hz
  exact (h1 b).2 ⟨z.toNat, by omega, hzb⟩
theorem need_eq (n : Int) (s : List (BitVec 64)) : needV n s = neeW n s := by
 unfold needV neeW
 split
 ·rename_i hc
  have hi := zsu hc
  cases hF : zq4 n s with
  | none =>
   rw [hF] at hi
   rw [if_neg (fun h => Bool.noConfusion (hi.1 h))]
  | some c =>
   rw [hF] at hi
   have ha := hi.2 rfl
   rw [if_pos ha, zva ha]
 ·rfl
end Go.Proofs.Ytknomkcdpcnmaaa
