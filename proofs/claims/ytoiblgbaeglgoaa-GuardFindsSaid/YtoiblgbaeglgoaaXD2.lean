/-
  DANGERS IN PLAIN LEAN.
-/
import Derived.Test.YtoiblgbaeglgoaaXD1
import Derived.Test.YtoiblgbaeglgoaaXPA
namespace Go.Proofs.Ytoiblgbaeglgoaa
open Go Go.Am
structure StpOk (n : Int) (E : List Bool) (p : Sp) : Prop where
 sp : spC p = 0
 hi : zg1 n p.l = false
 su : zd2 E p.l = true
theorem StpOk.acts {n : Int} {E : List Bool} {p : Sp} (h : StpOk n E p) (hE : (E.length : Int) = n) : ∀ s ∈ p.l, 0 ≤ s.a ∧ s.a < E.length := fun s hs =>
 ⟨((zm2 h.sp).2 s hs).1, by have := zmt h.hi s hs; omega⟩
theorem zwl {p : Sp} (h : spC p = 0) : zh0 (-1) p.l = 0 := by
 unfold spC at h
 split at h
 ·exact absurd h (by decide)
 split at h
 ·exact absurd h (by decide)
 split at h
 ·rename_i h1; exact absurd h h1
 ·rename_i h1
  simpa using h1
theorem StpOk.stat {n : Int} {E : List Bool} {p : Sp} (h : StpOk n E p) (hE : (E.length : Int) = n) : chS (chA E) p.l = zey E (aft E p.l) p.l E.length :=
 chS_stat (zwl h.sp) (h.acts hE) h.su
theorem stp_head {n : Int} {E : List Bool} {p : Sp} {r : List Sp} (h : zno n (p :: r) E = 0) : StpOk n E p ∧ zno n r (aft E p.l) = 0 := by
 rw [zno] at h
 split at h
 ·rename_i h1; exact absurd h h1
 rename_i h1
 split at h
 ·exact absurd h (by decide)
 rename_i h2
 split at h
 ·rename_i h3
  exact ⟨⟨by simpa using h1, by simpa using h2, h3⟩, h⟩
 ·exact absurd h (by decide)
theorem zqd {n : Int} : ∀ (l : List Sp) (E : List Bool), zno n l E = 0 → (∀ k (h : k < l.length), StpOk n (zg7 E (l.take k)) l[k]) ∧ (zg7 E l).any id = false
 | [], E, h => by
  refine ⟨fun k h => absurd h (Nat.not_lt_zero k), ?_⟩
  rw [zno] at h
  show E.any id = false
  cases e : E.any id with
  | false => rfl
  | true => rw [e, if_pos rfl] at h; exact absurd h (by decide)
 | p :: r, E, h => by
  obtain ⟨h1, h2⟩ := stp_head h
  obtain ⟨h3, h4⟩ := zqd r _ h2
  refine ⟨fun k hk => ?_, h4⟩
  cases k with
  | zero => exact h1
  | succ k => exact h3 k (by rw [List.length_cons] at hk; omega)
structure SeqOk (n : Nat) (l : List Sp) : Prop where
 n1 : 1 ≤ n
 n6 : n ≤ 6
 l0 : l.length ≠ 0
 l64 : l.length ≤ 64
 st : zno n l (List.replicate n false) = 0
 mv : (List.range n).all (fun i => zna (i : Nat) l) = true
theorem chk_ok {n : Int} {l : List Sp} (h : zp4 n l = 0) : ∃ m : Nat, n = (m : Int) ∧ SeqOk m l := by
 unfold zp4 at h
 split at h
 ·exact absurd h (by decide)
 split at h
 ·exact absurd h (by decide)
 split at h
 ·exact absurd h (by decide)
 split at h
 ·rename_i h1; exact absurd h h1
 rename_i h4
 split at h
 ·rename_i h1 h2 h3 h5
  refine ⟨n.toNat, by omega, by omega, by omega, h2, by omega, ?_, h5⟩
  rw [Int.toNat_of_nonneg (by omega)]
  simpa using h4
 ·exact absurd h (by decide)
theorem SeqOk.step {n : Nat} {l : List Sp} (h : SeqOk n l) {k : Nat} (hk : k < l.length) : StpOk n (zg7 (List.replicate n false) (l.take k)) l[k] := (zqd l _ h.st).1 k hk
theorem SeqOk.last {n : Nat} {l : List Sp} (h : SeqOk n l) : zg7 (List.replicate n false) l = List.replicate n false := by
 have := (zic _).1 (zqd l _ h.st).2
 rwa [zh2, List.length_replicate] at this
def badP (f : List Ex) (C : List (List Int)) : Option (List Int) := C.find? fun p => !(zgi f p).isEmpty
def dgS (f : List Ex) : Nat → List Bool → List Sp → Int × List Int × Bool
 | _, _, [] => (0, [], false)
 | k, E, p :: r => match badP f (zdr (zey E (aft E p.l) p.l E.length)) with
  | some q => ((k : Int), q, true)
  | none => dgS f (k + 1) (aft E p.l) r
def dgT (f : List Ex) (n : Int) (l : List Sp) : Int × List Int × Bool := if zp4 n l = 0 then (if zdd f n = 0 then dgS f 0 (List.replicate n.toNat false) l else (0, [], false)) else (0, [], false)
def dgC (f : List Ex) (n : Int) (l : List Sp) : Int := if zp4 n l = 0 then zdd f n else zp4 n l
def dgV (f : List Ex) (n : Int) (l : List Sp) : AV := .tup [.int .i64 (dgT f n l).1, vsI (dgT f n l).2.1, .bool (dgT f n l).2.2, .int .i64 (dgC f n l)]
theorem statI_ne (E F : List Bool) (l : List Sk) (i : Nat) : zj3 E F l i ≠ [] ∧ (zj3 E F l i).length ≤ 3 := by
 unfold zj3
 split
 ·exact ⟨by simp, by simp⟩
 split
 ·exact ⟨by simp, by simp⟩
 ·exact ⟨by simp, by simp⟩
theorem zdy (E F : List Bool) (l : List Sk) (n : Nat) : (zey E F l n).length = n := by
 unfold zey
 rw [List.length_map, List.length_range]
theorem statL_ne {E F : List Bool} {l : List Sk} {n : Nat} : ∀ c ∈ zey E F l n, c ≠ [] ∧ c.length ≤ 3 := by
 intro c hc
 obtain ⟨i, _, rfl⟩ := List.mem_map.1 hc
 exact statI_ne E F l i
theorem badP_mem {f : List Ex} {C : List (List Int)} {q : List Int} (h : badP f C = some q) : q ∈ C ∧ (zgi f q).isEmpty = false := by
 refine ⟨List.mem_of_find?_eq_some h, ?_⟩
 have := List.find?_some h
 simpa using this
theorem zr7 {f : List Ex} : ∀ (l : List Sp) (k : Nat) (E : List Bool), (dgS f k E l).2.2 = true → ∃ i, ∃ h : i < l.length, (dgS f k E l).1 = ((k + i : Nat) : Int) ∧ (dgS f k E l).2.1 ∈ zdr (zey (zg7 E (l.take i)) (aft (zg7 E (l.take i)) l[i].l) l[i].l E.length) ∧ (zgi f (dgS f k E l).2.1).isEmpty = false
 | [], _, _, h => absurd h (by simp [dgS])
 | p :: r, k, E, h => by
  rw [dgS] at h ⊢
  cases e : badP f (zdr (zey E (aft E p.l) p.l E.length)) with
  | some q =>
   obtain ⟨h1, h2⟩ := badP_mem e
   exact ⟨0, Nat.zero_lt_succ _, rfl, h1, h2⟩
  | none =>
   rw [e] at h
   obtain ⟨i, hi, h1, h2, h3⟩ := zr7 r (k + 1) (aft E p.l) h
   rw [zc6] at h2
   exact ⟨i + 1, Nat.succ_lt_succ hi, by rw [h1]; congr 1; omega, h2, h3⟩
theorem zr6 {f : List Ex} : ∀ (l : List Sp) (k : Nat) (E : List Bool), (dgS f k E l).2.2 = false → ∀ i (h : i < l.length), ∀ p ∈ zdr (zey (zg7 E (l.take i)) (aft (zg7 E (l.take i)) l[i].l) l[i].l E.length), (zgi f p).isEmpty = true
 | [], _, _, _, i, h, _, _ => absurd h (Nat.not_lt_zero i)
 | p :: r, k, E, h, i, hi, q, hq => by
  rw [dgS] at h
  cases e : badP f (zdr (zey E (aft E p.l) p.l E.length)) with
  | some q => rw [e] at h; exact absurd h (by simp)
  | none =>
   rw [e] at h
   cases i with
   | zero =>
    have := List.find?_eq_none.1 e q hq
    simpa using this
   | succ i => exact zr6 r (k + 1) (aft E p.l) h i (by rw [List.length_cons] at hi; omega) q (by rw [zc6]; exact hq)
end Go.Proofs.Ytoiblgbaeglgoaa
