/-
  DANGERS IN PLAIN LEAN.
-/
import Derived.Test.YtoiblgbaeglgoaaYD1
import Derived.Test.YtoiblgbaeglgoaaYPA
namespace Go.Proofs.Ytoiblgbaeglgoaa
open Go Go.Am
structure StpOk (n : Int) (E : List Bool) (p : Sp) : Prop where
 sp : spC p = 0
 hi : zgf n p.l = false
 su : zda E p.l = true
theorem StpOk.acts {n : Int} {E : List Bool} {p : Sp} (h : StpOk n E p) (hE : (E.length : Int) = n) : ∀ s ∈ p.l, 0 ≤ s.a ∧ s.a < E.length := fun s hs =>
 ⟨((zm8 h.sp).2 s hs).1, by have := zmz h.hi s hs; omega⟩
theorem zx3 {p : Sp} (h : spC p = 0) : zhb (-1) p.l = 0 := by
 unfold spC at h
 split at h
 ·exact absurd h (by decide)
 split at h
 ·exact absurd h (by decide)
 split at h
 ·rename_i h1; exact absurd h h1
 ·rename_i h1
  simpa using h1
theorem StpOk.stat {n : Int} {E : List Bool} {p : Sp} (h : StpOk n E p) (hE : (E.length : Int) = n) : chS (chA E) p.l = ze0 E (aft E p.l) p.l E.length :=
 chS_stat (zx3 h.sp) (h.acts hE) h.su
theorem stp_head {n : Int} {E : List Bool} {p : Sp} {r : List Sp} (h : znw n (p :: r) E = 0) : StpOk n E p ∧ znw n r (aft E p.l) = 0 := by
 rw [znw] at h
 split at h
 ·rename_i h1; exact absurd h h1
 rename_i h1
 split at h
 ·exact absurd h (by decide)
 rename_i h2
 split at h
 ·rename_i h3
  exact ⟨⟨by simpa using h1, by simpa using h2, h3⟩, h⟩
 ·exact absurd h (by decide)
theorem zqp {n : Int} : ∀ (l : List Sp) (E : List Bool), znw n l E = 0 → (∀ k (h : k < l.length), StpOk n (zgw E (l.take k)) l[k]) ∧ (zgw E l).any id = false
 | [], E, h => by
  refine ⟨fun k h => absurd h (Nat.not_lt_zero k), ?_⟩
  rw [znw] at h
  show E.any id = false
  cases e : E.any id with
  | false => rfl
  | true => rw [e, if_pos rfl] at h; exact absurd h (by decide)
 | p :: r, E, h => by
  obtain ⟨h1, h2⟩ := stp_head h
  obtain ⟨h3, h4⟩ := zqp r _ h2
  refine ⟨fun k hk => ?_, h4⟩
  cases k with
  | zero => exact h1
  | succ k => exact h3 k (by rw [List.length_cons] at hk; omega)
structure SeqOk (n : Nat) (l : List Sp) : Prop where
 n1 : 1 ≤ n
 n6 : n ≤ 6
 l0 : l.length ≠ 0
 l64 : l.length ≤ 64
 st : znw n l (List.replicate n false) = 0
 mv : (List.range n).all (fun i => znf (i : Nat) l) = true
theorem zrd {n : Int} {l : List Sp} (h : zla n l = 0) : ∃ m : Nat, n = (m : Int) ∧ SeqOk m l := by
 unfold zla at h
 split at h
 ·exact absurd h (by decide)
 split at h
 ·exact absurd h (by decide)
 split at h
 ·exact absurd h (by decide)
 split at h
 ·rename_i h1; exact absurd h h1
 rename_i h4
 split at h
 ·rename_i h1 h2 h3 h5
  refine ⟨n.toNat, by omega, by omega, by omega, h2, by omega, ?_, h5⟩
  rw [Int.toNat_of_nonneg (by omega)]
  simpa using h4
 ·exact absurd h (by decide)
theorem SeqOk.step {n : Nat} {l : List Sp} (h : SeqOk n l) {k : Nat} (hk : k < l.length) : StpOk n (zgw (List.replicate n false) (l.take k)) l[k] := (zqp l _ h.st).1 k hk
theorem SeqOk.last {n : Nat} {l : List Sp} (h : SeqOk n l) : zgw (List.replicate n false) l = List.replicate n false := by
 have := (zil _).1 (zqp l _ h.st).2
 rwa [zhc, List.length_replicate] at this
def zpb (f : List Ex) (C : List (List Int)) : Option (List Int) := C.find? fun p => !(zgs f p).isEmpty
def dgS (f : List Ex) : Nat → List Bool → List Sp → Int × List Int × Bool
 | _, _, [] => (0, [], false)
 | k, E, p :: r => match zpb f (zet (ze0 E (aft E p.l) p.l E.length)) with
  | some q => ((k : Int), q, true)
  | none => dgS f (k + 1) (aft E p.l) r
def dgT (f : List Ex) (n : Int) (l : List Sp) : Int × List Int × Bool := if zla n l = 0 then (if ze9 f n = 0 then dgS f 0 (List.replicate n.toNat false) l else (0, [], false)) else (0, [], false)
def dgC (f : List Ex) (n : Int) (l : List Sp) : Int := if zla n l = 0 then ze9 f n else zla n l
def dgV (f : List Ex) (n : Int) (l : List Sp) : AV := .tup [.int .i64 (dgT f n l).1, vsI (dgT f n l).2.1, .bool (dgT f n l).2.2, .int .i64 (dgC f n l)]
theorem statI_ne (E F : List Bool) (l : List Sk) (i : Nat) : znu E F l i ≠ [] ∧ (znu E F l i).length ≤ 3 := by
 unfold znu
 split
 ·exact ⟨by simp, by simp⟩
 split
 ·exact ⟨by simp, by simp⟩
 ·exact ⟨by simp, by simp⟩
theorem zem (E F : List Bool) (l : List Sk) (n : Nat) : (ze0 E F l n).length = n := by
 unfold ze0
 rw [List.length_map, List.length_range]
theorem znv {E F : List Bool} {l : List Sk} {n : Nat} : ∀ c ∈ ze0 E F l n, c ≠ [] ∧ c.length ≤ 3 := by
 intro c hc
 obtain ⟨i, _, rfl⟩ := List.mem_map.1 hc
 exact statI_ne E F l i
theorem badP_mem {f : List Ex} {C : List (List Int)} {q : List Int} (h : zpb f C = some q) : q ∈ C ∧ (zgs f q).isEmpty = false := by
 refine ⟨List.mem_of_find?_eq_some h, ?_⟩
 have := List.find?_some h
 simpa using this
theorem dgS_len {f : List Ex} (l : List Sp) (k : Nat) (E : List Bool) : (dgS f k E l).2.1.length ≤ E.length := by
 induction l generalizing k E with
 | nil => exact Nat.zero_le _
 | cons p r ih =>
  rw [dgS]
  cases e : zpb f (zet (ze0 E (aft E p.l) p.l E.length)) with
  | some q =>
   have := zk4 _ q (badP_mem e).1
   rw [zem] at this
   exact Nat.le_of_eq this
  | none =>
   have := ih (k + 1) (aft E p.l)
   rwa [zci] at this
end Go.Proofs.Ytoiblgbaeglgoaa
