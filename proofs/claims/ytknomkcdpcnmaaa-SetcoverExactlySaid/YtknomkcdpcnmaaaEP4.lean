/-
  THE NUMBER OF ELEMENTS OF SETS.
-/
import Derived.Test.YtknomkcdpcnmaaaEVL
namespace Go.Proofs.Ytknomkcdpcnmaaa
open Go Go.Am
theorem mod_or (a b : Nat) : (a ||| b) % 2 + (a &&& b) % 2 = a % 2 + b % 2 := by
 have h1 := Nat.testBit_or a b 0
 have h2 := Nat.testBit_and a b 0
 simp only [Nat.testBit_zero] at h1 h2
 have hx : ∀ z : Nat, z % 2 = if decide (z % 2 = 1) = true then 1 else 0 := fun z => by
  by_cases h : z % 2 = 1
  ·simp [h]
  ·simp [h]; omega
 rw [hx (a ||| b), hx (a &&& b), h1, h2, hx a, hx b]
 by_cases ha : a % 2 = 1 <;> by_cases hb : b % 2 = 1 <;> simp [ha, hb]
theorem szN_or : ∀ (m a b : Nat), szN m (a ||| b) + szN m (a &&& b) = szN m a + szN m b
 | 0, _, _ => rfl
 | m + 1, a, b => by
  have h1 := mod_or a b
  have h2 := szN_or m (a / 2) (b / 2)
  simp only [szN]
  rw [Nat.or_div_two, Nat.and_div_two]
  omega
theorem zqx : ∀ (m x : Nat), x < 2 ^ m → szN m x = 0 → x = 0
 | 0, x, h, _ => by simp at h; exact h
 | m + 1, x, h, h0 => by
  simp only [szN] at h0
  have := zqx m (x / 2) (by rw [Nat.pow_succ] at h; omega) (by omega)
  omega
theorem zvy : ∀ m : Nat, szN m 0 = 0
 | 0 => rfl
 | m + 1 => by simp only [szN, Nat.zero_div, Nat.zero_mod, zvy m]
theorem sz_or (x y : BitVec 64) : szB (x ||| y) + szB (x &&& y) = szB x + szB y := by
 unfold szB
 rw [BitVec.toNat_or, BitVec.toNat_and]
 exact szN_or ..
theorem zmb {x : BitVec 64} : szB x = 0 ↔ x = 0#64 := by
 unfold szB
 constructor
 ·intro h
  exact BitVec.eq_of_toNat_eq (zqx 64 _ x.isLt h)
 ·rintro rfl
  exact zvy 64
theorem sz_disj {x y : BitVec 64} : szB (x ||| y) = szB x + szB y ↔ x &&& y = 0#64 := by
 have := sz_or x y
 rw [← zmb]
 omega
theorem sz_le (x y : BitVec 64) : szB (x ||| y) ≤ szB x + szB y := by
 have := sz_or x y
 omega
theorem zqy (x y : BitVec 64) : szB (x &&& ~~~ y) + szB (x &&& y) = szB x := by
 have h := sz_or (x &&& ~~~ y) (x &&& y)
 have h1 : (x &&& ~~~ y) ||| (x &&& y) = x := by
  apply BitVec.eq_of_getLsbD_eq
  intro i hi
  simp only [BitVec.getLsbD_or, BitVec.getLsbD_and, BitVec.getLsbD_not, hi, decide_true, Bool.true_and]
  cases x.getLsbD i <;> cases y.getLsbD i <;> rfl
 have h2 : (x &&& ~~~ y) &&& (x &&& y) = 0#64 := by
  apply BitVec.eq_of_getLsbD_eq
  intro i hi
  simp only [BitVec.getLsbD_and, BitVec.getLsbD_not, hi, decide_true, Bool.true_and, BitVec.getLsbD_zero]
  cases x.getLsbD i <;> cases y.getLsbD i <;> rfl
 rw [h1, h2] at h
 have : szB 0#64 = 0 := zmb.2 rfl
 omega
def allOk : Bool := (List.range 13).all fun n => szB (zce (n : Nat)) == n && decide ((zce (n : Nat)).toNat < 4096)
theorem all_ok : allOk = true := by decide +kernel
theorem zsn {n : Nat} (h : n ≤ 12) : szB (zce (n : Nat)) = n ∧ (zce (n : Nat)).toNat < 4096 := by
 have := List.all_eq_true.1 all_ok n (List.mem_range.2 (by omega))
 simpa using this
end Go.Proofs.Ytknomkcdpcnmaaa
