/-
  THE EXACT COVERS OF THE REFERENCE: Size, exactly, Exact.
-/
import Derived.Test.YtknomkcdpcnmaaaEV4
import Derived.Test.YtknomkcdpcnmaaaEVA
import Derived.Test.YtknomkcdpcnmaaaES0
import Derived.Test.YtknomkcdpcnmaaaEVD
import Derived.Test.YtknomkcdpcnmaaaEP4
namespace Go.Proofs.Ytknomkcdpcnmaaa
open Go Go.Am
theorem szN_le : ∀ m x : Nat, szN m x ≤ m
 | 0, _ => Nat.le_refl _
 | m + 1, x => by
  have := szN_le m (x / 2)
  simp only [szN]
  omega
theorem zvz (x : BitVec 64) : szB x ≤ 64 := by
 unfold szB
 exact szN_le 64 _
def szs (s : List (BitVec 64)) : List Int → Nat
 | [] => 0
 | k :: c => szB (s.getD k.toNat 0) + szs s c
theorem zw1 (s : List (BitVec 64)) (z : Int) : ∀ c : List Int, szs s (c ++ [z]) = szs s c + szB (s.getD z.toNat 0)
 | [] => by simp [szs]
 | k :: c => by
  have := zw1 s z c
  show szB _ + szs s (c ++ [z]) = szB _ + szs s c + _
  omega
theorem szs_le (s : List (BitVec 64)) : ∀ c : List Int, szs s c ≤ c.length * 64
 | [] => Nat.le_refl _
 | k :: c => by
  have h1 := szs_le s c
  have h2 := zvz (s.getD k.toNat 0)
  show szB _ + szs s c ≤ (c.length + 1) * 64
  omega
def nonz (s : List (BitVec 64)) (c : List Int) : Bool := c.all fun k => s.getD k.toNat 0 != 0#64
end Go.Proofs.Ytknomkcdpcnmaaa
