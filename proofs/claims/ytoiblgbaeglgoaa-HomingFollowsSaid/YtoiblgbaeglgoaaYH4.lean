/-
  A STROKE THAT IS PERMITTED, FOR THE REFERENCE: free, May, Moves, Permitted.
-/
import Derived.Test.YtoiblgbaeglgoaaYH3
import Derived.Test.YtoiblgbaeglgoaaYS5
namespace Go.Proofs.Ytoiblgbaeglgoaa
open Go Go.Am

theorem bool_get {e : List Bool} {a : Nat} (ha : a < e.length) : (e.map fun b => ([.bool b] : List AV))[((a : Nat) : Int).toNat]? = some [.bool (e.getD a false)] := by
  rw [Int.toNat_natCast, List.getElem?_map, List.getD_eq_getElem?_getD, List.getElem?_eq_getElem ha]
  rfl

end Go.Proofs.Ytoiblgbaeglgoaa
