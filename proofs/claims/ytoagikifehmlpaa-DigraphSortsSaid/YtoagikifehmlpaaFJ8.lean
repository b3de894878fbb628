/-
  PATHS: Path on both sides.
-/
import Derived.Test.YtoagikifehmlpaaFJ7
import Derived.Test.YtoagikifehmlpaaFJ3
namespace Go.Proofs.Ytoagikifehmlpaa
open Go Go.Am
theorem swE_cast (E : List (Nat × Nat)) : swE (zai E) = zai (rvE E) := by
 unfold swE zai rvE
 rw [List.map_map, List.map_map]
 rfl
end Go.Proofs.Ytoagikifehmlpaa
