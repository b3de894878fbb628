/-
  slices.Repeat of -1.
-/
import Derived.Test.YtoagikifehmlpaaQU1
namespace Go.Proofs.Ytoagikifehmlpaa
open Go Go.Am
def own61 : List (List AV × List AV) := (List.range 13).map fun m => ([.vs [[.int .i64 (-1)]], .int .i64 (m : Nat)], List.replicate m (AV.int .i64 (-1)))
theorem own61_ok : ownRun Try.prog (env0.tab [] []) 80 61 some own61 = true := by kernel_rfl
theorem repeat61 {m : Nat} (h : m ≤ 12) : PFo Try.prog 61 [.vs [[.int .i64 (-1)]], .int .i64 (m : Nat)] 1 m (some m) ((List.replicate m (-1 : Int)).map (AV.int .i64)) := by
 have := own_rows (env0_ok.tab TabOk.nil) own61_ok ([.vs [[.int .i64 (-1)]], .int .i64 (m : Nat)], List.replicate m (AV.int .i64 (-1))) (List.mem_map.2 ⟨m, List.mem_range.2 (by omega), rfl⟩)
 simp only [List.length_replicate] at this
 rw [List.map_replicate]
 exact this
end Go.Proofs.Ytoagikifehmlpaa
