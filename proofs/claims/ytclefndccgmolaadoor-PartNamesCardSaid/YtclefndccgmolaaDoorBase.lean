/-
  WHAT EVERY LAW OF THE SEAT SHARES: the program's one listed variable as the walks read it, a world for the witnesses.
-/
import Derived.Test.YtclefndccgmolaaDoorAmRow
import Derived.Test.YtclefndccgmolaaDoorCards
import Derived.Test.YtclefndccgmolaaDoorTie
namespace Go.Proofs.YtclefndccgmolaaDoor
open Go Go.Am Go.ChangeShapes Go.WideShapes Go.ChangeAt Go.RowKit

theorem own : ownKnob Tryd.prog.godebug = none := by kernel_rfl
theorem gTab : Tryd.prog.globalNamed "pneumatic/lexer.ranges" = some 0 := by kernel_rfl
theorem gTabType : (Tryd.prog.globals[0]?).map (·.type) = some 128 := by kernel_rfl
theorem cells128 : Tryd.prog.cellsOf 128 = 6 * 3 := by kernel_rfl
theorem pairOne : Go.Deep.oneCellFields Tryd.prog #[{ name := "Plus", type := 4, offset := 0, embedded := false, tag := "", pkgPath := "", byteOffset := 0 }, { name := "Minus", type := 4, offset := 1, embedded := false, tag := "", pkgPath := "", byteOffset := 1 }] = true := by kernel_rfl
theorem pairCells : Tryd.prog.cellsOf 40 = 2 := by kernel_rfl
theorem rowType : Tryd.prog.underlying 127 = some (.array 3 5) := Tryd.underlying127
theorem numType : Tryd.prog.underlying 5 = some (.int .u8) := Tryd.underlying5
theorem numCells : Tryd.prog.cellsOf 5 = 1 := by kernel_rfl
theorem rowCells : Tryd.prog.cellsOf 127 = 3 := by kernel_rfl

def rangeRows : List (List Int) := [[65, 90, 1], [97, 122, 1], [48, 57, 2], [95, 95, 3], [32, 32, 5], [10, 10, 5]]

/-- What the row's list gives: the table's cells are known. -/
theorem table {W : World} {l : List (String × DataW Unit)} (hl : l = [("pneumatic/lexer.ranges", Rows.laid_pneumatic_lexer_ranges)]) (h : laidMetH Tryd.prog l W) : GOk (fun _ => True) W := by
  subst hl
  obtain ⟨ps, ⟨g', t', cs, fuel, p, q, hg', ht', hvar, hd, _, _⟩, _⟩ := (show laidMet Tryd.prog [("pneumatic/lexer.ranges", Rows.laid_pneumatic_lexer_ranges)] W from h)
  obtain rfl := Option.some.inj (gTab.symm.trans hg')
  obtain rfl := Option.some.inj (gTabType.symm.trans ht')
  obtain ⟨h1, h2, h3⟩ := cells_of_rows (rows := rangeRows) (k := .u8) Tryd.underlying128 rowType numType numCells rowCells cells128 (show DataW.trod _ _ _ _ _ _ _ _ _ = some (.agg (rangeRows.map (Lib.tabData .u8)), p) from hd)
  have cell : ∀ i j z row, rangeRows[i]? = some row → row[j]? = some z → row.length = 3 → W.cell? ⟨0, i * 3 + j, none⟩ = some (.int .u8 z) := by
    intro i j z row hi hj hl
    rw [World.var?_cell gTab hvar]
    have := congrArg (·[j]?) (h3 i row hi)
    have hj3 : j < 3 := by rw [← hl]; exact (List.getElem?_eq_some_iff.1 hj).1
    simp only [List.getElem?_map, hj, Option.map_some, List.getElem?_take_of_lt hj3, List.getElem?_drop] at this
    simpa using this
  intro x hx
  have hx' : x = (0, [.int .u8 65, .int .u8 90, .int .u8 1, .int .u8 97, .int .u8 122, .int .u8 1, .int .u8 48, .int .u8 57, .int .u8 2, .int .u8 95, .int .u8 95, .int .u8 3, .int .u8 32, .int .u8 32, .int .u8 5, .int .u8 10, .int .u8 10, .int .u8 5]) := by
    simpa [GTAB] using hx
  subst hx'
  let zs : List Int := [65, 90, 1, 97, 122, 1, 48, 57, 2, 95, 95, 3, 32, 32, 5, 10, 10, 5]
  have hz : ∀ (i : Nat) (y : AV), ([.int .u8 65, .int .u8 90, .int .u8 1, .int .u8 97, .int .u8 122, .int .u8 1, .int .u8 48, .int .u8 57, .int .u8 2, .int .u8 95, .int .u8 95, .int .u8 3, .int .u8 32, .int .u8 32, .int .u8 5, .int .u8 10, .int .u8 10, .int .u8 5] : List AV)[i]? = some y → ∃ z, y = .int .u8 z ∧ zs[i]? = some z := by
    intro i y hy
    have e : ([.int .u8 65, .int .u8 90, .int .u8 1, .int .u8 97, .int .u8 122, .int .u8 1, .int .u8 48, .int .u8 57, .int .u8 2, .int .u8 95, .int .u8 95, .int .u8 3, .int .u8 32, .int .u8 32, .int .u8 5, .int .u8 10, .int .u8 10, .int .u8 5] : List AV) = zs.map (.int .u8 ·) := rfl
    rw [e, List.getElem?_map, Option.map_eq_some_iff] at hy
    obtain ⟨z, hz, rfl⟩ := hy
    exact ⟨z, rfl, hz⟩
  refine .vptr (fun i => .int .u8 (zs.getD i 0)) (fun i y hy => ⟨trivial, ?_⟩) (fun i y hy => ?_)
  · obtain ⟨z, rfl, hz⟩ := hz i y hy
    have hlt : i < 18 := (List.getElem?_eq_some_iff.1 hz).1
    have hd : zs.getD i 0 = z := by simp [List.getD, hz]
    rw [hd, Nat.zero_add]
    have hr : ∃ row, rangeRows[i / 3]? = some row ∧ row[i % 3]? = some z ∧ row.length = 3 := by
      have : ∀ i, i < 18 → ∃ row, rangeRows[i / 3]? = some row ∧ row[i % 3]? = zs[i]? ∧ row.length = 3 := by
        intro i hi
        match i, hi with
        | 0, _ | 1, _ | 2, _ | 3, _ | 4, _ | 5, _ | 6, _ | 7, _ | 8, _ | 9, _ | 10, _ | 11, _ | 12, _ | 13, _ | 14, _ | 15, _ | 16, _ | 17, _ => exact ⟨_, rfl, rfl, rfl⟩
        | i + 18, hi => omega
      obtain ⟨row, a, b, c⟩ := this i hlt
      exact ⟨row, a, b.trans hz, c⟩
    obtain ⟨row, a, b, c⟩ := hr
    have := cell (i / 3) (i % 3) z row a b c
    rwa [show i / 3 * 3 + i % 3 = i from by omega] at this
  · obtain ⟨z, rfl, hz⟩ := hz i y hy
    have hd : zs.getD i 0 = z := by simp [List.getD, hz]
    rw [hd]
    exact .int

/-- A world for the witnesses: the settled one, the listed variable (block 0) holding what its initialiser lays. -/
noncomputable def laidWorld (os : Os) (args : Array Value) : World :=
  { World.holding Tryd.prog os ⟨#[], args, []⟩ with heap := (World.holding Tryd.prog os ⟨#[], args, []⟩).heap.modify 0 fun
      | .cells _ t frozen => .cells #[.int .u8 65, .int .u8 90, .int .u8 1, .int .u8 97, .int .u8 122, .int .u8 1, .int .u8 48, .int .u8 57, .int .u8 2, .int .u8 95, .int .u8 95, .int .u8 3, .int .u8 32, .int .u8 32, .int .u8 5, .int .u8 10, .int .u8 10, .int .u8 5] t frozen
      | o => o }

end Go.Proofs.YtclefndccgmolaaDoor
