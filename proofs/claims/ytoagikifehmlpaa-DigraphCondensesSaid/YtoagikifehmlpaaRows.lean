/-
  No cell of these rows narrows 'for every input' (looked for: loops, veiled, ifaces, maps, wideKeys, modest, calm, conditions, laid).
  DERIVED. THE GIVEN ROWS OF THIS SEAT. 8 by the template 'for every input the law returns true; each argument reads behind the call as it read before'; 0 by the template 'total and deterministic' (their statements: YtoagikifehmlpaaTotals.lean).
  GIVEN WITH THE SEED: the statements are not yours to turn. If you find one false, say at which input.
  Laid BY PROGRAM, IN A SANDBOX (cutbox-rows.mjs): the forced cells as the released guide's own fill.sh prints them over the translation 15939c559b11a791… (all of the seat's roots in one cut). By AI agents, Wed Nov 11 2026. No macro, syntax, notation, axiom, sorry.
-/
import Derived.Test.YtoagikifehmlpaaChecked
import GoSem.Claim
import GoSem.ClaimJoined
import GoSem.ClaimMapViews
import Derived.JoinedTies
import Derived.KernelRfl
namespace Go.Proofs.Ytoagikifehmlpaa
/- THE CELL 'sum', in the pinned program and in every row, IS THE sha256 OF THE DUMP (.gsa) THAT YtoagikifehmlpaaProg.lean LOADS. Nothing in Lean hashes anything: it is a label: what it is worth is what the hold of that sum in a sandbox is worth. -/
noncomputable def Try.pinned : Pinned := { name := "ytoagikifehmlpaa", sum := "15939c559b11a791238e9f0db7f38fca3dfa5f7386a83cd9d9a302d47463c024", checked := Try.checked }
namespace Rows
def none {H : Type} : Left H := { results := [], args := [] }

/-- 'pneumaticlaw10.DigraphParts': WHATEVER THE INPUT: true; the input reads as it did. -/
def digraphPartsSpec : ChangeSpec := { name := "digraphParts", fn := fun _ => fun
  | [d] => { results := [.lit (.bool true)], args := [d] }
  | _ => none }
def digraphPartsRow : OpenClaim := { program := "ytoagikifehmlpaa", sum := "15939c559b11a791238e9f0db7f38fca3dfa5f7386a83cd9d9a302d47463c024", func := "pneumatic/pneumaticlaw10.DigraphParts", spec := "digraphParts", unfollowed := true, recurses := true, apart := false }
def DigraphPartsSaid : Prop := digraphPartsRow.holds Try.pinned (OpenSpec.ofChange digraphPartsSpec)

/-- ITS FALSE NEIGHBOUR: 'it returns false'. Refute it at one input. -/
def digraphPartsWrong : ChangeSpec := { name := "digraphParts", fn := fun _ => fun
  | [d] => { results := [.lit (.bool false)], args := [d] }
  | _ => none }
def DigraphPartsWrongFalsely : Prop := digraphPartsRow.holds Try.pinned (OpenSpec.ofChange digraphPartsWrong)

/-- 'pneumaticlaw10.DigraphCondenses': WHATEVER THE INPUT: true; the input reads as it did. -/
def digraphCondensesSpec : ChangeSpec := { name := "digraphCondenses", fn := fun _ => fun
  | [d1, d2, d3] => { results := [.lit (.bool true)], args := [d1, d2, d3] }
  | _ => none }
def digraphCondensesRow : OpenClaim := { program := "ytoagikifehmlpaa", sum := "15939c559b11a791238e9f0db7f38fca3dfa5f7386a83cd9d9a302d47463c024", func := "pneumatic/pneumaticlaw10.DigraphCondenses", spec := "digraphCondenses", unfollowed := true, recurses := true, apart := false }
def DigraphCondensesSaid : Prop := digraphCondensesRow.holds Try.pinned (OpenSpec.ofChange digraphCondensesSpec)

/-- ITS FALSE NEIGHBOUR: 'it returns false'. Refute it at one input. -/
def digraphCondensesWrong : ChangeSpec := { name := "digraphCondenses", fn := fun _ => fun
  | [d1, d2, d3] => { results := [.lit (.bool false)], args := [d1, d2, d3] }
  | _ => none }
def DigraphCondensesWrongFalsely : Prop := digraphCondensesRow.holds Try.pinned (OpenSpec.ofChange digraphCondensesWrong)

/-- 'pneumaticlaw10.DigraphEither': WHATEVER THE INPUT: true; the input reads as it did. -/
def digraphEitherSpec : ChangeSpec := { name := "digraphEither", fn := fun _ => fun
  | [d] => { results := [.lit (.bool true)], args := [d] }
  | _ => none }
def digraphEitherRow : OpenClaim := { program := "ytoagikifehmlpaa", sum := "15939c559b11a791238e9f0db7f38fca3dfa5f7386a83cd9d9a302d47463c024", func := "pneumatic/pneumaticlaw10.DigraphEither", spec := "digraphEither", unfollowed := true, recurses := true, apart := false }
def DigraphEitherSaid : Prop := digraphEitherRow.holds Try.pinned (OpenSpec.ofChange digraphEitherSpec)

/-- ITS FALSE NEIGHBOUR: 'it returns false'. Refute it at one input. -/
def digraphEitherWrong : ChangeSpec := { name := "digraphEither", fn := fun _ => fun
  | [d] => { results := [.lit (.bool false)], args := [d] }
  | _ => none }
def DigraphEitherWrongFalsely : Prop := digraphEitherRow.holds Try.pinned (OpenSpec.ofChange digraphEitherWrong)

/-- 'pneumaticlaw10.DigraphPaths': WHATEVER THE INPUT: true; the input reads as it did. -/
def digraphPathsSpec : ChangeSpec := { name := "digraphPaths", fn := fun _ => fun
  | [d1, d2, d3] => { results := [.lit (.bool true)], args := [d1, d2, d3] }
  | _ => none }
def digraphPathsRow : OpenClaim := { program := "ytoagikifehmlpaa", sum := "15939c559b11a791238e9f0db7f38fca3dfa5f7386a83cd9d9a302d47463c024", func := "pneumatic/pneumaticlaw10.DigraphPaths", spec := "digraphPaths", unfollowed := true, recurses := true, apart := false }
def DigraphPathsSaid : Prop := digraphPathsRow.holds Try.pinned (OpenSpec.ofChange digraphPathsSpec)

/-- ITS FALSE NEIGHBOUR: 'it returns false'. Refute it at one input. -/
def digraphPathsWrong : ChangeSpec := { name := "digraphPaths", fn := fun _ => fun
  | [d1, d2, d3] => { results := [.lit (.bool false)], args := [d1, d2, d3] }
  | _ => none }
def DigraphPathsWrongFalsely : Prop := digraphPathsRow.holds Try.pinned (OpenSpec.ofChange digraphPathsWrong)

/-- 'pneumaticlaw10.DigraphReaches': WHATEVER THE INPUT: true; the input reads as it did. -/
def digraphReachesSpec : ChangeSpec := { name := "digraphReaches", fn := fun _ => fun
  | [d1, d2] => { results := [.lit (.bool true)], args := [d1, d2] }
  | _ => none }
def digraphReachesRow : OpenClaim := { program := "ytoagikifehmlpaa", sum := "15939c559b11a791238e9f0db7f38fca3dfa5f7386a83cd9d9a302d47463c024", func := "pneumatic/pneumaticlaw10.DigraphReaches", spec := "digraphReaches", unfollowed := true, recurses := true, apart := false }
def DigraphReachesSaid : Prop := digraphReachesRow.holds Try.pinned (OpenSpec.ofChange digraphReachesSpec)

/-- ITS FALSE NEIGHBOUR: 'it returns false'. Refute it at one input. -/
def digraphReachesWrong : ChangeSpec := { name := "digraphReaches", fn := fun _ => fun
  | [d1, d2] => { results := [.lit (.bool false)], args := [d1, d2] }
  | _ => none }
def DigraphReachesWrongFalsely : Prop := digraphReachesRow.holds Try.pinned (OpenSpec.ofChange digraphReachesWrong)

/-- 'pneumaticlaw10.DigraphDistances': WHATEVER THE INPUT: true; the input reads as it did. -/
def digraphDistancesSpec : ChangeSpec := { name := "digraphDistances", fn := fun _ => fun
  | [d1, d2, d3] => { results := [.lit (.bool true)], args := [d1, d2, d3] }
  | _ => none }
def digraphDistancesRow : OpenClaim := { program := "ytoagikifehmlpaa", sum := "15939c559b11a791238e9f0db7f38fca3dfa5f7386a83cd9d9a302d47463c024", func := "pneumatic/pneumaticlaw10.DigraphDistances", spec := "digraphDistances", unfollowed := true, recurses := true, apart := false }
def DigraphDistancesSaid : Prop := digraphDistancesRow.holds Try.pinned (OpenSpec.ofChange digraphDistancesSpec)

/-- ITS FALSE NEIGHBOUR: 'it returns false'. Refute it at one input. -/
def digraphDistancesWrong : ChangeSpec := { name := "digraphDistances", fn := fun _ => fun
  | [d1, d2, d3] => { results := [.lit (.bool false)], args := [d1, d2, d3] }
  | _ => none }
def DigraphDistancesWrongFalsely : Prop := digraphDistancesRow.holds Try.pinned (OpenSpec.ofChange digraphDistancesWrong)

/-- 'pneumaticlaw10.DigraphSorts': WHATEVER THE INPUT: true; the input reads as it did. -/
def digraphSortsSpec : ChangeSpec := { name := "digraphSorts", fn := fun _ => fun
  | [d] => { results := [.lit (.bool true)], args := [d] }
  | _ => none }
def digraphSortsRow : OpenClaim := { program := "ytoagikifehmlpaa", sum := "15939c559b11a791238e9f0db7f38fca3dfa5f7386a83cd9d9a302d47463c024", func := "pneumatic/pneumaticlaw10.DigraphSorts", spec := "digraphSorts", unfollowed := true, recurses := true, apart := false }
def DigraphSortsSaid : Prop := digraphSortsRow.holds Try.pinned (OpenSpec.ofChange digraphSortsSpec)

/-- ITS FALSE NEIGHBOUR: 'it returns false'. Refute it at one input. -/
def digraphSortsWrong : ChangeSpec := { name := "digraphSorts", fn := fun _ => fun
  | [d] => { results := [.lit (.bool false)], args := [d] }
  | _ => none }
def DigraphSortsWrongFalsely : Prop := digraphSortsRow.holds Try.pinned (OpenSpec.ofChange digraphSortsWrong)

/-- 'pneumaticlaw10.DigraphTurns': WHATEVER THE INPUT: true; the input reads as it did. -/
def digraphTurnsSpec : ChangeSpec := { name := "digraphTurns", fn := fun _ => fun
  | [d] => { results := [.lit (.bool true)], args := [d] }
  | _ => none }
def digraphTurnsRow : OpenClaim := { program := "ytoagikifehmlpaa", sum := "15939c559b11a791238e9f0db7f38fca3dfa5f7386a83cd9d9a302d47463c024", func := "pneumatic/pneumaticlaw10.DigraphTurns", spec := "digraphTurns", unfollowed := true, recurses := true, apart := false }
def DigraphTurnsSaid : Prop := digraphTurnsRow.holds Try.pinned (OpenSpec.ofChange digraphTurnsSpec)

/-- ITS FALSE NEIGHBOUR: 'it returns false'. Refute it at one input. -/
def digraphTurnsWrong : ChangeSpec := { name := "digraphTurns", fn := fun _ => fun
  | [d] => { results := [.lit (.bool false)], args := [d] }
  | _ => none }
def DigraphTurnsWrongFalsely : Prop := digraphTurnsRow.holds Try.pinned (OpenSpec.ofChange digraphTurnsWrong)

/- THE SECOND FORM. 'bulk': how many values and letters a reading holds, each counted each time it is reached (what is shared counts as often as it is met; a slice's spare places count too). A statement '..UptoSaid' is the law's where the arguments, and the package variables that the reading takes, are together of bulk at most 1048576: NARROWER than '..Said'. Prove '..Said' where nothing that the law and all that it calls make is longer than what came in: it says more and counts as full. Else prove '..UptoSaid'. A law counts once. -/
mutual
def uptoBulk {H : Type} : DataW H → Nat
  | .lit (.string bytes) => bytes.length + 1
  | .lit _ => 1
  | .nil => 1
  | .ptr d => uptoBulk d + 1
  | .slice elems spare => uptoBulkAll elems + uptoBulkAll spare + 1
  | .agg parts => uptoBulkAll parts + 1
  | .iface _ d => uptoBulk d + 1
  | .map entries => uptoBulkEntries entries + 1
  | .held _ => 1
def uptoBulkAll {H : Type} : List (DataW H) → Nat
  | [] => 0
  | d :: r => uptoBulk d + uptoBulkAll r
def uptoBulkEntries {H : Type} : List (Lit × DataW H) → Nat
  | [] => 0
  | x :: r => uptoBulkEntry x + uptoBulkEntries r
def uptoBulkEntry {H : Type} : Lit × DataW H → Nat
  | (.string bytes, d) => bytes.length + uptoBulk d + 1
  | (_, d) => uptoBulk d + 1
 end
def uptoSmall : (H : Type) → List (DataW H) → Bool := fun _ ds => decide (uptoBulkAll ds ≤ 1048576)
def OpenSpec.upto (s : _root_.Go.ChangeSpec) : _root_.Go.OpenSpec := { _root_.Go.OpenSpec.ofChange s with cond := some uptoSmall }

/-- 'pneumaticlaw10.DigraphParts', WHERE WHAT IT READS IS OF BULK AT MOST 1048576: true; the input reads as it did. -/
def digraphPartsUptoRow : OpenClaim := { program := "ytoagikifehmlpaa", sum := "15939c559b11a791238e9f0db7f38fca3dfa5f7386a83cd9d9a302d47463c024", func := "pneumatic/pneumaticlaw10.DigraphParts", spec := "digraphParts", unfollowed := true, recurses := true, apart := false, narrowed := true }
def DigraphPartsUptoSaid : Prop := digraphPartsUptoRow.holds Try.pinned (OpenSpec.upto digraphPartsSpec)

/-- 'pneumaticlaw10.DigraphCondenses', WHERE WHAT IT READS IS OF BULK AT MOST 1048576: true; the input reads as it did. -/
def digraphCondensesUptoRow : OpenClaim := { program := "ytoagikifehmlpaa", sum := "15939c559b11a791238e9f0db7f38fca3dfa5f7386a83cd9d9a302d47463c024", func := "pneumatic/pneumaticlaw10.DigraphCondenses", spec := "digraphCondenses", unfollowed := true, recurses := true, apart := false, narrowed := true }
def DigraphCondensesUptoSaid : Prop := digraphCondensesUptoRow.holds Try.pinned (OpenSpec.upto digraphCondensesSpec)

/-- 'pneumaticlaw10.DigraphEither', WHERE WHAT IT READS IS OF BULK AT MOST 1048576: true; the input reads as it did. -/
def digraphEitherUptoRow : OpenClaim := { program := "ytoagikifehmlpaa", sum := "15939c559b11a791238e9f0db7f38fca3dfa5f7386a83cd9d9a302d47463c024", func := "pneumatic/pneumaticlaw10.DigraphEither", spec := "digraphEither", unfollowed := true, recurses := true, apart := false, narrowed := true }
def DigraphEitherUptoSaid : Prop := digraphEitherUptoRow.holds Try.pinned (OpenSpec.upto digraphEitherSpec)

/-- 'pneumaticlaw10.DigraphPaths', WHERE WHAT IT READS IS OF BULK AT MOST 1048576: true; the input reads as it did. -/
def digraphPathsUptoRow : OpenClaim := { program := "ytoagikifehmlpaa", sum := "15939c559b11a791238e9f0db7f38fca3dfa5f7386a83cd9d9a302d47463c024", func := "pneumatic/pneumaticlaw10.DigraphPaths", spec := "digraphPaths", unfollowed := true, recurses := true, apart := false, narrowed := true }
def DigraphPathsUptoSaid : Prop := digraphPathsUptoRow.holds Try.pinned (OpenSpec.upto digraphPathsSpec)

/-- 'pneumaticlaw10.DigraphReaches', WHERE WHAT IT READS IS OF BULK AT MOST 1048576: true; the input reads as it did. -/
def digraphReachesUptoRow : OpenClaim := { program := "ytoagikifehmlpaa", sum := "15939c559b11a791238e9f0db7f38fca3dfa5f7386a83cd9d9a302d47463c024", func := "pneumatic/pneumaticlaw10.DigraphReaches", spec := "digraphReaches", unfollowed := true, recurses := true, apart := false, narrowed := true }
def DigraphReachesUptoSaid : Prop := digraphReachesUptoRow.holds Try.pinned (OpenSpec.upto digraphReachesSpec)

/-- 'pneumaticlaw10.DigraphDistances', WHERE WHAT IT READS IS OF BULK AT MOST 1048576: true; the input reads as it did. -/
def digraphDistancesUptoRow : OpenClaim := { program := "ytoagikifehmlpaa", sum := "15939c559b11a791238e9f0db7f38fca3dfa5f7386a83cd9d9a302d47463c024", func := "pneumatic/pneumaticlaw10.DigraphDistances", spec := "digraphDistances", unfollowed := true, recurses := true, apart := false, narrowed := true }
def DigraphDistancesUptoSaid : Prop := digraphDistancesUptoRow.holds Try.pinned (OpenSpec.upto digraphDistancesSpec)

/-- 'pneumaticlaw10.DigraphSorts', WHERE WHAT IT READS IS OF BULK AT MOST 1048576: true; the input reads as it did. -/
def digraphSortsUptoRow : OpenClaim := { program := "ytoagikifehmlpaa", sum := "15939c559b11a791238e9f0db7f38fca3dfa5f7386a83cd9d9a302d47463c024", func := "pneumatic/pneumaticlaw10.DigraphSorts", spec := "digraphSorts", unfollowed := true, recurses := true, apart := false, narrowed := true }
def DigraphSortsUptoSaid : Prop := digraphSortsUptoRow.holds Try.pinned (OpenSpec.upto digraphSortsSpec)

/-- 'pneumaticlaw10.DigraphTurns', WHERE WHAT IT READS IS OF BULK AT MOST 1048576: true; the input reads as it did. -/
def digraphTurnsUptoRow : OpenClaim := { program := "ytoagikifehmlpaa", sum := "15939c559b11a791238e9f0db7f38fca3dfa5f7386a83cd9d9a302d47463c024", func := "pneumatic/pneumaticlaw10.DigraphTurns", spec := "digraphTurns", unfollowed := true, recurses := true, apart := false, narrowed := true }
def DigraphTurnsUptoSaid : Prop := digraphTurnsUptoRow.holds Try.pinned (OpenSpec.upto digraphTurnsSpec)

end Rows
end Go.Proofs.Ytoagikifehmlpaa
