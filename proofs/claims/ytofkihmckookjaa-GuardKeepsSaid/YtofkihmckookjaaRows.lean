/-
  NARROWER THAN 'FOR EVERY INPUT', by the rows' own cells (each row's printed sentence says how): GuardDangers: loops · GuardChecks: loops · GuardFinds: loops · GuardPlaces: loops · GuardKeeps: loops · GuardTells: loops.
  DERIVED. THE GIVEN ROWS OF THIS SEAT. 8 by the template 'for every input the law returns true; each argument reads behind the call as it read before'; 0 by the template 'total and deterministic' (their statements: YtofkihmckookjaaTotals.lean).
  GIVEN WITH THE SEED: the statements are not yours to turn. If you find one false, say at which input.
  Laid BY PROGRAM, IN A SANDBOX (cutbox-rows.mjs): the forced cells as the released guide's own fill.sh prints them over the translation 9b003cce3942ed26… (all of the seat's roots in one cut). By AI agents, Wed Nov 11 2026. No macro, syntax, notation, axiom, sorry.
-/
import Derived.Test.YtofkihmckookjaaChecked
import GoSem.Claim
import GoSem.ClaimJoined
import GoSem.ClaimMapViews
import Derived.JoinedTies
import Derived.KernelRfl
namespace Go.Proofs.Ytofkihmckookjaa
/- THE CELL 'sum', in the pinned program and in every row, IS THE sha256 OF THE DUMP (.gsa) THAT YtofkihmckookjaaProg.lean LOADS. Nothing in Lean hashes anything: it is a label: what it is worth is what the hold of that sum in a sandbox is worth. -/
noncomputable def Try.pinned : Pinned := { name := "ytofkihmckookjaa", sum := "9b003cce3942ed26cc21312a68d91806cbd626735d44c95d5a1ddce0ffa01412", checked := Try.checked }
namespace Rows
def none {H : Type} : Left H := { results := [], args := [] }

/-- 'pneumaticlaw49.GuardDangers': WHATEVER THE INPUT: true; the input reads as it did. -/
def guardDangersSpec : ChangeSpec := { name := "guardDangers", fn := fun _ => fun
  | [d1, d2] => { results := [.lit (.bool true)], args := [d1, d2] }
  | _ => none }
def guardDangersRow : OpenClaim := { program := "ytofkihmckookjaa", sum := "9b003cce3942ed26cc21312a68d91806cbd626735d44c95d5a1ddce0ffa01412", func := "pneumatic/pneumaticlaw49.GuardDangers", spec := "guardDangers", unfollowed := true, recurses := true, loops := true, apart := false }
def GuardDangersSaid : Prop := guardDangersRow.holds Try.pinned (OpenSpec.ofChange guardDangersSpec)

/-- ITS FALSE NEIGHBOUR: 'it returns false'. Refute it at one input. -/
def guardDangersWrong : ChangeSpec := { name := "guardDangers", fn := fun _ => fun
  | [d1, d2] => { results := [.lit (.bool false)], args := [d1, d2] }
  | _ => none }
def GuardDangersWrongFalsely : Prop := guardDangersRow.holds Try.pinned (OpenSpec.ofChange guardDangersWrong)

/-- 'pneumaticlaw49.GuardHands': WHATEVER THE INPUT: true; the input reads as it did. -/
def guardHandsSpec : ChangeSpec := { name := "guardHands", fn := fun _ => fun
  | [d1, d2] => { results := [.lit (.bool true)], args := [d1, d2] }
  | _ => none }
def guardHandsRow : OpenClaim := { program := "ytofkihmckookjaa", sum := "9b003cce3942ed26cc21312a68d91806cbd626735d44c95d5a1ddce0ffa01412", func := "pneumatic/pneumaticlaw49.GuardHands", spec := "guardHands", unfollowed := true, recurses := true, apart := false }
def GuardHandsSaid : Prop := guardHandsRow.holds Try.pinned (OpenSpec.ofChange guardHandsSpec)

/-- ITS FALSE NEIGHBOUR: 'it returns false'. Refute it at one input. -/
def guardHandsWrong : ChangeSpec := { name := "guardHands", fn := fun _ => fun
  | [d1, d2] => { results := [.lit (.bool false)], args := [d1, d2] }
  | _ => none }
def GuardHandsWrongFalsely : Prop := guardHandsRow.holds Try.pinned (OpenSpec.ofChange guardHandsWrong)

/-- 'pneumaticlaw49.GuardSpans': WHATEVER THE INPUT: true; the input reads as it did. -/
def guardSpansSpec : ChangeSpec := { name := "guardSpans", fn := fun _ => fun
  | [d1, d2, d3] => { results := [.lit (.bool true)], args := [d1, d2, d3] }
  | _ => none }
def guardSpansRow : OpenClaim := { program := "ytofkihmckookjaa", sum := "9b003cce3942ed26cc21312a68d91806cbd626735d44c95d5a1ddce0ffa01412", func := "pneumatic/pneumaticlaw49.GuardSpans", spec := "guardSpans", unfollowed := true, recurses := true, apart := false }
def GuardSpansSaid : Prop := guardSpansRow.holds Try.pinned (OpenSpec.ofChange guardSpansSpec)

/-- ITS FALSE NEIGHBOUR: 'it returns false'. Refute it at one input. -/
def guardSpansWrong : ChangeSpec := { name := "guardSpans", fn := fun _ => fun
  | [d1, d2, d3] => { results := [.lit (.bool false)], args := [d1, d2, d3] }
  | _ => none }
def GuardSpansWrongFalsely : Prop := guardSpansRow.holds Try.pinned (OpenSpec.ofChange guardSpansWrong)

/-- 'pneumaticlaw49.GuardChecks': WHATEVER THE INPUT: true; the input reads as it did. -/
def guardChecksSpec : ChangeSpec := { name := "guardChecks", fn := fun _ => fun
  | [d1, d2, d3] => { results := [.lit (.bool true)], args := [d1, d2, d3] }
  | _ => none }
def guardChecksRow : OpenClaim := { program := "ytofkihmckookjaa", sum := "9b003cce3942ed26cc21312a68d91806cbd626735d44c95d5a1ddce0ffa01412", func := "pneumatic/pneumaticlaw49.GuardChecks", spec := "guardChecks", unfollowed := true, recurses := true, loops := true, apart := false }
def GuardChecksSaid : Prop := guardChecksRow.holds Try.pinned (OpenSpec.ofChange guardChecksSpec)

/-- ITS FALSE NEIGHBOUR: 'it returns false'. Refute it at one input. -/
def guardChecksWrong : ChangeSpec := { name := "guardChecks", fn := fun _ => fun
  | [d1, d2, d3] => { results := [.lit (.bool false)], args := [d1, d2, d3] }
  | _ => none }
def GuardChecksWrongFalsely : Prop := guardChecksRow.holds Try.pinned (OpenSpec.ofChange guardChecksWrong)

/-- 'pneumaticlaw49.GuardFinds': WHATEVER THE INPUT: true; the input reads as it did. -/
def guardFindsSpec : ChangeSpec := { name := "guardFinds", fn := fun _ => fun
  | [d1, d2] => { results := [.lit (.bool true)], args := [d1, d2] }
  | _ => none }
def guardFindsRow : OpenClaim := { program := "ytofkihmckookjaa", sum := "9b003cce3942ed26cc21312a68d91806cbd626735d44c95d5a1ddce0ffa01412", func := "pneumatic/pneumaticlaw49.GuardFinds", spec := "guardFinds", unfollowed := true, recurses := true, loops := true, apart := false }
def GuardFindsSaid : Prop := guardFindsRow.holds Try.pinned (OpenSpec.ofChange guardFindsSpec)

/-- ITS FALSE NEIGHBOUR: 'it returns false'. Refute it at one input. -/
def guardFindsWrong : ChangeSpec := { name := "guardFinds", fn := fun _ => fun
  | [d1, d2] => { results := [.lit (.bool false)], args := [d1, d2] }
  | _ => none }
def GuardFindsWrongFalsely : Prop := guardFindsRow.holds Try.pinned (OpenSpec.ofChange guardFindsWrong)

/-- 'pneumaticlaw49.GuardPlaces': WHATEVER THE INPUT: true; the input reads as it did. -/
def guardPlacesSpec : ChangeSpec := { name := "guardPlaces", fn := fun _ => fun
  | [d1, d2] => { results := [.lit (.bool true)], args := [d1, d2] }
  | _ => none }
def guardPlacesRow : OpenClaim := { program := "ytofkihmckookjaa", sum := "9b003cce3942ed26cc21312a68d91806cbd626735d44c95d5a1ddce0ffa01412", func := "pneumatic/pneumaticlaw49.GuardPlaces", spec := "guardPlaces", unfollowed := true, recurses := true, loops := true, apart := false }
def GuardPlacesSaid : Prop := guardPlacesRow.holds Try.pinned (OpenSpec.ofChange guardPlacesSpec)

/-- ITS FALSE NEIGHBOUR: 'it returns false'. Refute it at one input. -/
def guardPlacesWrong : ChangeSpec := { name := "guardPlaces", fn := fun _ => fun
  | [d1, d2] => { results := [.lit (.bool false)], args := [d1, d2] }
  | _ => none }
def GuardPlacesWrongFalsely : Prop := guardPlacesRow.holds Try.pinned (OpenSpec.ofChange guardPlacesWrong)

/-- 'pneumaticlaw49.GuardKeeps': WHATEVER THE INPUT: true; the input reads as it did. -/
def guardKeepsSpec : ChangeSpec := { name := "guardKeeps", fn := fun _ => fun
  | [d1, d2] => { results := [.lit (.bool true)], args := [d1, d2] }
  | _ => none }
def guardKeepsRow : OpenClaim := { program := "ytofkihmckookjaa", sum := "9b003cce3942ed26cc21312a68d91806cbd626735d44c95d5a1ddce0ffa01412", func := "pneumatic/pneumaticlaw49.GuardKeeps", spec := "guardKeeps", unfollowed := true, recurses := true, loops := true, apart := false }
def GuardKeepsSaid : Prop := guardKeepsRow.holds Try.pinned (OpenSpec.ofChange guardKeepsSpec)

/-- ITS FALSE NEIGHBOUR: 'it returns false'. Refute it at one input. -/
def guardKeepsWrong : ChangeSpec := { name := "guardKeeps", fn := fun _ => fun
  | [d1, d2] => { results := [.lit (.bool false)], args := [d1, d2] }
  | _ => none }
def GuardKeepsWrongFalsely : Prop := guardKeepsRow.holds Try.pinned (OpenSpec.ofChange guardKeepsWrong)

/-- 'pneumaticlaw49.GuardTells': WHATEVER THE INPUT: true; the input reads as it did. -/
def guardTellsSpec : ChangeSpec := { name := "guardTells", fn := fun _ => fun
  | [d1, d2, d3] => { results := [.lit (.bool true)], args := [d1, d2, d3] }
  | _ => none }
def guardTellsRow : OpenClaim := { program := "ytofkihmckookjaa", sum := "9b003cce3942ed26cc21312a68d91806cbd626735d44c95d5a1ddce0ffa01412", func := "pneumatic/pneumaticlaw49.GuardTells", spec := "guardTells", unfollowed := true, recurses := true, loops := true, apart := false }
def GuardTellsSaid : Prop := guardTellsRow.holds Try.pinned (OpenSpec.ofChange guardTellsSpec)

/-- ITS FALSE NEIGHBOUR: 'it returns false'. Refute it at one input. -/
def guardTellsWrong : ChangeSpec := { name := "guardTells", fn := fun _ => fun
  | [d1, d2, d3] => { results := [.lit (.bool false)], args := [d1, d2, d3] }
  | _ => none }
def GuardTellsWrongFalsely : Prop := guardTellsRow.holds Try.pinned (OpenSpec.ofChange guardTellsWrong)

/- THE SECOND FORM. 'bulk': how many values and letters a reading holds, each counted each time it is reached (what is shared counts as often as it is met; a slice's spare places count too). A statement '..UptoSaid' is the law's where the arguments, and the package variables that the reading takes, are together of bulk at most 1048576: NARROWER than '..Said'. Prove '..Said' where nothing that the law and all that it calls make is longer than what came in: it says more and counts as full. Else prove '..UptoSaid'. A law counts once. -/
mutual
def uptoBulk {H : Type} : DataW H → Nat
  | .lit (.string bytes) => bytes.length + 1
  | .lit _ => 1
  | .nil => 1
  | .ptr d => uptoBulk d + 1
  | .slice elems spare => uptoBulkAll elems + uptoBulkAll spare + 1
  | .agg parts => uptoBulkAll parts + 1
  | .iface _ d => uptoBulk d + 1
  | .map entries => uptoBulkEntries entries + 1
  | .held _ => 1
def uptoBulkAll {H : Type} : List (DataW H) → Nat
  | [] => 0
  | d :: r => uptoBulk d + uptoBulkAll r
def uptoBulkEntries {H : Type} : List (Lit × DataW H) → Nat
  | [] => 0
  | x :: r => uptoBulkEntry x + uptoBulkEntries r
def uptoBulkEntry {H : Type} : Lit × DataW H → Nat
  | (.string bytes, d) => bytes.length + uptoBulk d + 1
  | (_, d) => uptoBulk d + 1
 end
def uptoSmall : (H : Type) → List (DataW H) → Bool := fun _ ds => decide (uptoBulkAll ds ≤ 1048576)
def OpenSpec.upto (s : _root_.Go.ChangeSpec) : _root_.Go.OpenSpec := { _root_.Go.OpenSpec.ofChange s with cond := some uptoSmall }

/-- 'pneumaticlaw49.GuardDangers', WHERE WHAT IT READS IS OF BULK AT MOST 1048576: true; the input reads as it did. -/
def guardDangersUptoRow : OpenClaim := { program := "ytofkihmckookjaa", sum := "9b003cce3942ed26cc21312a68d91806cbd626735d44c95d5a1ddce0ffa01412", func := "pneumatic/pneumaticlaw49.GuardDangers", spec := "guardDangers", unfollowed := true, recurses := true, loops := true, apart := false, narrowed := true }
def GuardDangersUptoSaid : Prop := guardDangersUptoRow.holds Try.pinned (OpenSpec.upto guardDangersSpec)

/-- 'pneumaticlaw49.GuardHands', WHERE WHAT IT READS IS OF BULK AT MOST 1048576: true; the input reads as it did. -/
def guardHandsUptoRow : OpenClaim := { program := "ytofkihmckookjaa", sum := "9b003cce3942ed26cc21312a68d91806cbd626735d44c95d5a1ddce0ffa01412", func := "pneumatic/pneumaticlaw49.GuardHands", spec := "guardHands", unfollowed := true, recurses := true, apart := false, narrowed := true }
def GuardHandsUptoSaid : Prop := guardHandsUptoRow.holds Try.pinned (OpenSpec.upto guardHandsSpec)

/-- 'pneumaticlaw49.GuardSpans', WHERE WHAT IT READS IS OF BULK AT MOST 1048576: true; the input reads as it did. -/
def guardSpansUptoRow : OpenClaim := { program := "ytofkihmckookjaa", sum := "9b003cce3942ed26cc21312a68d91806cbd626735d44c95d5a1ddce0ffa01412", func := "pneumatic/pneumaticlaw49.GuardSpans", spec := "guardSpans", unfollowed := true, recurses := true, apart := false, narrowed := true }
def GuardSpansUptoSaid : Prop := guardSpansUptoRow.holds Try.pinned (OpenSpec.upto guardSpansSpec)

/-- 'pneumaticlaw49.GuardChecks', WHERE WHAT IT READS IS OF BULK AT MOST 1048576: true; the input reads as it did. -/
def guardChecksUptoRow : OpenClaim := { program := "ytofkihmckookjaa", sum := "9b003cce3942ed26cc21312a68d91806cbd626735d44c95d5a1ddce0ffa01412", func := "pneumatic/pneumaticlaw49.GuardChecks", spec := "guardChecks", unfollowed := true, recurses := true, loops := true, apart := false, narrowed := true }
def GuardChecksUptoSaid : Prop := guardChecksUptoRow.holds Try.pinned (OpenSpec.upto guardChecksSpec)

/-- 'pneumaticlaw49.GuardFinds', WHERE WHAT IT READS IS OF BULK AT MOST 1048576: true; the input reads as it did. -/
def guardFindsUptoRow : OpenClaim := { program := "ytofkihmckookjaa", sum := "9b003cce3942ed26cc21312a68d91806cbd626735d44c95d5a1ddce0ffa01412", func := "pneumatic/pneumaticlaw49.GuardFinds", spec := "guardFinds", unfollowed := true, recurses := true, loops := true, apart := false, narrowed := true }
def GuardFindsUptoSaid : Prop := guardFindsUptoRow.holds Try.pinned (OpenSpec.upto guardFindsSpec)

/-- 'pneumaticlaw49.GuardPlaces', WHERE WHAT IT READS IS OF BULK AT MOST 1048576: true; the input reads as it did. -/
def guardPlacesUptoRow : OpenClaim := { program := "ytofkihmckookjaa", sum := "9b003cce3942ed26cc21312a68d91806cbd626735d44c95d5a1ddce0ffa01412", func := "pneumatic/pneumaticlaw49.GuardPlaces", spec := "guardPlaces", unfollowed := true, recurses := true, loops := true, apart := false, narrowed := true }
def GuardPlacesUptoSaid : Prop := guardPlacesUptoRow.holds Try.pinned (OpenSpec.upto guardPlacesSpec)

/-- 'pneumaticlaw49.GuardKeeps', WHERE WHAT IT READS IS OF BULK AT MOST 1048576: true; the input reads as it did. -/
def guardKeepsUptoRow : OpenClaim := { program := "ytofkihmckookjaa", sum := "9b003cce3942ed26cc21312a68d91806cbd626735d44c95d5a1ddce0ffa01412", func := "pneumatic/pneumaticlaw49.GuardKeeps", spec := "guardKeeps", unfollowed := true, recurses := true, loops := true, apart := false, narrowed := true }
def GuardKeepsUptoSaid : Prop := guardKeepsUptoRow.holds Try.pinned (OpenSpec.upto guardKeepsSpec)

/-- 'pneumaticlaw49.GuardTells', WHERE WHAT IT READS IS OF BULK AT MOST 1048576: true; the input reads as it did. -/
def guardTellsUptoRow : OpenClaim := { program := "ytofkihmckookjaa", sum := "9b003cce3942ed26cc21312a68d91806cbd626735d44c95d5a1ddce0ffa01412", func := "pneumatic/pneumaticlaw49.GuardTells", spec := "guardTells", unfollowed := true, recurses := true, loops := true, apart := false, narrowed := true }
def GuardTellsUptoSaid : Prop := guardTellsUptoRow.holds Try.pinned (OpenSpec.upto guardTellsSpec)

end Rows
end Go.Proofs.Ytofkihmckookjaa
