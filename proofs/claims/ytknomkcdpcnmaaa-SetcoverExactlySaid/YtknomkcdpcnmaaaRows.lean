/-
  No cell of these rows narrows 'for every input' (looked for: loops, veiled, ifaces, maps, wideKeys, modest, calm, conditions, laid).
  DERIVED. THE GIVEN ROWS OF THIS SEAT. 8 by the template 'for every input the law returns true; each argument reads behind the call as it read before'; 0 by the template 'total and deterministic' (their statements: YtknomkcdpcnmaaaTotals.lean).
  GIVEN WITH THE SEED: the statements are not yours to turn. If you find one false, say at which input.
  Laid BY PROGRAM, IN A SANDBOX (cutbox-rows.mjs): the forced cells as the released guide's own fill.sh prints them over the translation 1d6d4bda10ef23be… (all of the seat's roots in one cut). By AI agents, Wed Nov 11 2026. No macro, syntax, notation, axiom, sorry.
-/
import Derived.Test.YtknomkcdpcnmaaaChecked
import GoSem.Claim
import GoSem.ClaimJoined
import GoSem.ClaimMapViews
import Derived.JoinedTies
import Derived.KernelRfl
namespace Go.Proofs.Ytknomkcdpcnmaaa
/- THE CELL 'sum', in the pinned program and in every row, IS THE sha256 OF THE DUMP (.gsa) THAT YtknomkcdpcnmaaaProg.lean LOADS. Nothing in Lean hashes anything: it is a label: what it is worth is what the hold of that sum in a sandbox is worth. -/
noncomputable def Try.pinned : Pinned := { name := "ytknomkcdpcnmaaa", sum := "1d6d4bda10ef23be5e77bb31f4551b8517603cbf97b06852d6f91a803d16abdf", checked := Try.checked }
namespace Rows
def none {H : Type} : Left H := { results := [], args := [] }

/-- 'pneumaticlaw09.SetcoverCounts': WHATEVER THE INPUT: true; the input reads as it did. -/
def setcoverCountsSpec : ChangeSpec := { name := "setcoverCounts", fn := fun _ => fun
  | [d] => { results := [.lit (.bool true)], args := [d] }
  | _ => none }
def setcoverCountsRow : OpenClaim := { program := "ytknomkcdpcnmaaa", sum := "1d6d4bda10ef23be5e77bb31f4551b8517603cbf97b06852d6f91a803d16abdf", func := "pneumatic/pneumaticlaw09.SetcoverCounts", spec := "setcoverCounts", unfollowed := true, recurses := true, apart := false }
def SetcoverCountsSaid : Prop := setcoverCountsRow.holds Try.pinned (OpenSpec.ofChange setcoverCountsSpec)

/-- ITS FALSE NEIGHBOUR: 'it returns false'. Refute it at one input. -/
def setcoverCountsWrong : ChangeSpec := { name := "setcoverCounts", fn := fun _ => fun
  | [d] => { results := [.lit (.bool false)], args := [d] }
  | _ => none }
def SetcoverCountsWrongFalsely : Prop := setcoverCountsRow.holds Try.pinned (OpenSpec.ofChange setcoverCountsWrong)

/-- 'pneumaticlaw09.SetcoverBounds': WHATEVER THE INPUT: true; the input reads as it did. -/
def setcoverBoundsSpec : ChangeSpec := { name := "setcoverBounds", fn := fun _ => fun
  | [d1, d2] => { results := [.lit (.bool true)], args := [d1, d2] }
  | _ => none }
def setcoverBoundsRow : OpenClaim := { program := "ytknomkcdpcnmaaa", sum := "1d6d4bda10ef23be5e77bb31f4551b8517603cbf97b06852d6f91a803d16abdf", func := "pneumatic/pneumaticlaw09.SetcoverBounds", spec := "setcoverBounds", unfollowed := true, recurses := true, apart := false }
def SetcoverBoundsSaid : Prop := setcoverBoundsRow.holds Try.pinned (OpenSpec.ofChange setcoverBoundsSpec)

/-- ITS FALSE NEIGHBOUR: 'it returns false'. Refute it at one input. -/
def setcoverBoundsWrong : ChangeSpec := { name := "setcoverBounds", fn := fun _ => fun
  | [d1, d2] => { results := [.lit (.bool false)], args := [d1, d2] }
  | _ => none }
def SetcoverBoundsWrongFalsely : Prop := setcoverBoundsRow.holds Try.pinned (OpenSpec.ofChange setcoverBoundsWrong)

/-- 'pneumaticlaw09.SetcoverExactly': WHATEVER THE INPUT: true; the input reads as it did. -/
def setcoverExactlySpec : ChangeSpec := { name := "setcoverExactly", fn := fun _ => fun
  | [d] => { results := [.lit (.bool true)], args := [d] }
  | _ => none }
def setcoverExactlyRow : OpenClaim := { program := "ytknomkcdpcnmaaa", sum := "1d6d4bda10ef23be5e77bb31f4551b8517603cbf97b06852d6f91a803d16abdf", func := "pneumatic/pneumaticlaw09.SetcoverExactly", spec := "setcoverExactly", unfollowed := true, recurses := true, apart := false }
def SetcoverExactlySaid : Prop := setcoverExactlyRow.holds Try.pinned (OpenSpec.ofChange setcoverExactlySpec)

/-- ITS FALSE NEIGHBOUR: 'it returns false'. Refute it at one input. -/
def setcoverExactlyWrong : ChangeSpec := { name := "setcoverExactly", fn := fun _ => fun
  | [d] => { results := [.lit (.bool false)], args := [d] }
  | _ => none }
def SetcoverExactlyWrongFalsely : Prop := setcoverExactlyRow.holds Try.pinned (OpenSpec.ofChange setcoverExactlyWrong)

/-- 'pneumaticlaw09.SetcoverGrows': WHATEVER THE INPUT: true; the input reads as it did. -/
def setcoverGrowsSpec : ChangeSpec := { name := "setcoverGrows", fn := fun _ => fun
  | [d1, d2] => { results := [.lit (.bool true)], args := [d1, d2] }
  | _ => none }
def setcoverGrowsRow : OpenClaim := { program := "ytknomkcdpcnmaaa", sum := "1d6d4bda10ef23be5e77bb31f4551b8517603cbf97b06852d6f91a803d16abdf", func := "pneumatic/pneumaticlaw09.SetcoverGrows", spec := "setcoverGrows", unfollowed := true, recurses := true, apart := false }
def SetcoverGrowsSaid : Prop := setcoverGrowsRow.holds Try.pinned (OpenSpec.ofChange setcoverGrowsSpec)

/-- ITS FALSE NEIGHBOUR: 'it returns false'. Refute it at one input. -/
def setcoverGrowsWrong : ChangeSpec := { name := "setcoverGrows", fn := fun _ => fun
  | [d1, d2] => { results := [.lit (.bool false)], args := [d1, d2] }
  | _ => none }
def SetcoverGrowsWrongFalsely : Prop := setcoverGrowsRow.holds Try.pinned (OpenSpec.ofChange setcoverGrowsWrong)

/-- 'pneumaticlaw09.SetcoverFinds': WHATEVER THE INPUT: true; the input reads as it did. -/
def setcoverFindsSpec : ChangeSpec := { name := "setcoverFinds", fn := fun _ => fun
  | [d] => { results := [.lit (.bool true)], args := [d] }
  | _ => none }
def setcoverFindsRow : OpenClaim := { program := "ytknomkcdpcnmaaa", sum := "1d6d4bda10ef23be5e77bb31f4551b8517603cbf97b06852d6f91a803d16abdf", func := "pneumatic/pneumaticlaw09.SetcoverFinds", spec := "setcoverFinds", unfollowed := true, recurses := true, apart := false }
def SetcoverFindsSaid : Prop := setcoverFindsRow.holds Try.pinned (OpenSpec.ofChange setcoverFindsSpec)

/-- ITS FALSE NEIGHBOUR: 'it returns false'. Refute it at one input. -/
def setcoverFindsWrong : ChangeSpec := { name := "setcoverFinds", fn := fun _ => fun
  | [d] => { results := [.lit (.bool false)], args := [d] }
  | _ => none }
def SetcoverFindsWrongFalsely : Prop := setcoverFindsRow.holds Try.pinned (OpenSpec.ofChange setcoverFindsWrong)

/-- 'pneumaticlaw09.SetcoverChecks': WHATEVER THE INPUT: true; the input reads as it did. -/
def setcoverChecksSpec : ChangeSpec := { name := "setcoverChecks", fn := fun _ => fun
  | [d1, d2] => { results := [.lit (.bool true)], args := [d1, d2] }
  | _ => none }
def setcoverChecksRow : OpenClaim := { program := "ytknomkcdpcnmaaa", sum := "1d6d4bda10ef23be5e77bb31f4551b8517603cbf97b06852d6f91a803d16abdf", func := "pneumatic/pneumaticlaw09.SetcoverChecks", spec := "setcoverChecks", unfollowed := true, recurses := true, apart := false }
def SetcoverChecksSaid : Prop := setcoverChecksRow.holds Try.pinned (OpenSpec.ofChange setcoverChecksSpec)

/-- ITS FALSE NEIGHBOUR: 'it returns false'. Refute it at one input. -/
def setcoverChecksWrong : ChangeSpec := { name := "setcoverChecks", fn := fun _ => fun
  | [d1, d2] => { results := [.lit (.bool false)], args := [d1, d2] }
  | _ => none }
def SetcoverChecksWrongFalsely : Prop := setcoverChecksRow.holds Try.pinned (OpenSpec.ofChange setcoverChecksWrong)

/-- 'pneumaticlaw09.SetcoverBetween': WHATEVER THE INPUT: true; the input reads as it did. -/
def setcoverBetweenSpec : ChangeSpec := { name := "setcoverBetween", fn := fun _ => fun
  | [d] => { results := [.lit (.bool true)], args := [d] }
  | _ => none }
def setcoverBetweenRow : OpenClaim := { program := "ytknomkcdpcnmaaa", sum := "1d6d4bda10ef23be5e77bb31f4551b8517603cbf97b06852d6f91a803d16abdf", func := "pneumatic/pneumaticlaw09.SetcoverBetween", spec := "setcoverBetween", unfollowed := true, recurses := true, apart := false }
def SetcoverBetweenSaid : Prop := setcoverBetweenRow.holds Try.pinned (OpenSpec.ofChange setcoverBetweenSpec)

/-- ITS FALSE NEIGHBOUR: 'it returns false'. Refute it at one input. -/
def setcoverBetweenWrong : ChangeSpec := { name := "setcoverBetween", fn := fun _ => fun
  | [d] => { results := [.lit (.bool false)], args := [d] }
  | _ => none }
def SetcoverBetweenWrongFalsely : Prop := setcoverBetweenRow.holds Try.pinned (OpenSpec.ofChange setcoverBetweenWrong)

/-- 'pneumaticlaw09.SetcoverNeeds': WHATEVER THE INPUT: true; the input reads as it did. -/
def setcoverNeedsSpec : ChangeSpec := { name := "setcoverNeeds", fn := fun _ => fun
  | [d] => { results := [.lit (.bool true)], args := [d] }
  | _ => none }
def setcoverNeedsRow : OpenClaim := { program := "ytknomkcdpcnmaaa", sum := "1d6d4bda10ef23be5e77bb31f4551b8517603cbf97b06852d6f91a803d16abdf", func := "pneumatic/pneumaticlaw09.SetcoverNeeds", spec := "setcoverNeeds", unfollowed := true, recurses := true, apart := false }
def SetcoverNeedsSaid : Prop := setcoverNeedsRow.holds Try.pinned (OpenSpec.ofChange setcoverNeedsSpec)

/-- ITS FALSE NEIGHBOUR: 'it returns false'. Refute it at one input. -/
def setcoverNeedsWrong : ChangeSpec := { name := "setcoverNeeds", fn := fun _ => fun
  | [d] => { results := [.lit (.bool false)], args := [d] }
  | _ => none }
def SetcoverNeedsWrongFalsely : Prop := setcoverNeedsRow.holds Try.pinned (OpenSpec.ofChange setcoverNeedsWrong)

/- THE SECOND FORM. 'bulk': how many values and letters a reading holds, each counted each time it is reached (what is shared counts as often as it is met; a slice's spare places count too). A statement '..UptoSaid' is the law's where the arguments, and the package variables that the reading takes, are together of bulk at most 1048576: NARROWER than '..Said'. Prove '..Said' where nothing that the law and all that it calls make is longer than what came in: it says more and counts as full. Else prove '..UptoSaid'. A law counts once. -/
mutual
def uptoBulk {H : Type} : DataW H → Nat
  | .lit (.string bytes) => bytes.length + 1
  | .lit _ => 1
  | .nil => 1
  | .ptr d => uptoBulk d + 1
  | .slice elems spare => uptoBulkAll elems + uptoBulkAll spare + 1
  | .agg parts => uptoBulkAll parts + 1
  | .iface _ d => uptoBulk d + 1
  | .map entries => uptoBulkEntries entries + 1
  | .held _ => 1
def uptoBulkAll {H : Type} : List (DataW H) → Nat
  | [] => 0
  | d :: r => uptoBulk d + uptoBulkAll r
def uptoBulkEntries {H : Type} : List (Lit × DataW H) → Nat
  | [] => 0
  | x :: r => uptoBulkEntry x + uptoBulkEntries r
def uptoBulkEntry {H : Type} : Lit × DataW H → Nat
  | (.string bytes, d) => bytes.length + uptoBulk d + 1
  | (_, d) => uptoBulk d + 1
 end
def uptoSmall : (H : Type) → List (DataW H) → Bool := fun _ ds => decide (uptoBulkAll ds ≤ 1048576)
def OpenSpec.upto (s : _root_.Go.ChangeSpec) : _root_.Go.OpenSpec := { _root_.Go.OpenSpec.ofChange s with cond := some uptoSmall }

/-- 'pneumaticlaw09.SetcoverCounts', WHERE WHAT IT READS IS OF BULK AT MOST 1048576: true; the input reads as it did. -/
def setcoverCountsUptoRow : OpenClaim := { program := "ytknomkcdpcnmaaa", sum := "1d6d4bda10ef23be5e77bb31f4551b8517603cbf97b06852d6f91a803d16abdf", func := "pneumatic/pneumaticlaw09.SetcoverCounts", spec := "setcoverCounts", unfollowed := true, recurses := true, apart := false, narrowed := true }
def SetcoverCountsUptoSaid : Prop := setcoverCountsUptoRow.holds Try.pinned (OpenSpec.upto setcoverCountsSpec)

/-- 'pneumaticlaw09.SetcoverBounds', WHERE WHAT IT READS IS OF BULK AT MOST 1048576: true; the input reads as it did. -/
def setcoverBoundsUptoRow : OpenClaim := { program := "ytknomkcdpcnmaaa", sum := "1d6d4bda10ef23be5e77bb31f4551b8517603cbf97b06852d6f91a803d16abdf", func := "pneumatic/pneumaticlaw09.SetcoverBounds", spec := "setcoverBounds", unfollowed := true, recurses := true, apart := false, narrowed := true }
def SetcoverBoundsUptoSaid : Prop := setcoverBoundsUptoRow.holds Try.pinned (OpenSpec.upto setcoverBoundsSpec)

/-- 'pneumaticlaw09.SetcoverExactly', WHERE WHAT IT READS IS OF BULK AT MOST 1048576: true; the input reads as it did. -/
def setcoverExactlyUptoRow : OpenClaim := { program := "ytknomkcdpcnmaaa", sum := "1d6d4bda10ef23be5e77bb31f4551b8517603cbf97b06852d6f91a803d16abdf", func := "pneumatic/pneumaticlaw09.SetcoverExactly", spec := "setcoverExactly", unfollowed := true, recurses := true, apart := false, narrowed := true }
def SetcoverExactlyUptoSaid : Prop := setcoverExactlyUptoRow.holds Try.pinned (OpenSpec.upto setcoverExactlySpec)

/-- 'pneumaticlaw09.SetcoverGrows', WHERE WHAT IT READS IS OF BULK AT MOST 1048576: true; the input reads as it did. -/
def setcoverGrowsUptoRow : OpenClaim := { program := "ytknomkcdpcnmaaa", sum := "1d6d4bda10ef23be5e77bb31f4551b8517603cbf97b06852d6f91a803d16abdf", func := "pneumatic/pneumaticlaw09.SetcoverGrows", spec := "setcoverGrows", unfollowed := true, recurses := true, apart := false, narrowed := true }
def SetcoverGrowsUptoSaid : Prop := setcoverGrowsUptoRow.holds Try.pinned (OpenSpec.upto setcoverGrowsSpec)

/-- 'pneumaticlaw09.SetcoverFinds', WHERE WHAT IT READS IS OF BULK AT MOST 1048576: true; the input reads as it did. -/
def setcoverFindsUptoRow : OpenClaim := { program := "ytknomkcdpcnmaaa", sum := "1d6d4bda10ef23be5e77bb31f4551b8517603cbf97b06852d6f91a803d16abdf", func := "pneumatic/pneumaticlaw09.SetcoverFinds", spec := "setcoverFinds", unfollowed := true, recurses := true, apart := false, narrowed := true }
def SetcoverFindsUptoSaid : Prop := setcoverFindsUptoRow.holds Try.pinned (OpenSpec.upto setcoverFindsSpec)

/-- 'pneumaticlaw09.SetcoverChecks', WHERE WHAT IT READS IS OF BULK AT MOST 1048576: true; the input reads as it did. -/
def setcoverChecksUptoRow : OpenClaim := { program := "ytknomkcdpcnmaaa", sum := "1d6d4bda10ef23be5e77bb31f4551b8517603cbf97b06852d6f91a803d16abdf", func := "pneumatic/pneumaticlaw09.SetcoverChecks", spec := "setcoverChecks", unfollowed := true, recurses := true, apart := false, narrowed := true }
def SetcoverChecksUptoSaid : Prop := setcoverChecksUptoRow.holds Try.pinned (OpenSpec.upto setcoverChecksSpec)

/-- 'pneumaticlaw09.SetcoverBetween', WHERE WHAT IT READS IS OF BULK AT MOST 1048576: true; the input reads as it did. -/
def setcoverBetweenUptoRow : OpenClaim := { program := "ytknomkcdpcnmaaa", sum := "1d6d4bda10ef23be5e77bb31f4551b8517603cbf97b06852d6f91a803d16abdf", func := "pneumatic/pneumaticlaw09.SetcoverBetween", spec := "setcoverBetween", unfollowed := true, recurses := true, apart := false, narrowed := true }
def SetcoverBetweenUptoSaid : Prop := setcoverBetweenUptoRow.holds Try.pinned (OpenSpec.upto setcoverBetweenSpec)

/-- 'pneumaticlaw09.SetcoverNeeds', WHERE WHAT IT READS IS OF BULK AT MOST 1048576: true; the input reads as it did. -/
def setcoverNeedsUptoRow : OpenClaim := { program := "ytknomkcdpcnmaaa", sum := "1d6d4bda10ef23be5e77bb31f4551b8517603cbf97b06852d6f91a803d16abdf", func := "pneumatic/pneumaticlaw09.SetcoverNeeds", spec := "setcoverNeeds", unfollowed := true, recurses := true, apart := false, narrowed := true }
def SetcoverNeedsUptoSaid : Prop := setcoverNeedsUptoRow.holds Try.pinned (OpenSpec.upto setcoverNeedsSpec)

end Rows
end Go.Proofs.Ytknomkcdpcnmaaa
