/-
  NARROWER THAN 'FOR EVERY INPUT', by the rows' own cells (each row's printed sentence says how): BoolexpReads: loops · BoolexpValues: loops · BoolexpForms: loops · BoolexpSubstitutes: loops · BoolexpSimple: loops · BoolexpChecks: loops · BoolexpIgnores: loops.
  DERIVED. THE GIVEN ROWS OF THIS SEAT. 7 by the template 'for every input the law returns true; each argument reads behind the call as it read before'; 0 by the template 'total and deterministic' (their statements: YtmnkjofaodbokaaTotals.lean).
  GIVEN WITH THE SEED: the statements are not yours to turn. If you find one false, say at which input.
  Laid BY PROGRAM, IN A SANDBOX (cutbox-rows.mjs): the forced cells as the released guide's own fill.sh prints them over the translation edf45b544c64ec0c… (all of the seat's roots in one cut). By AI agents, Wed Nov 11 2026. No macro, syntax, notation, axiom, sorry.
-/
import Derived.Test.YtmnkjofaodbokaaChecked
import GoSem.Claim
import GoSem.ClaimJoined
import GoSem.ClaimMapViews
import Derived.JoinedTies
import Derived.KernelRfl
namespace Go.Proofs.Ytmnkjofaodbokaa
/- THE CELL 'sum', in the pinned program and in every row, IS THE sha256 OF THE DUMP (.gsa) THAT YtmnkjofaodbokaaProg.lean LOADS. Nothing in Lean hashes anything: it is a label: what it is worth is what the hold of that sum in a sandbox is worth. -/
noncomputable def Try.pinned : Pinned := { name := "ytmnkjofaodbokaa", sum := "edf45b544c64ec0c28f7c352e6cdd22b3ccc7ee91256a5c12903f166aeffceea", checked := Try.checked }
namespace Rows
def none {H : Type} : Left H := { results := [], args := [] }

/-- 'pneumaticlaw05.BoolexpReads': WHATEVER THE INPUT: true; the input reads as it did. -/
def boolexpReadsSpec : ChangeSpec := { name := "boolexpReads", fn := fun _ => fun
  | [d1, d2] => { results := [.lit (.bool true)], args := [d1, d2] }
  | _ => none }
def boolexpReadsRow : OpenClaim := { program := "ytmnkjofaodbokaa", sum := "edf45b544c64ec0c28f7c352e6cdd22b3ccc7ee91256a5c12903f166aeffceea", func := "pneumatic/pneumaticlaw05.BoolexpReads", spec := "boolexpReads", inPlace := ["internal/abi.NoEscape"], unfollowed := true, recurses := true, loops := true, apart := false }
def BoolexpReadsSaid : Prop := boolexpReadsRow.holds Try.pinned (OpenSpec.ofChange boolexpReadsSpec)

/-- ITS FALSE NEIGHBOUR: 'it returns false'. Refute it at one input. -/
def boolexpReadsWrong : ChangeSpec := { name := "boolexpReads", fn := fun _ => fun
  | [d1, d2] => { results := [.lit (.bool false)], args := [d1, d2] }
  | _ => none }
def BoolexpReadsWrongFalsely : Prop := boolexpReadsRow.holds Try.pinned (OpenSpec.ofChange boolexpReadsWrong)

/-- 'pneumaticlaw05.BoolexpValues': WHATEVER THE INPUT: true; the input reads as it did. -/
def boolexpValuesSpec : ChangeSpec := { name := "boolexpValues", fn := fun _ => fun
  | [d1, d2, d3] => { results := [.lit (.bool true)], args := [d1, d2, d3] }
  | _ => none }
def boolexpValuesRow : OpenClaim := { program := "ytmnkjofaodbokaa", sum := "edf45b544c64ec0c28f7c352e6cdd22b3ccc7ee91256a5c12903f166aeffceea", func := "pneumatic/pneumaticlaw05.BoolexpValues", spec := "boolexpValues", inPlace := ["internal/abi.NoEscape"], unfollowed := true, recurses := true, loops := true, apart := false }
def BoolexpValuesSaid : Prop := boolexpValuesRow.holds Try.pinned (OpenSpec.ofChange boolexpValuesSpec)

/-- ITS FALSE NEIGHBOUR: 'it returns false'. Refute it at one input. -/
def boolexpValuesWrong : ChangeSpec := { name := "boolexpValues", fn := fun _ => fun
  | [d1, d2, d3] => { results := [.lit (.bool false)], args := [d1, d2, d3] }
  | _ => none }
def BoolexpValuesWrongFalsely : Prop := boolexpValuesRow.holds Try.pinned (OpenSpec.ofChange boolexpValuesWrong)

/-- 'pneumaticlaw05.BoolexpForms': WHATEVER THE INPUT: true; the input reads as it did. -/
def boolexpFormsSpec : ChangeSpec := { name := "boolexpForms", fn := fun _ => fun
  | [d1, d2, d3] => { results := [.lit (.bool true)], args := [d1, d2, d3] }
  | _ => none }
def boolexpFormsRow : OpenClaim := { program := "ytmnkjofaodbokaa", sum := "edf45b544c64ec0c28f7c352e6cdd22b3ccc7ee91256a5c12903f166aeffceea", func := "pneumatic/pneumaticlaw05.BoolexpForms", spec := "boolexpForms", inPlace := ["internal/abi.NoEscape"], unfollowed := true, recurses := true, loops := true, apart := false }
def BoolexpFormsSaid : Prop := boolexpFormsRow.holds Try.pinned (OpenSpec.ofChange boolexpFormsSpec)

/-- ITS FALSE NEIGHBOUR: 'it returns false'. Refute it at one input. -/
def boolexpFormsWrong : ChangeSpec := { name := "boolexpForms", fn := fun _ => fun
  | [d1, d2, d3] => { results := [.lit (.bool false)], args := [d1, d2, d3] }
  | _ => none }
def BoolexpFormsWrongFalsely : Prop := boolexpFormsRow.holds Try.pinned (OpenSpec.ofChange boolexpFormsWrong)

/-- 'pneumaticlaw05.BoolexpSubstitutes': WHATEVER THE INPUT: true; the input reads as it did. -/
def boolexpSubstitutesSpec : ChangeSpec := { name := "boolexpSubstitutes", fn := fun _ => fun
  | [d1, d2, d3] => { results := [.lit (.bool true)], args := [d1, d2, d3] }
  | _ => none }
def boolexpSubstitutesRow : OpenClaim := { program := "ytmnkjofaodbokaa", sum := "edf45b544c64ec0c28f7c352e6cdd22b3ccc7ee91256a5c12903f166aeffceea", func := "pneumatic/pneumaticlaw05.BoolexpSubstitutes", spec := "boolexpSubstitutes", inPlace := ["internal/abi.NoEscape"], unfollowed := true, recurses := true, loops := true, apart := false }
def BoolexpSubstitutesSaid : Prop := boolexpSubstitutesRow.holds Try.pinned (OpenSpec.ofChange boolexpSubstitutesSpec)

/-- ITS FALSE NEIGHBOUR: 'it returns false'. Refute it at one input. -/
def boolexpSubstitutesWrong : ChangeSpec := { name := "boolexpSubstitutes", fn := fun _ => fun
  | [d1, d2, d3] => { results := [.lit (.bool false)], args := [d1, d2, d3] }
  | _ => none }
def BoolexpSubstitutesWrongFalsely : Prop := boolexpSubstitutesRow.holds Try.pinned (OpenSpec.ofChange boolexpSubstitutesWrong)

/-- 'pneumaticlaw05.BoolexpSimple': WHATEVER THE INPUT: true; the input reads as it did. -/
def boolexpSimpleSpec : ChangeSpec := { name := "boolexpSimple", fn := fun _ => fun
  | [d1, d2] => { results := [.lit (.bool true)], args := [d1, d2] }
  | _ => none }
def boolexpSimpleRow : OpenClaim := { program := "ytmnkjofaodbokaa", sum := "edf45b544c64ec0c28f7c352e6cdd22b3ccc7ee91256a5c12903f166aeffceea", func := "pneumatic/pneumaticlaw05.BoolexpSimple", spec := "boolexpSimple", inPlace := ["internal/abi.NoEscape"], unfollowed := true, recurses := true, loops := true, apart := false }
def BoolexpSimpleSaid : Prop := boolexpSimpleRow.holds Try.pinned (OpenSpec.ofChange boolexpSimpleSpec)

/-- ITS FALSE NEIGHBOUR: 'it returns false'. Refute it at one input. -/
def boolexpSimpleWrong : ChangeSpec := { name := "boolexpSimple", fn := fun _ => fun
  | [d1, d2] => { results := [.lit (.bool false)], args := [d1, d2] }
  | _ => none }
def BoolexpSimpleWrongFalsely : Prop := boolexpSimpleRow.holds Try.pinned (OpenSpec.ofChange boolexpSimpleWrong)

/-- 'pneumaticlaw05.BoolexpChecks': WHATEVER THE INPUT: true; the input reads as it did. -/
def boolexpChecksSpec : ChangeSpec := { name := "boolexpChecks", fn := fun _ => fun
  | [d1, d2] => { results := [.lit (.bool true)], args := [d1, d2] }
  | _ => none }
def boolexpChecksRow : OpenClaim := { program := "ytmnkjofaodbokaa", sum := "edf45b544c64ec0c28f7c352e6cdd22b3ccc7ee91256a5c12903f166aeffceea", func := "pneumatic/pneumaticlaw05.BoolexpChecks", spec := "boolexpChecks", inPlace := ["internal/abi.NoEscape"], unfollowed := true, recurses := true, loops := true, apart := false }
def BoolexpChecksSaid : Prop := boolexpChecksRow.holds Try.pinned (OpenSpec.ofChange boolexpChecksSpec)

/-- ITS FALSE NEIGHBOUR: 'it returns false'. Refute it at one input. -/
def boolexpChecksWrong : ChangeSpec := { name := "boolexpChecks", fn := fun _ => fun
  | [d1, d2] => { results := [.lit (.bool false)], args := [d1, d2] }
  | _ => none }
def BoolexpChecksWrongFalsely : Prop := boolexpChecksRow.holds Try.pinned (OpenSpec.ofChange boolexpChecksWrong)

/-- 'pneumaticlaw05.BoolexpIgnores': WHATEVER THE INPUT: true; the input reads as it did. -/
def boolexpIgnoresSpec : ChangeSpec := { name := "boolexpIgnores", fn := fun _ => fun
  | [d1, d2, d3] => { results := [.lit (.bool true)], args := [d1, d2, d3] }
  | _ => none }
def boolexpIgnoresRow : OpenClaim := { program := "ytmnkjofaodbokaa", sum := "edf45b544c64ec0c28f7c352e6cdd22b3ccc7ee91256a5c12903f166aeffceea", func := "pneumatic/pneumaticlaw05.BoolexpIgnores", spec := "boolexpIgnores", inPlace := ["internal/abi.NoEscape"], unfollowed := true, recurses := true, loops := true, apart := false }
def BoolexpIgnoresSaid : Prop := boolexpIgnoresRow.holds Try.pinned (OpenSpec.ofChange boolexpIgnoresSpec)

/-- ITS FALSE NEIGHBOUR: 'it returns false'. Refute it at one input. -/
def boolexpIgnoresWrong : ChangeSpec := { name := "boolexpIgnores", fn := fun _ => fun
  | [d1, d2, d3] => { results := [.lit (.bool false)], args := [d1, d2, d3] }
  | _ => none }
def BoolexpIgnoresWrongFalsely : Prop := boolexpIgnoresRow.holds Try.pinned (OpenSpec.ofChange boolexpIgnoresWrong)

/- THE SECOND FORM. 'bulk': how many values and letters a reading holds, each counted each time it is reached (what is shared counts as often as it is met; a slice's spare places count too). A statement '..UptoSaid' is the law's where the arguments, and the package variables that the reading takes, are together of bulk at most 1048576: NARROWER than '..Said'. Prove '..Said' where nothing that the law and all that it calls make is longer than what came in: it says more and counts as full. Else prove '..UptoSaid'. A law counts once. -/
mutual
def uptoBulk {H : Type} : DataW H → Nat
  | .lit (.string bytes) => bytes.length + 1
  | .lit _ => 1
  | .nil => 1
  | .ptr d => uptoBulk d + 1
  | .slice elems spare => uptoBulkAll elems + uptoBulkAll spare + 1
  | .agg parts => uptoBulkAll parts + 1
  | .iface _ d => uptoBulk d + 1
  | .map entries => uptoBulkEntries entries + 1
  | .held _ => 1
def uptoBulkAll {H : Type} : List (DataW H) → Nat
  | [] => 0
  | d :: r => uptoBulk d + uptoBulkAll r
def uptoBulkEntries {H : Type} : List (Lit × DataW H) → Nat
  | [] => 0
  | x :: r => uptoBulkEntry x + uptoBulkEntries r
def uptoBulkEntry {H : Type} : Lit × DataW H → Nat
  | (.string bytes, d) => bytes.length + uptoBulk d + 1
  | (_, d) => uptoBulk d + 1
 end
def uptoSmall : (H : Type) → List (DataW H) → Bool := fun _ ds => decide (uptoBulkAll ds ≤ 1048576)
def OpenSpec.upto (s : _root_.Go.ChangeSpec) : _root_.Go.OpenSpec := { _root_.Go.OpenSpec.ofChange s with cond := some uptoSmall }

/-- 'pneumaticlaw05.BoolexpReads', WHERE WHAT IT READS IS OF BULK AT MOST 1048576: true; the input reads as it did. -/
def boolexpReadsUptoRow : OpenClaim := { program := "ytmnkjofaodbokaa", sum := "edf45b544c64ec0c28f7c352e6cdd22b3ccc7ee91256a5c12903f166aeffceea", func := "pneumatic/pneumaticlaw05.BoolexpReads", spec := "boolexpReads", inPlace := ["internal/abi.NoEscape"], unfollowed := true, recurses := true, loops := true, apart := false, narrowed := true }
def BoolexpReadsUptoSaid : Prop := boolexpReadsUptoRow.holds Try.pinned (OpenSpec.upto boolexpReadsSpec)

/-- 'pneumaticlaw05.BoolexpValues', WHERE WHAT IT READS IS OF BULK AT MOST 1048576: true; the input reads as it did. -/
def boolexpValuesUptoRow : OpenClaim := { program := "ytmnkjofaodbokaa", sum := "edf45b544c64ec0c28f7c352e6cdd22b3ccc7ee91256a5c12903f166aeffceea", func := "pneumatic/pneumaticlaw05.BoolexpValues", spec := "boolexpValues", inPlace := ["internal/abi.NoEscape"], unfollowed := true, recurses := true, loops := true, apart := false, narrowed := true }
def BoolexpValuesUptoSaid : Prop := boolexpValuesUptoRow.holds Try.pinned (OpenSpec.upto boolexpValuesSpec)

/-- 'pneumaticlaw05.BoolexpForms', WHERE WHAT IT READS IS OF BULK AT MOST 1048576: true; the input reads as it did. -/
def boolexpFormsUptoRow : OpenClaim := { program := "ytmnkjofaodbokaa", sum := "edf45b544c64ec0c28f7c352e6cdd22b3ccc7ee91256a5c12903f166aeffceea", func := "pneumatic/pneumaticlaw05.BoolexpForms", spec := "boolexpForms", inPlace := ["internal/abi.NoEscape"], unfollowed := true, recurses := true, loops := true, apart := false, narrowed := true }
def BoolexpFormsUptoSaid : Prop := boolexpFormsUptoRow.holds Try.pinned (OpenSpec.upto boolexpFormsSpec)

/-- 'pneumaticlaw05.BoolexpSubstitutes', WHERE WHAT IT READS IS OF BULK AT MOST 1048576: true; the input reads as it did. -/
def boolexpSubstitutesUptoRow : OpenClaim := { program := "ytmnkjofaodbokaa", sum := "edf45b544c64ec0c28f7c352e6cdd22b3ccc7ee91256a5c12903f166aeffceea", func := "pneumatic/pneumaticlaw05.BoolexpSubstitutes", spec := "boolexpSubstitutes", inPlace := ["internal/abi.NoEscape"], unfollowed := true, recurses := true, loops := true, apart := false, narrowed := true }
def BoolexpSubstitutesUptoSaid : Prop := boolexpSubstitutesUptoRow.holds Try.pinned (OpenSpec.upto boolexpSubstitutesSpec)

/-- 'pneumaticlaw05.BoolexpSimple', WHERE WHAT IT READS IS OF BULK AT MOST 1048576: true; the input reads as it did. -/
def boolexpSimpleUptoRow : OpenClaim := { program := "ytmnkjofaodbokaa", sum := "edf45b544c64ec0c28f7c352e6cdd22b3ccc7ee91256a5c12903f166aeffceea", func := "pneumatic/pneumaticlaw05.BoolexpSimple", spec := "boolexpSimple", inPlace := ["internal/abi.NoEscape"], unfollowed := true, recurses := true, loops := true, apart := false, narrowed := true }
def BoolexpSimpleUptoSaid : Prop := boolexpSimpleUptoRow.holds Try.pinned (OpenSpec.upto boolexpSimpleSpec)

/-- 'pneumaticlaw05.BoolexpChecks', WHERE WHAT IT READS IS OF BULK AT MOST 1048576: true; the input reads as it did. -/
def boolexpChecksUptoRow : OpenClaim := { program := "ytmnkjofaodbokaa", sum := "edf45b544c64ec0c28f7c352e6cdd22b3ccc7ee91256a5c12903f166aeffceea", func := "pneumatic/pneumaticlaw05.BoolexpChecks", spec := "boolexpChecks", inPlace := ["internal/abi.NoEscape"], unfollowed := true, recurses := true, loops := true, apart := false, narrowed := true }
def BoolexpChecksUptoSaid : Prop := boolexpChecksUptoRow.holds Try.pinned (OpenSpec.upto boolexpChecksSpec)

/-- 'pneumaticlaw05.BoolexpIgnores', WHERE WHAT IT READS IS OF BULK AT MOST 1048576: true; the input reads as it did. -/
def boolexpIgnoresUptoRow : OpenClaim := { program := "ytmnkjofaodbokaa", sum := "edf45b544c64ec0c28f7c352e6cdd22b3ccc7ee91256a5c12903f166aeffceea", func := "pneumatic/pneumaticlaw05.BoolexpIgnores", spec := "boolexpIgnores", inPlace := ["internal/abi.NoEscape"], unfollowed := true, recurses := true, loops := true, apart := false, narrowed := true }
def BoolexpIgnoresUptoSaid : Prop := boolexpIgnoresUptoRow.holds Try.pinned (OpenSpec.upto boolexpIgnoresSpec)

end Rows
end Go.Proofs.Ytmnkjofaodbokaa
