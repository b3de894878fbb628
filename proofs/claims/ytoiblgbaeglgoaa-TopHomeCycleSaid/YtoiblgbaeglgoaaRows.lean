/-
  NARROWER THAN 'FOR EVERY INPUT', by the rows' own cells (each row's printed sentence says how): GuardDangers: loops · GuardFinds: loops · GuardTells: loops · HomingFinds: loops · HomingEases: loops · HomingReturns: loops · HomingChecks: loops · HomingLevels: loops · HomingFollows: loops · HomingLeads: loops · TopHomeSteps: loops · TopHomeCycle: loops.
  DERIVED. THE GIVEN ROWS OF THIS SEAT. 12 by the template 'for every input the law returns true; each argument reads behind the call as it read before'; 0 by the template 'total and deterministic' (their statements: YtoiblgbaeglgoaaTotals.lean).
  GIVEN WITH THE SEED: the statements are not yours to turn. If you find one false, say at which input.
  Laid BY PROGRAM, IN A SANDBOX (cutbox-rows.mjs): the forced cells as the released guide's own fill.sh prints them over the translation 8b8bcc12c6b7a9e4… (all of the seat's roots in one cut). By AI agents, Wed Nov 11 2026. No macro, syntax, notation, axiom, sorry.
-/
import Derived.Test.YtoiblgbaeglgoaaChecked
import GoSem.Claim
import GoSem.ClaimJoined
import GoSem.ClaimMapViews
import Derived.JoinedTies
import Derived.KernelRfl
namespace Go.Proofs.Ytoiblgbaeglgoaa
/- THE CELL 'sum', in the pinned program and in every row, IS THE sha256 OF THE DUMP (.gsa) THAT YtoiblgbaeglgoaaProg.lean LOADS. Nothing in Lean hashes anything: it is a label: what it is worth is what the hold of that sum in a sandbox is worth. -/
noncomputable def Try.pinned : Pinned := { name := "ytoiblgbaeglgoaa", sum := "8b8bcc12c6b7a9e4b591ccbc8c44a12bde302086c829997fff268fb97ba18a5f", checked := Try.checked }
namespace Rows
def none {H : Type} : Left H := { results := [], args := [] }

/-- 'pneumaticlaw49.GuardDangers': WHATEVER THE INPUT: true; the input reads as it did. -/
def guardDangersSpec : ChangeSpec := { name := "guardDangers", fn := fun _ => fun
  | [d1, d2] => { results := [.lit (.bool true)], args := [d1, d2] }
  | _ => none }
def guardDangersRow : OpenClaim := { program := "ytoiblgbaeglgoaa", sum := "8b8bcc12c6b7a9e4b591ccbc8c44a12bde302086c829997fff268fb97ba18a5f", func := "pneumatic/pneumaticlaw49.GuardDangers", spec := "guardDangers", unfollowed := true, recurses := true, loops := true, apart := false }
def GuardDangersSaid : Prop := guardDangersRow.holds Try.pinned (OpenSpec.ofChange guardDangersSpec)

/-- ITS FALSE NEIGHBOUR: 'it returns false'. Refute it at one input. -/
def guardDangersWrong : ChangeSpec := { name := "guardDangers", fn := fun _ => fun
  | [d1, d2] => { results := [.lit (.bool false)], args := [d1, d2] }
  | _ => none }
def GuardDangersWrongFalsely : Prop := guardDangersRow.holds Try.pinned (OpenSpec.ofChange guardDangersWrong)

/-- 'pneumaticlaw49.GuardFinds': WHATEVER THE INPUT: true; the input reads as it did. -/
def guardFindsSpec : ChangeSpec := { name := "guardFinds", fn := fun _ => fun
  | [d1, d2] => { results := [.lit (.bool true)], args := [d1, d2] }
  | _ => none }
def guardFindsRow : OpenClaim := { program := "ytoiblgbaeglgoaa", sum := "8b8bcc12c6b7a9e4b591ccbc8c44a12bde302086c829997fff268fb97ba18a5f", func := "pneumatic/pneumaticlaw49.GuardFinds", spec := "guardFinds", unfollowed := true, recurses := true, loops := true, apart := false }
def GuardFindsSaid : Prop := guardFindsRow.holds Try.pinned (OpenSpec.ofChange guardFindsSpec)

/-- ITS FALSE NEIGHBOUR: 'it returns false'. Refute it at one input. -/
def guardFindsWrong : ChangeSpec := { name := "guardFinds", fn := fun _ => fun
  | [d1, d2] => { results := [.lit (.bool false)], args := [d1, d2] }
  | _ => none }
def GuardFindsWrongFalsely : Prop := guardFindsRow.holds Try.pinned (OpenSpec.ofChange guardFindsWrong)

/-- 'pneumaticlaw49.GuardTells': WHATEVER THE INPUT: true; the input reads as it did. -/
def guardTellsSpec : ChangeSpec := { name := "guardTells", fn := fun _ => fun
  | [d1, d2, d3] => { results := [.lit (.bool true)], args := [d1, d2, d3] }
  | _ => none }
def guardTellsRow : OpenClaim := { program := "ytoiblgbaeglgoaa", sum := "8b8bcc12c6b7a9e4b591ccbc8c44a12bde302086c829997fff268fb97ba18a5f", func := "pneumatic/pneumaticlaw49.GuardTells", spec := "guardTells", unfollowed := true, recurses := true, loops := true, apart := false }
def GuardTellsSaid : Prop := guardTellsRow.holds Try.pinned (OpenSpec.ofChange guardTellsSpec)

/-- ITS FALSE NEIGHBOUR: 'it returns false'. Refute it at one input. -/
def guardTellsWrong : ChangeSpec := { name := "guardTells", fn := fun _ => fun
  | [d1, d2, d3] => { results := [.lit (.bool false)], args := [d1, d2, d3] }
  | _ => none }
def GuardTellsWrongFalsely : Prop := guardTellsRow.holds Try.pinned (OpenSpec.ofChange guardTellsWrong)

/-- 'pneumaticlaw50.HomingFinds': WHATEVER THE INPUT: true; the input reads as it did. -/
def homingFindsSpec : ChangeSpec := { name := "homingFinds", fn := fun _ => fun
  | [d1, d2] => { results := [.lit (.bool true)], args := [d1, d2] }
  | _ => none }
def homingFindsRow : OpenClaim := { program := "ytoiblgbaeglgoaa", sum := "8b8bcc12c6b7a9e4b591ccbc8c44a12bde302086c829997fff268fb97ba18a5f", func := "pneumatic/pneumaticlaw50.HomingFinds", spec := "homingFinds", unfollowed := true, recurses := true, loops := true, apart := false }
def HomingFindsSaid : Prop := homingFindsRow.holds Try.pinned (OpenSpec.ofChange homingFindsSpec)

/-- ITS FALSE NEIGHBOUR: 'it returns false'. Refute it at one input. -/
def homingFindsWrong : ChangeSpec := { name := "homingFinds", fn := fun _ => fun
  | [d1, d2] => { results := [.lit (.bool false)], args := [d1, d2] }
  | _ => none }
def HomingFindsWrongFalsely : Prop := homingFindsRow.holds Try.pinned (OpenSpec.ofChange homingFindsWrong)

/-- 'pneumaticlaw50.HomingEases': WHATEVER THE INPUT: true; the input reads as it did. -/
def homingEasesSpec : ChangeSpec := { name := "homingEases", fn := fun _ => fun
  | [d1, d2, d3] => { results := [.lit (.bool true)], args := [d1, d2, d3] }
  | _ => none }
def homingEasesRow : OpenClaim := { program := "ytoiblgbaeglgoaa", sum := "8b8bcc12c6b7a9e4b591ccbc8c44a12bde302086c829997fff268fb97ba18a5f", func := "pneumatic/pneumaticlaw50.HomingEases", spec := "homingEases", unfollowed := true, recurses := true, loops := true, apart := false }
def HomingEasesSaid : Prop := homingEasesRow.holds Try.pinned (OpenSpec.ofChange homingEasesSpec)

/-- ITS FALSE NEIGHBOUR: 'it returns false'. Refute it at one input. -/
def homingEasesWrong : ChangeSpec := { name := "homingEases", fn := fun _ => fun
  | [d1, d2, d3] => { results := [.lit (.bool false)], args := [d1, d2, d3] }
  | _ => none }
def HomingEasesWrongFalsely : Prop := homingEasesRow.holds Try.pinned (OpenSpec.ofChange homingEasesWrong)

/-- 'pneumaticlaw50.HomingReturns': WHATEVER THE INPUT: true; the input reads as it did. -/
def homingReturnsSpec : ChangeSpec := { name := "homingReturns", fn := fun _ => fun
  | [d1, d2] => { results := [.lit (.bool true)], args := [d1, d2] }
  | _ => none }
def homingReturnsRow : OpenClaim := { program := "ytoiblgbaeglgoaa", sum := "8b8bcc12c6b7a9e4b591ccbc8c44a12bde302086c829997fff268fb97ba18a5f", func := "pneumatic/pneumaticlaw50.HomingReturns", spec := "homingReturns", unfollowed := true, recurses := true, loops := true, apart := false }
def HomingReturnsSaid : Prop := homingReturnsRow.holds Try.pinned (OpenSpec.ofChange homingReturnsSpec)

/-- ITS FALSE NEIGHBOUR: 'it returns false'. Refute it at one input. -/
def homingReturnsWrong : ChangeSpec := { name := "homingReturns", fn := fun _ => fun
  | [d1, d2] => { results := [.lit (.bool false)], args := [d1, d2] }
  | _ => none }
def HomingReturnsWrongFalsely : Prop := homingReturnsRow.holds Try.pinned (OpenSpec.ofChange homingReturnsWrong)

/-- 'pneumaticlaw50.HomingChecks': WHATEVER THE INPUT: true; the input reads as it did. -/
def homingChecksSpec : ChangeSpec := { name := "homingChecks", fn := fun _ => fun
  | [d1, d2, d3] => { results := [.lit (.bool true)], args := [d1, d2, d3] }
  | _ => none }
def homingChecksRow : OpenClaim := { program := "ytoiblgbaeglgoaa", sum := "8b8bcc12c6b7a9e4b591ccbc8c44a12bde302086c829997fff268fb97ba18a5f", func := "pneumatic/pneumaticlaw50.HomingChecks", spec := "homingChecks", unfollowed := true, recurses := true, loops := true, apart := false }
def HomingChecksSaid : Prop := homingChecksRow.holds Try.pinned (OpenSpec.ofChange homingChecksSpec)

/-- ITS FALSE NEIGHBOUR: 'it returns false'. Refute it at one input. -/
def homingChecksWrong : ChangeSpec := { name := "homingChecks", fn := fun _ => fun
  | [d1, d2, d3] => { results := [.lit (.bool false)], args := [d1, d2, d3] }
  | _ => none }
def HomingChecksWrongFalsely : Prop := homingChecksRow.holds Try.pinned (OpenSpec.ofChange homingChecksWrong)

/-- 'pneumaticlaw50.HomingLevels': WHATEVER THE INPUT: true; the input reads as it did. -/
def homingLevelsSpec : ChangeSpec := { name := "homingLevels", fn := fun _ => fun
  | [d1, d2] => { results := [.lit (.bool true)], args := [d1, d2] }
  | _ => none }
def homingLevelsRow : OpenClaim := { program := "ytoiblgbaeglgoaa", sum := "8b8bcc12c6b7a9e4b591ccbc8c44a12bde302086c829997fff268fb97ba18a5f", func := "pneumatic/pneumaticlaw50.HomingLevels", spec := "homingLevels", unfollowed := true, recurses := true, loops := true, apart := false }
def HomingLevelsSaid : Prop := homingLevelsRow.holds Try.pinned (OpenSpec.ofChange homingLevelsSpec)

/-- ITS FALSE NEIGHBOUR: 'it returns false'. Refute it at one input. -/
def homingLevelsWrong : ChangeSpec := { name := "homingLevels", fn := fun _ => fun
  | [d1, d2] => { results := [.lit (.bool false)], args := [d1, d2] }
  | _ => none }
def HomingLevelsWrongFalsely : Prop := homingLevelsRow.holds Try.pinned (OpenSpec.ofChange homingLevelsWrong)

/-- 'pneumaticlaw50.HomingFollows': WHATEVER THE INPUT: true; the input reads as it did. -/
def homingFollowsSpec : ChangeSpec := { name := "homingFollows", fn := fun _ => fun
  | [d1, d2] => { results := [.lit (.bool true)], args := [d1, d2] }
  | _ => none }
def homingFollowsRow : OpenClaim := { program := "ytoiblgbaeglgoaa", sum := "8b8bcc12c6b7a9e4b591ccbc8c44a12bde302086c829997fff268fb97ba18a5f", func := "pneumatic/pneumaticlaw50.HomingFollows", spec := "homingFollows", unfollowed := true, recurses := true, loops := true, apart := false }
def HomingFollowsSaid : Prop := homingFollowsRow.holds Try.pinned (OpenSpec.ofChange homingFollowsSpec)

/-- ITS FALSE NEIGHBOUR: 'it returns false'. Refute it at one input. -/
def homingFollowsWrong : ChangeSpec := { name := "homingFollows", fn := fun _ => fun
  | [d1, d2] => { results := [.lit (.bool false)], args := [d1, d2] }
  | _ => none }
def HomingFollowsWrongFalsely : Prop := homingFollowsRow.holds Try.pinned (OpenSpec.ofChange homingFollowsWrong)

/-- 'pneumaticlaw50.HomingLeads': WHATEVER THE INPUT: true; the input reads as it did. -/
def homingLeadsSpec : ChangeSpec := { name := "homingLeads", fn := fun _ => fun
  | [d1, d2] => { results := [.lit (.bool true)], args := [d1, d2] }
  | _ => none }
def homingLeadsRow : OpenClaim := { program := "ytoiblgbaeglgoaa", sum := "8b8bcc12c6b7a9e4b591ccbc8c44a12bde302086c829997fff268fb97ba18a5f", func := "pneumatic/pneumaticlaw50.HomingLeads", spec := "homingLeads", unfollowed := true, recurses := true, loops := true, apart := false }
def HomingLeadsSaid : Prop := homingLeadsRow.holds Try.pinned (OpenSpec.ofChange homingLeadsSpec)

/-- ITS FALSE NEIGHBOUR: 'it returns false'. Refute it at one input. -/
def homingLeadsWrong : ChangeSpec := { name := "homingLeads", fn := fun _ => fun
  | [d1, d2] => { results := [.lit (.bool false)], args := [d1, d2] }
  | _ => none }
def HomingLeadsWrongFalsely : Prop := homingLeadsRow.holds Try.pinned (OpenSpec.ofChange homingLeadsWrong)

/-- 'pneumatictop.TopHomeSteps': WHATEVER THE INPUT: true; the input reads as it did. -/
def topHomeStepsSpec : ChangeSpec := { name := "topHomeSteps", fn := fun _ => fun
  | [d1, d2] => { results := [.lit (.bool true)], args := [d1, d2] }
  | _ => none }
def topHomeStepsRow : OpenClaim := { program := "ytoiblgbaeglgoaa", sum := "8b8bcc12c6b7a9e4b591ccbc8c44a12bde302086c829997fff268fb97ba18a5f", func := "pneumatic/pneumatictop.TopHomeSteps", spec := "topHomeSteps", unfollowed := true, recurses := true, loops := true, apart := false }
def TopHomeStepsSaid : Prop := topHomeStepsRow.holds Try.pinned (OpenSpec.ofChange topHomeStepsSpec)

/-- ITS FALSE NEIGHBOUR: 'it returns false'. Refute it at one input. -/
def topHomeStepsWrong : ChangeSpec := { name := "topHomeSteps", fn := fun _ => fun
  | [d1, d2] => { results := [.lit (.bool false)], args := [d1, d2] }
  | _ => none }
def TopHomeStepsWrongFalsely : Prop := topHomeStepsRow.holds Try.pinned (OpenSpec.ofChange topHomeStepsWrong)

/-- 'pneumatictop.TopHomeCycle': WHATEVER THE INPUT: true; the input reads as it did. -/
def topHomeCycleSpec : ChangeSpec := { name := "topHomeCycle", fn := fun _ => fun
  | [d1, d2] => { results := [.lit (.bool true)], args := [d1, d2] }
  | _ => none }
def topHomeCycleRow : OpenClaim := { program := "ytoiblgbaeglgoaa", sum := "8b8bcc12c6b7a9e4b591ccbc8c44a12bde302086c829997fff268fb97ba18a5f", func := "pneumatic/pneumatictop.TopHomeCycle", spec := "topHomeCycle", unfollowed := true, recurses := true, loops := true, apart := false }
def TopHomeCycleSaid : Prop := topHomeCycleRow.holds Try.pinned (OpenSpec.ofChange topHomeCycleSpec)

/-- ITS FALSE NEIGHBOUR: 'it returns false'. Refute it at one input. -/
def topHomeCycleWrong : ChangeSpec := { name := "topHomeCycle", fn := fun _ => fun
  | [d1, d2] => { results := [.lit (.bool false)], args := [d1, d2] }
  | _ => none }
def TopHomeCycleWrongFalsely : Prop := topHomeCycleRow.holds Try.pinned (OpenSpec.ofChange topHomeCycleWrong)

/- THE SECOND FORM. 'bulk': how many values and letters a reading holds, each counted each time it is reached (what is shared counts as often as it is met; a slice's spare places count too). A statement '..UptoSaid' is the law's where the arguments, and the package variables that the reading takes, are together of bulk at most 1048576: NARROWER than '..Said'. Prove '..Said' where nothing that the law and all that it calls make is longer than what came in: it says more and counts as full. Else prove '..UptoSaid'. A law counts once. -/
mutual
def uptoBulk {H : Type} : DataW H → Nat
  | .lit (.string bytes) => bytes.length + 1
  | .lit _ => 1
  | .nil => 1
  | .ptr d => uptoBulk d + 1
  | .slice elems spare => uptoBulkAll elems + uptoBulkAll spare + 1
  | .agg parts => uptoBulkAll parts + 1
  | .iface _ d => uptoBulk d + 1
  | .map entries => uptoBulkEntries entries + 1
  | .held _ => 1
def uptoBulkAll {H : Type} : List (DataW H) → Nat
  | [] => 0
  | d :: r => uptoBulk d + uptoBulkAll r
def uptoBulkEntries {H : Type} : List (Lit × DataW H) → Nat
  | [] => 0
  | x :: r => uptoBulkEntry x + uptoBulkEntries r
def uptoBulkEntry {H : Type} : Lit × DataW H → Nat
  | (.string bytes, d) => bytes.length + uptoBulk d + 1
  | (_, d) => uptoBulk d + 1
 end
def uptoSmall : (H : Type) → List (DataW H) → Bool := fun _ ds => decide (uptoBulkAll ds ≤ 1048576)
def OpenSpec.upto (s : _root_.Go.ChangeSpec) : _root_.Go.OpenSpec := { _root_.Go.OpenSpec.ofChange s with cond := some uptoSmall }

/-- 'pneumaticlaw49.GuardDangers', WHERE WHAT IT READS IS OF BULK AT MOST 1048576: true; the input reads as it did. -/
def guardDangersUptoRow : OpenClaim := { program := "ytoiblgbaeglgoaa", sum := "8b8bcc12c6b7a9e4b591ccbc8c44a12bde302086c829997fff268fb97ba18a5f", func := "pneumatic/pneumaticlaw49.GuardDangers", spec := "guardDangers", unfollowed := true, recurses := true, loops := true, apart := false, narrowed := true }
def GuardDangersUptoSaid : Prop := guardDangersUptoRow.holds Try.pinned (OpenSpec.upto guardDangersSpec)

/-- 'pneumaticlaw49.GuardFinds', WHERE WHAT IT READS IS OF BULK AT MOST 1048576: true; the input reads as it did. -/
def guardFindsUptoRow : OpenClaim := { program := "ytoiblgbaeglgoaa", sum := "8b8bcc12c6b7a9e4b591ccbc8c44a12bde302086c829997fff268fb97ba18a5f", func := "pneumatic/pneumaticlaw49.GuardFinds", spec := "guardFinds", unfollowed := true, recurses := true, loops := true, apart := false, narrowed := true }
def GuardFindsUptoSaid : Prop := guardFindsUptoRow.holds Try.pinned (OpenSpec.upto guardFindsSpec)

/-- 'pneumaticlaw49.GuardTells', WHERE WHAT IT READS IS OF BULK AT MOST 1048576: true; the input reads as it did. -/
def guardTellsUptoRow : OpenClaim := { program := "ytoiblgbaeglgoaa", sum := "8b8bcc12c6b7a9e4b591ccbc8c44a12bde302086c829997fff268fb97ba18a5f", func := "pneumatic/pneumaticlaw49.GuardTells", spec := "guardTells", unfollowed := true, recurses := true, loops := true, apart := false, narrowed := true }
def GuardTellsUptoSaid : Prop := guardTellsUptoRow.holds Try.pinned (OpenSpec.upto guardTellsSpec)

/-- 'pneumaticlaw50.HomingFinds', WHERE WHAT IT READS IS OF BULK AT MOST 1048576: true; the input reads as it did. -/
def homingFindsUptoRow : OpenClaim := { program := "ytoiblgbaeglgoaa", sum := "8b8bcc12c6b7a9e4b591ccbc8c44a12bde302086c829997fff268fb97ba18a5f", func := "pneumatic/pneumaticlaw50.HomingFinds", spec := "homingFinds", unfollowed := true, recurses := true, loops := true, apart := false, narrowed := true }
def HomingFindsUptoSaid : Prop := homingFindsUptoRow.holds Try.pinned (OpenSpec.upto homingFindsSpec)

/-- 'pneumaticlaw50.HomingEases', WHERE WHAT IT READS IS OF BULK AT MOST 1048576: true; the input reads as it did. -/
def homingEasesUptoRow : OpenClaim := { program := "ytoiblgbaeglgoaa", sum := "8b8bcc12c6b7a9e4b591ccbc8c44a12bde302086c829997fff268fb97ba18a5f", func := "pneumatic/pneumaticlaw50.HomingEases", spec := "homingEases", unfollowed := true, recurses := true, loops := true, apart := false, narrowed := true }
def HomingEasesUptoSaid : Prop := homingEasesUptoRow.holds Try.pinned (OpenSpec.upto homingEasesSpec)

/-- 'pneumaticlaw50.HomingReturns', WHERE WHAT IT READS IS OF BULK AT MOST 1048576: true; the input reads as it did. -/
def homingReturnsUptoRow : OpenClaim := { program := "ytoiblgbaeglgoaa", sum := "8b8bcc12c6b7a9e4b591ccbc8c44a12bde302086c829997fff268fb97ba18a5f", func := "pneumatic/pneumaticlaw50.HomingReturns", spec := "homingReturns", unfollowed := true, recurses := true, loops := true, apart := false, narrowed := true }
def HomingReturnsUptoSaid : Prop := homingReturnsUptoRow.holds Try.pinned (OpenSpec.upto homingReturnsSpec)

/-- 'pneumaticlaw50.HomingChecks', WHERE WHAT IT READS IS OF BULK AT MOST 1048576: true; the input reads as it did. -/
def homingChecksUptoRow : OpenClaim := { program := "ytoiblgbaeglgoaa", sum := "8b8bcc12c6b7a9e4b591ccbc8c44a12bde302086c829997fff268fb97ba18a5f", func := "pneumatic/pneumaticlaw50.HomingChecks", spec := "homingChecks", unfollowed := true, recurses := true, loops := true, apart := false, narrowed := true }
def HomingChecksUptoSaid : Prop := homingChecksUptoRow.holds Try.pinned (OpenSpec.upto homingChecksSpec)

/-- 'pneumaticlaw50.HomingLevels', WHERE WHAT IT READS IS OF BULK AT MOST 1048576: true; the input reads as it did. -/
def homingLevelsUptoRow : OpenClaim := { program := "ytoiblgbaeglgoaa", sum := "8b8bcc12c6b7a9e4b591ccbc8c44a12bde302086c829997fff268fb97ba18a5f", func := "pneumatic/pneumaticlaw50.HomingLevels", spec := "homingLevels", unfollowed := true, recurses := true, loops := true, apart := false, narrowed := true }
def HomingLevelsUptoSaid : Prop := homingLevelsUptoRow.holds Try.pinned (OpenSpec.upto homingLevelsSpec)

/-- 'pneumaticlaw50.HomingFollows', WHERE WHAT IT READS IS OF BULK AT MOST 1048576: true; the input reads as it did. -/
def homingFollowsUptoRow : OpenClaim := { program := "ytoiblgbaeglgoaa", sum := "8b8bcc12c6b7a9e4b591ccbc8c44a12bde302086c829997fff268fb97ba18a5f", func := "pneumatic/pneumaticlaw50.HomingFollows", spec := "homingFollows", unfollowed := true, recurses := true, loops := true, apart := false, narrowed := true }
def HomingFollowsUptoSaid : Prop := homingFollowsUptoRow.holds Try.pinned (OpenSpec.upto homingFollowsSpec)

/-- 'pneumaticlaw50.HomingLeads', WHERE WHAT IT READS IS OF BULK AT MOST 1048576: true; the input reads as it did. -/
def homingLeadsUptoRow : OpenClaim := { program := "ytoiblgbaeglgoaa", sum := "8b8bcc12c6b7a9e4b591ccbc8c44a12bde302086c829997fff268fb97ba18a5f", func := "pneumatic/pneumaticlaw50.HomingLeads", spec := "homingLeads", unfollowed := true, recurses := true, loops := true, apart := false, narrowed := true }
def HomingLeadsUptoSaid : Prop := homingLeadsUptoRow.holds Try.pinned (OpenSpec.upto homingLeadsSpec)

/-- 'pneumatictop.TopHomeSteps', WHERE WHAT IT READS IS OF BULK AT MOST 1048576: true; the input reads as it did. -/
def topHomeStepsUptoRow : OpenClaim := { program := "ytoiblgbaeglgoaa", sum := "8b8bcc12c6b7a9e4b591ccbc8c44a12bde302086c829997fff268fb97ba18a5f", func := "pneumatic/pneumatictop.TopHomeSteps", spec := "topHomeSteps", unfollowed := true, recurses := true, loops := true, apart := false, narrowed := true }
def TopHomeStepsUptoSaid : Prop := topHomeStepsUptoRow.holds Try.pinned (OpenSpec.upto topHomeStepsSpec)

/-- 'pneumatictop.TopHomeCycle', WHERE WHAT IT READS IS OF BULK AT MOST 1048576: true; the input reads as it did. -/
def topHomeCycleUptoRow : OpenClaim := { program := "ytoiblgbaeglgoaa", sum := "8b8bcc12c6b7a9e4b591ccbc8c44a12bde302086c829997fff268fb97ba18a5f", func := "pneumatic/pneumatictop.TopHomeCycle", spec := "topHomeCycle", unfollowed := true, recurses := true, loops := true, apart := false, narrowed := true }
def TopHomeCycleUptoSaid : Prop := topHomeCycleUptoRow.holds Try.pinned (OpenSpec.upto topHomeCycleSpec)

end Rows
end Go.Proofs.Ytoiblgbaeglgoaa
