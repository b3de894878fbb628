/-
  No cell of these rows narrows 'for every input' (looked for: loops, veiled, ifaces, maps, wideKeys, modest, calm, conditions, laid).
  DERIVED. THE GIVEN ROWS OF THIS SEAT. 3 by the template 'for every input the law returns true; each argument reads behind the call as it read before'; 0 by the template 'total and deterministic' (their statements: YtfbeableaihooaaTotals.lean).
  GIVEN WITH THE SEED: the statements are not yours to turn. If you find one false, say at which input.
  Laid BY PROGRAM, IN A SANDBOX (cutbox-rows.mjs): the forced cells as the released guide's own fill.sh prints them over the translation d11161350d12b49c… (all of the seat's roots in one cut). By AI agents, Wed Nov 11 2026. No macro, syntax, notation, axiom, sorry.
-/
import Derived.Test.YtfbeableaihooaaChecked
import GoSem.Claim
import GoSem.ClaimJoined
import GoSem.ClaimMapViews
import Derived.JoinedTies
import Derived.KernelRfl
namespace Go.Proofs.Ytfbeableaihooaa
/- THE CELL 'sum', in the pinned program and in every row, IS THE sha256 OF THE DUMP (.gsa) THAT YtfbeableaihooaaProg.lean LOADS. Nothing in Lean hashes anything: it is a label: what it is worth is what the hold of that sum in a sandbox is worth. -/
noncomputable def Try.pinned : Pinned := { name := "ytfbeableaihooaa", sum := "d11161350d12b49c63920c982690d6fbf41be3ad8ff2079c0707abb458969932", checked := Try.checked }
namespace Rows
def none {H : Type} : Left H := { results := [], args := [] }

/-- 'pneumatictop.TopPathsBounds': WHATEVER THE INPUT: true; the input reads as it did. -/
def topPathsBoundsSpec : ChangeSpec := { name := "topPathsBounds", fn := fun _ => fun
  | [d1, d2] => { results := [.lit (.bool true)], args := [d1, d2] }
  | _ => none }
def topPathsBoundsRow : OpenClaim := { program := "ytfbeableaihooaa", sum := "d11161350d12b49c63920c982690d6fbf41be3ad8ff2079c0707abb458969932", func := "pneumatic/pneumatictop.TopPathsBounds", spec := "topPathsBounds", unfollowed := true, recurses := true, apart := false }
def TopPathsBoundsSaid : Prop := topPathsBoundsRow.holds Try.pinned (OpenSpec.ofChange topPathsBoundsSpec)

/-- ITS FALSE NEIGHBOUR: 'it returns false'. Refute it at one input. -/
def topPathsBoundsWrong : ChangeSpec := { name := "topPathsBounds", fn := fun _ => fun
  | [d1, d2] => { results := [.lit (.bool false)], args := [d1, d2] }
  | _ => none }
def TopPathsBoundsWrongFalsely : Prop := topPathsBoundsRow.holds Try.pinned (OpenSpec.ofChange topPathsBoundsWrong)

/-- 'pneumatictop.TopPathsCovers': WHATEVER THE INPUT: true; the input reads as it did. -/
def topPathsCoversSpec : ChangeSpec := { name := "topPathsCovers", fn := fun _ => fun
  | [d] => { results := [.lit (.bool true)], args := [d] }
  | _ => none }
def topPathsCoversRow : OpenClaim := { program := "ytfbeableaihooaa", sum := "d11161350d12b49c63920c982690d6fbf41be3ad8ff2079c0707abb458969932", func := "pneumatic/pneumatictop.TopPathsCovers", spec := "topPathsCovers", unfollowed := true, recurses := true, apart := false }
def TopPathsCoversSaid : Prop := topPathsCoversRow.holds Try.pinned (OpenSpec.ofChange topPathsCoversSpec)

/-- ITS FALSE NEIGHBOUR: 'it returns false'. Refute it at one input. -/
def topPathsCoversWrong : ChangeSpec := { name := "topPathsCovers", fn := fun _ => fun
  | [d] => { results := [.lit (.bool false)], args := [d] }
  | _ => none }
def TopPathsCoversWrongFalsely : Prop := topPathsCoversRow.holds Try.pinned (OpenSpec.ofChange topPathsCoversWrong)

/-- 'pneumatictop.TopPathsLayers': WHATEVER THE INPUT: true; the input reads as it did. -/
def topPathsLayersSpec : ChangeSpec := { name := "topPathsLayers", fn := fun _ => fun
  | [d] => { results := [.lit (.bool true)], args := [d] }
  | _ => none }
def topPathsLayersRow : OpenClaim := { program := "ytfbeableaihooaa", sum := "d11161350d12b49c63920c982690d6fbf41be3ad8ff2079c0707abb458969932", func := "pneumatic/pneumatictop.TopPathsLayers", spec := "topPathsLayers", unfollowed := true, recurses := true, apart := false }
def TopPathsLayersSaid : Prop := topPathsLayersRow.holds Try.pinned (OpenSpec.ofChange topPathsLayersSpec)

/-- ITS FALSE NEIGHBOUR: 'it returns false'. Refute it at one input. -/
def topPathsLayersWrong : ChangeSpec := { name := "topPathsLayers", fn := fun _ => fun
  | [d] => { results := [.lit (.bool false)], args := [d] }
  | _ => none }
def TopPathsLayersWrongFalsely : Prop := topPathsLayersRow.holds Try.pinned (OpenSpec.ofChange topPathsLayersWrong)

/- THE SECOND FORM. 'bulk': how many values and letters a reading holds, each counted each time it is reached (what is shared counts as often as it is met; a slice's spare places count too). A statement '..UptoSaid' is the law's where the arguments, and the package variables that the reading takes, are together of bulk at most 1048576: NARROWER than '..Said'. Prove '..Said' where nothing that the law and all that it calls make is longer than what came in: it says more and counts as full. Else prove '..UptoSaid'. A law counts once. -/
mutual
def uptoBulk {H : Type} : DataW H → Nat
  | .lit (.string bytes) => bytes.length + 1
  | .lit _ => 1
  | .nil => 1
  | .ptr d => uptoBulk d + 1
  | .slice elems spare => uptoBulkAll elems + uptoBulkAll spare + 1
  | .agg parts => uptoBulkAll parts + 1
  | .iface _ d => uptoBulk d + 1
  | .map entries => uptoBulkEntries entries + 1
  | .held _ => 1
def uptoBulkAll {H : Type} : List (DataW H) → Nat
  | [] => 0
  | d :: r => uptoBulk d + uptoBulkAll r
def uptoBulkEntries {H : Type} : List (Lit × DataW H) → Nat
  | [] => 0
  | x :: r => uptoBulkEntry x + uptoBulkEntries r
def uptoBulkEntry {H : Type} : Lit × DataW H → Nat
  | (.string bytes, d) => bytes.length + uptoBulk d + 1
  | (_, d) => uptoBulk d + 1
 end
def uptoSmall : (H : Type) → List (DataW H) → Bool := fun _ ds => decide (uptoBulkAll ds ≤ 1048576)
def OpenSpec.upto (s : _root_.Go.ChangeSpec) : _root_.Go.OpenSpec := { _root_.Go.OpenSpec.ofChange s with cond := some uptoSmall }

/-- 'pneumatictop.TopPathsBounds', WHERE WHAT IT READS IS OF BULK AT MOST 1048576: true; the input reads as it did. -/
def topPathsBoundsUptoRow : OpenClaim := { program := "ytfbeableaihooaa", sum := "d11161350d12b49c63920c982690d6fbf41be3ad8ff2079c0707abb458969932", func := "pneumatic/pneumatictop.TopPathsBounds", spec := "topPathsBounds", unfollowed := true, recurses := true, apart := false, narrowed := true }
def TopPathsBoundsUptoSaid : Prop := topPathsBoundsUptoRow.holds Try.pinned (OpenSpec.upto topPathsBoundsSpec)

/-- 'pneumatictop.TopPathsCovers', WHERE WHAT IT READS IS OF BULK AT MOST 1048576: true; the input reads as it did. -/
def topPathsCoversUptoRow : OpenClaim := { program := "ytfbeableaihooaa", sum := "d11161350d12b49c63920c982690d6fbf41be3ad8ff2079c0707abb458969932", func := "pneumatic/pneumatictop.TopPathsCovers", spec := "topPathsCovers", unfollowed := true, recurses := true, apart := false, narrowed := true }
def TopPathsCoversUptoSaid : Prop := topPathsCoversUptoRow.holds Try.pinned (OpenSpec.upto topPathsCoversSpec)

/-- 'pneumatictop.TopPathsLayers', WHERE WHAT IT READS IS OF BULK AT MOST 1048576: true; the input reads as it did. -/
def topPathsLayersUptoRow : OpenClaim := { program := "ytfbeableaihooaa", sum := "d11161350d12b49c63920c982690d6fbf41be3ad8ff2079c0707abb458969932", func := "pneumatic/pneumatictop.TopPathsLayers", spec := "topPathsLayers", unfollowed := true, recurses := true, apart := false, narrowed := true }
def TopPathsLayersUptoSaid : Prop := topPathsLayersUptoRow.holds Try.pinned (OpenSpec.upto topPathsLayersSpec)

end Rows
end Go.Proofs.Ytfbeableaihooaa
