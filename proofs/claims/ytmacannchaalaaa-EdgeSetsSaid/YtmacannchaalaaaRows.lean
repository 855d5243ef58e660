/-
  No cell of these rows narrows 'for every input' (looked for: loops, veiled, ifaces, maps, wideKeys, modest, calm, conditions, laid).
  DERIVED. THE GIVEN ROWS OF THIS SEAT. 8 by the template 'for every input the law returns true; each argument reads behind the call as it read before'; 0 by the template 'total and deterministic' (their statements: YtmacannchaalaaaTotals.lean).
  GIVEN WITH THE SEED: the statements are not yours to turn. If you find one false, say at which input.
  Laid BY PROGRAM, IN A SANDBOX (cutbox-rows.mjs): the forced cells as the released guide's own fill.sh prints them over the translation 99bd3480d25ba73f… (all of the seat's roots in one cut). By AI agents, Wed Nov 11 2026. No macro, syntax, notation, axiom, sorry.
-/
import Derived.Test.YtmacannchaalaaaChecked
import GoSem.Claim
import GoSem.ClaimJoined
import GoSem.ClaimMapViews
import Derived.JoinedTies
import Derived.KernelRfl
namespace Go.Proofs.Ytmacannchaalaaa
/- THE CELL 'sum', in the pinned program and in every row, IS THE sha256 OF THE DUMP (.gsa) THAT YtmacannchaalaaaProg.lean LOADS. Nothing in Lean hashes anything: it is a label: what it is worth is what the hold of that sum in a sandbox is worth. -/
noncomputable def Try.pinned : Pinned := { name := "ytmacannchaalaaa", sum := "99bd3480d25ba73f138d9249c6f631376709510740781ff19cdc7f3d61069301", checked := Try.checked }
namespace Rows
def none {H : Type} : Left H := { results := [], args := [] }

/-- 'rootstocklaw03.EdgeMakes': WHATEVER THE INPUT: true; the input reads as it did. -/
def edgeMakesSpec : ChangeSpec := { name := "edgeMakes", fn := fun _ => fun
  | [d1, d2] => { results := [.lit (.bool true)], args := [d1, d2] }
  | _ => none }
def edgeMakesRow : OpenClaim := { program := "ytmacannchaalaaa", sum := "99bd3480d25ba73f138d9249c6f631376709510740781ff19cdc7f3d61069301", func := "rootstock/rootstocklaw03.EdgeMakes", spec := "edgeMakes", inPlace := ["internal/abi.NoEscape", "internal/bytealg.MakeNoZero"], unfollowed := true, recurses := true, apart := false }
def EdgeMakesSaid : Prop := edgeMakesRow.holds Try.pinned (OpenSpec.ofChange edgeMakesSpec)

/-- ITS FALSE NEIGHBOUR: 'it returns false'. Refute it at one input. -/
def edgeMakesWrong : ChangeSpec := { name := "edgeMakes", fn := fun _ => fun
  | [d1, d2] => { results := [.lit (.bool false)], args := [d1, d2] }
  | _ => none }
def EdgeMakesWrongFalsely : Prop := edgeMakesRow.holds Try.pinned (OpenSpec.ofChange edgeMakesWrong)

/-- 'rootstocklaw03.EdgeKeys': WHATEVER THE INPUT: true; the input reads as it did. -/
def edgeKeysSpec : ChangeSpec := { name := "edgeKeys", fn := fun _ => fun
  | [d1, d2, d3] => { results := [.lit (.bool true)], args := [d1, d2, d3] }
  | _ => none }
def edgeKeysRow : OpenClaim := { program := "ytmacannchaalaaa", sum := "99bd3480d25ba73f138d9249c6f631376709510740781ff19cdc7f3d61069301", func := "rootstock/rootstocklaw03.EdgeKeys", spec := "edgeKeys", inPlace := ["internal/abi.NoEscape", "internal/bytealg.MakeNoZero"], unfollowed := true, recurses := true, apart := false }
def EdgeKeysSaid : Prop := edgeKeysRow.holds Try.pinned (OpenSpec.ofChange edgeKeysSpec)

/-- ITS FALSE NEIGHBOUR: 'it returns false'. Refute it at one input. -/
def edgeKeysWrong : ChangeSpec := { name := "edgeKeys", fn := fun _ => fun
  | [d1, d2, d3] => { results := [.lit (.bool false)], args := [d1, d2, d3] }
  | _ => none }
def EdgeKeysWrongFalsely : Prop := edgeKeysRow.holds Try.pinned (OpenSpec.ofChange edgeKeysWrong)

/-- 'rootstocklaw03.EdgeOrders': WHATEVER THE INPUT: true; the input reads as it did. -/
def edgeOrdersSpec : ChangeSpec := { name := "edgeOrders", fn := fun _ => fun
  | [d1, d2] => { results := [.lit (.bool true)], args := [d1, d2] }
  | _ => none }
def edgeOrdersRow : OpenClaim := { program := "ytmacannchaalaaa", sum := "99bd3480d25ba73f138d9249c6f631376709510740781ff19cdc7f3d61069301", func := "rootstock/rootstocklaw03.EdgeOrders", spec := "edgeOrders", inPlace := ["internal/abi.NoEscape", "internal/bytealg.MakeNoZero"], unfollowed := true, recurses := true, apart := false }
def EdgeOrdersSaid : Prop := edgeOrdersRow.holds Try.pinned (OpenSpec.ofChange edgeOrdersSpec)

/-- ITS FALSE NEIGHBOUR: 'it returns false'. Refute it at one input. -/
def edgeOrdersWrong : ChangeSpec := { name := "edgeOrders", fn := fun _ => fun
  | [d1, d2] => { results := [.lit (.bool false)], args := [d1, d2] }
  | _ => none }
def EdgeOrdersWrongFalsely : Prop := edgeOrdersRow.holds Try.pinned (OpenSpec.ofChange edgeOrdersWrong)

/-- 'rootstocklaw03.EdgeSets': WHATEVER THE INPUT: true; the input reads as it did. -/
def edgeSetsSpec : ChangeSpec := { name := "edgeSets", fn := fun _ => fun
  | [d1, d2, d3] => { results := [.lit (.bool true)], args := [d1, d2, d3] }
  | _ => none }
def edgeSetsRow : OpenClaim := { program := "ytmacannchaalaaa", sum := "99bd3480d25ba73f138d9249c6f631376709510740781ff19cdc7f3d61069301", func := "rootstock/rootstocklaw03.EdgeSets", spec := "edgeSets", inPlace := ["internal/abi.NoEscape", "internal/bytealg.MakeNoZero"], unfollowed := true, recurses := true, apart := false }
def EdgeSetsSaid : Prop := edgeSetsRow.holds Try.pinned (OpenSpec.ofChange edgeSetsSpec)

/-- ITS FALSE NEIGHBOUR: 'it returns false'. Refute it at one input. -/
def edgeSetsWrong : ChangeSpec := { name := "edgeSets", fn := fun _ => fun
  | [d1, d2, d3] => { results := [.lit (.bool false)], args := [d1, d2, d3] }
  | _ => none }
def EdgeSetsWrongFalsely : Prop := edgeSetsRow.holds Try.pinned (OpenSpec.ofChange edgeSetsWrong)

/-- 'rootstocklaw03.EdgeSteps': WHATEVER THE INPUT: true; the input reads as it did. -/
def edgeStepsSpec : ChangeSpec := { name := "edgeSteps", fn := fun _ => fun
  | [d1, d2, d3] => { results := [.lit (.bool true)], args := [d1, d2, d3] }
  | _ => none }
def edgeStepsRow : OpenClaim := { program := "ytmacannchaalaaa", sum := "99bd3480d25ba73f138d9249c6f631376709510740781ff19cdc7f3d61069301", func := "rootstock/rootstocklaw03.EdgeSteps", spec := "edgeSteps", inPlace := ["internal/abi.NoEscape", "internal/bytealg.MakeNoZero", "slices.overlaps[rootstock/api.Pair]"], unfollowed := true, recurses := true, apart := false }
def EdgeStepsSaid : Prop := edgeStepsRow.holds Try.pinned (OpenSpec.ofChange edgeStepsSpec)

/-- ITS FALSE NEIGHBOUR: 'it returns false'. Refute it at one input. -/
def edgeStepsWrong : ChangeSpec := { name := "edgeSteps", fn := fun _ => fun
  | [d1, d2, d3] => { results := [.lit (.bool false)], args := [d1, d2, d3] }
  | _ => none }
def EdgeStepsWrongFalsely : Prop := edgeStepsRow.holds Try.pinned (OpenSpec.ofChange edgeStepsWrong)

/-- 'rootstocklaw03.EdgeSorts': WHATEVER THE INPUT: true; the input reads as it did. -/
def edgeSortsSpec : ChangeSpec := { name := "edgeSorts", fn := fun _ => fun
  | [d1, d2, d3] => { results := [.lit (.bool true)], args := [d1, d2, d3] }
  | _ => none }
def edgeSortsRow : OpenClaim := { program := "ytmacannchaalaaa", sum := "99bd3480d25ba73f138d9249c6f631376709510740781ff19cdc7f3d61069301", func := "rootstock/rootstocklaw03.EdgeSorts", spec := "edgeSorts", inPlace := ["internal/abi.NoEscape", "internal/bytealg.MakeNoZero", "slices.overlaps[rootstock/api.Pair]"], unfollowed := true, recurses := true, apart := false }
def EdgeSortsSaid : Prop := edgeSortsRow.holds Try.pinned (OpenSpec.ofChange edgeSortsSpec)

/-- ITS FALSE NEIGHBOUR: 'it returns false'. Refute it at one input. -/
def edgeSortsWrong : ChangeSpec := { name := "edgeSorts", fn := fun _ => fun
  | [d1, d2, d3] => { results := [.lit (.bool false)], args := [d1, d2, d3] }
  | _ => none }
def EdgeSortsWrongFalsely : Prop := edgeSortsRow.holds Try.pinned (OpenSpec.ofChange edgeSortsWrong)

/-- 'rootstocklaw03.EdgeBack': WHATEVER THE INPUT: true; the input reads as it did. -/
def edgeBackSpec : ChangeSpec := { name := "edgeBack", fn := fun _ => fun
  | [d1, d2] => { results := [.lit (.bool true)], args := [d1, d2] }
  | _ => none }
def edgeBackRow : OpenClaim := { program := "ytmacannchaalaaa", sum := "99bd3480d25ba73f138d9249c6f631376709510740781ff19cdc7f3d61069301", func := "rootstock/rootstocklaw03.EdgeBack", spec := "edgeBack", inPlace := ["internal/abi.NoEscape", "internal/bytealg.MakeNoZero", "slices.overlaps[rootstock/api.Pair]"], unfollowed := true, recurses := true, apart := false }
def EdgeBackSaid : Prop := edgeBackRow.holds Try.pinned (OpenSpec.ofChange edgeBackSpec)

/-- ITS FALSE NEIGHBOUR: 'it returns false'. Refute it at one input. -/
def edgeBackWrong : ChangeSpec := { name := "edgeBack", fn := fun _ => fun
  | [d1, d2] => { results := [.lit (.bool false)], args := [d1, d2] }
  | _ => none }
def EdgeBackWrongFalsely : Prop := edgeBackRow.holds Try.pinned (OpenSpec.ofChange edgeBackWrong)

/-- 'rootstocklaw03.EdgeKept': WHATEVER THE INPUT: true; the input reads as it did. -/
def edgeKeptSpec : ChangeSpec := { name := "edgeKept", fn := fun _ => fun
  | [d1, d2, d3] => { results := [.lit (.bool true)], args := [d1, d2, d3] }
  | _ => none }
def edgeKeptRow : OpenClaim := { program := "ytmacannchaalaaa", sum := "99bd3480d25ba73f138d9249c6f631376709510740781ff19cdc7f3d61069301", func := "rootstock/rootstocklaw03.EdgeKept", spec := "edgeKept", inPlace := ["internal/abi.NoEscape", "internal/bytealg.MakeNoZero", "slices.overlaps[rootstock/api.Pair]"], unfollowed := true, recurses := true, apart := false }
def EdgeKeptSaid : Prop := edgeKeptRow.holds Try.pinned (OpenSpec.ofChange edgeKeptSpec)

/-- ITS FALSE NEIGHBOUR: 'it returns false'. Refute it at one input. -/
def edgeKeptWrong : ChangeSpec := { name := "edgeKept", fn := fun _ => fun
  | [d1, d2, d3] => { results := [.lit (.bool false)], args := [d1, d2, d3] }
  | _ => none }
def EdgeKeptWrongFalsely : Prop := edgeKeptRow.holds Try.pinned (OpenSpec.ofChange edgeKeptWrong)

/- THE SECOND FORM. 'bulk': how many values and letters a reading holds, each counted each time it is reached (what is shared counts as often as it is met; a slice's spare places count too). A statement '..UptoSaid' is the law's where the arguments, and the package variables that the reading takes, are together of bulk at most 1048576: NARROWER than '..Said'. Prove '..Said' where nothing that the law and all that it calls make is longer than what came in: it says more and counts as full. Else prove '..UptoSaid'. A law counts once. -/
mutual
def uptoBulk {H : Type} : DataW H → Nat
  | .lit (.string bytes) => bytes.length + 1
  | .lit _ => 1
  | .nil => 1
  | .ptr d => uptoBulk d + 1
  | .slice elems spare => uptoBulkAll elems + uptoBulkAll spare + 1
  | .agg parts => uptoBulkAll parts + 1
  | .iface _ d => uptoBulk d + 1
  | .map entries => uptoBulkEntries entries + 1
  | .held _ => 1
def uptoBulkAll {H : Type} : List (DataW H) → Nat
  | [] => 0
  | d :: r => uptoBulk d + uptoBulkAll r
def uptoBulkEntries {H : Type} : List (Lit × DataW H) → Nat
  | [] => 0
  | x :: r => uptoBulkEntry x + uptoBulkEntries r
def uptoBulkEntry {H : Type} : Lit × DataW H → Nat
  | (.string bytes, d) => bytes.length + uptoBulk d + 1
  | (_, d) => uptoBulk d + 1
 end
def uptoSmall : (H : Type) → List (DataW H) → Bool := fun _ ds => decide (uptoBulkAll ds ≤ 1048576)
def OpenSpec.upto (s : _root_.Go.ChangeSpec) : _root_.Go.OpenSpec := { _root_.Go.OpenSpec.ofChange s with cond := some uptoSmall }

/-- 'rootstocklaw03.EdgeMakes', WHERE WHAT IT READS IS OF BULK AT MOST 1048576: true; the input reads as it did. -/
def edgeMakesUptoRow : OpenClaim := { program := "ytmacannchaalaaa", sum := "99bd3480d25ba73f138d9249c6f631376709510740781ff19cdc7f3d61069301", func := "rootstock/rootstocklaw03.EdgeMakes", spec := "edgeMakes", inPlace := ["internal/abi.NoEscape", "internal/bytealg.MakeNoZero"], unfollowed := true, recurses := true, apart := false, narrowed := true }
def EdgeMakesUptoSaid : Prop := edgeMakesUptoRow.holds Try.pinned (OpenSpec.upto edgeMakesSpec)

/-- 'rootstocklaw03.EdgeKeys', WHERE WHAT IT READS IS OF BULK AT MOST 1048576: true; the input reads as it did. -/
def edgeKeysUptoRow : OpenClaim := { program := "ytmacannchaalaaa", sum := "99bd3480d25ba73f138d9249c6f631376709510740781ff19cdc7f3d61069301", func := "rootstock/rootstocklaw03.EdgeKeys", spec := "edgeKeys", inPlace := ["internal/abi.NoEscape", "internal/bytealg.MakeNoZero"], unfollowed := true, recurses := true, apart := false, narrowed := true }
def EdgeKeysUptoSaid : Prop := edgeKeysUptoRow.holds Try.pinned (OpenSpec.upto edgeKeysSpec)

/-- 'rootstocklaw03.EdgeOrders', WHERE WHAT IT READS IS OF BULK AT MOST 1048576: true; the input reads as it did. -/
def edgeOrdersUptoRow : OpenClaim := { program := "ytmacannchaalaaa", sum := "99bd3480d25ba73f138d9249c6f631376709510740781ff19cdc7f3d61069301", func := "rootstock/rootstocklaw03.EdgeOrders", spec := "edgeOrders", inPlace := ["internal/abi.NoEscape", "internal/bytealg.MakeNoZero"], unfollowed := true, recurses := true, apart := false, narrowed := true }
def EdgeOrdersUptoSaid : Prop := edgeOrdersUptoRow.holds Try.pinned (OpenSpec.upto edgeOrdersSpec)

/-- 'rootstocklaw03.EdgeSets', WHERE WHAT IT READS IS OF BULK AT MOST 1048576: true; the input reads as it did. -/
def edgeSetsUptoRow : OpenClaim := { program := "ytmacannchaalaaa", sum := "99bd3480d25ba73f138d9249c6f631376709510740781ff19cdc7f3d61069301", func := "rootstock/rootstocklaw03.EdgeSets", spec := "edgeSets", inPlace := ["internal/abi.NoEscape", "internal/bytealg.MakeNoZero"], unfollowed := true, recurses := true, apart := false, narrowed := true }
def EdgeSetsUptoSaid : Prop := edgeSetsUptoRow.holds Try.pinned (OpenSpec.upto edgeSetsSpec)

/-- 'rootstocklaw03.EdgeSteps', WHERE WHAT IT READS IS OF BULK AT MOST 1048576: true; the input reads as it did. -/
def edgeStepsUptoRow : OpenClaim := { program := "ytmacannchaalaaa", sum := "99bd3480d25ba73f138d9249c6f631376709510740781ff19cdc7f3d61069301", func := "rootstock/rootstocklaw03.EdgeSteps", spec := "edgeSteps", inPlace := ["internal/abi.NoEscape", "internal/bytealg.MakeNoZero", "slices.overlaps[rootstock/api.Pair]"], unfollowed := true, recurses := true, apart := false, narrowed := true }
def EdgeStepsUptoSaid : Prop := edgeStepsUptoRow.holds Try.pinned (OpenSpec.upto edgeStepsSpec)

/-- 'rootstocklaw03.EdgeSorts', WHERE WHAT IT READS IS OF BULK AT MOST 1048576: true; the input reads as it did. -/
def edgeSortsUptoRow : OpenClaim := { program := "ytmacannchaalaaa", sum := "99bd3480d25ba73f138d9249c6f631376709510740781ff19cdc7f3d61069301", func := "rootstock/rootstocklaw03.EdgeSorts", spec := "edgeSorts", inPlace := ["internal/abi.NoEscape", "internal/bytealg.MakeNoZero", "slices.overlaps[rootstock/api.Pair]"], unfollowed := true, recurses := true, apart := false, narrowed := true }
def EdgeSortsUptoSaid : Prop := edgeSortsUptoRow.holds Try.pinned (OpenSpec.upto edgeSortsSpec)

/-- 'rootstocklaw03.EdgeBack', WHERE WHAT IT READS IS OF BULK AT MOST 1048576: true; the input reads as it did. -/
def edgeBackUptoRow : OpenClaim := { program := "ytmacannchaalaaa", sum := "99bd3480d25ba73f138d9249c6f631376709510740781ff19cdc7f3d61069301", func := "rootstock/rootstocklaw03.EdgeBack", spec := "edgeBack", inPlace := ["internal/abi.NoEscape", "internal/bytealg.MakeNoZero", "slices.overlaps[rootstock/api.Pair]"], unfollowed := true, recurses := true, apart := false, narrowed := true }
def EdgeBackUptoSaid : Prop := edgeBackUptoRow.holds Try.pinned (OpenSpec.upto edgeBackSpec)

/-- 'rootstocklaw03.EdgeKept', WHERE WHAT IT READS IS OF BULK AT MOST 1048576: true; the input reads as it did. -/
def edgeKeptUptoRow : OpenClaim := { program := "ytmacannchaalaaa", sum := "99bd3480d25ba73f138d9249c6f631376709510740781ff19cdc7f3d61069301", func := "rootstock/rootstocklaw03.EdgeKept", spec := "edgeKept", inPlace := ["internal/abi.NoEscape", "internal/bytealg.MakeNoZero", "slices.overlaps[rootstock/api.Pair]"], unfollowed := true, recurses := true, apart := false, narrowed := true }
def EdgeKeptUptoSaid : Prop := edgeKeptUptoRow.holds Try.pinned (OpenSpec.upto edgeKeptSpec)

end Rows
end Go.Proofs.Ytmacannchaalaaa
