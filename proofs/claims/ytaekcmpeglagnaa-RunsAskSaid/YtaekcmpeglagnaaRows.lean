/-
  No cell of these rows narrows 'for every input' (looked for: loops, veiled, ifaces, maps, wideKeys, modest, calm, conditions, laid).
  DERIVED. THE GIVEN ROWS OF THIS SEAT. 6 by the template 'for every input the law returns true; each argument reads behind the call as it read before'; 0 by the template 'total and deterministic' (their statements: YtaekcmpeglagnaaTotals.lean).
  GIVEN WITH THE SEED: the statements are not yours to turn. If you find one false, say at which input.
  Laid BY PROGRAM, IN A SANDBOX (cutbox-rows.mjs): the forced cells as the released guide's own fill.sh prints them over the translation 5baa5a5069b542a7… (all of the seat's roots in one cut). By AI agents, Wed Nov 11 2026. No macro, syntax, notation, axiom, sorry.
-/
import Derived.Test.YtaekcmpeglagnaaChecked
import GoSem.Claim
import GoSem.ClaimJoined
import GoSem.ClaimMapViews
import Derived.JoinedTies
import Derived.KernelRfl
namespace Go.Proofs.Ytaekcmpeglagnaa
/- THE CELL 'sum', in the pinned program and in every row, IS THE sha256 OF THE DUMP (.gsa) THAT YtaekcmpeglagnaaProg.lean LOADS. Nothing in Lean hashes anything: it is a label: what it is worth is what the hold of that sum in a sandbox is worth. -/
noncomputable def Try.pinned : Pinned := { name := "ytaekcmpeglagnaa", sum := "5baa5a5069b542a7f7d5f2f49aed0ebd8baad86f87ed7230c5e62ac162527c63", checked := Try.checked }
namespace Rows
def none {H : Type} : Left H := { results := [], args := [] }

/-- 'rootstocklaw08.RunsAsk': WHATEVER THE INPUT: true; the input reads as it did. -/
def runsAskSpec : ChangeSpec := { name := "runsAsk", fn := fun _ => fun
  | [d1, d2, d3] => { results := [.lit (.bool true)], args := [d1, d2, d3] }
  | _ => none }
def runsAskRow : OpenClaim := { program := "ytaekcmpeglagnaa", sum := "5baa5a5069b542a7f7d5f2f49aed0ebd8baad86f87ed7230c5e62ac162527c63", func := "rootstock/rootstocklaw08.RunsAsk", spec := "runsAsk", unfollowed := true, recurses := true, apart := false }
def RunsAskSaid : Prop := runsAskRow.holds Try.pinned (OpenSpec.ofChange runsAskSpec)

/-- ITS FALSE NEIGHBOUR: 'it returns false'. Refute it at one input. -/
def runsAskWrong : ChangeSpec := { name := "runsAsk", fn := fun _ => fun
  | [d1, d2, d3] => { results := [.lit (.bool false)], args := [d1, d2, d3] }
  | _ => none }
def RunsAskWrongFalsely : Prop := runsAskRow.holds Try.pinned (OpenSpec.ofChange runsAskWrong)

/-- 'rootstocklaw08.RunsOne': WHATEVER THE INPUT: true; the input reads as it did. -/
def runsOneSpec : ChangeSpec := { name := "runsOne", fn := fun _ => fun
  | [d1, d2] => { results := [.lit (.bool true)], args := [d1, d2] }
  | _ => none }
def runsOneRow : OpenClaim := { program := "ytaekcmpeglagnaa", sum := "5baa5a5069b542a7f7d5f2f49aed0ebd8baad86f87ed7230c5e62ac162527c63", func := "rootstock/rootstocklaw08.RunsOne", spec := "runsOne", unfollowed := true, recurses := true, apart := false }
def RunsOneSaid : Prop := runsOneRow.holds Try.pinned (OpenSpec.ofChange runsOneSpec)

/-- ITS FALSE NEIGHBOUR: 'it returns false'. Refute it at one input. -/
def runsOneWrong : ChangeSpec := { name := "runsOne", fn := fun _ => fun
  | [d1, d2] => { results := [.lit (.bool false)], args := [d1, d2] }
  | _ => none }
def RunsOneWrongFalsely : Prop := runsOneRow.holds Try.pinned (OpenSpec.ofChange runsOneWrong)

/-- 'rootstocklaw08.RunsLaws': WHATEVER THE INPUT: true; the input reads as it did. -/
def runsLawsSpec : ChangeSpec := { name := "runsLaws", fn := fun _ => fun
  | [d1, d2, d3] => { results := [.lit (.bool true)], args := [d1, d2, d3] }
  | _ => none }
def runsLawsRow : OpenClaim := { program := "ytaekcmpeglagnaa", sum := "5baa5a5069b542a7f7d5f2f49aed0ebd8baad86f87ed7230c5e62ac162527c63", func := "rootstock/rootstocklaw08.RunsLaws", spec := "runsLaws", unfollowed := true, recurses := true, apart := false }
def RunsLawsSaid : Prop := runsLawsRow.holds Try.pinned (OpenSpec.ofChange runsLawsSpec)

/-- ITS FALSE NEIGHBOUR: 'it returns false'. Refute it at one input. -/
def runsLawsWrong : ChangeSpec := { name := "runsLaws", fn := fun _ => fun
  | [d1, d2, d3] => { results := [.lit (.bool false)], args := [d1, d2, d3] }
  | _ => none }
def RunsLawsWrongFalsely : Prop := runsLawsRow.holds Try.pinned (OpenSpec.ofChange runsLawsWrong)

/-- 'rootstocklaw08.RunsTakes': WHATEVER THE INPUT: true; the input reads as it did. -/
def runsTakesSpec : ChangeSpec := { name := "runsTakes", fn := fun _ => fun
  | [d1, d2] => { results := [.lit (.bool true)], args := [d1, d2] }
  | _ => none }
def runsTakesRow : OpenClaim := { program := "ytaekcmpeglagnaa", sum := "5baa5a5069b542a7f7d5f2f49aed0ebd8baad86f87ed7230c5e62ac162527c63", func := "rootstock/rootstocklaw08.RunsTakes", spec := "runsTakes", unfollowed := true, recurses := true, apart := false }
def RunsTakesSaid : Prop := runsTakesRow.holds Try.pinned (OpenSpec.ofChange runsTakesSpec)

/-- ITS FALSE NEIGHBOUR: 'it returns false'. Refute it at one input. -/
def runsTakesWrong : ChangeSpec := { name := "runsTakes", fn := fun _ => fun
  | [d1, d2] => { results := [.lit (.bool false)], args := [d1, d2] }
  | _ => none }
def RunsTakesWrongFalsely : Prop := runsTakesRow.holds Try.pinned (OpenSpec.ofChange runsTakesWrong)

/-- 'rootstocklaw08.RunsSets': WHATEVER THE INPUT: true; the input reads as it did. -/
def runsSetsSpec : ChangeSpec := { name := "runsSets", fn := fun _ => fun
  | [d1, d2, d3] => { results := [.lit (.bool true)], args := [d1, d2, d3] }
  | _ => none }
def runsSetsRow : OpenClaim := { program := "ytaekcmpeglagnaa", sum := "5baa5a5069b542a7f7d5f2f49aed0ebd8baad86f87ed7230c5e62ac162527c63", func := "rootstock/rootstocklaw08.RunsSets", spec := "runsSets", unfollowed := true, recurses := true, apart := false }
def RunsSetsSaid : Prop := runsSetsRow.holds Try.pinned (OpenSpec.ofChange runsSetsSpec)

/-- ITS FALSE NEIGHBOUR: 'it returns false'. Refute it at one input. -/
def runsSetsWrong : ChangeSpec := { name := "runsSets", fn := fun _ => fun
  | [d1, d2, d3] => { results := [.lit (.bool false)], args := [d1, d2, d3] }
  | _ => none }
def RunsSetsWrongFalsely : Prop := runsSetsRow.holds Try.pinned (OpenSpec.ofChange runsSetsWrong)

/-- 'rootstocklaw08.RunsLogic': WHATEVER THE INPUT: true; the input reads as it did. -/
def runsLogicSpec : ChangeSpec := { name := "runsLogic", fn := fun _ => fun
  | [d1, d2, d3, d4] => { results := [.lit (.bool true)], args := [d1, d2, d3, d4] }
  | _ => none }
def runsLogicRow : OpenClaim := { program := "ytaekcmpeglagnaa", sum := "5baa5a5069b542a7f7d5f2f49aed0ebd8baad86f87ed7230c5e62ac162527c63", func := "rootstock/rootstocklaw08.RunsLogic", spec := "runsLogic", unfollowed := true, recurses := true, apart := false }
def RunsLogicSaid : Prop := runsLogicRow.holds Try.pinned (OpenSpec.ofChange runsLogicSpec)

/-- ITS FALSE NEIGHBOUR: 'it returns false'. Refute it at one input. -/
def runsLogicWrong : ChangeSpec := { name := "runsLogic", fn := fun _ => fun
  | [d1, d2, d3, d4] => { results := [.lit (.bool false)], args := [d1, d2, d3, d4] }
  | _ => none }
def RunsLogicWrongFalsely : Prop := runsLogicRow.holds Try.pinned (OpenSpec.ofChange runsLogicWrong)

/- THE SECOND FORM. 'bulk': how many values and letters a reading holds, each counted each time it is reached (what is shared counts as often as it is met; a slice's spare places count too). A statement '..UptoSaid' is the law's where the arguments, and the package variables that the reading takes, are together of bulk at most 1048576: NARROWER than '..Said'. Prove '..Said' where nothing that the law and all that it calls make is longer than what came in: it says more and counts as full. Else prove '..UptoSaid'. A law counts once. -/
mutual
def uptoBulk {H : Type} : DataW H → Nat
  | .lit (.string bytes) => bytes.length + 1
  | .lit _ => 1
  | .nil => 1
  | .ptr d => uptoBulk d + 1
  | .slice elems spare => uptoBulkAll elems + uptoBulkAll spare + 1
  | .agg parts => uptoBulkAll parts + 1
  | .iface _ d => uptoBulk d + 1
  | .map entries => uptoBulkEntries entries + 1
  | .held _ => 1
def uptoBulkAll {H : Type} : List (DataW H) → Nat
  | [] => 0
  | d :: r => uptoBulk d + uptoBulkAll r
def uptoBulkEntries {H : Type} : List (Lit × DataW H) → Nat
  | [] => 0
  | x :: r => uptoBulkEntry x + uptoBulkEntries r
def uptoBulkEntry {H : Type} : Lit × DataW H → Nat
  | (.string bytes, d) => bytes.length + uptoBulk d + 1
  | (_, d) => uptoBulk d + 1
 end
def uptoSmall : (H : Type) → List (DataW H) → Bool := fun _ ds => decide (uptoBulkAll ds ≤ 1048576)
def OpenSpec.upto (s : _root_.Go.ChangeSpec) : _root_.Go.OpenSpec := { _root_.Go.OpenSpec.ofChange s with cond := some uptoSmall }

/-- 'rootstocklaw08.RunsAsk', WHERE WHAT IT READS IS OF BULK AT MOST 1048576: true; the input reads as it did. -/
def runsAskUptoRow : OpenClaim := { program := "ytaekcmpeglagnaa", sum := "5baa5a5069b542a7f7d5f2f49aed0ebd8baad86f87ed7230c5e62ac162527c63", func := "rootstock/rootstocklaw08.RunsAsk", spec := "runsAsk", unfollowed := true, recurses := true, apart := false, narrowed := true }
def RunsAskUptoSaid : Prop := runsAskUptoRow.holds Try.pinned (OpenSpec.upto runsAskSpec)

/-- 'rootstocklaw08.RunsOne', WHERE WHAT IT READS IS OF BULK AT MOST 1048576: true; the input reads as it did. -/
def runsOneUptoRow : OpenClaim := { program := "ytaekcmpeglagnaa", sum := "5baa5a5069b542a7f7d5f2f49aed0ebd8baad86f87ed7230c5e62ac162527c63", func := "rootstock/rootstocklaw08.RunsOne", spec := "runsOne", unfollowed := true, recurses := true, apart := false, narrowed := true }
def RunsOneUptoSaid : Prop := runsOneUptoRow.holds Try.pinned (OpenSpec.upto runsOneSpec)

/-- 'rootstocklaw08.RunsLaws', WHERE WHAT IT READS IS OF BULK AT MOST 1048576: true; the input reads as it did. -/
def runsLawsUptoRow : OpenClaim := { program := "ytaekcmpeglagnaa", sum := "5baa5a5069b542a7f7d5f2f49aed0ebd8baad86f87ed7230c5e62ac162527c63", func := "rootstock/rootstocklaw08.RunsLaws", spec := "runsLaws", unfollowed := true, recurses := true, apart := false, narrowed := true }
def RunsLawsUptoSaid : Prop := runsLawsUptoRow.holds Try.pinned (OpenSpec.upto runsLawsSpec)

/-- 'rootstocklaw08.RunsTakes', WHERE WHAT IT READS IS OF BULK AT MOST 1048576: true; the input reads as it did. -/
def runsTakesUptoRow : OpenClaim := { program := "ytaekcmpeglagnaa", sum := "5baa5a5069b542a7f7d5f2f49aed0ebd8baad86f87ed7230c5e62ac162527c63", func := "rootstock/rootstocklaw08.RunsTakes", spec := "runsTakes", unfollowed := true, recurses := true, apart := false, narrowed := true }
def RunsTakesUptoSaid : Prop := runsTakesUptoRow.holds Try.pinned (OpenSpec.upto runsTakesSpec)

/-- 'rootstocklaw08.RunsSets', WHERE WHAT IT READS IS OF BULK AT MOST 1048576: true; the input reads as it did. -/
def runsSetsUptoRow : OpenClaim := { program := "ytaekcmpeglagnaa", sum := "5baa5a5069b542a7f7d5f2f49aed0ebd8baad86f87ed7230c5e62ac162527c63", func := "rootstock/rootstocklaw08.RunsSets", spec := "runsSets", unfollowed := true, recurses := true, apart := false, narrowed := true }
def RunsSetsUptoSaid : Prop := runsSetsUptoRow.holds Try.pinned (OpenSpec.upto runsSetsSpec)

/-- 'rootstocklaw08.RunsLogic', WHERE WHAT IT READS IS OF BULK AT MOST 1048576: true; the input reads as it did. -/
def runsLogicUptoRow : OpenClaim := { program := "ytaekcmpeglagnaa", sum := "5baa5a5069b542a7f7d5f2f49aed0ebd8baad86f87ed7230c5e62ac162527c63", func := "rootstock/rootstocklaw08.RunsLogic", spec := "runsLogic", unfollowed := true, recurses := true, apart := false, narrowed := true }
def RunsLogicUptoSaid : Prop := runsLogicUptoRow.holds Try.pinned (OpenSpec.upto runsLogicSpec)

end Rows
end Go.Proofs.Ytaekcmpeglagnaa
