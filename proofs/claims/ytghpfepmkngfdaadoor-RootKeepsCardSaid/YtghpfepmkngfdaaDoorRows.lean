/-
  NARROWER THAN 'FOR EVERY INPUT', by the rows' own cells (each row's printed sentence says how): RootEncodes: laid · RootPicks: laid · RootTorn: laid · RootNewer: laid · RootNone: laid · RootKeeps: laid.
  DERIVED. THE GIVEN ROWS OF THIS SEAT. 6 by the template 'for every input the law returns true; each argument reads behind the call as it read before'; 0 by the template 'total and deterministic' (their statements: YtghpfepmkngfdaaDoorTotals.lean).
  GIVEN WITH THE SEED: the statements are not yours to turn. If you find one false, say at which input.
  Laid BY PROGRAM, IN A SANDBOX (cutbox-rows.mjs): the forced cells as the released guide's own fill.sh prints them over the translation d10eb5b376751df2… (all of the seat's roots in one cut). By AI agents, Wed Nov 11 2026. No macro, syntax, notation, axiom, sorry.
-/
import Derived.Test.YtghpfepmkngfdaaDoorChecked
import GoSem.Claim
import GoSem.ClaimJoined
import GoSem.ClaimMapViews
import Derived.JoinedTies
import Derived.KernelRfl
namespace Go.Proofs.YtghpfepmkngfdaaDoor
/- THE CELL 'sum', in the pinned program and in every row, IS THE sha256 OF THE DUMP (.gsa) THAT YtghpfepmkngfdaaDoorProg.lean LOADS. Nothing in Lean hashes anything: it is a label: what it is worth is what the hold of that sum in a sandbox is worth. -/
noncomputable def Tryd.pinned : Pinned := { name := "ytghpfepmkngfdaadoor", sum := "d10eb5b376751df28f8fccf7b5cf7d6773d6930b0c4feb06d9fbf75e92fee83f", checked := Tryd.checked }
namespace Rows
def none {H : Type} : Left H := { results := [], args := [] }

/- WHAT THE LISTED PACKAGE-LEVEL VARIABLES READ AS WHEN THE CALL BEGINS. Each datum BY PROGRAM (the guide's laid-datum.mjs) off the statement by which the dump's own 'gosem.cut.vars' lays the variable. In a bare row this is a premise. The card (YtghpfepmkngfdaaDoorCards.lean) ties it to the program's text. -/
def laid_rootstock_crc_halves {H : Type} : DataW H := .agg [.lit (.int .u32 0), .lit (.int .u32 498536548), .lit (.int .u32 997073096), .lit (.int .u32 651767980), .lit (.int .u32 1994146192), .lit (.int .u32 1802195444), .lit (.int .u32 1303535960), .lit (.int .u32 1342533948), .lit (.int .u32 3988292384), .lit (.int .u32 4027552580), .lit (.int .u32 3604390888), .lit (.int .u32 3412177804), .lit (.int .u32 2607071920), .lit (.int .u32 2262029012), .lit (.int .u32 2685067896), .lit (.int .u32 3183342108)]

/-- 'rootstocklaw07.RootEncodes': WHATEVER THE INPUT: true; the input reads as it did. -/
def rootEncodesSpec : ChangeSpec := { name := "rootEncodes", fn := fun _ => fun
  | [d1, d2] => { results := [.lit (.bool true)], args := [d1, d2] }
  | _ => none }
def rootEncodesRow : OpenClaim := { program := "ytghpfepmkngfdaadoor", sum := "d10eb5b376751df28f8fccf7b5cf7d6773d6930b0c4feb06d9fbf75e92fee83f", func := "rootstock/rootstocklaw07.RootEncodes", spec := "rootEncodes", inPlace := ["internal/abi.NoEscape", "internal/bytealg.MakeNoZero"], named := ["rootstock/crc.halves"], apart := false, laid := [("rootstock/crc.halves", laid_rootstock_crc_halves)] }
def RootEncodesSaid : Prop := rootEncodesRow.holds Tryd.pinned (OpenSpec.ofChange rootEncodesSpec)

/-- ITS FALSE NEIGHBOUR: 'it returns false'. Refute it at one input. -/
def rootEncodesWrong : ChangeSpec := { name := "rootEncodes", fn := fun _ => fun
  | [d1, d2] => { results := [.lit (.bool false)], args := [d1, d2] }
  | _ => none }
def RootEncodesWrongFalsely : Prop := rootEncodesRow.holds Tryd.pinned (OpenSpec.ofChange rootEncodesWrong)

/-- 'rootstocklaw07.RootPicks': WHATEVER THE INPUT: true; the input reads as it did. -/
def rootPicksSpec : ChangeSpec := { name := "rootPicks", fn := fun _ => fun
  | [d1, d2] => { results := [.lit (.bool true)], args := [d1, d2] }
  | _ => none }
def rootPicksRow : OpenClaim := { program := "ytghpfepmkngfdaadoor", sum := "d10eb5b376751df28f8fccf7b5cf7d6773d6930b0c4feb06d9fbf75e92fee83f", func := "rootstock/rootstocklaw07.RootPicks", spec := "rootPicks", inPlace := ["internal/abi.NoEscape", "internal/bytealg.MakeNoZero"], named := ["rootstock/crc.halves"], apart := false, laid := [("rootstock/crc.halves", laid_rootstock_crc_halves)] }
def RootPicksSaid : Prop := rootPicksRow.holds Tryd.pinned (OpenSpec.ofChange rootPicksSpec)

/-- ITS FALSE NEIGHBOUR: 'it returns false'. Refute it at one input. -/
def rootPicksWrong : ChangeSpec := { name := "rootPicks", fn := fun _ => fun
  | [d1, d2] => { results := [.lit (.bool false)], args := [d1, d2] }
  | _ => none }
def RootPicksWrongFalsely : Prop := rootPicksRow.holds Tryd.pinned (OpenSpec.ofChange rootPicksWrong)

/-- 'rootstocklaw07.RootTorn': WHATEVER THE INPUT: true; the input reads as it did. -/
def rootTornSpec : ChangeSpec := { name := "rootTorn", fn := fun _ => fun
  | [d1, d2, d3] => { results := [.lit (.bool true)], args := [d1, d2, d3] }
  | _ => none }
def rootTornRow : OpenClaim := { program := "ytghpfepmkngfdaadoor", sum := "d10eb5b376751df28f8fccf7b5cf7d6773d6930b0c4feb06d9fbf75e92fee83f", func := "rootstock/rootstocklaw07.RootTorn", spec := "rootTorn", inPlace := ["internal/abi.NoEscape", "internal/bytealg.MakeNoZero"], named := ["rootstock/crc.halves"], apart := false, laid := [("rootstock/crc.halves", laid_rootstock_crc_halves)] }
def RootTornSaid : Prop := rootTornRow.holds Tryd.pinned (OpenSpec.ofChange rootTornSpec)

/-- ITS FALSE NEIGHBOUR: 'it returns false'. Refute it at one input. -/
def rootTornWrong : ChangeSpec := { name := "rootTorn", fn := fun _ => fun
  | [d1, d2, d3] => { results := [.lit (.bool false)], args := [d1, d2, d3] }
  | _ => none }
def RootTornWrongFalsely : Prop := rootTornRow.holds Tryd.pinned (OpenSpec.ofChange rootTornWrong)

/-- 'rootstocklaw07.RootNewer': WHATEVER THE INPUT: true; the input reads as it did. -/
def rootNewerSpec : ChangeSpec := { name := "rootNewer", fn := fun _ => fun
  | [d1, d2, d3] => { results := [.lit (.bool true)], args := [d1, d2, d3] }
  | _ => none }
def rootNewerRow : OpenClaim := { program := "ytghpfepmkngfdaadoor", sum := "d10eb5b376751df28f8fccf7b5cf7d6773d6930b0c4feb06d9fbf75e92fee83f", func := "rootstock/rootstocklaw07.RootNewer", spec := "rootNewer", inPlace := ["internal/abi.NoEscape", "internal/bytealg.MakeNoZero"], named := ["rootstock/crc.halves"], apart := false, laid := [("rootstock/crc.halves", laid_rootstock_crc_halves)] }
def RootNewerSaid : Prop := rootNewerRow.holds Tryd.pinned (OpenSpec.ofChange rootNewerSpec)

/-- ITS FALSE NEIGHBOUR: 'it returns false'. Refute it at one input. -/
def rootNewerWrong : ChangeSpec := { name := "rootNewer", fn := fun _ => fun
  | [d1, d2, d3] => { results := [.lit (.bool false)], args := [d1, d2, d3] }
  | _ => none }
def RootNewerWrongFalsely : Prop := rootNewerRow.holds Tryd.pinned (OpenSpec.ofChange rootNewerWrong)

/-- 'rootstocklaw07.RootNone': WHATEVER THE INPUT: true; the input reads as it did. -/
def rootNoneSpec : ChangeSpec := { name := "rootNone", fn := fun _ => fun
  | [d1, d2] => { results := [.lit (.bool true)], args := [d1, d2] }
  | _ => none }
def rootNoneRow : OpenClaim := { program := "ytghpfepmkngfdaadoor", sum := "d10eb5b376751df28f8fccf7b5cf7d6773d6930b0c4feb06d9fbf75e92fee83f", func := "rootstock/rootstocklaw07.RootNone", spec := "rootNone", inPlace := ["internal/abi.NoEscape", "internal/bytealg.MakeNoZero", "sync/atomic.AddInt64"], named := ["rootstock/crc.halves"], apart := false, laid := [("rootstock/crc.halves", laid_rootstock_crc_halves)] }
def RootNoneSaid : Prop := rootNoneRow.holds Tryd.pinned (OpenSpec.ofChange rootNoneSpec)

/-- ITS FALSE NEIGHBOUR: 'it returns false'. Refute it at one input. -/
def rootNoneWrong : ChangeSpec := { name := "rootNone", fn := fun _ => fun
  | [d1, d2] => { results := [.lit (.bool false)], args := [d1, d2] }
  | _ => none }
def RootNoneWrongFalsely : Prop := rootNoneRow.holds Tryd.pinned (OpenSpec.ofChange rootNoneWrong)

/-- 'rootstocklaw07.RootKeeps': WHATEVER THE INPUT: true; the input reads as it did. -/
def rootKeepsSpec : ChangeSpec := { name := "rootKeeps", fn := fun _ => fun
  | [d1, d2, d3, d4] => { results := [.lit (.bool true)], args := [d1, d2, d3, d4] }
  | _ => none }
def rootKeepsRow : OpenClaim := { program := "ytghpfepmkngfdaadoor", sum := "d10eb5b376751df28f8fccf7b5cf7d6773d6930b0c4feb06d9fbf75e92fee83f", func := "rootstock/rootstocklaw07.RootKeeps", spec := "rootKeeps", inPlace := ["internal/abi.NoEscape", "internal/bytealg.MakeNoZero", "sync/atomic.AddInt64"], named := ["rootstock/crc.halves"], apart := false, laid := [("rootstock/crc.halves", laid_rootstock_crc_halves)] }
def RootKeepsSaid : Prop := rootKeepsRow.holds Tryd.pinned (OpenSpec.ofChange rootKeepsSpec)

/-- ITS FALSE NEIGHBOUR: 'it returns false'. Refute it at one input. -/
def rootKeepsWrong : ChangeSpec := { name := "rootKeeps", fn := fun _ => fun
  | [d1, d2, d3, d4] => { results := [.lit (.bool false)], args := [d1, d2, d3, d4] }
  | _ => none }
def RootKeepsWrongFalsely : Prop := rootKeepsRow.holds Tryd.pinned (OpenSpec.ofChange rootKeepsWrong)

/- THE SECOND FORM. 'bulk': how many values and letters a reading holds, each counted each time it is reached (what is shared counts as often as it is met; a slice's spare places count too). A statement '..UptoSaid' is the law's where the arguments, and the package variables that the reading takes, are together of bulk at most 1048576: NARROWER than '..Said'. Prove '..Said' where nothing that the law and all that it calls make is longer than what came in: it says more and counts as full. Else prove '..UptoSaid'. A law counts once. -/
mutual
def uptoBulk {H : Type} : DataW H → Nat
  | .lit (.string bytes) => bytes.length + 1
  | .lit _ => 1
  | .nil => 1
  | .ptr d => uptoBulk d + 1
  | .slice elems spare => uptoBulkAll elems + uptoBulkAll spare + 1
  | .agg parts => uptoBulkAll parts + 1
  | .iface _ d => uptoBulk d + 1
  | .map entries => uptoBulkEntries entries + 1
  | .held _ => 1
def uptoBulkAll {H : Type} : List (DataW H) → Nat
  | [] => 0
  | d :: r => uptoBulk d + uptoBulkAll r
def uptoBulkEntries {H : Type} : List (Lit × DataW H) → Nat
  | [] => 0
  | x :: r => uptoBulkEntry x + uptoBulkEntries r
def uptoBulkEntry {H : Type} : Lit × DataW H → Nat
  | (.string bytes, d) => bytes.length + uptoBulk d + 1
  | (_, d) => uptoBulk d + 1
 end
def uptoSmall : (H : Type) → List (DataW H) → Bool := fun _ ds => decide (uptoBulkAll ds ≤ 1048576)
def OpenSpec.upto (s : _root_.Go.ChangeSpec) : _root_.Go.OpenSpec := { _root_.Go.OpenSpec.ofChange s with cond := some uptoSmall }

/-- 'rootstocklaw07.RootEncodes', WHERE WHAT IT READS IS OF BULK AT MOST 1048576: true; the input reads as it did. -/
def rootEncodesUptoRow : OpenClaim := { program := "ytghpfepmkngfdaadoor", sum := "d10eb5b376751df28f8fccf7b5cf7d6773d6930b0c4feb06d9fbf75e92fee83f", func := "rootstock/rootstocklaw07.RootEncodes", spec := "rootEncodes", inPlace := ["internal/abi.NoEscape", "internal/bytealg.MakeNoZero"], named := ["rootstock/crc.halves"], apart := false, laid := [("rootstock/crc.halves", laid_rootstock_crc_halves)], narrowed := true }
def RootEncodesUptoSaid : Prop := rootEncodesUptoRow.holds Tryd.pinned (OpenSpec.upto rootEncodesSpec)

/-- 'rootstocklaw07.RootPicks', WHERE WHAT IT READS IS OF BULK AT MOST 1048576: true; the input reads as it did. -/
def rootPicksUptoRow : OpenClaim := { program := "ytghpfepmkngfdaadoor", sum := "d10eb5b376751df28f8fccf7b5cf7d6773d6930b0c4feb06d9fbf75e92fee83f", func := "rootstock/rootstocklaw07.RootPicks", spec := "rootPicks", inPlace := ["internal/abi.NoEscape", "internal/bytealg.MakeNoZero"], named := ["rootstock/crc.halves"], apart := false, laid := [("rootstock/crc.halves", laid_rootstock_crc_halves)], narrowed := true }
def RootPicksUptoSaid : Prop := rootPicksUptoRow.holds Tryd.pinned (OpenSpec.upto rootPicksSpec)

/-- 'rootstocklaw07.RootTorn', WHERE WHAT IT READS IS OF BULK AT MOST 1048576: true; the input reads as it did. -/
def rootTornUptoRow : OpenClaim := { program := "ytghpfepmkngfdaadoor", sum := "d10eb5b376751df28f8fccf7b5cf7d6773d6930b0c4feb06d9fbf75e92fee83f", func := "rootstock/rootstocklaw07.RootTorn", spec := "rootTorn", inPlace := ["internal/abi.NoEscape", "internal/bytealg.MakeNoZero"], named := ["rootstock/crc.halves"], apart := false, laid := [("rootstock/crc.halves", laid_rootstock_crc_halves)], narrowed := true }
def RootTornUptoSaid : Prop := rootTornUptoRow.holds Tryd.pinned (OpenSpec.upto rootTornSpec)

/-- 'rootstocklaw07.RootNewer', WHERE WHAT IT READS IS OF BULK AT MOST 1048576: true; the input reads as it did. -/
def rootNewerUptoRow : OpenClaim := { program := "ytghpfepmkngfdaadoor", sum := "d10eb5b376751df28f8fccf7b5cf7d6773d6930b0c4feb06d9fbf75e92fee83f", func := "rootstock/rootstocklaw07.RootNewer", spec := "rootNewer", inPlace := ["internal/abi.NoEscape", "internal/bytealg.MakeNoZero"], named := ["rootstock/crc.halves"], apart := false, laid := [("rootstock/crc.halves", laid_rootstock_crc_halves)], narrowed := true }
def RootNewerUptoSaid : Prop := rootNewerUptoRow.holds Tryd.pinned (OpenSpec.upto rootNewerSpec)

/-- 'rootstocklaw07.RootNone', WHERE WHAT IT READS IS OF BULK AT MOST 1048576: true; the input reads as it did. -/
def rootNoneUptoRow : OpenClaim := { program := "ytghpfepmkngfdaadoor", sum := "d10eb5b376751df28f8fccf7b5cf7d6773d6930b0c4feb06d9fbf75e92fee83f", func := "rootstock/rootstocklaw07.RootNone", spec := "rootNone", inPlace := ["internal/abi.NoEscape", "internal/bytealg.MakeNoZero", "sync/atomic.AddInt64"], named := ["rootstock/crc.halves"], apart := false, laid := [("rootstock/crc.halves", laid_rootstock_crc_halves)], narrowed := true }
def RootNoneUptoSaid : Prop := rootNoneUptoRow.holds Tryd.pinned (OpenSpec.upto rootNoneSpec)

/-- 'rootstocklaw07.RootKeeps', WHERE WHAT IT READS IS OF BULK AT MOST 1048576: true; the input reads as it did. -/
def rootKeepsUptoRow : OpenClaim := { program := "ytghpfepmkngfdaadoor", sum := "d10eb5b376751df28f8fccf7b5cf7d6773d6930b0c4feb06d9fbf75e92fee83f", func := "rootstock/rootstocklaw07.RootKeeps", spec := "rootKeeps", inPlace := ["internal/abi.NoEscape", "internal/bytealg.MakeNoZero", "sync/atomic.AddInt64"], named := ["rootstock/crc.halves"], apart := false, laid := [("rootstock/crc.halves", laid_rootstock_crc_halves)], narrowed := true }
def RootKeepsUptoSaid : Prop := rootKeepsUptoRow.holds Tryd.pinned (OpenSpec.upto rootKeepsSpec)

end Rows
end Go.Proofs.YtghpfepmkngfdaaDoor
