/-
  NARROWER THAN 'FOR EVERY INPUT', by the rows' own cells (each row's printed sentence says how): SeqErrs: laid · SeqBuilds: laid · SeqTurns: laid · SeqDoes: laid · SeqApart: laid · SeqEmpties: laid.
  DERIVED. THE GIVEN ROWS OF THIS SEAT. 6 by the template 'for every input the law returns true; each argument reads behind the call as it read before'; 0 by the template 'total and deterministic' (their statements: YtfknjmoekbabcaaGreatDoorTotals.lean).
  GIVEN WITH THE SEED: the statements are not yours to turn. If you find one false, say at which input.
  Laid BY PROGRAM, IN A SANDBOX (cutbox-rows.mjs): the forced cells as the released guide's own fill.sh prints them over the translation 1c2d1dadf0ead209… (all of the seat's roots in one cut). By AI agents, Wed Nov 11 2026. No macro, syntax, notation, axiom, sorry.
-/
import Derived.Test.YtfknjmoekbabcaaGreatDoorChecked
import GoSem.PinnedTables
import GoSem.Claim
import GoSem.ClaimJoined
import GoSem.ClaimMapViews
import Derived.JoinedTies
import Derived.KernelRfl
namespace Go.Proofs.YtfknjmoekbabcaaGreatDoor
/- THE CELL 'sum', in the pinned program and in every row, IS THE sha256 OF THE DUMP (.gsa) THAT YtfknjmoekbabcaaGreatDoorProg.lean LOADS. Nothing in Lean hashes anything: it is a label: what it is worth is what the hold of that sum in a sandbox is worth. -/
noncomputable def Tryz.pinned : Pinned := { name := "ytfknjmoekbabcaagreatdoor", sum := "1c2d1dadf0ead209b0685dc5826f78ba1aa3d3d805d98cd1dfa6c98f8041c3d3", checked := Tryz.checked }
namespace Rows
def none {H : Type} : Left H := { results := [], args := [] }

/- WHAT THE LISTED PACKAGE-LEVEL VARIABLES READ AS WHEN THE CALL BEGINS. Each datum BY PROGRAM (the guide's laid-datum.mjs) off the statement by which the dump's own 'gosem.cut.vars' lays the variable. In a bare row this is a premise. The card (YtfknjmoekbabcaaGreatDoorCards.lean) ties it to the program's text. -/
def laid_rootstock_crc_halves {H : Type} : DataW H := .agg [.lit (.int .u32 0), .lit (.int .u32 498536548), .lit (.int .u32 997073096), .lit (.int .u32 651767980), .lit (.int .u32 1994146192), .lit (.int .u32 1802195444), .lit (.int .u32 1303535960), .lit (.int .u32 1342533948), .lit (.int .u32 3988292384), .lit (.int .u32 4027552580), .lit (.int .u32 3604390888), .lit (.int .u32 3412177804), .lit (.int .u32 2607071920), .lit (.int .u32 2262029012), .lit (.int .u32 2685067896), .lit (.int .u32 3183342108)]
def laid_unicode_utf8_acceptRanges {H : Type} : DataW H := .agg [.agg [.lit (.int .u8 128), .lit (.int .u8 191)], .agg [.lit (.int .u8 160), .lit (.int .u8 191)], .agg [.lit (.int .u8 128), .lit (.int .u8 159)], .agg [.lit (.int .u8 144), .lit (.int .u8 191)], .agg [.lit (.int .u8 128), .lit (.int .u8 143)], .agg [.lit (.int .u8 0), .lit (.int .u8 0)], .agg [.lit (.int .u8 0), .lit (.int .u8 0)], .agg [.lit (.int .u8 0), .lit (.int .u8 0)], .agg [.lit (.int .u8 0), .lit (.int .u8 0)], .agg [.lit (.int .u8 0), .lit (.int .u8 0)], .agg [.lit (.int .u8 0), .lit (.int .u8 0)], .agg [.lit (.int .u8 0), .lit (.int .u8 0)], .agg [.lit (.int .u8 0), .lit (.int .u8 0)], .agg [.lit (.int .u8 0), .lit (.int .u8 0)], .agg [.lit (.int .u8 0), .lit (.int .u8 0)], .agg [.lit (.int .u8 0), .lit (.int .u8 0)]]
/-- One of Go's own tables, pinned by name: the form's constant. -/
def laid_unicode_utf8_first : DataW Unit := Go.Pinned.utf8First

/-- 'rootstocklaw15.SeqErrs': WHATEVER THE INPUT: true; the input reads as it did. -/
def seqErrsSpec : ChangeSpec := { name := "seqErrs", fn := fun _ => fun
  | [d1, d2] => { results := [.lit (.bool true)], args := [d1, d2] }
  | _ => none }
def seqErrsRow : OpenClaim := { program := "ytfknjmoekbabcaagreatdoor", sum := "1c2d1dadf0ead209b0685dc5826f78ba1aa3d3d805d98cd1dfa6c98f8041c3d3", func := "rootstock/rootstocklaw15.SeqErrs", spec := "seqErrs", inPlace := ["internal/abi.NoEscape", "internal/bytealg.MakeNoZero", "sync/atomic.AddInt64", "internal/bytealg.IndexByteString", "internal/bytealg.IndexString", "internal/bytealg.abigen_runtime_cmpstring"], unfollowed := true, recurses := true, named := ["rootstock/crc.halves", "unicode/utf8.first", "unicode/utf8.acceptRanges", "internal/bytealg.MaxLen"], apart := false, laid := [("rootstock/crc.halves", laid_rootstock_crc_halves), ("unicode/utf8.acceptRanges", laid_unicode_utf8_acceptRanges), ("unicode/utf8.first", laid_unicode_utf8_first)] }
def SeqErrsSaid : Prop := seqErrsRow.holds Tryz.pinned (OpenSpec.ofChange seqErrsSpec)

/-- ITS FALSE NEIGHBOUR: 'it returns false'. Refute it at one input. -/
def seqErrsWrong : ChangeSpec := { name := "seqErrs", fn := fun _ => fun
  | [d1, d2] => { results := [.lit (.bool false)], args := [d1, d2] }
  | _ => none }
def SeqErrsWrongFalsely : Prop := seqErrsRow.holds Tryz.pinned (OpenSpec.ofChange seqErrsWrong)

/-- 'rootstocklaw15.SeqBuilds': WHATEVER THE INPUT: true; the input reads as it did. -/
def seqBuildsSpec : ChangeSpec := { name := "seqBuilds", fn := fun _ => fun
  | [d1, d2, d3] => { results := [.lit (.bool true)], args := [d1, d2, d3] }
  | _ => none }
def seqBuildsRow : OpenClaim := { program := "ytfknjmoekbabcaagreatdoor", sum := "1c2d1dadf0ead209b0685dc5826f78ba1aa3d3d805d98cd1dfa6c98f8041c3d3", func := "rootstock/rootstocklaw15.SeqBuilds", spec := "seqBuilds", inPlace := ["internal/abi.NoEscape", "internal/bytealg.MakeNoZero", "sync/atomic.AddInt64", "internal/bytealg.IndexByteString", "internal/bytealg.IndexString", "internal/bytealg.abigen_runtime_cmpstring"], unfollowed := true, recurses := true, named := ["rootstock/crc.halves", "unicode/utf8.first", "unicode/utf8.acceptRanges", "internal/bytealg.MaxLen"], apart := false, laid := [("rootstock/crc.halves", laid_rootstock_crc_halves), ("unicode/utf8.acceptRanges", laid_unicode_utf8_acceptRanges), ("unicode/utf8.first", laid_unicode_utf8_first)] }
def SeqBuildsSaid : Prop := seqBuildsRow.holds Tryz.pinned (OpenSpec.ofChange seqBuildsSpec)

/-- ITS FALSE NEIGHBOUR: 'it returns false'. Refute it at one input. -/
def seqBuildsWrong : ChangeSpec := { name := "seqBuilds", fn := fun _ => fun
  | [d1, d2, d3] => { results := [.lit (.bool false)], args := [d1, d2, d3] }
  | _ => none }
def SeqBuildsWrongFalsely : Prop := seqBuildsRow.holds Tryz.pinned (OpenSpec.ofChange seqBuildsWrong)

/-- 'rootstocklaw15.SeqTurns': WHATEVER THE INPUT: true; the input reads as it did. -/
def seqTurnsSpec : ChangeSpec := { name := "seqTurns", fn := fun _ => fun
  | [d1, d2] => { results := [.lit (.bool true)], args := [d1, d2] }
  | _ => none }
def seqTurnsRow : OpenClaim := { program := "ytfknjmoekbabcaagreatdoor", sum := "1c2d1dadf0ead209b0685dc5826f78ba1aa3d3d805d98cd1dfa6c98f8041c3d3", func := "rootstock/rootstocklaw15.SeqTurns", spec := "seqTurns", inPlace := ["internal/abi.NoEscape", "internal/bytealg.MakeNoZero", "sync/atomic.AddInt64", "internal/bytealg.IndexByteString", "internal/bytealg.IndexString", "internal/bytealg.abigen_runtime_cmpstring"], unfollowed := true, recurses := true, named := ["rootstock/crc.halves", "unicode/utf8.first", "unicode/utf8.acceptRanges", "internal/bytealg.MaxLen"], apart := false, laid := [("rootstock/crc.halves", laid_rootstock_crc_halves), ("unicode/utf8.acceptRanges", laid_unicode_utf8_acceptRanges), ("unicode/utf8.first", laid_unicode_utf8_first)] }
def SeqTurnsSaid : Prop := seqTurnsRow.holds Tryz.pinned (OpenSpec.ofChange seqTurnsSpec)

/-- ITS FALSE NEIGHBOUR: 'it returns false'. Refute it at one input. -/
def seqTurnsWrong : ChangeSpec := { name := "seqTurns", fn := fun _ => fun
  | [d1, d2] => { results := [.lit (.bool false)], args := [d1, d2] }
  | _ => none }
def SeqTurnsWrongFalsely : Prop := seqTurnsRow.holds Tryz.pinned (OpenSpec.ofChange seqTurnsWrong)

/-- 'rootstocklaw15.SeqDoes': WHATEVER THE INPUT: true; the input reads as it did. -/
def seqDoesSpec : ChangeSpec := { name := "seqDoes", fn := fun _ => fun
  | [d] => { results := [.lit (.bool true)], args := [d] }
  | _ => none }
def seqDoesRow : OpenClaim := { program := "ytfknjmoekbabcaagreatdoor", sum := "1c2d1dadf0ead209b0685dc5826f78ba1aa3d3d805d98cd1dfa6c98f8041c3d3", func := "rootstock/rootstocklaw15.SeqDoes", spec := "seqDoes", inPlace := ["internal/abi.NoEscape", "internal/bytealg.MakeNoZero", "sync/atomic.AddInt64", "internal/bytealg.IndexByteString", "internal/bytealg.IndexString", "internal/bytealg.abigen_runtime_cmpstring"], unfollowed := true, recurses := true, named := ["rootstock/crc.halves", "unicode/utf8.first", "unicode/utf8.acceptRanges", "internal/bytealg.MaxLen"], apart := false, laid := [("rootstock/crc.halves", laid_rootstock_crc_halves), ("unicode/utf8.acceptRanges", laid_unicode_utf8_acceptRanges), ("unicode/utf8.first", laid_unicode_utf8_first)] }
def SeqDoesSaid : Prop := seqDoesRow.holds Tryz.pinned (OpenSpec.ofChange seqDoesSpec)

/-- ITS FALSE NEIGHBOUR: 'it returns false'. Refute it at one input. -/
def seqDoesWrong : ChangeSpec := { name := "seqDoes", fn := fun _ => fun
  | [d] => { results := [.lit (.bool false)], args := [d] }
  | _ => none }
def SeqDoesWrongFalsely : Prop := seqDoesRow.holds Tryz.pinned (OpenSpec.ofChange seqDoesWrong)

/-- 'rootstocklaw15.SeqApart': WHATEVER THE INPUT: true; the input reads as it did. -/
def seqApartSpec : ChangeSpec := { name := "seqApart", fn := fun _ => fun
  | [d1, d2, d3] => { results := [.lit (.bool true)], args := [d1, d2, d3] }
  | _ => none }
def seqApartRow : OpenClaim := { program := "ytfknjmoekbabcaagreatdoor", sum := "1c2d1dadf0ead209b0685dc5826f78ba1aa3d3d805d98cd1dfa6c98f8041c3d3", func := "rootstock/rootstocklaw15.SeqApart", spec := "seqApart", inPlace := ["internal/abi.NoEscape", "internal/bytealg.MakeNoZero", "sync/atomic.AddInt64", "internal/bytealg.IndexByteString", "internal/bytealg.IndexString", "internal/bytealg.abigen_runtime_cmpstring"], unfollowed := true, recurses := true, named := ["rootstock/crc.halves", "unicode/utf8.first", "unicode/utf8.acceptRanges", "internal/bytealg.MaxLen"], apart := false, laid := [("rootstock/crc.halves", laid_rootstock_crc_halves), ("unicode/utf8.acceptRanges", laid_unicode_utf8_acceptRanges), ("unicode/utf8.first", laid_unicode_utf8_first)] }
def SeqApartSaid : Prop := seqApartRow.holds Tryz.pinned (OpenSpec.ofChange seqApartSpec)

/-- ITS FALSE NEIGHBOUR: 'it returns false'. Refute it at one input. -/
def seqApartWrong : ChangeSpec := { name := "seqApart", fn := fun _ => fun
  | [d1, d2, d3] => { results := [.lit (.bool false)], args := [d1, d2, d3] }
  | _ => none }
def SeqApartWrongFalsely : Prop := seqApartRow.holds Tryz.pinned (OpenSpec.ofChange seqApartWrong)

/-- 'rootstocklaw15.SeqEmpties': WHATEVER THE INPUT: true; the input reads as it did. -/
def seqEmptiesSpec : ChangeSpec := { name := "seqEmpties", fn := fun _ => fun
  | [d] => { results := [.lit (.bool true)], args := [d] }
  | _ => none }
def seqEmptiesRow : OpenClaim := { program := "ytfknjmoekbabcaagreatdoor", sum := "1c2d1dadf0ead209b0685dc5826f78ba1aa3d3d805d98cd1dfa6c98f8041c3d3", func := "rootstock/rootstocklaw15.SeqEmpties", spec := "seqEmpties", inPlace := ["internal/abi.NoEscape", "internal/bytealg.MakeNoZero", "sync/atomic.AddInt64", "internal/bytealg.IndexByteString", "internal/bytealg.IndexString", "internal/bytealg.abigen_runtime_cmpstring"], unfollowed := true, recurses := true, named := ["rootstock/crc.halves", "unicode/utf8.first", "unicode/utf8.acceptRanges", "internal/bytealg.MaxLen"], apart := false, laid := [("rootstock/crc.halves", laid_rootstock_crc_halves), ("unicode/utf8.acceptRanges", laid_unicode_utf8_acceptRanges), ("unicode/utf8.first", laid_unicode_utf8_first)] }
def SeqEmptiesSaid : Prop := seqEmptiesRow.holds Tryz.pinned (OpenSpec.ofChange seqEmptiesSpec)

/-- ITS FALSE NEIGHBOUR: 'it returns false'. Refute it at one input. -/
def seqEmptiesWrong : ChangeSpec := { name := "seqEmpties", fn := fun _ => fun
  | [d] => { results := [.lit (.bool false)], args := [d] }
  | _ => none }
def SeqEmptiesWrongFalsely : Prop := seqEmptiesRow.holds Tryz.pinned (OpenSpec.ofChange seqEmptiesWrong)

/- THE SECOND FORM. 'bulk': how many values and letters a reading holds, each counted each time it is reached (what is shared counts as often as it is met; a slice's spare places count too). A statement '..UptoSaid' is the law's where the arguments, and the package variables that the reading takes, are together of bulk at most 1048576: NARROWER than '..Said'. Prove '..Said' where nothing that the law and all that it calls make is longer than what came in: it says more and counts as full. Else prove '..UptoSaid'. A law counts once. -/
mutual
def uptoBulk {H : Type} : DataW H → Nat
  | .lit (.string bytes) => bytes.length + 1
  | .lit _ => 1
  | .nil => 1
  | .ptr d => uptoBulk d + 1
  | .slice elems spare => uptoBulkAll elems + uptoBulkAll spare + 1
  | .agg parts => uptoBulkAll parts + 1
  | .iface _ d => uptoBulk d + 1
  | .map entries => uptoBulkEntries entries + 1
  | .held _ => 1
def uptoBulkAll {H : Type} : List (DataW H) → Nat
  | [] => 0
  | d :: r => uptoBulk d + uptoBulkAll r
def uptoBulkEntries {H : Type} : List (Lit × DataW H) → Nat
  | [] => 0
  | x :: r => uptoBulkEntry x + uptoBulkEntries r
def uptoBulkEntry {H : Type} : Lit × DataW H → Nat
  | (.string bytes, d) => bytes.length + uptoBulk d + 1
  | (_, d) => uptoBulk d + 1
 end
def uptoSmall : (H : Type) → List (DataW H) → Bool := fun _ ds => decide (uptoBulkAll ds ≤ 1048576)
def OpenSpec.upto (s : _root_.Go.ChangeSpec) : _root_.Go.OpenSpec := { _root_.Go.OpenSpec.ofChange s with cond := some uptoSmall }

/-- 'rootstocklaw15.SeqErrs', WHERE WHAT IT READS IS OF BULK AT MOST 1048576: true; the input reads as it did. -/
def seqErrsUptoRow : OpenClaim := { program := "ytfknjmoekbabcaagreatdoor", sum := "1c2d1dadf0ead209b0685dc5826f78ba1aa3d3d805d98cd1dfa6c98f8041c3d3", func := "rootstock/rootstocklaw15.SeqErrs", spec := "seqErrs", inPlace := ["internal/abi.NoEscape", "internal/bytealg.MakeNoZero", "sync/atomic.AddInt64", "internal/bytealg.IndexByteString", "internal/bytealg.IndexString", "internal/bytealg.abigen_runtime_cmpstring"], unfollowed := true, recurses := true, named := ["rootstock/crc.halves", "unicode/utf8.first", "unicode/utf8.acceptRanges", "internal/bytealg.MaxLen"], apart := false, laid := [("rootstock/crc.halves", laid_rootstock_crc_halves), ("unicode/utf8.acceptRanges", laid_unicode_utf8_acceptRanges), ("unicode/utf8.first", laid_unicode_utf8_first)], narrowed := true }
def SeqErrsUptoSaid : Prop := seqErrsUptoRow.holds Tryz.pinned (OpenSpec.upto seqErrsSpec)

/-- 'rootstocklaw15.SeqBuilds', WHERE WHAT IT READS IS OF BULK AT MOST 1048576: true; the input reads as it did. -/
def seqBuildsUptoRow : OpenClaim := { program := "ytfknjmoekbabcaagreatdoor", sum := "1c2d1dadf0ead209b0685dc5826f78ba1aa3d3d805d98cd1dfa6c98f8041c3d3", func := "rootstock/rootstocklaw15.SeqBuilds", spec := "seqBuilds", inPlace := ["internal/abi.NoEscape", "internal/bytealg.MakeNoZero", "sync/atomic.AddInt64", "internal/bytealg.IndexByteString", "internal/bytealg.IndexString", "internal/bytealg.abigen_runtime_cmpstring"], unfollowed := true, recurses := true, named := ["rootstock/crc.halves", "unicode/utf8.first", "unicode/utf8.acceptRanges", "internal/bytealg.MaxLen"], apart := false, laid := [("rootstock/crc.halves", laid_rootstock_crc_halves), ("unicode/utf8.acceptRanges", laid_unicode_utf8_acceptRanges), ("unicode/utf8.first", laid_unicode_utf8_first)], narrowed := true }
def SeqBuildsUptoSaid : Prop := seqBuildsUptoRow.holds Tryz.pinned (OpenSpec.upto seqBuildsSpec)

/-- 'rootstocklaw15.SeqTurns', WHERE WHAT IT READS IS OF BULK AT MOST 1048576: true; the input reads as it did. -/
def seqTurnsUptoRow : OpenClaim := { program := "ytfknjmoekbabcaagreatdoor", sum := "1c2d1dadf0ead209b0685dc5826f78ba1aa3d3d805d98cd1dfa6c98f8041c3d3", func := "rootstock/rootstocklaw15.SeqTurns", spec := "seqTurns", inPlace := ["internal/abi.NoEscape", "internal/bytealg.MakeNoZero", "sync/atomic.AddInt64", "internal/bytealg.IndexByteString", "internal/bytealg.IndexString", "internal/bytealg.abigen_runtime_cmpstring"], unfollowed := true, recurses := true, named := ["rootstock/crc.halves", "unicode/utf8.first", "unicode/utf8.acceptRanges", "internal/bytealg.MaxLen"], apart := false, laid := [("rootstock/crc.halves", laid_rootstock_crc_halves), ("unicode/utf8.acceptRanges", laid_unicode_utf8_acceptRanges), ("unicode/utf8.first", laid_unicode_utf8_first)], narrowed := true }
def SeqTurnsUptoSaid : Prop := seqTurnsUptoRow.holds Tryz.pinned (OpenSpec.upto seqTurnsSpec)

/-- 'rootstocklaw15.SeqDoes', WHERE WHAT IT READS IS OF BULK AT MOST 1048576: true; the input reads as it did. -/
def seqDoesUptoRow : OpenClaim := { program := "ytfknjmoekbabcaagreatdoor", sum := "1c2d1dadf0ead209b0685dc5826f78ba1aa3d3d805d98cd1dfa6c98f8041c3d3", func := "rootstock/rootstocklaw15.SeqDoes", spec := "seqDoes", inPlace := ["internal/abi.NoEscape", "internal/bytealg.MakeNoZero", "sync/atomic.AddInt64", "internal/bytealg.IndexByteString", "internal/bytealg.IndexString", "internal/bytealg.abigen_runtime_cmpstring"], unfollowed := true, recurses := true, named := ["rootstock/crc.halves", "unicode/utf8.first", "unicode/utf8.acceptRanges", "internal/bytealg.MaxLen"], apart := false, laid := [("rootstock/crc.halves", laid_rootstock_crc_halves), ("unicode/utf8.acceptRanges", laid_unicode_utf8_acceptRanges), ("unicode/utf8.first", laid_unicode_utf8_first)], narrowed := true }
def SeqDoesUptoSaid : Prop := seqDoesUptoRow.holds Tryz.pinned (OpenSpec.upto seqDoesSpec)

/-- 'rootstocklaw15.SeqApart', WHERE WHAT IT READS IS OF BULK AT MOST 1048576: true; the input reads as it did. -/
def seqApartUptoRow : OpenClaim := { program := "ytfknjmoekbabcaagreatdoor", sum := "1c2d1dadf0ead209b0685dc5826f78ba1aa3d3d805d98cd1dfa6c98f8041c3d3", func := "rootstock/rootstocklaw15.SeqApart", spec := "seqApart", inPlace := ["internal/abi.NoEscape", "internal/bytealg.MakeNoZero", "sync/atomic.AddInt64", "internal/bytealg.IndexByteString", "internal/bytealg.IndexString", "internal/bytealg.abigen_runtime_cmpstring"], unfollowed := true, recurses := true, named := ["rootstock/crc.halves", "unicode/utf8.first", "unicode/utf8.acceptRanges", "internal/bytealg.MaxLen"], apart := false, laid := [("rootstock/crc.halves", laid_rootstock_crc_halves), ("unicode/utf8.acceptRanges", laid_unicode_utf8_acceptRanges), ("unicode/utf8.first", laid_unicode_utf8_first)], narrowed := true }
def SeqApartUptoSaid : Prop := seqApartUptoRow.holds Tryz.pinned (OpenSpec.upto seqApartSpec)

/-- 'rootstocklaw15.SeqEmpties', WHERE WHAT IT READS IS OF BULK AT MOST 1048576: true; the input reads as it did. -/
def seqEmptiesUptoRow : OpenClaim := { program := "ytfknjmoekbabcaagreatdoor", sum := "1c2d1dadf0ead209b0685dc5826f78ba1aa3d3d805d98cd1dfa6c98f8041c3d3", func := "rootstock/rootstocklaw15.SeqEmpties", spec := "seqEmpties", inPlace := ["internal/abi.NoEscape", "internal/bytealg.MakeNoZero", "sync/atomic.AddInt64", "internal/bytealg.IndexByteString", "internal/bytealg.IndexString", "internal/bytealg.abigen_runtime_cmpstring"], unfollowed := true, recurses := true, named := ["rootstock/crc.halves", "unicode/utf8.first", "unicode/utf8.acceptRanges", "internal/bytealg.MaxLen"], apart := false, laid := [("rootstock/crc.halves", laid_rootstock_crc_halves), ("unicode/utf8.acceptRanges", laid_unicode_utf8_acceptRanges), ("unicode/utf8.first", laid_unicode_utf8_first)], narrowed := true }
def SeqEmptiesUptoSaid : Prop := seqEmptiesUptoRow.holds Tryz.pinned (OpenSpec.upto seqEmptiesSpec)

end Rows
end Go.Proofs.YtfknjmoekbabcaaGreatDoor
