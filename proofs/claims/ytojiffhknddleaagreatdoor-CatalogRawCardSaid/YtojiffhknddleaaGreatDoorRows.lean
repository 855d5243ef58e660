/-
  NARROWER THAN 'FOR EVERY INPUT', by the rows' own cells (each row's printed sentence says how): CatalogMany: laid · CatalogDoes: laid · CatalogRaw: laid · CatalogErrs: laid · CatalogKeeps: laid.
  DERIVED. THE GIVEN ROWS OF THIS SEAT. 5 by the template 'for every input the law returns true; each argument reads behind the call as it read before'; 0 by the template 'total and deterministic' (their statements: YtojiffhknddleaaGreatDoorTotals.lean).
  GIVEN WITH THE SEED: the statements are not yours to turn. If you find one false, say at which input.
  Laid BY PROGRAM, IN A SANDBOX (cutbox-rows.mjs): the forced cells as the released guide's own fill.sh prints them over the translation 61c4aef0bfae3c25… (all of the seat's roots in one cut). By AI agents, Wed Nov 11 2026. No macro, syntax, notation, axiom, sorry.
-/
import Derived.Test.YtojiffhknddleaaGreatDoorChecked
import GoSem.PinnedTables
import GoSem.Claim
import GoSem.ClaimJoined
import GoSem.ClaimMapViews
import Derived.JoinedTies
import Derived.KernelRfl
namespace Go.Proofs.YtojiffhknddleaaGreatDoor
/- THE CELL 'sum', in the pinned program and in every row, IS THE sha256 OF THE DUMP (.gsa) THAT YtojiffhknddleaaGreatDoorProg.lean LOADS. Nothing in Lean hashes anything: it is a label: what it is worth is what the hold of that sum in a sandbox is worth. -/
noncomputable def Tryz.pinned : Pinned := { name := "ytojiffhknddleaagreatdoor", sum := "61c4aef0bfae3c25514621a67331d43d840542a13d64a7985a9c83459f6e8607", checked := Tryz.checked }
namespace Rows
def none {H : Type} : Left H := { results := [], args := [] }

/- WHAT THE LISTED PACKAGE-LEVEL VARIABLES READ AS WHEN THE CALL BEGINS. Each datum BY PROGRAM (the guide's laid-datum.mjs) off the statement by which the dump's own 'gosem.cut.vars' lays the variable. In a bare row this is a premise. The card (YtojiffhknddleaaGreatDoorCards.lean) ties it to the program's text. -/
def laid_rootstock_crc_halves {H : Type} : DataW H := .agg [.lit (.int .u32 0), .lit (.int .u32 498536548), .lit (.int .u32 997073096), .lit (.int .u32 651767980), .lit (.int .u32 1994146192), .lit (.int .u32 1802195444), .lit (.int .u32 1303535960), .lit (.int .u32 1342533948), .lit (.int .u32 3988292384), .lit (.int .u32 4027552580), .lit (.int .u32 3604390888), .lit (.int .u32 3412177804), .lit (.int .u32 2607071920), .lit (.int .u32 2262029012), .lit (.int .u32 2685067896), .lit (.int .u32 3183342108)]
def laid_unicode_utf8_acceptRanges {H : Type} : DataW H := .agg [.agg [.lit (.int .u8 128), .lit (.int .u8 191)], .agg [.lit (.int .u8 160), .lit (.int .u8 191)], .agg [.lit (.int .u8 128), .lit (.int .u8 159)], .agg [.lit (.int .u8 144), .lit (.int .u8 191)], .agg [.lit (.int .u8 128), .lit (.int .u8 143)], .agg [.lit (.int .u8 0), .lit (.int .u8 0)], .agg [.lit (.int .u8 0), .lit (.int .u8 0)], .agg [.lit (.int .u8 0), .lit (.int .u8 0)], .agg [.lit (.int .u8 0), .lit (.int .u8 0)], .agg [.lit (.int .u8 0), .lit (.int .u8 0)], .agg [.lit (.int .u8 0), .lit (.int .u8 0)], .agg [.lit (.int .u8 0), .lit (.int .u8 0)], .agg [.lit (.int .u8 0), .lit (.int .u8 0)], .agg [.lit (.int .u8 0), .lit (.int .u8 0)], .agg [.lit (.int .u8 0), .lit (.int .u8 0)], .agg [.lit (.int .u8 0), .lit (.int .u8 0)]]
/-- One of Go's own tables, pinned by name: the form's constant. -/
def laid_unicode_utf8_first : DataW Unit := Go.Pinned.utf8First

/-- 'rootstocklaw19.CatalogMany': WHATEVER THE INPUT: true; the input reads as it did. -/
def catalogManySpec : ChangeSpec := { name := "catalogMany", fn := fun _ => fun
  | [d1, d2] => { results := [.lit (.bool true)], args := [d1, d2] }
  | _ => none }
def catalogManyRow : OpenClaim := { program := "ytojiffhknddleaagreatdoor", sum := "61c4aef0bfae3c25514621a67331d43d840542a13d64a7985a9c83459f6e8607", func := "rootstock/rootstocklaw19.CatalogMany", spec := "catalogMany", inPlace := ["internal/abi.NoEscape", "internal/bytealg.MakeNoZero", "internal/bytealg.abigen_runtime_cmpstring", "sync/atomic.AddInt64", "internal/bytealg.IndexByteString", "internal/bytealg.IndexString"], unfollowed := true, recurses := true, named := ["rootstock/crc.halves", "unicode/utf8.first", "unicode/utf8.acceptRanges", "internal/bytealg.MaxLen"], apart := false, laid := [("rootstock/crc.halves", laid_rootstock_crc_halves), ("unicode/utf8.acceptRanges", laid_unicode_utf8_acceptRanges), ("unicode/utf8.first", laid_unicode_utf8_first)] }
def CatalogManySaid : Prop := catalogManyRow.holds Tryz.pinned (OpenSpec.ofChange catalogManySpec)

/-- ITS FALSE NEIGHBOUR: 'it returns false'. Refute it at one input. -/
def catalogManyWrong : ChangeSpec := { name := "catalogMany", fn := fun _ => fun
  | [d1, d2] => { results := [.lit (.bool false)], args := [d1, d2] }
  | _ => none }
def CatalogManyWrongFalsely : Prop := catalogManyRow.holds Tryz.pinned (OpenSpec.ofChange catalogManyWrong)

/-- 'rootstocklaw19.CatalogDoes': WHATEVER THE INPUT: true; the input reads as it did. -/
def catalogDoesSpec : ChangeSpec := { name := "catalogDoes", fn := fun _ => fun
  | [d] => { results := [.lit (.bool true)], args := [d] }
  | _ => none }
def catalogDoesRow : OpenClaim := { program := "ytojiffhknddleaagreatdoor", sum := "61c4aef0bfae3c25514621a67331d43d840542a13d64a7985a9c83459f6e8607", func := "rootstock/rootstocklaw19.CatalogDoes", spec := "catalogDoes", inPlace := ["internal/abi.NoEscape", "internal/bytealg.MakeNoZero", "internal/bytealg.abigen_runtime_cmpstring", "sync/atomic.AddInt64", "internal/bytealg.IndexByteString", "internal/bytealg.IndexString"], unfollowed := true, recurses := true, named := ["rootstock/crc.halves", "unicode/utf8.first", "unicode/utf8.acceptRanges", "internal/bytealg.MaxLen"], apart := false, laid := [("rootstock/crc.halves", laid_rootstock_crc_halves), ("unicode/utf8.acceptRanges", laid_unicode_utf8_acceptRanges), ("unicode/utf8.first", laid_unicode_utf8_first)] }
def CatalogDoesSaid : Prop := catalogDoesRow.holds Tryz.pinned (OpenSpec.ofChange catalogDoesSpec)

/-- ITS FALSE NEIGHBOUR: 'it returns false'. Refute it at one input. -/
def catalogDoesWrong : ChangeSpec := { name := "catalogDoes", fn := fun _ => fun
  | [d] => { results := [.lit (.bool false)], args := [d] }
  | _ => none }
def CatalogDoesWrongFalsely : Prop := catalogDoesRow.holds Tryz.pinned (OpenSpec.ofChange catalogDoesWrong)

/-- 'rootstocklaw19.CatalogRaw': WHATEVER THE INPUT: true; the input reads as it did. -/
def catalogRawSpec : ChangeSpec := { name := "catalogRaw", fn := fun _ => fun
  | [d1, d2, d3] => { results := [.lit (.bool true)], args := [d1, d2, d3] }
  | _ => none }
def catalogRawRow : OpenClaim := { program := "ytojiffhknddleaagreatdoor", sum := "61c4aef0bfae3c25514621a67331d43d840542a13d64a7985a9c83459f6e8607", func := "rootstock/rootstocklaw19.CatalogRaw", spec := "catalogRaw", inPlace := ["internal/abi.NoEscape", "internal/bytealg.MakeNoZero", "internal/bytealg.abigen_runtime_cmpstring", "sync/atomic.AddInt64", "internal/bytealg.IndexByteString", "internal/bytealg.IndexString"], unfollowed := true, recurses := true, named := ["rootstock/crc.halves", "unicode/utf8.first", "unicode/utf8.acceptRanges", "internal/bytealg.MaxLen"], apart := false, laid := [("rootstock/crc.halves", laid_rootstock_crc_halves), ("unicode/utf8.acceptRanges", laid_unicode_utf8_acceptRanges), ("unicode/utf8.first", laid_unicode_utf8_first)] }
def CatalogRawSaid : Prop := catalogRawRow.holds Tryz.pinned (OpenSpec.ofChange catalogRawSpec)

/-- ITS FALSE NEIGHBOUR: 'it returns false'. Refute it at one input. -/
def catalogRawWrong : ChangeSpec := { name := "catalogRaw", fn := fun _ => fun
  | [d1, d2, d3] => { results := [.lit (.bool false)], args := [d1, d2, d3] }
  | _ => none }
def CatalogRawWrongFalsely : Prop := catalogRawRow.holds Tryz.pinned (OpenSpec.ofChange catalogRawWrong)

/-- 'rootstocklaw19.CatalogErrs': WHATEVER THE INPUT: true; the input reads as it did. -/
def catalogErrsSpec : ChangeSpec := { name := "catalogErrs", fn := fun _ => fun
  | [d1, d2] => { results := [.lit (.bool true)], args := [d1, d2] }
  | _ => none }
def catalogErrsRow : OpenClaim := { program := "ytojiffhknddleaagreatdoor", sum := "61c4aef0bfae3c25514621a67331d43d840542a13d64a7985a9c83459f6e8607", func := "rootstock/rootstocklaw19.CatalogErrs", spec := "catalogErrs", inPlace := ["internal/abi.NoEscape", "internal/bytealg.MakeNoZero", "internal/bytealg.abigen_runtime_cmpstring", "sync/atomic.AddInt64", "internal/bytealg.IndexByteString", "internal/bytealg.IndexString"], unfollowed := true, recurses := true, named := ["rootstock/crc.halves", "unicode/utf8.first", "unicode/utf8.acceptRanges", "internal/bytealg.MaxLen"], apart := false, laid := [("rootstock/crc.halves", laid_rootstock_crc_halves), ("unicode/utf8.acceptRanges", laid_unicode_utf8_acceptRanges), ("unicode/utf8.first", laid_unicode_utf8_first)] }
def CatalogErrsSaid : Prop := catalogErrsRow.holds Tryz.pinned (OpenSpec.ofChange catalogErrsSpec)

/-- ITS FALSE NEIGHBOUR: 'it returns false'. Refute it at one input. -/
def catalogErrsWrong : ChangeSpec := { name := "catalogErrs", fn := fun _ => fun
  | [d1, d2] => { results := [.lit (.bool false)], args := [d1, d2] }
  | _ => none }
def CatalogErrsWrongFalsely : Prop := catalogErrsRow.holds Tryz.pinned (OpenSpec.ofChange catalogErrsWrong)

/-- 'rootstocklaw19.CatalogKeeps': WHATEVER THE INPUT: true; the input reads as it did. -/
def catalogKeepsSpec : ChangeSpec := { name := "catalogKeeps", fn := fun _ => fun
  | [d1, d2] => { results := [.lit (.bool true)], args := [d1, d2] }
  | _ => none }
def catalogKeepsRow : OpenClaim := { program := "ytojiffhknddleaagreatdoor", sum := "61c4aef0bfae3c25514621a67331d43d840542a13d64a7985a9c83459f6e8607", func := "rootstock/rootstocklaw19.CatalogKeeps", spec := "catalogKeeps", inPlace := ["internal/abi.NoEscape", "internal/bytealg.MakeNoZero", "internal/bytealg.abigen_runtime_cmpstring", "sync/atomic.AddInt64", "internal/bytealg.IndexByteString", "internal/bytealg.IndexString"], unfollowed := true, recurses := true, named := ["rootstock/crc.halves", "unicode/utf8.first", "unicode/utf8.acceptRanges", "internal/bytealg.MaxLen"], apart := false, laid := [("rootstock/crc.halves", laid_rootstock_crc_halves), ("unicode/utf8.acceptRanges", laid_unicode_utf8_acceptRanges), ("unicode/utf8.first", laid_unicode_utf8_first)] }
def CatalogKeepsSaid : Prop := catalogKeepsRow.holds Tryz.pinned (OpenSpec.ofChange catalogKeepsSpec)

/-- ITS FALSE NEIGHBOUR: 'it returns false'. Refute it at one input. -/
def catalogKeepsWrong : ChangeSpec := { name := "catalogKeeps", fn := fun _ => fun
  | [d1, d2] => { results := [.lit (.bool false)], args := [d1, d2] }
  | _ => none }
def CatalogKeepsWrongFalsely : Prop := catalogKeepsRow.holds Tryz.pinned (OpenSpec.ofChange catalogKeepsWrong)

/- THE SECOND FORM. 'bulk': how many values and letters a reading holds, each counted each time it is reached (what is shared counts as often as it is met; a slice's spare places count too). A statement '..UptoSaid' is the law's where the arguments, and the package variables that the reading takes, are together of bulk at most 1048576: NARROWER than '..Said'. Prove '..Said' where nothing that the law and all that it calls make is longer than what came in: it says more and counts as full. Else prove '..UptoSaid'. A law counts once. -/
mutual
def uptoBulk {H : Type} : DataW H → Nat
  | .lit (.string bytes) => bytes.length + 1
  | .lit _ => 1
  | .nil => 1
  | .ptr d => uptoBulk d + 1
  | .slice elems spare => uptoBulkAll elems + uptoBulkAll spare + 1
  | .agg parts => uptoBulkAll parts + 1
  | .iface _ d => uptoBulk d + 1
  | .map entries => uptoBulkEntries entries + 1
  | .held _ => 1
def uptoBulkAll {H : Type} : List (DataW H) → Nat
  | [] => 0
  | d :: r => uptoBulk d + uptoBulkAll r
def uptoBulkEntries {H : Type} : List (Lit × DataW H) → Nat
  | [] => 0
  | x :: r => uptoBulkEntry x + uptoBulkEntries r
def uptoBulkEntry {H : Type} : Lit × DataW H → Nat
  | (.string bytes, d) => bytes.length + uptoBulk d + 1
  | (_, d) => uptoBulk d + 1
 end
def uptoSmall : (H : Type) → List (DataW H) → Bool := fun _ ds => decide (uptoBulkAll ds ≤ 1048576)
def OpenSpec.upto (s : _root_.Go.ChangeSpec) : _root_.Go.OpenSpec := { _root_.Go.OpenSpec.ofChange s with cond := some uptoSmall }

/-- 'rootstocklaw19.CatalogMany', WHERE WHAT IT READS IS OF BULK AT MOST 1048576: true; the input reads as it did. -/
def catalogManyUptoRow : OpenClaim := { program := "ytojiffhknddleaagreatdoor", sum := "61c4aef0bfae3c25514621a67331d43d840542a13d64a7985a9c83459f6e8607", func := "rootstock/rootstocklaw19.CatalogMany", spec := "catalogMany", inPlace := ["internal/abi.NoEscape", "internal/bytealg.MakeNoZero", "internal/bytealg.abigen_runtime_cmpstring", "sync/atomic.AddInt64", "internal/bytealg.IndexByteString", "internal/bytealg.IndexString"], unfollowed := true, recurses := true, named := ["rootstock/crc.halves", "unicode/utf8.first", "unicode/utf8.acceptRanges", "internal/bytealg.MaxLen"], apart := false, laid := [("rootstock/crc.halves", laid_rootstock_crc_halves), ("unicode/utf8.acceptRanges", laid_unicode_utf8_acceptRanges), ("unicode/utf8.first", laid_unicode_utf8_first)], narrowed := true }
def CatalogManyUptoSaid : Prop := catalogManyUptoRow.holds Tryz.pinned (OpenSpec.upto catalogManySpec)

/-- 'rootstocklaw19.CatalogDoes', WHERE WHAT IT READS IS OF BULK AT MOST 1048576: true; the input reads as it did. -/
def catalogDoesUptoRow : OpenClaim := { program := "ytojiffhknddleaagreatdoor", sum := "61c4aef0bfae3c25514621a67331d43d840542a13d64a7985a9c83459f6e8607", func := "rootstock/rootstocklaw19.CatalogDoes", spec := "catalogDoes", inPlace := ["internal/abi.NoEscape", "internal/bytealg.MakeNoZero", "internal/bytealg.abigen_runtime_cmpstring", "sync/atomic.AddInt64", "internal/bytealg.IndexByteString", "internal/bytealg.IndexString"], unfollowed := true, recurses := true, named := ["rootstock/crc.halves", "unicode/utf8.first", "unicode/utf8.acceptRanges", "internal/bytealg.MaxLen"], apart := false, laid := [("rootstock/crc.halves", laid_rootstock_crc_halves), ("unicode/utf8.acceptRanges", laid_unicode_utf8_acceptRanges), ("unicode/utf8.first", laid_unicode_utf8_first)], narrowed := true }
def CatalogDoesUptoSaid : Prop := catalogDoesUptoRow.holds Tryz.pinned (OpenSpec.upto catalogDoesSpec)

/-- 'rootstocklaw19.CatalogRaw', WHERE WHAT IT READS IS OF BULK AT MOST 1048576: true; the input reads as it did. -/
def catalogRawUptoRow : OpenClaim := { program := "ytojiffhknddleaagreatdoor", sum := "61c4aef0bfae3c25514621a67331d43d840542a13d64a7985a9c83459f6e8607", func := "rootstock/rootstocklaw19.CatalogRaw", spec := "catalogRaw", inPlace := ["internal/abi.NoEscape", "internal/bytealg.MakeNoZero", "internal/bytealg.abigen_runtime_cmpstring", "sync/atomic.AddInt64", "internal/bytealg.IndexByteString", "internal/bytealg.IndexString"], unfollowed := true, recurses := true, named := ["rootstock/crc.halves", "unicode/utf8.first", "unicode/utf8.acceptRanges", "internal/bytealg.MaxLen"], apart := false, laid := [("rootstock/crc.halves", laid_rootstock_crc_halves), ("unicode/utf8.acceptRanges", laid_unicode_utf8_acceptRanges), ("unicode/utf8.first", laid_unicode_utf8_first)], narrowed := true }
def CatalogRawUptoSaid : Prop := catalogRawUptoRow.holds Tryz.pinned (OpenSpec.upto catalogRawSpec)

/-- 'rootstocklaw19.CatalogErrs', WHERE WHAT IT READS IS OF BULK AT MOST 1048576: true; the input reads as it did. -/
def catalogErrsUptoRow : OpenClaim := { program := "ytojiffhknddleaagreatdoor", sum := "61c4aef0bfae3c25514621a67331d43d840542a13d64a7985a9c83459f6e8607", func := "rootstock/rootstocklaw19.CatalogErrs", spec := "catalogErrs", inPlace := ["internal/abi.NoEscape", "internal/bytealg.MakeNoZero", "internal/bytealg.abigen_runtime_cmpstring", "sync/atomic.AddInt64", "internal/bytealg.IndexByteString", "internal/bytealg.IndexString"], unfollowed := true, recurses := true, named := ["rootstock/crc.halves", "unicode/utf8.first", "unicode/utf8.acceptRanges", "internal/bytealg.MaxLen"], apart := false, laid := [("rootstock/crc.halves", laid_rootstock_crc_halves), ("unicode/utf8.acceptRanges", laid_unicode_utf8_acceptRanges), ("unicode/utf8.first", laid_unicode_utf8_first)], narrowed := true }
def CatalogErrsUptoSaid : Prop := catalogErrsUptoRow.holds Tryz.pinned (OpenSpec.upto catalogErrsSpec)

/-- 'rootstocklaw19.CatalogKeeps', WHERE WHAT IT READS IS OF BULK AT MOST 1048576: true; the input reads as it did. -/
def catalogKeepsUptoRow : OpenClaim := { program := "ytojiffhknddleaagreatdoor", sum := "61c4aef0bfae3c25514621a67331d43d840542a13d64a7985a9c83459f6e8607", func := "rootstock/rootstocklaw19.CatalogKeeps", spec := "catalogKeeps", inPlace := ["internal/abi.NoEscape", "internal/bytealg.MakeNoZero", "internal/bytealg.abigen_runtime_cmpstring", "sync/atomic.AddInt64", "internal/bytealg.IndexByteString", "internal/bytealg.IndexString"], unfollowed := true, recurses := true, named := ["rootstock/crc.halves", "unicode/utf8.first", "unicode/utf8.acceptRanges", "internal/bytealg.MaxLen"], apart := false, laid := [("rootstock/crc.halves", laid_rootstock_crc_halves), ("unicode/utf8.acceptRanges", laid_unicode_utf8_acceptRanges), ("unicode/utf8.first", laid_unicode_utf8_first)], narrowed := true }
def CatalogKeepsUptoSaid : Prop := catalogKeepsUptoRow.holds Tryz.pinned (OpenSpec.upto catalogKeepsSpec)

end Rows
end Go.Proofs.YtojiffhknddleaaGreatDoor
