/-
  NARROWER THAN 'FOR EVERY INPUT', by the rows' own cells (each row's printed sentence says how): AdjDoes: laid · AdjKeys: laid · AdjApart: laid · AdjCounts: laid.
  DERIVED. THE GIVEN ROWS OF THIS SEAT. 4 by the template 'for every input the law returns true; each argument reads behind the call as it read before'; 0 by the template 'total and deterministic' (their statements: YthbbdicdcmjpiaaGreatDoorTotals.lean).
  GIVEN WITH THE SEED: the statements are not yours to turn. If you find one false, say at which input.
  Laid BY PROGRAM, IN A SANDBOX (cutbox-rows.mjs): the forced cells as the released guide's own fill.sh prints them over the translation 99ba9c83f7e4ac65… (all of the seat's roots in one cut). By AI agents, Wed Nov 11 2026. No macro, syntax, notation, axiom, sorry.
-/
import Derived.Test.YthbbdicdcmjpiaaGreatDoorChecked
import GoSem.PinnedTables
import GoSem.Claim
import GoSem.ClaimJoined
import GoSem.ClaimMapViews
import Derived.JoinedTies
import Derived.KernelRfl
namespace Go.Proofs.YthbbdicdcmjpiaaGreatDoor
/- THE CELL 'sum', in the pinned program and in every row, IS THE sha256 OF THE DUMP (.gsa) THAT YthbbdicdcmjpiaaGreatDoorProg.lean LOADS. Nothing in Lean hashes anything: it is a label: what it is worth is what the hold of that sum in a sandbox is worth. -/
noncomputable def Tryz.pinned : Pinned := { name := "ythbbdicdcmjpiaagreatdoor", sum := "99ba9c83f7e4ac65b2e09d998e53760d3ba234e2df3aee6466c5101fa3cd629f", checked := Tryz.checked }
namespace Rows
def none {H : Type} : Left H := { results := [], args := [] }

/- WHAT THE LISTED PACKAGE-LEVEL VARIABLES READ AS WHEN THE CALL BEGINS. Each datum BY PROGRAM (the guide's laid-datum.mjs) off the statement by which the dump's own 'gosem.cut.vars' lays the variable. In a bare row this is a premise. The card (YthbbdicdcmjpiaaGreatDoorCards.lean) ties it to the program's text. -/
def laid_rootstock_crc_halves {H : Type} : DataW H := .agg [.lit (.int .u32 0), .lit (.int .u32 498536548), .lit (.int .u32 997073096), .lit (.int .u32 651767980), .lit (.int .u32 1994146192), .lit (.int .u32 1802195444), .lit (.int .u32 1303535960), .lit (.int .u32 1342533948), .lit (.int .u32 3988292384), .lit (.int .u32 4027552580), .lit (.int .u32 3604390888), .lit (.int .u32 3412177804), .lit (.int .u32 2607071920), .lit (.int .u32 2262029012), .lit (.int .u32 2685067896), .lit (.int .u32 3183342108)]
def laid_unicode_utf8_acceptRanges {H : Type} : DataW H := .agg [.agg [.lit (.int .u8 128), .lit (.int .u8 191)], .agg [.lit (.int .u8 160), .lit (.int .u8 191)], .agg [.lit (.int .u8 128), .lit (.int .u8 159)], .agg [.lit (.int .u8 144), .lit (.int .u8 191)], .agg [.lit (.int .u8 128), .lit (.int .u8 143)], .agg [.lit (.int .u8 0), .lit (.int .u8 0)], .agg [.lit (.int .u8 0), .lit (.int .u8 0)], .agg [.lit (.int .u8 0), .lit (.int .u8 0)], .agg [.lit (.int .u8 0), .lit (.int .u8 0)], .agg [.lit (.int .u8 0), .lit (.int .u8 0)], .agg [.lit (.int .u8 0), .lit (.int .u8 0)], .agg [.lit (.int .u8 0), .lit (.int .u8 0)], .agg [.lit (.int .u8 0), .lit (.int .u8 0)], .agg [.lit (.int .u8 0), .lit (.int .u8 0)], .agg [.lit (.int .u8 0), .lit (.int .u8 0)], .agg [.lit (.int .u8 0), .lit (.int .u8 0)]]
/-- One of Go's own tables, pinned by name: the form's constant. -/
def laid_unicode_utf8_first : DataW Unit := Go.Pinned.utf8First

/-- 'rootstocklaw17.AdjDoes': WHATEVER THE INPUT: true; the input reads as it did. -/
def adjDoesSpec : ChangeSpec := { name := "adjDoes", fn := fun _ => fun
  | [d] => { results := [.lit (.bool true)], args := [d] }
  | _ => none }
def adjDoesRow : OpenClaim := { program := "ythbbdicdcmjpiaagreatdoor", sum := "99ba9c83f7e4ac65b2e09d998e53760d3ba234e2df3aee6466c5101fa3cd629f", func := "rootstock/rootstocklaw17.AdjDoes", spec := "adjDoes", inPlace := ["internal/abi.NoEscape", "internal/bytealg.MakeNoZero", "internal/bytealg.abigen_runtime_cmpstring", "sync/atomic.AddInt64", "internal/bytealg.IndexByteString", "internal/bytealg.IndexString"], unfollowed := true, recurses := true, named := ["rootstock/crc.halves", "unicode/utf8.first", "unicode/utf8.acceptRanges", "internal/bytealg.MaxLen"], apart := false, laid := [("rootstock/crc.halves", laid_rootstock_crc_halves), ("unicode/utf8.acceptRanges", laid_unicode_utf8_acceptRanges), ("unicode/utf8.first", laid_unicode_utf8_first)] }
def AdjDoesSaid : Prop := adjDoesRow.holds Tryz.pinned (OpenSpec.ofChange adjDoesSpec)

/-- ITS FALSE NEIGHBOUR: 'it returns false'. Refute it at one input. -/
def adjDoesWrong : ChangeSpec := { name := "adjDoes", fn := fun _ => fun
  | [d] => { results := [.lit (.bool false)], args := [d] }
  | _ => none }
def AdjDoesWrongFalsely : Prop := adjDoesRow.holds Tryz.pinned (OpenSpec.ofChange adjDoesWrong)

/-- 'rootstocklaw17.AdjKeys': WHATEVER THE INPUT: true; the input reads as it did. -/
def adjKeysSpec : ChangeSpec := { name := "adjKeys", fn := fun _ => fun
  | [d1, d2, d3] => { results := [.lit (.bool true)], args := [d1, d2, d3] }
  | _ => none }
def adjKeysRow : OpenClaim := { program := "ythbbdicdcmjpiaagreatdoor", sum := "99ba9c83f7e4ac65b2e09d998e53760d3ba234e2df3aee6466c5101fa3cd629f", func := "rootstock/rootstocklaw17.AdjKeys", spec := "adjKeys", inPlace := ["internal/abi.NoEscape", "internal/bytealg.MakeNoZero", "internal/bytealg.abigen_runtime_cmpstring", "sync/atomic.AddInt64", "internal/bytealg.IndexByteString", "internal/bytealg.IndexString"], unfollowed := true, recurses := true, named := ["rootstock/crc.halves", "unicode/utf8.first", "unicode/utf8.acceptRanges", "internal/bytealg.MaxLen"], apart := false, laid := [("rootstock/crc.halves", laid_rootstock_crc_halves), ("unicode/utf8.acceptRanges", laid_unicode_utf8_acceptRanges), ("unicode/utf8.first", laid_unicode_utf8_first)] }
def AdjKeysSaid : Prop := adjKeysRow.holds Tryz.pinned (OpenSpec.ofChange adjKeysSpec)

/-- ITS FALSE NEIGHBOUR: 'it returns false'. Refute it at one input. -/
def adjKeysWrong : ChangeSpec := { name := "adjKeys", fn := fun _ => fun
  | [d1, d2, d3] => { results := [.lit (.bool false)], args := [d1, d2, d3] }
  | _ => none }
def AdjKeysWrongFalsely : Prop := adjKeysRow.holds Tryz.pinned (OpenSpec.ofChange adjKeysWrong)

/-- 'rootstocklaw17.AdjApart': WHATEVER THE INPUT: true; the input reads as it did. -/
def adjApartSpec : ChangeSpec := { name := "adjApart", fn := fun _ => fun
  | [d1, d2] => { results := [.lit (.bool true)], args := [d1, d2] }
  | _ => none }
def adjApartRow : OpenClaim := { program := "ythbbdicdcmjpiaagreatdoor", sum := "99ba9c83f7e4ac65b2e09d998e53760d3ba234e2df3aee6466c5101fa3cd629f", func := "rootstock/rootstocklaw17.AdjApart", spec := "adjApart", inPlace := ["internal/abi.NoEscape", "internal/bytealg.MakeNoZero", "internal/bytealg.abigen_runtime_cmpstring", "sync/atomic.AddInt64", "internal/bytealg.IndexByteString", "internal/bytealg.IndexString"], unfollowed := true, recurses := true, named := ["rootstock/crc.halves", "unicode/utf8.first", "unicode/utf8.acceptRanges", "internal/bytealg.MaxLen"], apart := false, laid := [("rootstock/crc.halves", laid_rootstock_crc_halves), ("unicode/utf8.acceptRanges", laid_unicode_utf8_acceptRanges), ("unicode/utf8.first", laid_unicode_utf8_first)] }
def AdjApartSaid : Prop := adjApartRow.holds Tryz.pinned (OpenSpec.ofChange adjApartSpec)

/-- ITS FALSE NEIGHBOUR: 'it returns false'. Refute it at one input. -/
def adjApartWrong : ChangeSpec := { name := "adjApart", fn := fun _ => fun
  | [d1, d2] => { results := [.lit (.bool false)], args := [d1, d2] }
  | _ => none }
def AdjApartWrongFalsely : Prop := adjApartRow.holds Tryz.pinned (OpenSpec.ofChange adjApartWrong)

/-- 'rootstocklaw17.AdjCounts': WHATEVER THE INPUT: true; the input reads as it did. -/
def adjCountsSpec : ChangeSpec := { name := "adjCounts", fn := fun _ => fun
  | [d] => { results := [.lit (.bool true)], args := [d] }
  | _ => none }
def adjCountsRow : OpenClaim := { program := "ythbbdicdcmjpiaagreatdoor", sum := "99ba9c83f7e4ac65b2e09d998e53760d3ba234e2df3aee6466c5101fa3cd629f", func := "rootstock/rootstocklaw17.AdjCounts", spec := "adjCounts", inPlace := ["internal/abi.NoEscape", "internal/bytealg.MakeNoZero", "internal/bytealg.abigen_runtime_cmpstring", "sync/atomic.AddInt64", "internal/bytealg.IndexByteString", "internal/bytealg.IndexString"], unfollowed := true, recurses := true, named := ["rootstock/crc.halves", "unicode/utf8.first", "unicode/utf8.acceptRanges", "internal/bytealg.MaxLen"], apart := false, laid := [("rootstock/crc.halves", laid_rootstock_crc_halves), ("unicode/utf8.acceptRanges", laid_unicode_utf8_acceptRanges), ("unicode/utf8.first", laid_unicode_utf8_first)] }
def AdjCountsSaid : Prop := adjCountsRow.holds Tryz.pinned (OpenSpec.ofChange adjCountsSpec)

/-- ITS FALSE NEIGHBOUR: 'it returns false'. Refute it at one input. -/
def adjCountsWrong : ChangeSpec := { name := "adjCounts", fn := fun _ => fun
  | [d] => { results := [.lit (.bool false)], args := [d] }
  | _ => none }
def AdjCountsWrongFalsely : Prop := adjCountsRow.holds Tryz.pinned (OpenSpec.ofChange adjCountsWrong)

/- THE SECOND FORM. 'bulk': how many values and letters a reading holds, each counted each time it is reached (what is shared counts as often as it is met; a slice's spare places count too). A statement '..UptoSaid' is the law's where the arguments, and the package variables that the reading takes, are together of bulk at most 1048576: NARROWER than '..Said'. Prove '..Said' where nothing that the law and all that it calls make is longer than what came in: it says more and counts as full. Else prove '..UptoSaid'. A law counts once. -/
mutual
def uptoBulk {H : Type} : DataW H → Nat
  | .lit (.string bytes) => bytes.length + 1
  | .lit _ => 1
  | .nil => 1
  | .ptr d => uptoBulk d + 1
  | .slice elems spare => uptoBulkAll elems + uptoBulkAll spare + 1
  | .agg parts => uptoBulkAll parts + 1
  | .iface _ d => uptoBulk d + 1
  | .map entries => uptoBulkEntries entries + 1
  | .held _ => 1
def uptoBulkAll {H : Type} : List (DataW H) → Nat
  | [] => 0
  | d :: r => uptoBulk d + uptoBulkAll r
def uptoBulkEntries {H : Type} : List (Lit × DataW H) → Nat
  | [] => 0
  | x :: r => uptoBulkEntry x + uptoBulkEntries r
def uptoBulkEntry {H : Type} : Lit × DataW H → Nat
  | (.string bytes, d) => bytes.length + uptoBulk d + 1
  | (_, d) => uptoBulk d + 1
 end
def uptoSmall : (H : Type) → List (DataW H) → Bool := fun _ ds => decide (uptoBulkAll ds ≤ 1048576)
def OpenSpec.upto (s : _root_.Go.ChangeSpec) : _root_.Go.OpenSpec := { _root_.Go.OpenSpec.ofChange s with cond := some uptoSmall }

/-- 'rootstocklaw17.AdjDoes', WHERE WHAT IT READS IS OF BULK AT MOST 1048576: true; the input reads as it did. -/
def adjDoesUptoRow : OpenClaim := { program := "ythbbdicdcmjpiaagreatdoor", sum := "99ba9c83f7e4ac65b2e09d998e53760d3ba234e2df3aee6466c5101fa3cd629f", func := "rootstock/rootstocklaw17.AdjDoes", spec := "adjDoes", inPlace := ["internal/abi.NoEscape", "internal/bytealg.MakeNoZero", "internal/bytealg.abigen_runtime_cmpstring", "sync/atomic.AddInt64", "internal/bytealg.IndexByteString", "internal/bytealg.IndexString"], unfollowed := true, recurses := true, named := ["rootstock/crc.halves", "unicode/utf8.first", "unicode/utf8.acceptRanges", "internal/bytealg.MaxLen"], apart := false, laid := [("rootstock/crc.halves", laid_rootstock_crc_halves), ("unicode/utf8.acceptRanges", laid_unicode_utf8_acceptRanges), ("unicode/utf8.first", laid_unicode_utf8_first)], narrowed := true }
def AdjDoesUptoSaid : Prop := adjDoesUptoRow.holds Tryz.pinned (OpenSpec.upto adjDoesSpec)

/-- 'rootstocklaw17.AdjKeys', WHERE WHAT IT READS IS OF BULK AT MOST 1048576: true; the input reads as it did. -/
def adjKeysUptoRow : OpenClaim := { program := "ythbbdicdcmjpiaagreatdoor", sum := "99ba9c83f7e4ac65b2e09d998e53760d3ba234e2df3aee6466c5101fa3cd629f", func := "rootstock/rootstocklaw17.AdjKeys", spec := "adjKeys", inPlace := ["internal/abi.NoEscape", "internal/bytealg.MakeNoZero", "internal/bytealg.abigen_runtime_cmpstring", "sync/atomic.AddInt64", "internal/bytealg.IndexByteString", "internal/bytealg.IndexString"], unfollowed := true, recurses := true, named := ["rootstock/crc.halves", "unicode/utf8.first", "unicode/utf8.acceptRanges", "internal/bytealg.MaxLen"], apart := false, laid := [("rootstock/crc.halves", laid_rootstock_crc_halves), ("unicode/utf8.acceptRanges", laid_unicode_utf8_acceptRanges), ("unicode/utf8.first", laid_unicode_utf8_first)], narrowed := true }
def AdjKeysUptoSaid : Prop := adjKeysUptoRow.holds Tryz.pinned (OpenSpec.upto adjKeysSpec)

/-- 'rootstocklaw17.AdjApart', WHERE WHAT IT READS IS OF BULK AT MOST 1048576: true; the input reads as it did. -/
def adjApartUptoRow : OpenClaim := { program := "ythbbdicdcmjpiaagreatdoor", sum := "99ba9c83f7e4ac65b2e09d998e53760d3ba234e2df3aee6466c5101fa3cd629f", func := "rootstock/rootstocklaw17.AdjApart", spec := "adjApart", inPlace := ["internal/abi.NoEscape", "internal/bytealg.MakeNoZero", "internal/bytealg.abigen_runtime_cmpstring", "sync/atomic.AddInt64", "internal/bytealg.IndexByteString", "internal/bytealg.IndexString"], unfollowed := true, recurses := true, named := ["rootstock/crc.halves", "unicode/utf8.first", "unicode/utf8.acceptRanges", "internal/bytealg.MaxLen"], apart := false, laid := [("rootstock/crc.halves", laid_rootstock_crc_halves), ("unicode/utf8.acceptRanges", laid_unicode_utf8_acceptRanges), ("unicode/utf8.first", laid_unicode_utf8_first)], narrowed := true }
def AdjApartUptoSaid : Prop := adjApartUptoRow.holds Tryz.pinned (OpenSpec.upto adjApartSpec)

/-- 'rootstocklaw17.AdjCounts', WHERE WHAT IT READS IS OF BULK AT MOST 1048576: true; the input reads as it did. -/
def adjCountsUptoRow : OpenClaim := { program := "ythbbdicdcmjpiaagreatdoor", sum := "99ba9c83f7e4ac65b2e09d998e53760d3ba234e2df3aee6466c5101fa3cd629f", func := "rootstock/rootstocklaw17.AdjCounts", spec := "adjCounts", inPlace := ["internal/abi.NoEscape", "internal/bytealg.MakeNoZero", "internal/bytealg.abigen_runtime_cmpstring", "sync/atomic.AddInt64", "internal/bytealg.IndexByteString", "internal/bytealg.IndexString"], unfollowed := true, recurses := true, named := ["rootstock/crc.halves", "unicode/utf8.first", "unicode/utf8.acceptRanges", "internal/bytealg.MaxLen"], apart := false, laid := [("rootstock/crc.halves", laid_rootstock_crc_halves), ("unicode/utf8.acceptRanges", laid_unicode_utf8_acceptRanges), ("unicode/utf8.first", laid_unicode_utf8_first)], narrowed := true }
def AdjCountsUptoSaid : Prop := adjCountsUptoRow.holds Tryz.pinned (OpenSpec.upto adjCountsSpec)

end Rows
end Go.Proofs.YthbbdicdcmjpiaaGreatDoor
