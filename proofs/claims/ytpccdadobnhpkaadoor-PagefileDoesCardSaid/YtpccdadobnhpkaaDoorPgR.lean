/-
  The document's pages: Check, by its walk. It proves no statement by itself.
-/
import Derived.Test.YtpccdadobnhpkaaDoorPgB
namespace Go.Proofs.YtpccdadobnhpkaaDoor
open Go.RowKit
set_option linter.unusedSimpArgs false
set_option linter.unusedVariables false

/-- The number that bytes tell. -/
def unB (s : ByteArray) : Nat := un s.data.toList

section
variable {F : Asn} {w : World} {R : Ending → World → Prop}
theorem rint_B (s : ByteArray) (hs : s.size ≤ 4) (h : R (.returned (.int .i64 (unB s : Nat))) w) : Calls Tryd.prog 66 #[.string s] w R := rint_any s hs h
theorem rsum_B (s : ByteArray) (hs : s.size ≤ 1000000) (h : R (.returned (.int .i64 (crcB s : Nat))) w) : Calls Tryd.prog 68 #[.string s] w R := rsum_any s hs h