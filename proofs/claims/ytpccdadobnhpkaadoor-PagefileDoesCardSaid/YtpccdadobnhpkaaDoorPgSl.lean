/-
  A page's bytes are what the document says: the law's walk. It proves no statement by itself.
-/
import Derived.Test.YtpccdadobnhpkaaDoorPgS
namespace Go.Proofs.YtpccdadobnhpkaaDoor
open Go.RowKit
set_option linter.unusedSimpArgs false
set_option linter.unusedVariables false

section
variable {F : Asn} {w : World} {R : Ending → World → Prop}
/-- What the document's Seal answers. -/
def rsealV (id : Int) (k : UInt8) (b : ByteArray) : Value := if sealE id b = 0 then .tuple #[.string (sealS id k b), .bool true] else .tuple #[.string ByteArray.empty, .bool false]
theorem rseal_any (H : Sat F w) (id : Int) (hid : id ≤ 9223372036854775807) (k : UInt8) (b : ByteArray) (hb : b.size ≤ 1000000)
    (h : ∀ w', Sat F w' → Io w w' → R (.returned (rsealV id k b)) w') :
    Calls Tryd.prog 43 #[.int .i64 id, .int .u8 (k.toNat : Int), .string b] w R := by
  unfold rsealV at h
  by_cases hi : sealE id b = 0
  · rw [if_pos hi] at h
    obtain ⟨p1, p2⟩ := seal_parts hi
    unfold sealS at h
    rw [if_pos hi] at h
    exact rseal_ok H id hid k b p1 p2 h
  · rw [if_neg hi] at h
    exact rseal_no H id hid k b hb hi h