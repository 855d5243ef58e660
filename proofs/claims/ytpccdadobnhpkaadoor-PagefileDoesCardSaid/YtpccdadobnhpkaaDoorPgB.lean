/-
  What is sealed is opened as it was: the law's walk. It proves no statement by itself.
-/
import Derived.Test.YtpccdadobnhpkaaDoorPgT
namespace Go.Proofs.YtpccdadobnhpkaaDoor
open Go.RowKit
set_option linter.unusedSimpArgs false
set_option linter.unusedVariables false

theorem seal_parts {id : Int} {b : ByteArray} (h : sealE id b = 0) : b.size ≤ 240 ∧ fits 4 id = true := by
  unfold sealE at h
  by_cases hb : 240 < b.size
  · rw [if_pos hb] at h; cases h
  · rw [if_neg hb] at h
    cases hi : fits 4 id with
    | false => rw [hi] at h; cases h
    | true => exact ⟨by omega, rfl⟩
theorem seal_of {id : Int} {b : ByteArray} (hb : b.size ≤ 240) (hi : fits 4 id = true) : sealE id b = 0 := by
  unfold sealE
  rw [if_neg (by omega), hi]
  rfl
theorem seal_back {id : Int} {k : UInt8} {b : ByteArray} (h : sealE id b = 0) :
    (sealS id k b).size = 256 ∧ chkB (sealS id k b) = true ∧ openV id (sealS id k b) = .tuple #[.int .u8 (k.toNat : Nat), .string b, .int .i64 0] := by
  obtain ⟨p1, p2⟩ := seal_parts h
  unfold sealS
  rw [if_pos h]
  refine ⟨by rw [tx_size, pgBytes_length p1], chk_bytes p1, ?_⟩
  unfold openV
  rw [pgOpen_iff.2 ⟨p1, p2, rfl⟩]
theorem open_back {id : Int} {s : ByteArray} {k : UInt8} {b : ByteArray} (h : pgOpen id s = some (k, b)) : sealE id b = 0 ∧ sealS id k b = s ∧ b.size ≤ 240 := by
  obtain ⟨p1, p2, p3⟩ := pgOpen_iff.1 h
  have e := seal_of p1 p2
  refine ⟨e, ?_, p1⟩
  unfold sealS
  rw [if_pos e, p3]