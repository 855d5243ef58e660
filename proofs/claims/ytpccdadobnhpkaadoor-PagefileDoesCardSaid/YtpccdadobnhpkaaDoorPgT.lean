/-
  Unlike pages have unlike bytes: the law's walk. It proves no statement by itself.
-/
import Derived.Test.YtpccdadobnhpkaaDoorPgX
namespace Go.Proofs.YtpccdadobnhpkaaDoor
open Go.RowKit
set_option linter.unusedSimpArgs false
set_option linter.unusedVariables false

theorem seal_same {id : Int} {k : UInt8} {b : ByteArray} {id' : Int} {k' : UInt8} {b' : ByteArray} (h : sealE id b = 0) (h' : sealE id' b' = 0) :
    sealS id k b = sealS id' k' b' ↔ id = id' ∧ k = k' ∧ b = b' := by
  have parts : ∀ {id : Int} {b : ByteArray}, sealE id b = 0 → b.size ≤ 240 ∧ fits 4 id = true := by
    intro id b h
    unfold sealE at h
    by_cases hb : 240 < b.size
    · rw [if_pos hb] at h; cases h
    · rw [if_neg hb] at h
      cases hi : fits 4 id with
      | false => rw [hi] at h; cases h
      | true => exact ⟨by omega, rfl⟩
  unfold sealS
  rw [if_pos h, if_pos h']
  constructor
  · intro e
    obtain ⟨p1, p2⟩ := parts h
    obtain ⟨q1, q2⟩ := parts h'
    have l := tx_inj e
    have a : be 4 id.toNat = be 4 id'.toNat := by rw [← pg_4 (kind := k) p1, ← pg_4 (kind := k') q1, l]
    have hid : id = id' := by
      have := congrArg un a
      rw [un_be, un_be] at this
      simp [fits] at p2 q2
      have e4 : (256 : Nat) ^ 4 = 4294967296 := rfl
      rw [e4] at this
      omega
    subst hid
    have a1 : pgOpen id (tx (pgBytes id k b)) = some (k, b) := pgOpen_iff.2 ⟨p1, p2, rfl⟩
    have a2 : pgOpen id (tx (pgBytes id k' b')) = some (k', b') := pgOpen_iff.2 ⟨q1, q2, rfl⟩
    rw [e, a2] at a1
    simp only [Option.some.injEq, Prod.mk.injEq] at a1
    exact ⟨rfl, a1.1.symm, a1.2.symm⟩
  · rintro ⟨rfl, rfl, rfl⟩
    rfl