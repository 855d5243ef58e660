/-
  Rows that are owned: a cell is stored, a row is cut, cleared behind its end, copied into, appended to in place, appended zeros. No program in sight. It proves no statement by itself.
-/
import Derived.Test.YtojiffhknddleaaGreatDoorV08
import Derived.Lib.AppendZerosOnto
import Derived.Lib.AppendZeros
namespace Go.Proofs.YtojiffhknddleaaGreatDoor
open Go.RowKit
set_option linter.unusedSimpArgs false
set_option linter.unusedVariables false

section
variable {P : Program} {e : TypeId} {sz g n c : Nat} {xs : List Value} {F : Asn} {w : World}
theorem row_store (H : Sat (Row e sz (.slice (some ⟨g, 0, none⟩) n c) n xs * F) w) (j : Nat) (v : Value) : Sat (Row e sz (.slice (some ⟨g, 0, none⟩) n c) n (xs.set j v) * F) (w.setCell ⟨g, j, none⟩ v) := by
  obtain ⟨hl, ⟨h0, _⟩ | ⟨g', cap, cur, e1, e2, e3, e4, e5, h⟩⟩ := sat_row.1 H
  · cases h0
  · cases e1
    refine sat_row.2 ⟨by rw [List.length_set]; exact hl, .inr ⟨g, c, cur.setIfInBounds j v, rfl, e2, e3, by simpa using e4, ?_, h.cell j v⟩⟩
    rw [Array.toList_setIfInBounds, ← e5, List.take_set]
theorem row_free (H : Sat (Row e sz (.slice (some ⟨g, 0, none⟩) n c) n xs * F) w) (j : Nat) : w.frozen? ⟨g, j, none⟩ = false := by
  obtain ⟨hl, ⟨h0, _⟩ | ⟨g', cap, cur, e1, e2, e3, e4, e5, h⟩⟩ := sat_row.1 H
  · cases h0
  · cases e1
    exact Sat.free h.left.at j
theorem row_cap (H : Sat (Row e sz (.slice (some ⟨g, 0, none⟩) n c) n xs * F) w) : n ≤ c ∧ c ≤ maxLen := by
  obtain ⟨hl, ⟨h0, _⟩ | ⟨g', cap, cur, e1, e2, e3, e4, e5, h⟩⟩ := sat_row.1 H
  · cases h0
  · cases e1
    exact ⟨e2, e3⟩
theorem row_read (H : Sat (Row e sz (.slice (some ⟨g, 0, none⟩) n c) n xs * F) w) (j : Nat) (u : Value) (hu : xs[j]? = some u) : w.cell? ⟨g, j, none⟩ = some u := by
  obtain ⟨hl, ⟨h0, _⟩ | ⟨g', cap, cur, e1, e2, e3, e4, e5, h⟩⟩ := sat_row.1 H
  · cases h0
  · cases e1
    rw [Sat.read h.left.at j]
    have hj : j < xs.length := (List.getElem?_eq_some_iff.1 hu).1
    rw [← e5, List.length_take] at hj
    rw [← e5, List.getElem?_take_of_lt (by omega), Array.getElem?_toList] at hu
    exact hu
theorem row_shrink (H : Sat (Row e sz (.slice (some ⟨g, 0, none⟩) n c) n xs * F) w) {k : Nat} (hk : k ≤ n) : Sat (Row e sz (.slice (some ⟨g, 0, none⟩) k c) k (xs.take (k * sz)) * F) w := by
  obtain ⟨hl, ⟨h0, _⟩ | ⟨g', cap, cur, e1, e2, e3, e4, e5, h⟩⟩ := sat_row.1 H
  · cases h0
  · cases e1
    have := Nat.mul_le_mul_right sz hk
    refine sat_row.2 ⟨by rw [List.length_take]; omega, .inr ⟨g, c, cur, rfl, by omega, e3, e4, ?_, h⟩⟩
    rw [← e5, List.take_take, Nat.min_eq_left this]
end
end Go.Proofs.YtojiffhknddleaaGreatDoor
