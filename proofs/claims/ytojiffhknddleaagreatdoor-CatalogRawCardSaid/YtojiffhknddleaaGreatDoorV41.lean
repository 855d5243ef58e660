/-
  Rows of law 17's acts: K, U, V, T. It proves no statement by itself.
-/
import Derived.Test.YtojiffhknddleaaGreatDoorV08
namespace Go.Proofs.YtojiffhknddleaaGreatDoor
open Go.RowKit Go.Lib
theorem swap3 {A B C : Asn} {w : World} (h : Sat (A * (B * C)) w) : Sat (B * (A * C)) w := h.of_eq (by ac_rfl)
theorem rowOf_shl {α : Type} {enc : α → List Value} {sz : Nat} {e : TypeId} {v : Value} {l : List α} {F : Asn} {w : World} (H : Sat (RowOf e sz enc v l * F) w) : ∃ a c, v = .slice a l.length c := by
  obtain ⟨hx, ⟨rfl, h0, _⟩ | ⟨g, cap, cur, rfl, h2, h3, h4, h5, _⟩⟩ := sat_row.1 H
  · exact ⟨none, 0, by rw [h0]⟩
  · exact ⟨_, _, rfl⟩
end Go.Proofs.YtojiffhknddleaaGreatDoor
