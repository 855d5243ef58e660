/-
  AdjCounts, by its walk. It proves no statement by itself.
-/
import Derived.Test.YthbbdicdcmjpiaaGreatDoorP42
import Derived.Test.YthbbdicdcmjpiaaGreatDoorP44
namespace Go.Proofs.YthbbdicdcmjpiaaGreatDoor
open Go.RowKit Go.Lib
set_option linter.unusedSimpArgs false
set_option linter.unusedVariables false
set_option linter.unusedSectionVars false
/-! ### Rows of acts: K, U, V, T. -/
theorem readsA17_len {F : Asn} {v : Value} {l : List Act17} (h : Reads encA17 F v l) : ∃ a c, v = .slice a l.length c ∧ (l.length : Int) ≤ 9223372036854775807 := by
  obtain ⟨a, c, h1, h2, _⟩ := h
  exact ⟨a, c, h1, by omega⟩
theorem readsA17_get {F : Asn} {a : Option Addr} {n c : Nat} {l : List Act17} (hl : Reads encA17 F (.slice a n c) l) (k : Nat) (hk : k < l.length) : ∃ b off x1 x2 x3 x4, a = some ⟨b, off, none⟩ ∧ l[k] = ((x1, x2, x3), x4) ∧ ∀ w, Sat F w →
    w.cell? ⟨b, off + k * 4, none⟩ = some (.int .i64 x1) ∧ w.cell? ⟨b, off + k * 4 + 1, none⟩ = some (.int .i64 x2) ∧ w.cell? ⟨b, off + k * 4 + 2, none⟩ = some (.int .i64 x3) ∧ w.cell? ⟨b, off + k * 4 + 3, none⟩ = some (.bool x4) := by
  obtain ⟨b, off, h1, h2⟩ := hl.get encA17_ok k hk
  refine ⟨b, off, _, _, _, _, h1, rfl, fun w hw => ⟨?_, ?_, ?_, ?_⟩⟩
  · have := h2 w hw 0 _ (by omega) rfl
    simpa using this
  · have := h2 w hw 1 _ (by omega) rfl
    simpa using this
  · have := h2 w hw 2 _ (by omega) rfl
    simpa using this
  · have := h2 w hw 3 _ (by omega) rfl
    simpa using this
section
variable {a : Nat} {c : Cq} {F : Asn} {w : World} {R : Ending → World → Prop} {A T : List Pr} {M : List Ky.En} {q g : Nat}
theorem AjM.ok (H : Sat (AjM a c A T M q g * F) w) : Eg.Srt A ∧ ∀ p ∈ A, 0 ≤ p.1 ∧ p.1 < p.2 ∧ p.2 < 1048576 := by
  obtain ⟨es, s, H⟩ := sat_ajm.1 H
  exact ⟨s.sim.sa, s.sim.ok⟩
theorem most_n {n q g : Nat} (hc : Hid (c.k.n = n)) (h : 30 + Tb.most q g < n) : Hid (30 + (Tb.most q g : Int) < c.k.room) := Lib.hid (by
  have := hc.out
  unfold Tq.room
  rw [this]
  omega)
theorem room_counts {k : Nat} (hc : Hid (c.k.n = 2000)) (hk : k ≤ 80) : Hid (30 + (Tb.most (60 + 24 * k + 12) (2 * k + 1) : Int) < c.k.room) := most_n hc (by
  unfold Tb.most
  have h1 : (2 * k + 1) / 11 + 2 ≤ 16 := by omega
  have h2 := Nat.mul_le_mul (show 60 + 24 * k + 12 ≤ 2000 by omega) h1
  omega)
theorem room_counts2 {k : Nat} (hc : Hid (c.k.n = 2000)) (hk : k ≤ 80) : Hid (30 + (Tb.most (60 + 24 * k) (2 * k) : Int) < c.k.room) := most_n hc (by
  unfold Tb.most
  have h1 : 2 * k / 11 + 2 ≤ 16 := by omega
  have h2 := Nat.mul_le_mul (show 60 + 24 * k ≤ 2000 by omega) h1
  omega)
end
section
variable {F : Asn} {w : World} {R : Ending → World → Prop}
end
end Go.Proofs.YthbbdicdcmjpiaaGreatDoor
