/-
  The statement DiskApart, walked: it answers true. It proves the walk alone; the row is closed elsewhere.
-/
import Derived.Test.YtpccdadobnhpkaaDoorLast
namespace Go.Proofs.YtpccdadobnhpkaaDoor
open Go.RowKit
set_option linter.unusedSimpArgs false
set_option linter.unusedVariables false

/-- What act k holds, wherever the arguments are still held. -/
theorem acts_at {F : Asn} {a : Option Addr} {n c : Nat} {l : List Act4} (hl : ReadsActs F (.slice a n c) l) (k : Nat) (hk : k < l.length) : ∃ b off, a = some ⟨b, off, none⟩ ∧ ∀ w, Sat F w →
    w.cell? ⟨b, off + k * 6, none⟩ = some (.int .i64 l[k].K) ∧ w.cell? ⟨b, off + k * 6 + 1, none⟩ = some (.int .i64 l[k].I) ∧ w.cell? ⟨b, off + k * 6 + 2, none⟩ = some (.int .u8 (l[k].B.toNat : Int)) := by
  obtain ⟨⟨a', c', h1, _, h3⟩, _, _⟩ := hl
  cases h1
  rcases h3 with h3 | ⟨b, off, e, h3⟩
  · omega
  · exact ⟨b, off, e, fun w hw => by obtain ⟨q0, q1, q2, _⟩ := h3 w hw k hk; exact ⟨q0, q1, q2⟩⟩

theorem acts_len {F : Asn} {v : Value} {l : List Act4} (hl : ReadsActs F v l) : ∃ a c, v = .slice a l.length c := by
  obtain ⟨⟨a, c, h1, _, _⟩, _, _⟩ := hl
  exact ⟨a, c, h1⟩

theorem light_len {n : Int} {l : List Act4} (h : lightB n l = true) : l.length ≤ 60 := by
  simp [lightB] at h
  exact h.1.2

section
variable {w : World} {R : Ending → World → Prop}