/-
  Rows of acts that came in, and whether they are few. It proves no statement by itself.
-/
import Derived.Test.YtpccdadobnhpkaaDoorWorks
import Derived.Deep.RegionHeld3
namespace Go.Proofs.YtpccdadobnhpkaaDoor
open Go.RowKit
set_option linter.unusedSimpArgs false
set_option linter.unusedVariables false

/-- One act. -/
structure Act4 where
  K : Int
  I : Int
  B : UInt8
  kv : Value
  keep : List Int
  T : Int
  C : Int

/-- A slice value that reads as these acts, wherever F holds. -/
structure ReadsActs (F : Asn) (v : Value) (l : List Act4) : Prop where
  shape : ∃ a c, v = .slice a l.length c ∧ l.length ≤ 9223372036854775807 ∧ (l.length = 0 ∨ ∃ b off, a = some ⟨b, off, none⟩ ∧ ∀ w, Sat F w → ∀ i (h : i < l.length),
    w.cell? ⟨b, off + i * 6, none⟩ = some (.int .i64 l[i].K) ∧ w.cell? ⟨b, off + i * 6 + 1, none⟩ = some (.int .i64 l[i].I) ∧ w.cell? ⟨b, off + i * 6 + 2, none⟩ = some (.int .u8 (l[i].B.toNat : Int)) ∧
    w.cell? ⟨b, off + i * 6 + 3, none⟩ = some l[i].kv ∧ w.cell? ⟨b, off + i * 6 + 4, none⟩ = some (.int .i64 l[i].T) ∧ w.cell? ⟨b, off + i * 6 + 5, none⟩ = some (.int .i64 l[i].C))
  keeps : ∀ x ∈ l, ReadsInts F x.kv x.keep
  ints : ∀ x ∈ l, (-9223372036854775808 ≤ x.K ∧ x.K ≤ 9223372036854775807) ∧ (-9223372036854775808 ≤ x.I ∧ x.I ≤ 9223372036854775807)

theorem ReadsActs.with {F G : Asn} {v : Value} {l : List Act4} (h : ReadsActs F v l) : ReadsActs (G * F) v l := by
  obtain ⟨⟨a, c, h1, h2, h3⟩, h4, h5⟩ := h
  refine ⟨⟨a, c, h1, h2, ?_⟩, fun x hx => (h4 x hx).with, h5⟩
  rcases h3 with h3 | ⟨b, off, e, h3⟩
  · exact .inl h3
  · exact .inr ⟨b, off, e, fun w hw => h3 w hw.right⟩

/-- light(n, l). -/
def lightB (n : Int) (l : List Act4) : Bool := decide (n ≤ 40) && decide (l.length ≤ 60) && l.all fun x => decide (x.keep.length ≤ 60)

section
variable {w : World} {R : Ending → World → Prop} {F : Asn}