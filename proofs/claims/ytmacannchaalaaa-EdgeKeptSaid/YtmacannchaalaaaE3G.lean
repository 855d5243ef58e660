/-
  Rows of changes; the document's Diff, Apply, SameChanges, by their walks. It proves no statement by itself.
-/
import Derived.Test.YtmacannchaalaaaE3M
import Derived.Test.YtmacannchaalaaaRw
namespace Go.Proofs.Ytmacannchaalaaa
open Go.RowKit
set_option linter.unusedSimpArgs false
set_option linter.unusedVariables false

abbrev Ch := Pr × Bool
/-- A change's cells. -/
def encC (x : Ch) : List Value := [.int .i64 x.1.1, .int .i64 x.1.2, .bool x.2]
theorem encC_ok : Enc encC 3 := ⟨fun _ => rfl, fun x u hu => by simp [encC] at hu; rcases hu with rfl | rfl | rfl <;> rfl⟩
theorem Try.rowC : RowTy Try.prog 45 53 3 24 := ⟨Try.underlying45, ⟨.agg #[.int .i64 0, .int .i64 0, .bool false], rfl, by kernel_rfl⟩, by omega⟩
abbrev RowC (v : Value) (l : List Ch) : Asn := RowOf 53 3 encC v l
abbrev ReadsC (F : Asn) (v : Value) (l : List Ch) : Prop := Reads encC F v l
theorem readsC_get {F : Asn} {a : Option Addr} {n c : Nat} {l : List Ch} (hl : ReadsC F (.slice a n c) l) (k : Nat) (hk : k < l.length) : ∃ b off x1 x2 y, a = some ⟨b, off, none⟩ ∧ l[k] = ((x1, x2), y) ∧ ∀ w, Sat F w →
    w.cell? ⟨b, off + k * 3, none⟩ = some (.int .i64 x1) ∧ w.cell? ⟨b, off + k * 3 + 1, none⟩ = some (.int .i64 x2) ∧ w.cell? ⟨b, off + k * 3 + 2, none⟩ = some (.bool y) := by
  obtain ⟨b, off, h1, h2⟩ := hl.get encC_ok k hk
  exact ⟨b, off, _, _, _, h1, rfl, fun w hw => ⟨h2 w hw 0 _ (by omega) rfl, h2 w hw 1 _ (by omega) rfl, h2 w hw 2 _ (by omega) rfl⟩⟩
theorem readsC_len {F : Asn} {v : Value} {l : List Ch} (h : ReadsC F v l) : ∃ a c, v = .slice a l.length c ∧ (l.length : Int) ≤ 9223372036854775807 := by
  obtain ⟨a, c, h1, h2, _⟩ := h
  exact ⟨a, c, h1, by omega⟩
theorem eql_change (x y : Ch) (w : World) : (binOp .eql 53 (.agg #[.int .i64 x.1.1, .int .i64 x.1.2, .bool x.2]) (.agg #[.int .i64 y.1.1, .int .i64 y.1.2, .bool y.2])).run Try.prog w = .ok (.bool (decide (x = y))) w := by
  have u3 := Try.underlying3
  have a3 := Try.isAgg3
  have z3 := Try.sizeOf3
  have u4 := Try.underlying4
  have a4 := Try.isAgg4
  have z4 := Try.sizeOf4
  have u25 := Try.underlying25
  have a25 := Try.isAgg25
  have z25 := Try.sizeOf25
  have hS : Try.prog.underlying 53 = some (.struct (Try.prog.fieldsOf 53)) := by kernel_rfl
  have hp : Try.prog.stoodInHeld 53 = false := by kernel_rfl
  have hS2 : Try.prog.underlying 25 = some (.struct (Try.prog.fieldsOf 25)) := by kernel_rfl
  have hp2 : Try.prog.stoodInHeld 25 = false := by kernel_rfl
  rw [run_eql_struct, show (10000 : Nat) = 9999 + 1 from rfl, run_equalIn_agg w 9999 53 _ _ hS hp]
  simp only [Program.fieldsOf, Try.underlying53]
  go_simp
  obtain ⟨⟨x1, x2⟩, x3⟩ := x
  obtain ⟨⟨y1, y2⟩, y3⟩ := y
  by_cases h1 : x1 = y1 <;> by_cases h2 : x2 = y2 <;> by_cases h3 : x3 = y3 <;> simp [h1, h2, h3]
end Go.Proofs.Ytmacannchaalaaa
