/-
  Rows of runs; when two runs are one; the document's clip, by its walk. It proves no statement by itself.
-/
import Derived.Test.YthbbdicdcmjpiaaGreatDoorQ01
import Derived.Test.YthbbdicdcmjpiaaGreatDoorQ03
import Derived.Test.YthbbdicdcmjpiaaGreatDoorRows
import Derived.Lib.Hide
import Derived.Laws.StructEq
import Derived.Deep.RegionHeld3
namespace Go.Proofs.YthbbdicdcmjpiaaGreatDoor
open Go.RowKit Go.Lib
set_option linter.unusedSimpArgs false
set_option linter.unusedVariables false

/-- A run's cells. -/
def encR (x : Rn) : List Value := [.int .i64 x.1, .int .i64 x.2]
theorem encR_ok : Enc encR 2 := ⟨fun _ => rfl, fun x u hu => by simp [encR] at hu; rcases hu with rfl | rfl <;> rfl⟩
theorem Tryz.rowR : RowTy Tryz.prog 111 113 2 16 := ⟨Tryz.underlying111, ⟨.agg #[.int .i64 0, .int .i64 0], rfl, by kernel_rfl⟩, by omega⟩
abbrev RowR (v : Value) (l : List Rn) : Asn := RowOf 113 2 encR v l
abbrev ReadsR (F : Asn) (v : Value) (l : List Rn) : Prop := Reads encR F v l
theorem readsR_get {F : Asn} {a : Option Addr} {n c : Nat} {l : List Rn} (hl : ReadsR F (.slice a n c) l) (k : Nat) (hk : k < l.length) : ∃ b off x1 x2, a = some ⟨b, off, none⟩ ∧ l[k] = (x1, x2) ∧ ∀ w, Sat F w →
    w.cell? ⟨b, off + k * 2, none⟩ = some (.int .i64 x1) ∧ w.cell? ⟨b, off + k * 2 + 1, none⟩ = some (.int .i64 x2) := by
  obtain ⟨b, off, h1, h2⟩ := hl.get encR_ok k hk
  exact ⟨b, off, _, _, h1, rfl, fun w hw => ⟨h2 w hw 0 _ (by omega) rfl, h2 w hw 1 _ (by omega) rfl⟩⟩
theorem readsR_len {F : Asn} {v : Value} {l : List Rn} (h : ReadsR F v l) : ∃ a c, v = .slice a l.length c ∧ (l.length : Int) ≤ 9223372036854775807 := by
  obtain ⟨a, c, h1, h2, _⟩ := h
  exact ⟨a, c, h1, by omega⟩
theorem Sat.mid {A B C : Asn} {w : World} (h : Sat (A * (B * C)) w) : Sat (A * C) w := (h.of_eq (show A * (B * C) = B * (A * C) from by ac_rfl)).right
theorem box_cells {x y : Value} {t : TypeId} {b : Nat} {R : Asn} {w : World} (H : Sat (pts b (.cells #[x, y] t (0, 0)) * R) w) : w.cell? ⟨b, 0, none⟩ = some x ∧ w.cell? ⟨b, 1, none⟩ = some y := ⟨Sat.read H.left.at 0, Sat.read H.left.at 1⟩
theorem box_free {x y : Value} {t : TypeId} {b : Nat} {R : Asn} {w : World} (H : Sat (pts b (.cells #[x, y] t (0, 0)) * R) w) : w.frozen? ⟨b, 0, none⟩ = false ∧ w.frozen? ⟨b, 1, none⟩ = false := ⟨Sat.free H.left.at 0, Sat.free H.left.at 1⟩
theorem box_set {x y x' y' : Value} {t : TypeId} {b : Nat} {R : Asn} {w : World} (H : Sat (pts b (.cells #[x, y] t (0, 0)) * R) w) : Sat (pts b (.cells #[x', y'] t (0, 0)) * R) ((w.setCell ⟨b, 0, none⟩ x').setCell ⟨b, 1, none⟩ y') := by
  have := (H.cell 0 x').cell 1 y'
  exact this
theorem row_nilR {F : Asn} {w : World} (H : Sat F w) : Sat (RowR (.slice none 0 0) [] * F) w := rowOf_nil H
/-- `!=` at a run. -/
theorem eql_run (x y : Rn) (w : World) : (binOp .eql 113 (.agg #[.int .i64 x.1, .int .i64 x.2]) (.agg #[.int .i64 y.1, .int .i64 y.2])).run Tryz.prog w = .ok (.bool (decide (x = y))) w := by
  have u3 := Tryz.underlying3
  have a3 := Tryz.isAgg3
  have z3 := Tryz.sizeOf3
  have hS : Tryz.prog.underlying 113 = some (.struct (Tryz.prog.fieldsOf 113)) := by kernel_rfl
  have hp : Tryz.prog.stoodInHeld 113 = false := by kernel_rfl
  rw [run_eql_struct, show (10000 : Nat) = 9999 + 1 from rfl, run_equalIn_agg w 9999 113 _ _ hS hp]
  simp only [Program.fieldsOf, Tryz.underlying113]
  go_simp
  obtain ⟨x1, x2⟩ := x
  obtain ⟨y1, y2⟩ := y
  by_cases h1 : x1 = y1 <;> by_cases h2 : x2 = y2 <;> simp [h1, h2]
theorem neq_run (x y : Rn) (w : World) : (binOp .neq 113 (.agg #[.int .i64 x.1, .int .i64 x.2]) (.agg #[.int .i64 y.1, .int .i64 y.2])).run Tryz.prog w = .ok (.bool (!decide (x = y))) w := by
  have h := eql_run x y w
  rw [run_eql_struct] at h
  rw [run_neq_struct]
  cases hr : (Op.equalIn 10000 113 (.agg #[.int .i64 x.1, .int .i64 x.2]) (.agg #[.int .i64 y.1, .int .i64 y.2])).run Tryz.prog w with
  | ok b w' =>
    rw [hr] at h
    simp only [Result.andThen_ok] at h ⊢
    cases h
    rfl
  | _ => rw [hr] at h; cases h
section
variable {F : Asn} {w : World} {R : Ending → World → Prop} {l m : List Rn} {v u : Value}
end
end Go.Proofs.YthbbdicdcmjpiaaGreatDoor
