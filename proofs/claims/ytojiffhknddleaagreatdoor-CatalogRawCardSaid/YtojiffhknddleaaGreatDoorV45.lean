/-
  Versions, branches, and rows of them that are the same, by walks. It proves no statement by itself.
-/
import Derived.Test.YtojiffhknddleaaGreatDoorRows
import Derived.Test.YtojiffhknddleaaGreatDoorV40
import Derived.Test.YtojiffhknddleaaGreatDoorV20
import Derived.Lib.Hide
import Derived.BigQuiet
namespace Go.Proofs.YtojiffhknddleaaGreatDoor
open Go.RowKit Go.Lib
open Md (Nm St)
set_option linter.unusedSimpArgs false
set_option linter.unusedVariables false
set_option linter.unusedSectionVars false
theorem reads_len9 {α : Type} {enc : α → List Value} {F : Asn} {v : Value} {l : List α} (h : Reads enc F v l) : ∃ a c, v = .slice a l.length c ∧ (l.length : Int) ≤ 9223372036854775807 := by
  obtain ⟨a, c, h1, h2, _⟩ := h
  exact ⟨a, c, h1, by omega⟩
theorem readsB_get {F : Asn} {a : Option Addr} {n c : Nat} {l : List Md.Br} (hl : ReadsB F (.slice a n c) l) (k : Nat) (hk : k < l.length) : ∃ b off nm hd, a = some ⟨b, off, none⟩ ∧ l[k] = ⟨nm, hd⟩ ∧ ∀ w, Sat F w → w.cell? ⟨b, off + k * 2, none⟩ = some (.string nm) ∧ w.cell? ⟨b, off + k * 2 + 1, none⟩ = some (.int .i64 hd) := by
  obtain ⟨b, off, h1, h2⟩ := hl.get encBr_ok k hk
  obtain ⟨x, hx⟩ : ∃ x, l[k] = x := ⟨_, rfl⟩
  obtain ⟨nm, hd⟩ := x
  refine ⟨b, off, nm, hd, h1, hx, fun w hw => ?_⟩
  have h3 := h2 w hw
  rw [hx] at h3
  exact ⟨h3 0 _ (by omega) rfl, h3 1 _ (by omega) rfl⟩
theorem eql_ver (x y : Md.Ver) (w : World) : (binOp .eql 30 (.agg #[.int .i64 x.id, .int .i64 x.parent, .int .i64 x.root, .int .i64 x.edges]) (.agg #[.int .i64 y.id, .int .i64 y.parent, .int .i64 y.root, .int .i64 y.edges])).run Tryz.prog w = .ok (.bool (decide (x = y))) w := by
  have u3 := Tryz.underlying3
  have a3 := Tryz.isAgg3
  have z3 := Tryz.sizeOf3
  have hS : Tryz.prog.underlying 30 = some (.struct (Tryz.prog.fieldsOf 30)) := by kernel_rfl
  have hp : Tryz.prog.stoodInHeld 30 = false := by kernel_rfl
  rw [run_eql_struct, show (10000 : Nat) = 9999 + 1 from rfl, run_equalIn_agg w 9999 30 _ _ hS hp]
  simp only [Program.fieldsOf, Tryz.underlying30]
  go_simp
  obtain ⟨x1, x2, x3, x4⟩ := x
  obtain ⟨y1, y2, y3, y4⟩ := y
  by_cases h1 : x1 = y1 <;> by_cases h2 : x2 = y2 <;> by_cases h3 : x3 = y3 <;> by_cases h4 : x4 = y4 <;> simp [h1, h2, h3, h4]
section
variable {F : Asn} {w : World} {R : Ending → World → Prop} {v u : Value}
end
end Go.Proofs.YtojiffhknddleaaGreatDoor
