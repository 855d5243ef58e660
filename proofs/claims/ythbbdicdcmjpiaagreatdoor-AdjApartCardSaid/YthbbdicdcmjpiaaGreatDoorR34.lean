/-
  Rows of pairs as cells; slice values that read as pairs; when two pairs are one. It proves no statement by itself.
-/
import Derived.Test.YthbbdicdcmjpiaaGreatDoorRows
import Derived.Test.YthbbdicdcmjpiaaGreatDoorR02
import Derived.Test.YthbbdicdcmjpiaaGreatDoorR33
import Derived.Lib.Hide
import Derived.Laws.StructEq
import Derived.Deep.RegionHeld3
namespace Go.Proofs.YthbbdicdcmjpiaaGreatDoor
open Go.RowKit Go.Lib
set_option linter.unusedSimpArgs false
set_option linter.unusedVariables false

/-- The cells of pairs. -/
def pv (l : List Pr) : List Value := l.flatMap fun p => [.int .i64 p.1, .int .i64 p.2]
theorem pv_append (l m : List Pr) : pv (l ++ m) = pv l ++ pv m := by simp [pv]
theorem pv_get0 : ∀ (l : List Pr) (k : Nat) (h : k < l.length), (pv l)[2 * k]? = some (.int .i64 l[k].1)
  | p :: l, 0, h => by simp [pv]
  | p :: l, k + 1, h => by
    have := pv_get0 l k (by simpa using h)
    rw [show 2 * (k + 1) = 2 * k + 2 from by omega]
    simpa [pv] using this
theorem pv_get1 : ∀ (l : List Pr) (k : Nat) (h : k < l.length), (pv l)[2 * k + 1]? = some (.int .i64 l[k].2)
  | p :: l, 0, h => by simp [pv]
  | p :: l, k + 1, h => by
    have := pv_get1 l k (by simpa using h)
    rw [show 2 * (k + 1) + 1 = 2 * k + 1 + 2 from by omega]
    simpa [pv] using this
theorem Tryz.info35 : (Tryz.prog.info? 35).map (fun i => (i.zero, i.size, i.bytes)) = some (some (.agg #[.int .i64 0, .int .i64 0]), 2, 16) := by kernel_rfl

/-- A slice value that reads as these pairs, wherever F holds. -/
def ReadsP (F : Asn) (v : Value) (l : List Pr) : Prop :=
  ∃ a c, v = .slice a l.length c ∧ l.length ≤ 9223372036854775807 ∧ (l = [] ∨ ∃ b off, a = some ⟨b, off, none⟩ ∧ ∀ w, Sat F w → ∀ j u, (pv l)[j]? = some u → w.cell? ⟨b, off + j, none⟩ = some u)
theorem ReadsP.with {F G : Asn} {v : Value} {l : List Pr} (h : ReadsP F v l) : ReadsP (G * F) v l := by
  obtain ⟨a, c, h1, h2, h3⟩ := h
  refine ⟨a, c, h1, h2, ?_⟩
  rcases h3 with h3 | ⟨b, off, e, h3⟩
  · exact .inl h3
  · exact .inr ⟨b, off, e, fun w hw => h3 w hw.right⟩
/-- `==` at a pair. -/
theorem eql_pair (x y : Pr) (w : World) : (binOp .eql 35 (.agg #[.int .i64 x.1, .int .i64 x.2]) (.agg #[.int .i64 y.1, .int .i64 y.2])).run Tryz.prog w = .ok (.bool (decide (x = y))) w := by
  have u3 := Tryz.underlying3
  have a3 := Tryz.isAgg3
  have z3 := Tryz.sizeOf3
  have hS : Tryz.prog.underlying 35 = some (.struct (Tryz.prog.fieldsOf 35)) := by kernel_rfl
  have hp : Tryz.prog.stoodInHeld 35 = false := by kernel_rfl
  rw [run_eql_struct, show (10000 : Nat) = 9999 + 1 from rfl, run_equalIn_agg w 9999 35 _ _ hS hp]
  simp only [Program.fieldsOf, Tryz.underlying35]
  go_simp
  obtain ⟨x1, x2⟩ := x
  obtain ⟨y1, y2⟩ := y
  by_cases h1 : x1 = y1 <;> by_cases h2 : x2 = y2 <;> simp [h1, h2]

end Go.Proofs.YthbbdicdcmjpiaaGreatDoor
