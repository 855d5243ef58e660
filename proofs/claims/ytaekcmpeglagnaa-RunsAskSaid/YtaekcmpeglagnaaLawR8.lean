/-
  How rows of runs that came in read. It proves no statement by itself.
-/
import Derived.Test.YtaekcmpeglagnaaLawG
import Derived.Test.YtaekcmpeglagnaaRr
namespace Go.Proofs.Ytaekcmpeglagnaa
open Go.ChangeShapes Go.WideShapes Go.ChangeAt Go.RowKit Go.Deep Go.Joins
set_option linter.unusedSimpArgs false
set_option linter.unusedVariables false

/-- Both of a run's numbers are of 64 bits. -/
def MachR (p : Rn) : Prop := (-9223372036854775808 ≤ p.1 ∧ p.1 ≤ 9223372036854775807) ∧ (-9223372036854775808 ≤ p.2 ∧ p.2 ≤ 9223372036854775807)
section
variable {H : Type} {enc : TypeId × Value → H} {W : World}
theorem cells_run : Try.prog.cellsOf 28 = 2 := by kernel_rfl
set_option maxRecDepth 100000 in
theorem run_cells {base : Nat} {sp : Nat → Bool} {held : Bool} (fuel : Nat) (cs : List Value) (x : DataW H × List MemPlace)
    (h : DataW.trod enc Try.prog W base sp held fuel 28 cs = some x) : ∃ z : Rn, cs = encR z ∧ MachR z := by
  obtain ⟨xs, n, _, _, hlen, hxl, hf⟩ := DataW.trod_struct Try.underlying28 h
  rw [cells_run] at hlen
  have k1 : Try.prog.cellsOf 3 = 1 := by kernel_rfl
  match cs, hlen with
  | [c0, c1], _ =>
    have g0 : DataW.trod enc Try.prog W base sp held n 3 (([c0, c1].drop 0).take (Try.prog.cellsOf 3)) = xs[0]? := hf 0 _ rfl
    have g1 : DataW.trod enc Try.prog W base sp held n 3 (([c0, c1].drop 1).take (Try.prog.cellsOf 3)) = xs[1]? := hf 1 _ rfl
    rw [k1] at g0 g1
    have hx : xs.length = 2 := hxl
    match xs, hx with
    | [x0, x1], _ =>
      simp only [List.drop_zero, List.drop_succ_cons, List.take_succ_cons, List.take_zero, List.getElem?_cons_zero, List.getElem?_cons_succ] at g0 g1
      obtain ⟨z0, e0, _, b0⟩ := DataW.trod_int Try.underlying3 g0
      obtain ⟨z1, e1, _, b1⟩ := DataW.trod_int Try.underlying3 g1
      simp only [List.cons.injEq, and_true] at e0 e1
      subst e0 e1
      exact ⟨(z0, z1), rfl, wf_i64 b0, wf_i64 b1⟩
theorem runs_of {base : Nat} {sp : Nat → Bool} {held : Bool} {fuel : Nat} {v : Value} {x : DataW H × List MemPlace}
    (h : DataW.trod enc Try.prog W base sp held fuel 22 [v] = some x) : ∃ l, ReadsR (whole W) v l ∧ ∀ z ∈ l, MachR z := by
  have : Inhabited Rn := ⟨(0, 0)⟩
  exact reads_of encR_ok MachR Try.underlying22 cells_run (by decide) run_cells h
end
end Go.Proofs.Ytaekcmpeglagnaa
