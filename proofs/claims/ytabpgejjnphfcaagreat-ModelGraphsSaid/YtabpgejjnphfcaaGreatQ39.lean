/-
  How pairs and rows of pairs and changes that came in read. It proves no statement by itself.
-/
import Derived.Test.YtabpgejjnphfcaaGreatQ38
import Derived.Test.YtabpgejjnphfcaaGreatQ14
import Derived.Test.YtabpgejjnphfcaaGreatQ17
namespace Go.Proofs.YtabpgejjnphfcaaGreat
open Go.ChangeShapes Go.WideShapes Go.ChangeAt Go.RowKit Go.Deep Go.Joins
set_option linter.unusedSimpArgs false
set_option linter.unusedVariables false

theorem encP_ok : Enc encP 2 := ⟨fun _ => rfl, fun x u hu => by simp [encP] at hu; rcases hu with rfl | rfl <;> rfl⟩
/-- Both of a pair's numbers are of 64 bits. -/
def MachP (p : Pr) : Prop := (-9223372036854775808 ≤ p.1 ∧ p.1 ≤ 9223372036854775807) ∧ (-9223372036854775808 ≤ p.2 ∧ p.2 ≤ 9223372036854775807)
section
variable {H : Type} {enc : TypeId × Value → H} {W : World}
theorem cells_pair : Tryz.prog.cellsOf 49 = 2 := by kernel_rfl
set_option maxRecDepth 100000 in
theorem pair_of {r : Reach} {b0 : Nat} {sp : Nat → Bool} {held : Bool} {v : Value} {d : DataW H} {p : List MemPlace}
    (hv : Value.okWide Tryz.prog W r b0 49 v) (h : DataW.Trod enc Tryz.prog W 0 sp held 49 v d p) : ∃ x : Pr, v = .agg #[.int .i64 x.1, .int .i64 x.2] ∧ MachP x := by
  obtain ⟨v0, v1, y0, y1, n, rfl, _, _, h0, h1⟩ := open_agg2 Tryz.underlying49 (by kernel_rfl) cells_pair hv h
  obtain ⟨e, e0, _, b0⟩ := DataW.trod_int Tryz.underlying3 h0
  obtain ⟨q, e1, _, b1⟩ := DataW.trod_int Tryz.underlying3 h1
  simp only [List.cons.injEq, and_true] at e0 e1
  subst e0 e1
  exact ⟨(e, q), rfl, wf_i64 b0, wf_i64 b1⟩
set_option maxRecDepth 100000 in
theorem pair_cells {base : Nat} {sp : Nat → Bool} {held : Bool} (fuel : Nat) (cs : List Value) (x : DataW H × List MemPlace)
    (h : DataW.trod enc Tryz.prog W base sp held fuel 49 cs = some x) : ∃ z : Pr, cs = encP z ∧ MachP z := by
  obtain ⟨xs, n, _, _, hlen, hxl, hf⟩ := DataW.trod_struct Tryz.underlying49 h
  rw [cells_pair] at hlen
  have k1 : Tryz.prog.cellsOf 3 = 1 := by kernel_rfl
  match cs, hlen with
  | [c0, c1], _ =>
    have g0 : DataW.trod enc Tryz.prog W base sp held n 3 (([c0, c1].drop 0).take (Tryz.prog.cellsOf 3)) = xs[0]? := hf 0 _ rfl
    have g1 : DataW.trod enc Tryz.prog W base sp held n 3 (([c0, c1].drop 1).take (Tryz.prog.cellsOf 3)) = xs[1]? := hf 1 _ rfl
    rw [k1] at g0 g1
    have hx : xs.length = 2 := hxl
    match xs, hx with
    | [x0, x1], _ =>
      simp only [List.drop_zero, List.drop_succ_cons, List.take_succ_cons, List.take_zero, List.getElem?_cons_zero, List.getElem?_cons_succ] at g0 g1
      obtain ⟨z0, e0, _, b0⟩ := DataW.trod_int Tryz.underlying3 g0
      obtain ⟨z1, e1, _, b1⟩ := DataW.trod_int Tryz.underlying3 g1
      simp only [List.cons.injEq, and_true] at e0 e1
      subst e0 e1
      exact ⟨(z0, z1), rfl, wf_i64 b0, wf_i64 b1⟩
theorem pairs_of {base : Nat} {sp : Nat → Bool} {held : Bool} {fuel : Nat} {v : Value} {x : DataW H × List MemPlace}
    (h : DataW.trod enc Tryz.prog W base sp held fuel 22 [v] = some x) : ∃ l, ReadsP (whole W) v l ∧ ∀ z ∈ l, MachP z := by
  have : Inhabited Pr := ⟨(0, 0)⟩
  exact reads_of encP_ok MachP Tryz.underlying22 cells_pair (by decide) pair_cells h
theorem cells_change : Tryz.prog.cellsOf 51 = 3 := by kernel_rfl
set_option maxRecDepth 100000 in
theorem change_cells {base : Nat} {sp : Nat → Bool} {held : Bool} (fuel : Nat) (cs : List Value) (x : DataW H × List MemPlace)
    (h : DataW.trod enc Tryz.prog W base sp held fuel 51 cs = some x) : ∃ z : Ch, cs = encC z ∧ MachP z.1 := by
  obtain ⟨xs, n, _, _, hlen, hxl, hf⟩ := DataW.trod_struct Tryz.underlying51 h
  rw [cells_change] at hlen
  have k1 : Tryz.prog.cellsOf 4 = 1 := by kernel_rfl
  match cs, hlen with
  | [c0, c1, c2], _ =>
    have g0 : DataW.trod enc Tryz.prog W base sp held n 49 (([c0, c1, c2].drop 0).take (Tryz.prog.cellsOf 49)) = xs[0]? := hf 0 _ rfl
    have g1 : DataW.trod enc Tryz.prog W base sp held n 4 (([c0, c1, c2].drop 2).take (Tryz.prog.cellsOf 4)) = xs[1]? := hf 1 _ rfl
    rw [cells_pair] at g0
    rw [k1] at g1
    have hx : xs.length = 2 := hxl
    match xs, hx with
    | [x0, x1], _ =>
      simp only [List.drop_zero, List.drop_succ_cons, List.take_succ_cons, List.take_zero, List.getElem?_cons_zero, List.getElem?_cons_succ] at g0 g1
      obtain ⟨z, e0, b0⟩ := pair_cells _ _ _ g0
      obtain ⟨y, e1, _⟩ := DataW.trod_bool Tryz.underlying4 g1
      simp only [encP, List.cons.injEq, and_true] at e0 e1
      obtain ⟨rfl, rfl⟩ := e0
      subst e1
      exact ⟨(z, y), rfl, b0⟩
theorem changes_of {base : Nat} {sp : Nat → Bool} {held : Bool} {fuel : Nat} {v : Value} {x : DataW H × List MemPlace}
    (h : DataW.trod enc Tryz.prog W base sp held fuel 33 [v] = some x) : ∃ l, ReadsC (whole W) v l ∧ ∀ z ∈ l, MachP z.1 := by
  have : Inhabited Ch := ⟨((0, 0), false)⟩
  exact reads_of encC_ok (fun z => MachP z.1) Tryz.underlying33 cells_change (by decide) change_cells h
end
end Go.Proofs.YtabpgejjnphfcaaGreat
