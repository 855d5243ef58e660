/-
  How rows of operations, and of truth values, that came in read. It proves no statement by itself.
-/
import Derived.Test.YtabpgejjnphfcaaGreatQ39
import Derived.Test.YtabpgejjnphfcaaGreatKWO
namespace Go.Proofs.YtabpgejjnphfcaaGreat
open Go.ChangeShapes Go.WideShapes Go.ChangeAt Go.RowKit Go.Deep Go.Joins
set_option linter.unusedSimpArgs false
set_option linter.unusedVariables false
instance : Inhabited OpX := ⟨⟨⟨0, ⟨#[]⟩, 0, 0, 0, 0⟩, none, 0, 0, 0, 0, ⟨#[]⟩⟩⟩
section
variable {H : Type} {enc : TypeId × Value → H} {W : World}
theorem cells_op : Tryz.prog.cellsOf 41 = 10 := by kernel_rfl
set_option maxRecDepth 100000 in
set_option maxHeartbeats 2000000 in
theorem op_cells {base : Nat} {sp : Nat → Bool} {held : Bool} (fuel : Nat) (cs : List Value) (x : DataW H × List MemPlace)
    (h : DataW.trod enc Tryz.prog W base sp held fuel 41 cs = some x) : ∃ z : OpX, cs = encO z ∧ z.op.name.size ≤ 9223372036854775807 := by
  obtain ⟨xs, n, _, _, hlen, hxl, hf⟩ := DataW.trod_struct Tryz.underlying41 h
  rw [cells_op] at hlen
  have ki : Tryz.prog.cellsOf 3 = 1 := by kernel_rfl
  have kk : Tryz.prog.cellsOf 39 = 1 := by kernel_rfl
  have ks : Tryz.prog.cellsOf 9 = 1 := by kernel_rfl
  have kl : Tryz.prog.cellsOf 26 = 1 := by kernel_rfl
  match cs, hlen with
  | [c0, c1, c2, c3, c4, c5, c6, c7, c8, c9], _ =>
    have g0 : DataW.trod enc Tryz.prog W base sp held n 39 (([c0, c1, c2, c3, c4, c5, c6, c7, c8, c9].drop 0).take (Tryz.prog.cellsOf 39)) = xs[0]? := hf 0 _ rfl
    have g1 : DataW.trod enc Tryz.prog W base sp held n 9 (([c0, c1, c2, c3, c4, c5, c6, c7, c8, c9].drop 1).take (Tryz.prog.cellsOf 9)) = xs[1]? := hf 1 _ rfl
    have g2 : DataW.trod enc Tryz.prog W base sp held n 3 (([c0, c1, c2, c3, c4, c5, c6, c7, c8, c9].drop 2).take (Tryz.prog.cellsOf 3)) = xs[2]? := hf 2 _ rfl
    have g3 : DataW.trod enc Tryz.prog W base sp held n 3 (([c0, c1, c2, c3, c4, c5, c6, c7, c8, c9].drop 3).take (Tryz.prog.cellsOf 3)) = xs[3]? := hf 3 _ rfl
    have g4 : DataW.trod enc Tryz.prog W base sp held n 3 (([c0, c1, c2, c3, c4, c5, c6, c7, c8, c9].drop 4).take (Tryz.prog.cellsOf 3)) = xs[4]? := hf 4 _ rfl
    have g5 : DataW.trod enc Tryz.prog W base sp held n 3 (([c0, c1, c2, c3, c4, c5, c6, c7, c8, c9].drop 5).take (Tryz.prog.cellsOf 3)) = xs[5]? := hf 5 _ rfl
    have g6 : DataW.trod enc Tryz.prog W base sp held n 26 (([c0, c1, c2, c3, c4, c5, c6, c7, c8, c9].drop 6).take (Tryz.prog.cellsOf 26)) = xs[6]? := hf 6 _ rfl
    have g7 : DataW.trod enc Tryz.prog W base sp held n 3 (([c0, c1, c2, c3, c4, c5, c6, c7, c8, c9].drop 7).take (Tryz.prog.cellsOf 3)) = xs[7]? := hf 7 _ rfl
    have g8 : DataW.trod enc Tryz.prog W base sp held n 3 (([c0, c1, c2, c3, c4, c5, c6, c7, c8, c9].drop 8).take (Tryz.prog.cellsOf 3)) = xs[8]? := hf 8 _ rfl
    have g9 : DataW.trod enc Tryz.prog W base sp held n 9 (([c0, c1, c2, c3, c4, c5, c6, c7, c8, c9].drop 9).take (Tryz.prog.cellsOf 9)) = xs[9]? := hf 9 _ rfl
    rw [kk] at g0
    rw [ks] at g1
    rw [ki] at g2
    rw [ki] at g3
    rw [ki] at g4
    rw [ki] at g5
    rw [kl] at g6
    rw [ki] at g7
    rw [ki] at g8
    rw [ks] at g9
    have hx : xs.length = 10 := hxl
    match xs, hx with
    | [x0, x1, x2, x3, x4, x5, x6, x7, x8, x9], _ =>
      simp only [List.drop_zero, List.drop_succ_cons, List.take_succ_cons, List.take_zero, List.getElem?_cons_zero, List.getElem?_cons_succ] at g0 g1 g2 g3 g4 g5 g6 g7 g8 g9
      obtain ⟨z0, e0, _, b0⟩ := DataW.trod_int Tryz.underlying39 g0
      obtain ⟨z1, e1, _, b1⟩ := DataW.trod_string Tryz.underlying9 g1
      obtain ⟨z2, e2, _, b2⟩ := DataW.trod_int Tryz.underlying3 g2
      obtain ⟨z3, e3, _, b3⟩ := DataW.trod_int Tryz.underlying3 g3
      obtain ⟨z4, e4, _, b4⟩ := DataW.trod_int Tryz.underlying3 g4
      obtain ⟨z5, e5, _, b5⟩ := DataW.trod_int Tryz.underlying3 g5
      have s6 : ∃ a l c, c6 = .slice a l c := by
        rcases open_slice Tryz.underlying26 g6 with ⟨e, _⟩ | ⟨a, len, cap, _, _, _, _, e, _⟩
        · simp only [List.cons.injEq, and_true] at e; exact ⟨_, _, _, e⟩
        · simp only [List.cons.injEq, and_true] at e; exact ⟨_, _, _, e⟩
      obtain ⟨ka, kl, kc, e6⟩ := s6
      obtain ⟨z7, e7, _, b7⟩ := DataW.trod_int Tryz.underlying3 g7
      obtain ⟨z8, e8, _, b8⟩ := DataW.trod_int Tryz.underlying3 g8
      obtain ⟨z9, e9, _, b9⟩ := DataW.trod_string Tryz.underlying9 g9
      simp only [List.cons.injEq, and_true] at e0 e1 e2 e3 e4 e5 e7 e8 e9
      subst e0 e1 e2 e3 e4 e5 e6 e7 e8 e9
      exact ⟨⟨⟨z0, z1, z2, z3, z4, z5⟩, ka, kl, kc, z7, z8, z9⟩, rfl, by have := b1; unfold maxLen at this; simp only; omega⟩
theorem ops_of {base : Nat} {sp : Nat → Bool} {held : Bool} {fuel : Nat} {v : Value} {x : DataW H × List MemPlace}
    (h : DataW.trod enc Tryz.prog W base sp held fuel 28 [v] = some x) : ∃ l, ReadsO (whole W) v l ∧ ∀ z ∈ l, z.op.name.size ≤ 9223372036854775807 :=
  reads_of encO_ok (fun z => z.op.name.size ≤ 9223372036854775807) Tryz.underlying28 cells_op (by decide) op_cells h
end
end Go.Proofs.YtabpgejjnphfcaaGreat
