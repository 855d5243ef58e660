/-
  How law 19's acts that came in read, at a card. It proves no statement by itself.
-/
import Derived.Test.YtojiffhknddleaaGreatDoorU45
import Derived.Test.YtojiffhknddleaaGreatDoorU46
namespace Go.Proofs.YtojiffhknddleaaGreatDoor
open Go.ChangeShapes Go.WideShapes Go.ChangeAt Go.RowKit Go.Deep Go.Joins
set_option linter.unusedSimpArgs false
set_option linter.unusedVariables false
theorem cells_act19 : Tryz.prog.cellsOf 45 = 7 := by kernel_rfl
theorem cells_ver19 : Tryz.prog.cellsOf 30 = 4 := by kernel_rfl
section
variable {H : Type} {enc : TypeId × Value → H} {W : World}
set_option maxRecDepth 100000 in
theorem ver19_cells {base : Nat} {sp : Nat → Bool} {held : Bool} {fuel : Nat} {c0 c1 c2 c3 : Value} {x : DataW H × List MemPlace}
    (h : DataW.trod enc Tryz.prog W base sp held fuel 30 [c0, c1, c2, c3] = some x) : ∃ z0 z1 z2 z3 : Int, c0 = .int .i64 z0 ∧ c1 = .int .i64 z1 ∧ c2 = .int .i64 z2 ∧ c3 = .int .i64 z3 := by
  obtain ⟨xs, n, _, _, hlen, hxl, hf⟩ := DataW.trod_struct Tryz.underlying30 h
  have k1 : Tryz.prog.cellsOf 3 = 1 := by kernel_rfl
  have g0 : DataW.trod enc Tryz.prog W base sp held n 3 (([c0, c1, c2, c3].drop 0).take (Tryz.prog.cellsOf 3)) = xs[0]? := hf 0 _ rfl
  have g1 : DataW.trod enc Tryz.prog W base sp held n 3 (([c0, c1, c2, c3].drop 1).take (Tryz.prog.cellsOf 3)) = xs[1]? := hf 1 _ rfl
  have g2 : DataW.trod enc Tryz.prog W base sp held n 3 (([c0, c1, c2, c3].drop 2).take (Tryz.prog.cellsOf 3)) = xs[2]? := hf 2 _ rfl
  have g3 : DataW.trod enc Tryz.prog W base sp held n 3 (([c0, c1, c2, c3].drop 3).take (Tryz.prog.cellsOf 3)) = xs[3]? := hf 3 _ rfl
  rw [k1] at g0 g1 g2 g3
  have hx : xs.length = 4 := hxl
  match xs, hx with
  | [x0, x1, x2, x3], _ =>
    simp only [List.drop_zero, List.drop_succ_cons, List.take_succ_cons, List.take_zero, List.getElem?_cons_zero, List.getElem?_cons_succ] at g0 g1 g2 g3
    obtain ⟨z0, e0, _, b0⟩ := DataW.trod_int Tryz.underlying3 g0
    obtain ⟨z1, e1, _, b1⟩ := DataW.trod_int Tryz.underlying3 g1
    obtain ⟨z2, e2, _, b2⟩ := DataW.trod_int Tryz.underlying3 g2
    obtain ⟨z3, e3, _, b3⟩ := DataW.trod_int Tryz.underlying3 g3
    simp only [List.cons.injEq, and_true] at e0 e1 e2 e3
    exact ⟨z0, z1, z2, z3, e0, e1, e2, e3⟩
set_option maxRecDepth 100000 in
theorem act19_of {base : Nat} {sp : Nat → Bool} {held : Bool} (fuel : Nat) (cs : List Value) (x : DataW H × List MemPlace)
    (h : DataW.trod enc Tryz.prog W base sp held fuel 45 cs = some x) : ∃ a : Act19, cs = encA19 a ∧ a.s.size ≤ 9223372036854775807 := by
  obtain ⟨xs, n, _, _, hlen, hxl, hf⟩ := DataW.trod_struct Tryz.underlying45 h
  rw [cells_act19] at hlen
  have k1 : Tryz.prog.cellsOf 3 = 1 := by kernel_rfl
  have k2 : Tryz.prog.cellsOf 9 = 1 := by kernel_rfl
  match cs, hlen with
  | [c0, c1, c2, c3, c4, c5, c6], _ =>
    have g0 : DataW.trod enc Tryz.prog W base sp held n 3 (([c0, c1, c2, c3, c4, c5, c6].drop 0).take (Tryz.prog.cellsOf 3)) = xs[0]? := hf 0 _ rfl
    have g1 : DataW.trod enc Tryz.prog W base sp held n 30 (([c0, c1, c2, c3, c4, c5, c6].drop 1).take (Tryz.prog.cellsOf 30)) = xs[1]? := hf 1 _ rfl
    have g2 : DataW.trod enc Tryz.prog W base sp held n 3 (([c0, c1, c2, c3, c4, c5, c6].drop 5).take (Tryz.prog.cellsOf 3)) = xs[2]? := hf 2 _ rfl
    have g3 : DataW.trod enc Tryz.prog W base sp held n 9 (([c0, c1, c2, c3, c4, c5, c6].drop 6).take (Tryz.prog.cellsOf 9)) = xs[3]? := hf 3 _ rfl
    rw [k1] at g0 g2
    rw [k2] at g3
    rw [cells_ver19] at g1
    have hx : xs.length = 4 := hxl
    match xs, hx with
    | [x0, x1, x2, x3], _ =>
      simp only [List.drop_zero, List.drop_succ_cons, List.take_succ_cons, List.take_zero, List.getElem?_cons_zero, List.getElem?_cons_succ] at g0 g1 g2 g3
      obtain ⟨z0, e0, _, b0⟩ := DataW.trod_int Tryz.underlying3 g0
      obtain ⟨v0, v1, v2, v3, rfl, rfl, rfl, rfl⟩ := ver19_cells g1
      obtain ⟨z2, e2, _, b2⟩ := DataW.trod_int Tryz.underlying3 g2
      obtain ⟨z3, e3, _, b3⟩ := DataW.trod_string Tryz.underlying9 g3
      simp only [List.cons.injEq, and_true] at e0 e2 e3
      subst e0 e2 e3
      exact ⟨⟨z0, ⟨v0, v1, v2, v3⟩, z2, z3⟩, rfl, (by simpa [maxLen] using b3)⟩
set_option maxRecDepth 100000 in
theorem acts19_of {base : Nat} {sp : Nat → Bool} {held : Bool} {fuel : Nat} {v : Value} {x : DataW H × List MemPlace}
    (h : DataW.trod enc Tryz.prog W base sp held fuel 38 [v] = some x) : ∃ l, Reads encA19 (whole W) v l ∧ ∀ a ∈ l, a.s.size ≤ 9223372036854775807 :=
  reads_of encA19_ok (fun a => a.s.size ≤ 9223372036854775807) Tryz.underlying38 cells_act19 (by decide) act19_of h
end
end Go.Proofs.YtojiffhknddleaaGreatDoor

/-
  An int that came in, its bounds. It proves no statement by itself.
-/
namespace Go.Proofs.YtojiffhknddleaaGreatDoor
end Go.Proofs.YtojiffhknddleaaGreatDoor
