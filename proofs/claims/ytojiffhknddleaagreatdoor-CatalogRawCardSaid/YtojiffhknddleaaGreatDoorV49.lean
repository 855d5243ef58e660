/-
  How law 19's acts that came in read, at a card. It proves no statement by itself.
-/
import Derived.Test.YtojiffhknddleaaGreatDoorV47
import Derived.Test.YtojiffhknddleaaGreatDoorV48
namespace Go.Proofs.YtojiffhknddleaaGreatDoor
open Go.ChangeShapes Go.WideShapes Go.ChangeAt Go.RowKit Go.Deep Go.Joins
set_option linter.unusedSimpArgs false
set_option linter.unusedVariables false
section
variable {H : Type} {enc : TypeId × Value → H} {W : World}
end
end Go.Proofs.YtojiffhknddleaaGreatDoor

/-
  An int that came in, its bounds. It proves no statement by itself.
-/
namespace Go.Proofs.YtojiffhknddleaaGreatDoor
end Go.Proofs.YtojiffhknddleaaGreatDoor

/-
  How a row of entries that came in reads, at a card. It proves no statement by itself.
-/
namespace Go.Proofs.YtojiffhknddleaaGreatDoor
open Go.ChangeShapes Go.WideShapes Go.ChangeAt Go.RowKit Go.Deep Go.Joins
set_option linter.unusedSimpArgs false
set_option linter.unusedVariables false
theorem cells_entry19 : Tryz.prog.cellsOf 50 = 2 := by kernel_rfl
section
variable {H : Type} {enc : TypeId × Value → H} {W : World}
set_option maxRecDepth 100000 in
theorem entry19_of {base : Nat} {sp : Nat → Bool} {held : Bool} (fuel : Nat) (cs : List Value) (x : DataW H × List MemPlace)
    (h : DataW.trod enc Tryz.prog W base sp held fuel 50 cs = some x) : ∃ a : Ky.En, cs = encE a ∧ (a.1.size ≤ 9223372036854775807 ∧ a.2.size ≤ 9223372036854775807) := by
  obtain ⟨xs, n, _, _, hlen, hxl, hf⟩ := DataW.trod_struct Tryz.underlying50 h
  rw [cells_entry19] at hlen
  have k2 : Tryz.prog.cellsOf 9 = 1 := by kernel_rfl
  match cs, hlen with
  | [c0, c1], _ =>
    have g0 : DataW.trod enc Tryz.prog W base sp held n 9 (([c0, c1].drop 0).take (Tryz.prog.cellsOf 9)) = xs[0]? := hf 0 _ rfl
    have g1 : DataW.trod enc Tryz.prog W base sp held n 9 (([c0, c1].drop 1).take (Tryz.prog.cellsOf 9)) = xs[1]? := hf 1 _ rfl
    rw [k2] at g0 g1
    have hx : xs.length = 2 := hxl
    match xs, hx with
    | [x0, x1], _ =>
      simp only [List.drop_zero, List.drop_succ_cons, List.take_succ_cons, List.take_zero, List.getElem?_cons_zero, List.getElem?_cons_succ] at g0 g1
      obtain ⟨z0, e0, _, b0⟩ := DataW.trod_string Tryz.underlying9 g0
      obtain ⟨z1, e1, _, b1⟩ := DataW.trod_string Tryz.underlying9 g1
      simp only [List.cons.injEq, and_true] at e0 e1
      subst e0 e1
      exact ⟨(z0, z1), rfl, (by simpa [maxLen] using b0), (by simpa [maxLen] using b1)⟩
set_option maxRecDepth 100000 in
theorem entries_of {base : Nat} {sp : Nat → Bool} {held : Bool} {fuel : Nat} {v : Value} {x : DataW H × List MemPlace}
    (h : DataW.trod enc Tryz.prog W base sp held fuel 48 [v] = some x) : ∃ l, Reads encE (whole W) v l ∧ ∀ a ∈ l, (a.1.size ≤ 9223372036854775807 ∧ a.2.size ≤ 9223372036854775807) :=
  reads_of encE_ok (fun a => a.1.size ≤ 9223372036854775807 ∧ a.2.size ≤ 9223372036854775807) Tryz.underlying48 cells_entry19 (by decide) entry19_of h
end
end Go.Proofs.YtojiffhknddleaaGreatDoor
