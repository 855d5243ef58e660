/-
  How an entry that came in reads. It proves no statement by itself.
-/
import Derived.Test.YthbbdicdcmjpiaaGreatDoorQ43
namespace Go.Proofs.YthbbdicdcmjpiaaGreatDoor
open Go.ChangeShapes Go.WideShapes Go.ChangeAt Go.RowKit Go.Deep Go.Joins
set_option linter.unusedSimpArgs false
set_option linter.unusedVariables false
theorem cells_entry : Tryz.prog.cellsOf 49 = 2 := by kernel_rfl
set_option maxRecDepth 100000 in
theorem entry_of {H : Type} {enc : TypeId × Value → H} {W : World} {r : Reach} {b0 : Nat} {sp : Nat → Bool} {held : Bool} {v : Value} {d : DataW H} {p : List MemPlace}
    (hv : Value.okWide Tryz.prog W r b0 49 v) (h : DataW.Trod enc Tryz.prog W 0 sp held 49 v d p) : ∃ k x : ByteArray, v = .agg #[.string k, .string x] ∧ k.size ≤ 9223372036854775807 ∧ x.size ≤ 9223372036854775807 := by
  obtain ⟨v0, v1, y0, y1, n, rfl, _, _, h0, h1⟩ := open_agg2 Tryz.underlying49 (by kernel_rfl) cells_entry hv h
  obtain ⟨e, e0, _, b0⟩ := DataW.trod_string Tryz.underlying9 h0
  obtain ⟨q, e1, _, b1⟩ := DataW.trod_string Tryz.underlying9 h1
  simp only [List.cons.injEq, and_true] at e0 e1
  subst e0 e1
  exact ⟨e, q, rfl, (by simpa [maxLen] using b0), (by simpa [maxLen] using b1)⟩
end Go.Proofs.YthbbdicdcmjpiaaGreatDoor
