/-
  Edges: Cmp, by its walk. It proves no statement by itself.
-/
import Derived.Test.YthbbdicdcmjpiaaGreatDoorR35
import Derived.Test.YthbbdicdcmjpiaaGreatDoorLShelf
import Derived.Shelf.SlSortCmp.WholeK
import Derived.Deep.RegionHeld3
namespace Go.Proofs.YthbbdicdcmjpiaaGreatDoor
open Go.RowKit
set_option linter.unusedSimpArgs false
set_option linter.unusedVariables false

section
variable {F : Asn} {w : World} {R : Ending → World → Prop}
theorem compare_any (x y : Int) (h : R (.returned (.int .i64 (Lib.compareInt x y))) w) : Calls Tryz.prog 147 #[.int .i64 x, .int .i64 y] w R := by
  have hcon := AnyG.cmp_Compare_int Tryz.cmpIntF x y w
  change Calls Tryz.prog 147 _ _ _ at hcon
  refine hcon.mono ?_
  rintro e w' ⟨rfl, rfl⟩
  exact h
theorem compareInt_iff (x y : Int) : (Lib.compareInt x y < 0 ↔ x < y) ∧ (Lib.compareInt x y = 0 ↔ x = y) ∧ (0 < Lib.compareInt x y ↔ y < x) := by
  unfold Lib.compareInt
  refine ⟨?_, ?_, ?_⟩ <;> (split <;> (try split) <;> simp <;> omega)
/-- A pair's two cells. -/
def encP (x : Pr) : List Value := [.int .i64 x.1, .int .i64 x.2]
end
end Go.Proofs.YthbbdicdcmjpiaaGreatDoor
