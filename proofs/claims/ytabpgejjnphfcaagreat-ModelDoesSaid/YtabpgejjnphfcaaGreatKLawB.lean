/-
  How rows of truth values that came in read. It proves no statement by itself.
-/
import Derived.Test.YtabpgejjnphfcaaGreatQ41
import Derived.Test.YtabpgejjnphfcaaGreatQ43
namespace Go.Proofs.YtabpgejjnphfcaaGreat
open Go.ChangeShapes Go.WideShapes Go.ChangeAt Go.RowKit Go.Deep Go.Joins
set_option linter.unusedSimpArgs false
set_option linter.unusedVariables false
section
variable {H : Type} {enc : TypeId × Value → H} {W : World}
theorem cells_bool1 : Tryz.prog.cellsOf 4 = 1 := by kernel_rfl
theorem bool_cells1 {base : Nat} {sp : Nat → Bool} {held : Bool} (fuel : Nat) (cs : List Value) (x : DataW H × List MemPlace)
    (h : DataW.trod enc Tryz.prog W base sp held fuel 4 cs = some x) : ∃ z : Bool, cs = encBo z ∧ True := by
  obtain ⟨y, e1, _⟩ := DataW.trod_bool Tryz.underlying4 h
  exact ⟨y, e1, trivial⟩
theorem bools_of {base : Nat} {sp : Nat → Bool} {held : Bool} {fuel : Nat} {v : Value} {x : DataW H × List MemPlace}
    (h : DataW.trod enc Tryz.prog W base sp held fuel 59 [v] = some x) : ∃ l : List Bool, Reads encBo (whole W) v l ∧ ∀ z ∈ l, True :=
  reads_of encBo_ok (fun _ => True) Tryz.underlying59 cells_bool1 (by decide) bool_cells1 h
end
end Go.Proofs.YtabpgejjnphfcaaGreat
