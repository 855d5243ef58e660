/-
  How a row of texts that came in reads, at a card. It proves no statement by itself.
-/
import Derived.Test.YthbbdicdcmjpiaaGreatDoorR45
import Derived.Test.YthbbdicdcmjpiaaGreatDoorR16
namespace Go.Proofs.YthbbdicdcmjpiaaGreatDoor
open Go.ChangeShapes Go.WideShapes Go.ChangeAt Go.RowKit Go.Deep Go.Joins
set_option linter.unusedSimpArgs false
set_option linter.unusedVariables false
section
variable {H : Type} {enc : TypeId × Value → H} {W : World}
theorem cells_str17 : Tryz.prog.cellsOf 9 = 1 := by kernel_rfl
theorem str17_cells {base : Nat} {sp : Nat → Bool} {held : Bool} (fuel : Nat) (cs : List Value) (x : DataW H × List MemPlace)
    (h : DataW.trod enc Tryz.prog W base sp held fuel 9 cs = some x) : ∃ z : ByteArray, cs = encTx z ∧ z.size ≤ 9223372036854775807 := by
  obtain ⟨y, e1, _, b⟩ := DataW.trod_string Tryz.underlying9 h
  exact ⟨y, e1, (by simpa [maxLen] using b)⟩
theorem strs17_of {base : Nat} {sp : Nat → Bool} {held : Bool} {fuel : Nat} {v : Value} {x : DataW H × List MemPlace}
    (h : DataW.trod enc Tryz.prog W base sp held fuel 54 [v] = some x) : ∃ l : List ByteArray, ReadsTx (whole W) v l ∧ ∀ z ∈ l, z.size ≤ 9223372036854775807 :=
  reads_of encTx_ok (fun z => z.size ≤ 9223372036854775807) Tryz.underlying54 cells_str17 (by decide) str17_cells h
end
end Go.Proofs.YthbbdicdcmjpiaaGreatDoor
