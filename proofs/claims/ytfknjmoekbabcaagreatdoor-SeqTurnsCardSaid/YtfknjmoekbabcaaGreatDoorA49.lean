/-
  A part of a proof. It proves no statement by itself.
-/
import Derived.Test.YtfknjmoekbabcaaGreatDoorA47
import Derived.Test.YtfknjmoekbabcaaGreatDoorA48
set_option linter.unusedSimpArgs false
set_option linter.unusedVariables false
set_option linter.unusedSectionVars false
set_option maxRecDepth 100000
set_option maxHeartbeats 64000000
namespace Go.Proofs.YtfknjmoekbabcaaGreatDoor
open Go.ChangeShapes Go.WideShapes Go.ChangeAt Go.RowKit Go.Deep Go.Joins
theorem zvx : Tryz.prog.cellsOf 3 = 1 := by kernel_rfl
section
variable {H : Type} {enc : TypeId × Value → H} {W : World}
theorem zvd {base : Nat} {sp : Nat → Bool} {held : Bool} (fuel : Nat) (cs : List Value) (x : DataW H × List MemPlace)
  (h : DataW.trod enc Tryz.prog W base sp held fuel 3 cs = some x) : ∃ z : Int, cs = encI z ∧ True := by
 obtain ⟨z, e, _, _⟩ := DataW.trod_int Tryz.underlying3 h
 exact ⟨z, e, trivial⟩
theorem z1m {base : Nat} {sp : Nat → Bool} {held : Bool} {fuel : Nat} {v : Value} {x : DataW H × List MemPlace}
  (h : DataW.trod enc Tryz.prog W base sp held fuel 47 [v] = some x) : ∃ l : List Int, Reads encI (whole W) v l ∧ ∀ z ∈ l, True :=
 z5x z2d (fun _ => True) Tryz.underlying47 zvx (by decide) zvd h
end
end Go.Proofs.YtfknjmoekbabcaaGreatDoor
