/-
  A part of a proof. It proves no statement by itself.
-/
import Derived.Test.YtfknjmoekbabcaaGreatDoorC43
import Derived.Test.YtfknjmoekbabcaaGreatDoorEQtd
set_option linter.unusedSimpArgs false
set_option linter.unusedVariables false
set_option linter.unusedSectionVars false
set_option maxRecDepth 100000
set_option maxHeartbeats 64000000
namespace Go.Proofs.YtfknjmoekbabcaaGreatDoor
open Go.ChangeShapes Go.WideShapes Go.ChangeAt Go.RowKit Go.Deep Go.Joins
theorem zuk:Tryz.prog.cellsOf 4=1:=by kernel_rfl
section
variable {H:Type} {enc:TypeId × Value→H} {W:World}
theorem zuo {base:Nat} {sp:Nat→Bool} {held:Bool} (fuel:Nat) (cs:List Value) (x:DataW H × List MemPlace)
  (h:DataW.trod enc Tryz.prog W base sp held fuel 4 cs=some x):∃ z:Bool,cs=zxc z∧True:=by
 obtain ⟨z,e,_⟩:=DataW.trod_bool Tryz.underlying4 h
 exact ⟨z,e,trivial⟩
theorem z06 {base:Nat} {sp:Nat→Bool} {held:Bool} {fuel:Nat} {v:Value} {x:DataW H × List MemPlace}
  (h:DataW.trod enc Tryz.prog W base sp held fuel 38 [v]=some x):∃ l:List Bool,Reads zxc (whole W) v l∧∀ z∈l,True :=
 zyf zy0 (fun _=>True) Tryz.underlying38 zuk (by decide) zuo h
end
end Go.Proofs.YtfknjmoekbabcaaGreatDoor
