/-
  A part of a proof. It proves no statement by itself.
-/
import Derived.Test.YtfknjmoekbabcaaGreatDoorC05
import Derived.OwnWalk
set_option linter.unusedSimpArgs false
set_option linter.unusedVariables false
set_option linter.unusedSectionVars false
set_option maxRecDepth 100000
set_option maxHeartbeats 64000000
namespace Go.Proofs.YtfknjmoekbabcaaGreatDoor
open Go.RowKit Go.MapKept
open Go.ChangeMaps (setBlock)
section
variable {κ ν:Type} [DecidableEq κ] {d:TypeDesc} {ek:κ→Value} {ev:ν→Value} {P:Program} {b:Nat} {l:List (κ × ν)} {F:Asn} {w:World} {T kt et:TypeId}
 {ops:Array Oper} {rest:List Oper} {o:Oper} {a:Act} {Q:Exit→Act→World→Prop}
end
section
variable {κ ν:Type} {d:TypeDesc} {ek:κ→Value} {ev:ν→Value}
variable {P:Program} {b r:Nat} {l left:List (κ × ν)} {cur:Option (κ × ν)} {F:Asn} {w:World} {T kt et:TypeId}
variable {ops:Array Oper} {rest:List Oper} {o:Oper} {a:Act} {Q:Exit→Act→World→Prop}
end
end Go.Proofs.YtfknjmoekbabcaaGreatDoor
