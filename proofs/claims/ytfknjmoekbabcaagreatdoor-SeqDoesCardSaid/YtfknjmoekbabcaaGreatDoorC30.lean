/-
  A part of a proof. It proves no statement by itself.
-/
import Derived.Test.YtfknjmoekbabcaaGreatDoorC04
set_option linter.unusedSimpArgs false
set_option linter.unusedVariables false
set_option linter.unusedSectionVars false
set_option maxRecDepth 100000
set_option maxHeartbeats 64000000
namespace Go.Proofs.YtfknjmoekbabcaaGreatDoor
open Go.RowKit Go.Lib
theorem zai {A B C:Asn} {w:World} (h:Sat (A*(B*C)) w):Sat (B*(A*C)) w:=h.of_eq (by ac_rfl)
theorem zg1 {α:Type} {enc:α→List Value} {sz:Nat} {e:TypeId} {v:Value} {l:List α} {F:Asn} {w:World} (H:Sat (RowOf e sz enc v l*F) w):∃ a c,v=.slice a l.length c:=by
 obtain ⟨hx,⟨rfl,h0,_⟩ | ⟨g,cap,cur,rfl,h2,h3,h4,h5,_⟩⟩:=za8.1 H
 ·exact ⟨none,0,by rw [h0]⟩
 ·exact ⟨_,_,rfl⟩
end Go.Proofs.YtfknjmoekbabcaaGreatDoor
