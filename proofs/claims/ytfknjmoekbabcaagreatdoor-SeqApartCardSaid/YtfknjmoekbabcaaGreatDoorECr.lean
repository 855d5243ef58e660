/-
  A part of a proof. It proves no statement by itself.
-/
import Derived.Test.YtfknjmoekbabcaaGreatDoorC27
set_option linter.unusedSimpArgs false
set_option linter.unusedVariables false
set_option linter.unusedSectionVars false
set_option maxRecDepth 100000
set_option maxHeartbeats 64000000
namespace Go.Proofs.YtfknjmoekbabcaaGreatDoor
open Go.RowKit Go.Lib
section
variable {c:Cq} {r:Int} {L:Tb.Pg} {F:Asn} {w:World} {R:Ending→World→Prop}
theorem z9s {es:List Ky.En} {q g:Nat} (H:Sat (ze0 c es q g*F) w) (hR:∀ root:Int,(root=0↔es=[])→R (.returned (.int .i64 root)) w) :
  Calls Tryz.prog 36 #[.pointer (some ⟨c.tr,0,none⟩)] w R:=by
 obtain ⟨root,L,t,hq,H⟩:=zeq.1 H
 have HR:=L_ (hR root (by
  rcases t with ⟨rfl,rfl,rfl⟩ | ⟨h,cc,s,hh⟩
  ·simp
  ·have h1:=s.bounds.2.1
   have h2:es≠[]:=s.ne
   constructor
   ·intro e;omega
   ·intro e;exact absurd e h2))
 obtain ⟨v0,v1,v2⟩:=zaq.cells H
 clear hR t
 go_enter Tryz.func36,Tryz.ntmps36
 go_wp2_with fail
 exact HR.out
end
end Go.Proofs.YtfknjmoekbabcaaGreatDoor
