/-
  A part of a proof. It proves no statement by itself.
-/
import Derived.Test.YtfknjmoekbabcaaGreatDoorC04
import Derived.Test.YtfknjmoekbabcaaGreatDoorC07
set_option linter.unusedSimpArgs false
set_option linter.unusedVariables false
set_option linter.unusedSectionVars false
set_option maxRecDepth 100000
set_option maxHeartbeats 64000000
namespace Go.Proofs.YtfknjmoekbabcaaGreatDoor
open Go.RowKit Go.Lib
open Sq (Tk)
structure zx0 where
 k:Int
 a:Tk
 b:Tk
 i:Int
instance:Inhabited zx0:=⟨⟨0,(0,0),(0,0),0⟩⟩
def zko (x:zx0):List Value:=[.int .i64 x.k,.int .i64 x.a.1,.int .i64 x.a.2,.int .i64 x.b.1,.int .i64 x.b.2,.int .i64 x.i]
theorem zui:Enc zko 6:=⟨fun _=>rfl,fun x u hu=>by simp [zko] at hu;rcases hu with rfl | rfl | rfl | rfl | rfl | rfl<;>rfl⟩
theorem zkk {F:Asn} {v:Value} {l:List zx0} (h:Reads zko F v l):∃ a c,v=.slice a l.length c∧(l.length:Int)≤9223372036854775807:=by
 obtain ⟨a,c,h1,h2,_⟩:=h
 exact ⟨a,c,h1,by omega⟩
theorem zkl {F:Asn} {a:Option Addr} {n c:Nat} {l:List zx0} (hl:Reads zko F (.slice a n c) l) (k:Nat) (hk:k<l.length):∃ b off x0 x1 x2 x3 x4 x5,a=some ⟨b,off,none⟩∧l[k]=⟨x0,(x1,x2),(x3,x4),x5⟩∧∀ w,Sat F w →
  w.cell? ⟨b,off+k*6,none⟩=some (.int .i64 x0)∧w.cell? ⟨b,off+k*6+1,none⟩=some (.int .i64 x1)∧w.cell? ⟨b,off+k*6+2,none⟩=some (.int .i64 x2)∧w.cell? ⟨b,off+k*6+3,none⟩=some (.int .i64 x3)∧w.cell? ⟨b,off+k*6+4,none⟩=some (.int .i64 x4)∧w.cell? ⟨b,off+k*6+5,none⟩=some (.int .i64 x5):=by
 obtain ⟨b,off,h1,h2⟩:=hl.get zui k hk
 exact ⟨b,off,_,_,_,_,_,_,h1,rfl,fun w hw=>⟨h2 w hw 0 _ (by omega) rfl,h2 w hw 1 _ (by omega) rfl,h2 w hw 2 _ (by omega) rfl,h2 w hw 3 _ (by omega) rfl,h2 w hw 4 _ (by omega) rfl,h2 w hw 5 _ (by omega) rfl⟩⟩
theorem zjw {F:Asn} {w:World} {a:Nat} {t:TypeId} {v0 v1 v2 v3 v4 v5:Value} (H:Sat (pts a (.cells #[v0,v1,v2,v3,v4,v5] t (0,0))*F) w) :
  w.cell? ⟨a,0,none⟩=some v0∧w.cell? ⟨a,1,none⟩=some v1∧w.cell? ⟨a,2,none⟩=some v2∧w.cell? ⟨a,3,none⟩=some v3∧w.cell? ⟨a,4,none⟩=some v4∧w.cell? ⟨a,5,none⟩=some v5 :=
 ⟨Sat.read H.left.at 0,Sat.read H.left.at 1,Sat.read H.left.at 2,Sat.read H.left.at 3,Sat.read H.left.at 4,Sat.read H.left.at 5⟩
end Go.Proofs.YtfknjmoekbabcaaGreatDoor
