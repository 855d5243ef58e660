/-
  A part of a proof. It proves no statement by itself.
-/
import Derived.Test.YtfknjmoekbabcaaGreatDoorC08
import Derived.Test.YtfknjmoekbabcaaGreatDoorC04
import Derived.Test.YtfknjmoekbabcaaGreatDoorRows
import Derived.Lib.Hide
import Derived.Laws.StructEq
import Derived.Deep.RegionHeld3
set_option linter.unusedSimpArgs false
set_option linter.unusedVariables false
set_option linter.unusedSectionVars false
set_option maxRecDepth 100000
set_option maxHeartbeats 64000000
namespace Go.Proofs.YtfknjmoekbabcaaGreatDoor
open Go.RowKit Go.Lib
def encR (x:Rn):List Value:=[.int .i64 x.1,.int .i64 x.2]
theorem zcp:Enc encR 2:=⟨fun _=>rfl,fun x u hu=>by simp [encR] at hu;rcases hu with rfl | rfl<;>rfl⟩
theorem Tryz.xdh:zkg Tryz.prog 117 119 2 16:=⟨Tryz.underlying117,⟨.agg #[.int .i64 0,.int .i64 0],rfl,by kernel_rfl⟩,by omega⟩
abbrev zen (v:Value) (l:List Rn):Asn:=RowOf 119 2 encR v l
abbrev zc7 (F:Asn) (v:Value) (l:List Rn):Prop:=Reads encR F v l
theorem zj4 {F:Asn} {a:Option Addr} {n c:Nat} {l:List Rn} (hl:zc7 F (.slice a n c) l) (k:Nat) (hk:k<l.length):∃ b off x1 x2,a=some ⟨b,off,none⟩∧l[k]=(x1,x2)∧∀ w,Sat F w →
  w.cell? ⟨b,off+k*2,none⟩=some (.int .i64 x1)∧w.cell? ⟨b,off+k*2+1,none⟩=some (.int .i64 x2):=by
 obtain ⟨b,off,h1,h2⟩:=hl.get zcp k hk
 exact ⟨b,off,_,_,h1,rfl,fun w hw=>⟨h2 w hw 0 _ (by omega) rfl,h2 w hw 1 _ (by omega) rfl⟩⟩
theorem zch {F:Asn} {v:Value} {l:List Rn} (h:zc7 F v l):∃ a c,v=.slice a l.length c∧(l.length:Int)≤9223372036854775807:=by
 obtain ⟨a,c,h1,h2,_⟩:=h
 exact ⟨a,c,h1,by omega⟩
theorem Sat.mid {A B C:Asn} {w:World} (h:Sat (A*(B*C)) w):Sat (A*C) w:=(h.of_eq (show A*(B*C)=B*(A*C) from by ac_rfl)).right
theorem zby {x y:Value} {t:TypeId} {b:Nat} {R:Asn} {w:World} (H:Sat (pts b (.cells #[x,y] t (0,0))*R) w):w.cell? ⟨b,0,none⟩=some x∧w.cell? ⟨b,1,none⟩=some y:=⟨Sat.read H.left.at 0,Sat.read H.left.at 1⟩
theorem zlr {F:Asn} {w:World} (H:Sat F w):Sat (zen (.slice none 0 0) []*F) w:=za5 H
section
variable {F:Asn} {w:World} {R:Ending→World→Prop} {l m:List Rn} {v u:Value}
end
end Go.Proofs.YtfknjmoekbabcaaGreatDoor
