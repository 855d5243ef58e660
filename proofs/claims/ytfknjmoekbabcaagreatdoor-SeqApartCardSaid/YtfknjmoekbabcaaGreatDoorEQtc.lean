/-
  A part of a proof. It proves no statement by itself.
-/
import Derived.Test.YtfknjmoekbabcaaGreatDoorC42
set_option linter.unusedSimpArgs false
set_option linter.unusedVariables false
set_option linter.unusedSectionVars false
set_option maxRecDepth 100000
set_option maxHeartbeats 64000000
namespace Go.Proofs.YtfknjmoekbabcaaGreatDoor
open Go.RowKit Go.Lib
open Sq (Tk Nd Mp LL)
theorem zer {g c n:Nat} {l:List Tk} {F:Asn} {w:World} {x1 x2:Int} (H:Sat (zar (.slice (some ⟨g,0,none⟩) n c) l*F) w) (k:Nat) (h:l[k]?=some (x1,x2)) :
  w.cell? ⟨g,k*2,none⟩=some (.int .i64 x1)∧w.cell? ⟨g,k*2+1,none⟩=some (.int .i64 x2):=by
 obtain ⟨hk,e⟩:=List.getElem?_eq_some_iff.1 h
 exact ⟨za4 zbp H k hk 0 (by omega) _ (by rw [e];rfl),za4 zbp H k hk 1 (by omega) _ (by rw [e];rfl)⟩
theorem zdo {g c n:Nat} {l:List Tk} {F:Asn} {w:World} {x1 x2:Int} (H:Sat (zar (.slice (some ⟨g,0,none⟩) n c) l*F) w) (h:l[0]?=some (x1,x2)) :
  w.cell? ⟨g,0,none⟩=some (.int .i64 x1)∧w.cell? ⟨g,1,none⟩=some (.int .i64 x2):=zer H 0 h
theorem zim {α:Type} {enc:α→List Value} {sz:Nat} (he:Enc enc sz) {e:TypeId} {g n c:Nat} {l:List α} {F:Asn} {w:World} (H:Sat (RowOf e sz enc (.slice (some ⟨g,0,none⟩) n c) l*F) w) (hl:l.length≤1000000) {k m:Nat} (hk:k≤l.length) (hm:l.length=m) (c':Nat):Reads enc (RowOf e sz enc (.slice (some ⟨g,0,none⟩) n c) l*F) (.slice (some ⟨g,k*sz,none⟩) (m - k) c') (l.drop k):=by
 subst hm
 have hn:n=l.length:=by
  obtain ⟨_,⟨h0,_⟩ | ⟨g',cap,cur,e1,_⟩⟩:=za8.1 H
  ·cases h0
  ·cases e1;rfl
 subst hn
 refine ⟨_,c',by rw [List.length_drop],by rw [List.length_drop];omega,.inr ⟨g,k*sz,rfl,fun w' hw' j u hu=>zi5 hw' (k*sz+j) u ?_⟩⟩
 have:cellsOf enc l=cellsOf enc (l.take k)++cellsOf enc (l.drop k):=by rw [←zbc,List.take_append_drop]
 rw [this,List.getElem?_append_right (by rw [cellsOf_length he,List.length_take,Nat.min_eq_left hk];omega),cellsOf_length he,List.length_take,Nat.min_eq_left hk,Nat.add_sub_cancel_left]
 exact hu
theorem zil {α:Type} {enc:α→List Value} {sz:Nat} (he:Enc enc sz) {e:TypeId} {g n c:Nat} {l:List α} {F:Asn} {w:World} (H:Sat (RowOf e sz enc (.slice (some ⟨g,0,none⟩) n c) l*F) w) (hl:l.length≤1000000) {k:Nat} (hk:k≤l.length) (c':Nat):Reads enc (RowOf e sz enc (.slice (some ⟨g,0,none⟩) n c) l*F) (.slice (some ⟨g,0,none⟩) k c') (l.take k):=by
 have hn:n=l.length:=by
  obtain ⟨_,⟨h0,_⟩ | ⟨g',cap,cur,e1,_⟩⟩:=za8.1 H
  ·cases h0
  ·cases e1;rfl
 subst hn
 refine ⟨_,c',by rw [List.length_take,Nat.min_eq_left hk],by rw [List.length_take];omega,.inr ⟨g,0,rfl,fun w' hw' j u hu=>?_⟩⟩
 rw [Nat.zero_add]
 refine zi5 hw' j u ?_
 have:cellsOf enc l=cellsOf enc (l.take k)++cellsOf enc (l.drop k):=by rw [←zbc,List.take_append_drop]
 rw [this]
 obtain ⟨hj,_⟩:=List.getElem?_eq_some_iff.1 hu
 rw [List.getElem?_append_left hj]
 exact hu
namespace Sq
theorem xex {W:List Tk} {x:Tk} (hx:x∈W) (ok:OkT x):zcz [W] x=0∧rowOf [W] x=W:=by
 have ha:there [W] x:=zdc (by simp) hx
 exact ⟨zxq.2 ⟨ok,ha⟩,by unfold rowOf;rw [zdh hx];rfl⟩
end Sq
section
variable {F:Asn} {w:World} {R:Ending→World→Prop}
theorem zp7 {c:Cq} (hc:Hid (c.k.n=3000)) {k:Nat} (hk:k≤122):Hid (zck c 60 0 k):=L_ ⟨by have:=hc.out;omega,by omega,by omega,by
 have h1:Tb.most (60+40*k) (0+k)≤Tb.most (60+40*122) (0+122):=zjf (by omega) (by omega)
 have h2:30+Tb.most (60+40*122) (0+122)<3000:=by decide +kernel
 have:=hc.out
 omega⟩
theorem z8y {A B C:Asn} (H:Sat (A*(B*(C*F))) w):Sat (B*(A*(C*F))) w:=H.of_eq (by ac_rfl)
theorem z1m {A B:Asn} {v:Value} {l:List Tk} (H:Sat (A*(B*(zar v l*F))) w):Sat (zar v l*(A*(B*F))) w:=H.of_eq (by unfold zar;ac_rfl)
theorem z1o {A B:Asn} {v:Value} {l:List Tk} (H:Sat (zar v l*(A*(B*F))) w):Sat (A*(zar v l*F)) w:=(H.of_eq (show _=B*(A*(zar v l*F)) from by unfold zar;ac_rfl)).right
theorem zjy {A:Asn} {g n c b:Nat} {tk:TypeId} {l:List Tk} {x y w1 w2:Int} (h:l[0]?=some (w1,w2)) (H:Sat (A*(pts b (.cells #[.int .i64 x,.int .i64 y] tk (0,0))*(zar (.slice (some ⟨g,0,none⟩) n c) l*F))) w) :
  (w.cell? ⟨b,0,none⟩=some (.int .i64 x)∧w.cell? ⟨b,1,none⟩=some (.int .i64 y))∧(w.cell? ⟨g,0,none⟩=some (.int .i64 w1)∧w.cell? ⟨g,1,none⟩=some (.int .i64 w2)) :=
 ⟨tk2 H.right,zdo H.right.right h⟩
end
end Go.Proofs.YtfknjmoekbabcaaGreatDoor
