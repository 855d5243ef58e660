/-
  A part of a proof. It proves no statement by itself.
-/
import Derived.Test.YtfknjmoekbabcaaGreatDoorC01
import Derived.Deep.RegionHeld3
import Derived.Lib.AppendZerosOnto
import Derived.Lib.AppendZeros
set_option linter.unusedSimpArgs false
set_option linter.unusedVariables false
set_option linter.unusedSectionVars false
set_option maxRecDepth 100000
set_option maxHeartbeats 64000000
namespace Go.Proofs.YtfknjmoekbabcaaGreatDoor
open Go.RowKit Go.Lib
theorem sp:((∀ (a:Act) (d:Nat) (v:Value),a.put (some d) v={ a with tmps:=a.tmps.setIfInBounds d v })∧(∀ (a:Act) (v:Value),a.put none v=a)) ∧
  (∀ {α : Type} {l : List α} {i : Nat} (h : i < l.toArray.size), l.toArray[i] = l[i]'(by simpa using h)) ∧ (∀ {α : Type} {a : α} {l : List α}, (a :: l)[0] = a) ∧
  (∀ {α : Type} {a : α} {l : List α} {i : Nat} (h : i + 1 < (a :: l).length), (a :: l)[i + 1] = l[i]'(Nat.lt_of_succ_lt_succ h)) ∧
  (∀ {α:Type} {l:List α} {i:Nat} {a:α},l.toArray.setIfInBounds i a=(l.set i a).toArray)∧(∀ {α:Type} {a b:α} {l:List α},(a::l).set 0 b=b::l) ∧
  (∀ {α:Type} {a b:α} {l:List α} {n:Nat},(a::l).set (n+1) b=a::l.set n b) :=
 ⟨⟨fun _ _ _=>rfl,fun _ _=>rfl⟩,fun _=>rfl,rfl,fun _=>rfl,List.setIfInBounds_toArray ..,rfl,rfl⟩
section
variable {P:Program} {ops:Array Oper} {Q:Exit→Act→World→Prop} {md:Region.Mode} {S:World→Prop}
inductive zfx (P:Program) (ops:Array Oper) (md:Region.Mode) (S:World→Prop):List Nat→Array Bool→Act→Array Bool→Act→Prop
 | nil {l:Array Bool} {a:Act}:zfx P ops md S [] l a l a
 | cons {i:Nat} {is:List Nat} {l l':Array Bool} {a a':Act} {oi:Oper} {v:Value} (hi:ops[i]?=some oi) (hf:Region.free md ops l i=true) (hr:(Region.ready md ops l).contains i=true) (hy:YieldsIf P ops S oi v a)
   (h:zfx P ops md S is (l.setIfInBounds i true) (a.put oi.dst v) l' a'):zfx P ops md S (i::is) l a l' a'
theorem z9a (hs:Region.noSelect ops=true) (hQ:∀ c d v a w,Q (.panic c) (Act.put a d v) w→Q (.panic c) a w) {is:List Nat} {l l':Array Bool} {a a':Act} (h:zfx P ops md S is l a l' a') :
  ∀ {fuel:Nat} {w:World},S w→wpAnyH P md ops Q S fuel l' a' w→wpAnyH P md ops Q S (fuel+is.length) l a w:=by
 induction h with
 | nil=>intro fuel w _ H;exact H
 | cons hi hf hr hy _ ih=>intro fuel w hS H;exact wpAnyH_take hi hs hf hr (fun c a w=>hQ c _ _ a w) hy hS (ih hS H)
theorem tk (l':Array Bool) (a':Act) (is:List Nat) {l:Array Bool} {a:Act} {fuel:Nat} {w:World} (h:zfx P ops md S is l a l' a') (hS:S w) (k:wpAnyH P md ops Q S fuel l' a' w) (hs:Region.noSelect ops=true:=by kernel_rfl) (hQ:∀ c d v a w,Q (.panic c) (Act.put a d v) w→Q (.panic c) a w:=by (intro _ d _ _ _ h;cases d<;>exact h)):wpAnyH P md ops Q S (fuel+is.length) l a w:=z9a hs hQ h hS k
theorem tt {is:List Nat} {l l':Array Bool} {a a':Act} (h:zfx P ops md S is l a l' a':=by (repeat (first | exact zfx.nil | (refine zfx.cons (v:=?_) rfl (by kernel_rfl) (by kernel_rfl) (Or.inl ⟨by rfl,?_⟩) ?_;rotate_left;(· ((intro W hSW;(try dsimp only at hSW);go_simp)<;>(with_reducible rfl)));simp only [sp]) | (refine zfx.cons (v:=undef) rfl (by kernel_rfl) (by kernel_rfl) (Or.inr ⟨?_,rfl⟩) ?_;(· (first | (go_simp;done) | (simp [Region.wanted,yielded];done) | kernel_rfl));simp only [sp])))):zfx P ops md S is l a l' a':=h
theorem rh {A:Asn} {id:Nat} {a:Act} {w:World} (K:Sat A w.drew) (hk:∀ W,Sat A W→S W) (h:S w.drew→wpAnyH P .any ops Q S ops.size (Array.replicate ops.size false) a w.drew) (hm:P.follows .mixedOrders=true:=by kernel_rfl):(Code.region id ops true).wp P Q a w:=wp_region_held_drew hm (hk _ K) h
theorem rd (rs:List Nat) {fuel:Nat} {l:Array Bool} {a:Act} {w:World} (h:AllReadyH P md ops Q S fuel l a w rs) (hr:Region.ready md ops l=rs:=by kernel_rfl) (hne:rs≠[]:=by simp):wpAnyH P md ops Q S (fuel+1) l a w:=wpAnyH_ready hr hne h
theorem rn {fuel:Nat} {l:Array Bool} {a:Act} {w:World} {i:Nat} {o:Oper} {rs:List Nat}
  (h:∀ K':Act→World→Prop,Shut (∀ a w,S w→(S w→wpAnyH P md ops Q S fuel (l.setIfInBounds i true) a w)→K' a w)→if Region.wanted o (yielded ops a.tmps)=true then Oper.wp P o a w K' Q else K' (a.put o.dst undef) w)
  (hs:AllReadyH P md ops Q S fuel l a w rs) (ho:ops[i]?=some o:=by rfl):AllReadyH P md ops Q S fuel l a w (i::rs):=AllReadyH.cons ho h hs
theorem rc {fuel:Nat} {l:Array Bool} {a:Act} {w:World} {i:Nat} {o:Oper}
  (h:∀ K':Act→World→Prop,Shut (∀ a w,S w→(S w→wpAnyH P md ops Q S fuel (l.setIfInBounds i true) a w)→K' a w)→if Region.wanted o (yielded ops a.tmps)=true then Oper.wp P o a w K' Q else K' (a.put o.dst undef) w)
  (ho:ops[i]?=some o:=by rfl):AllReadyH P md ops Q S fuel l a w [i]:=AllReadyH.cons ho h AllReadyH.nil
end
end Go.Proofs.YtfknjmoekbabcaaGreatDoor
namespace Go.Proofs.YtfknjmoekbabcaaGreatDoor
open Go.RowKit
section
variable {P:Program}
theorem zl4 {R:Asn} {w:World} {ops:Array Oper} {o:Oper} {a:Act} {K:Act→World→Prop} {Q:Exit→Act→World→Prop} {E:Prop} (hgd:o.guard=none) (s x:Operand) (t:TypeId)
  (ho:o.op=.call { callee:=.builtin .append,args:=#[s,x],argTypes:=#[t,t] })
  (e:TypeId) {i:TypeInfo} {z:Value} {size bytes:Nat} (ht:P.underlying t=some (.slice e)) (hi:P.info? e=some i) (hz:i.zero=some z)
  (hsize:i.size=size) (hby:i.bytes=bytes) (hzs:z.cells.size=size)
  {v:Value} {n:Nat} {xs:List Value} (hs:a.eval s=v) (H:Sat (Row e size v n xs*R) w)
  {b:Nat} (m c:Nat) (cs:List Value) (hx:a.eval x=.slice (some ⟨b,0,none⟩) m c) (hb:b=w.heap.size) (hl:cs.length=m*size) (h1:cs.all (·.oneCell')=true)
  (hbytes:n+m≤1000000000) (hby2:bytes≤100000)
  (hm:0<m) (h:∀ g c' w',Sat (Row e size (.slice (some ⟨g,0,none⟩) (n+m) c') (n+m) (xs++cs)*R) w'→Io w w'→K (a.put o.dst (.slice (some ⟨g,0,none⟩) (n+m) c')) w') :
  if Region.wanted o (yielded ops a.tmps)=true then Oper.wp P o a (w.alloc (.cells cs.toArray e)) K Q else E:=by
 have hk:(n+m)*bytes≤1000000000*100000:=Nat.mul_le_mul hbytes hby2
 have hw:Region.wanted o (yielded ops a.tmps)=true:=by simp [Region.wanted,hgd]
 rw [if_pos hw]
 obtain ⟨v',w',hr,h2,h3⟩:=zgg (P:=P) (w.alloc (.cells cs.toArray e)) t o.type e ht hi hz hsize hby hzs (H.alloc _) ⟨b,0,none⟩ m c cs hl (z3r w b hb cs e) (fun u hu=>List.all_eq_true.1 h1 u hu) (by unfold maxLen;omega) (by omega)
 obtain ⟨g,c',rfl⟩:=zd5 h2 (by omega)
 unfold Oper.wp execOp
 simp only [ho,resolve,invoke,builtin,Sem.run_bind,Sem.run_pure,Result.andThen_ok,List.map_toArray,List.map_cons,List.map_nil,hs,hx,hr]
 exact h g c' w' h2 (((Io.refl w).alloc _).trans h3)
end
section
variable {α:Type} {enc:α→List Value} {sz:Nat}
def cellsOf (enc:α→List Value) (l:List α):List Value:=l.flatMap enc
structure Enc (enc:α→List Value) (sz:Nat):Prop where
 len:∀ x,(enc x).length=sz
 one:∀ x,∀ u∈enc x,u.oneCell'=true
theorem zbc (l m:List α):cellsOf enc (l++m)=cellsOf enc l++cellsOf enc m:=by simp [cellsOf]
theorem cellsOf_length (h:Enc enc sz):∀ l:List α,(cellsOf enc l).length=l.length*sz
 | []=>by simp [cellsOf]
 | x::l=>by
  have:=cellsOf_length h l
  unfold cellsOf at this ⊢
  rw [List.flatMap_cons,List.length_append,this,h.len,List.length_cons,Nat.succ_mul]
  omega
theorem zc3 (h:Enc enc sz):∀ (l:List α) (k:Nat) (hk:k<l.length) (i:Nat) (hi:i<sz),(cellsOf enc l)[k*sz+i]?=(enc l[k])[i]?
 | x::l,0,hk,i,hi=>by
  unfold cellsOf
  rw [List.flatMap_cons,Nat.zero_mul,Nat.zero_add,List.getElem?_append_left (by rw [h.len];exact hi)]
  rfl
 | x::l,k+1,hk,i,hi=>by
  have:=zc3 h l k (by simpa using hk) i hi
  unfold cellsOf at this ⊢
  have e:(k+1)*sz=k*sz+sz:=Nat.succ_mul k sz
  rw [List.flatMap_cons,List.getElem?_append_right (by rw [h.len];omega),h.len,show (k+1)*sz+i - sz=k*sz+i from by omega,this]
  rfl
theorem zxt (h:Enc enc sz) (l:List α):∀ u∈cellsOf enc l,u.oneCell'=true:=by
 intro u hu
 obtain ⟨x,_,hx⟩:=List.mem_flatMap.1 hu
 exact h.one x u hx
def Reads (enc:α→List Value) (F:Asn) (v:Value) (l:List α):Prop :=
 ∃ a c,v=.slice a l.length c∧l.length≤9223372036854775807∧(l=[]∨∃ b off,a=some ⟨b,off,none⟩∧∀ w,Sat F w→∀ j u,(cellsOf enc l)[j]?=some u→w.cell? ⟨b,off+j,none⟩=some u)
theorem Reads.imp {F G:Asn} {v:Value} {l:List α} (h:Reads enc F v l) (k:∀ w,Sat G w→Sat F w):Reads enc G v l:=by
 obtain ⟨a,c,h1,h2,h3⟩:=h
 refine ⟨a,c,h1,h2,?_⟩
 rcases h3 with h3 | ⟨b,off,e,h3⟩
 ·exact .inl h3
 ·exact .inr ⟨b,off,e,fun w hw=>h3 w (k w hw)⟩
theorem Reads.with {F G:Asn} {v:Value} {l:List α} (h:Reads enc F v l):Reads enc (G*F) v l:=h.imp fun _ hw=>hw.right
theorem Reads.get (he:Enc enc sz) {F:Asn} {a:Option Addr} {n c:Nat} {l:List α} (hl:Reads enc F (.slice a n c) l) (k:Nat) (hk:k<l.length):∃ b off,a=some ⟨b,off,none⟩∧∀ w,Sat F w →
  ∀ i u,i<sz→(enc l[k])[i]?=some u→w.cell? ⟨b,off+k*sz+i,none⟩=some u:=by
 obtain ⟨a',c',h1,_,h3⟩:=hl
 cases h1
 rcases h3 with rfl | ⟨b,off,e,h3⟩
 ·simp at hk
 ·refine ⟨b,off,e,fun w hw i u hi hu=>?_⟩
  rw [Nat.add_assoc]
  exact h3 w hw (k*sz+i) u (by rw [zc3 he l k hk i hi];exact hu)
abbrev RowOf (e:TypeId) (sz:Nat) (enc:α→List Value) (v:Value) (l:List α):Asn:=Row e sz v l.length (cellsOf enc l)
theorem Reads.zau {e:TypeId} {F:Asn} {w:World} {v:Value} {l:List α} (H:Sat (RowOf e sz enc v l*F) w) (hl:l.length≤1000000):Reads enc (RowOf e sz enc v l*F) v l:=by
 obtain ⟨hx,⟨rfl,h0,_⟩ | ⟨g,cap,cur,rfl,h2,h3,h4,h5,_⟩⟩:=za8.1 H
 ·have:l=[]:=List.eq_nil_of_length_eq_zero h0
  subst this
  exact ⟨none,0,rfl,by simp,.inl rfl⟩
 ·refine ⟨some ⟨g,0,none⟩,cap,rfl,by omega,.inr ⟨g,0,rfl,fun w' hw' j u hu=>?_⟩⟩
  obtain ⟨_,⟨h0,_⟩ | ⟨g',cap',cur',e1,e2,e3,e4,e5,h⟩⟩:=za8.1 hw'
  ·cases h0
  ·cases e1
   rw [Nat.zero_add,Sat.read h.left.at j]
   have hj:j<(cellsOf enc l).length:=(List.getElem?_eq_some_iff.1 hu).1
   rw [←e5,List.length_take] at hj
   rw [←e5,List.getElem?_take_of_lt (by omega),Array.getElem?_toList] at hu
   exact hu
theorem za5 {e:TypeId} {F:Asn} {w:World} (H:Sat F w):Sat (RowOf e sz enc (.slice none 0 0) []*F) w:=zj3 _ _ _ _ H
structure zkg (P:Program) (t e:TypeId) (sz bytes:Nat):Prop where
 und:P.underlying t=some (.slice e)
 info:∃ z:Value,z.cells.size=sz∧(P.info? e).map (fun i=>(i.zero,i.size,i.bytes))=some (some z,sz,bytes)
 small:bytes≤100000
theorem zkg.parts {P:Program} {t e:TypeId} {sz bytes:Nat} (h:zkg P t e sz bytes):∃ (i:TypeInfo) (z:Value),P.info? e=some i∧i.zero=some z∧i.size=sz∧i.bytes=bytes∧z.cells.size=sz:=by
 obtain ⟨z,hz,h2⟩:=h.info
 obtain ⟨i,h3,h4,h5,h6⟩:=info_parts h2
 exact ⟨i,z,h3,h4,h5,h6,hz⟩
section
variable {P:Program} {t e:TypeId} {bytes:Nat} {R:Asn} {w:World} {ops:Array Oper} {rest:List Oper} {o:Oper} {a:Act} {Q:Exit→Act→World→Prop}
theorem zat (T:zkg P t e sz bytes) (he:Enc enc sz) (hgd:o.guard=none) (s x:Operand) (ho:o.op=.call { callee:=.builtin .append,args:=#[s,x],argTypes:=#[t,t] })
  {v:Value} {l:List α} (hs:a.eval s=v) (H:Sat (RowOf e sz enc v l*R) w) (hl:l.length≤1000000) {b c:Nat} (y:α) (hx:a.eval x=.slice (some ⟨b,0,none⟩) 1 c) (hb:b=w.heap.size)
  (h:∀ v' w',Sat (RowOf e sz enc v' (l++[y])*R) w'→Io w w'→wpList P ops Q rest (a.put o.dst v') w') :
  wpList P ops Q (o::rest) a (w.alloc (.cells (enc y).toArray e)):=by
 obtain ⟨i0,z,hi,hz0,hz1,hz2,hz3⟩:=T.parts
 refine zbv hgd s x t ho e T.und hi hz0 hz1 hz2 hz3 hs H 1 c (enc y) hx hb (by rw [he.len,Nat.one_mul]) (List.all_eq_true.2 (he.one y)) (by omega) T.small (by omega) ?_
 intro g c' w' H' I'
 refine h _ w' (H'.of_eq ?_) I'
 unfold RowOf
 rw [show (l++[y]).length=l.length+1 from by simp,zbc]
 simp [cellsOf]
theorem zcn (T:zkg P t e sz bytes) (he:Enc enc sz) {K:Act→World→Prop} {E:Prop} (hgd:o.guard=none) (s x:Operand) (ho:o.op=.call { callee:=.builtin .append,args:=#[s,x],argTypes:=#[t,t] })
  {v:Value} {l:List α} (hs:a.eval s=v) (H:Sat (RowOf e sz enc v l*R) w) (hl:l.length≤1000000) {b c:Nat} (y:α) (hx:a.eval x=.slice (some ⟨b,0,none⟩) 1 c) (hb:b=w.heap.size)
  (h:∀ v' w',Sat (RowOf e sz enc v' (l++[y])*R) w'→Io w w'→K (a.put o.dst v') w') :
  if Region.wanted o (yielded ops a.tmps)=true then Oper.wp P o a (w.alloc (.cells (enc y).toArray e)) K Q else E:=by
 obtain ⟨i0,z,hi,hz0,hz1,hz2,hz3⟩:=T.parts
 refine zl4 hgd s x t ho e T.und hi hz0 hz1 hz2 hz3 hs H 1 c (enc y) hx hb (by rw [he.len,Nat.one_mul]) (List.all_eq_true.2 (he.one y)) (by omega) T.small (by omega) ?_
 intro g c' w' H' I'
 refine h _ w' (H'.of_eq ?_) I'
 unfold RowOf
 rw [show (l++[y]).length=l.length+1 from by simp,zbc]
 simp [cellsOf]
theorem zg0 (T:zkg P t e sz bytes) (he:Enc enc sz) {v u:Value} {l m:List α} (H:Sat (RowOf e sz enc v l*R) w) (hl:l.length≤1000000) (hm:m.length≤1000000) (hu:Reads enc R u m) (ty:TypeId) :
  ∃ v' w',(Builtin.append_ #[t,t] ty #[v,u]).run P w=.ok v' w'∧Sat (RowOf e sz enc v' (l++m)*R) w'∧Io w w':=by
 obtain ⟨i0,z,hi,hz0,hz1,hz2,hz3⟩:=T.parts
 obtain ⟨ad,c,rfl,_,hr⟩:=hu
 have hb:(l.length+m.length)*bytes≤140737488355328:=by
  have:=Nat.mul_le_mul (show l.length+m.length≤2000000 by omega) T.small
  omega
 rcases hr with rfl | ⟨b,off,rfl,hc⟩
 ·refine ⟨v,w,?_,by simpa using H,Io.refl w⟩
  obtain ⟨_,⟨rfl,h0,_⟩ | ⟨g,cap,cur,rfl,h2,h3,h4,h5,h6⟩⟩:=za8.1 H
  ·cases ad<;>simp [Builtin.append_,run_underlying T.und,sizeOf,typeInfo,hi,Builtin.lenOf,Builtin.firstCells,loadCells,loadCellsFrom]
  ·cases ad<;>simp [Builtin.append_,run_underlying T.und,sizeOf,typeInfo,hi,Builtin.lenOf,Builtin.firstCells,loadCells,loadCellsFrom,h2,storeCells]
 ·have had:∀ j,(⟨b,off,none⟩:Addr).add j=⟨b,off+j,none⟩:=fun j=>by unfold Addr.add;split<;>simp_all
  obtain ⟨v',w',h1,h2,h3⟩:=zgg (P:=P) w t ty e T.und hi hz0 hz1 hz2 hz3 H ⟨b,off,none⟩ m.length c (cellsOf enc m) (cellsOf_length he m) (fun j u hj=>by rw [had];exact hc w H.right j u hj) (zxt he m) (by unfold maxLen;omega) hb
  refine ⟨v',w',h1,h2.of_eq ?_,h3⟩
  unfold RowOf
  rw [List.length_append,zbc]
theorem zae (T:zkg P t e sz bytes) (he:Enc enc sz) (hgd:o.guard=none) (s x:Operand) (ho:o.op=.call { callee:=.builtin .append,args:=#[s,x],argTypes:=#[t,t] })
  {v u:Value} {l m:List α} (hs:a.eval s=v) (H:Sat (RowOf e sz enc v l*R) w) (hl:l.length≤1000000) (hm:m.length≤1000000) (hx:a.eval x=u) (hu:Reads enc R u m)
  (h:∀ v' w',Sat (RowOf e sz enc v' (l++m)*R) w'→Io w w'→wpList P ops Q rest (a.put o.dst v') w') :
  wpList P ops Q (o::rest) a w :=
 wpList_plain hgd fun K hK=>by
  obtain ⟨v',w',h1,h2,h3⟩:=zg0 T he H hl hm hu o.type
  unfold Oper.wp execOp
  simp only [ho,resolve,invoke,builtin,Sem.run_bind,Sem.run_pure,Result.andThen_ok,List.map_toArray,List.map_cons,List.map_nil,hs,hx,h1]
  exact hK _ _ (h v' w' h2 h3)
end
end
section
variable {P:Program} {e:TypeId} {sz g n c:Nat} {xs:List Value} {F:Asn} {w:World}
theorem zsw (H:Sat (Row e sz (.slice (some ⟨g,0,none⟩) n c) n xs*F) w) (j:Nat) (v:Value):Sat (Row e sz (.slice (some ⟨g,0,none⟩) n c) n (xs.set j v)*F) (w.setCell ⟨g,j,none⟩ v):=by
 obtain ⟨hl,⟨h0,_⟩ | ⟨g',cap,cur,e1,e2,e3,e4,e5,h⟩⟩:=za8.1 H
 ·cases h0
 ·cases e1
  refine za8.2 ⟨by rw [List.length_set];exact hl,.inr ⟨g,c,cur.setIfInBounds j v,rfl,e2,e3,by simpa using e4,?_,h.cell j v⟩⟩
  rw [Array.toList_setIfInBounds,←e5,List.take_set]
theorem z9s (H:Sat (Row e sz (.slice (some ⟨g,0,none⟩) n c) n xs*F) w) (j:Nat):w.frozen? ⟨g,j,none⟩=false:=by
 obtain ⟨hl,⟨h0,_⟩ | ⟨g',cap,cur,e1,e2,e3,e4,e5,h⟩⟩:=za8.1 H
 ·cases h0
 ·cases e1
  exact Sat.free h.left.at j
theorem zma (H:Sat (Row e sz (.slice (some ⟨g,0,none⟩) n c) n xs*F) w):n≤c∧c≤maxLen:=by
 obtain ⟨hl,⟨h0,_⟩ | ⟨g',cap,cur,e1,e2,e3,e4,e5,h⟩⟩:=za8.1 H
 ·cases h0
 ·cases e1
  exact ⟨e2,e3⟩
theorem zi6 (H:Sat (Row e sz (.slice (some ⟨g,0,none⟩) n c) n xs*F) w) (j:Nat) (u:Value) (hu:xs[j]?=some u):w.cell? ⟨g,j,none⟩=some u:=by
 obtain ⟨hl,⟨h0,_⟩ | ⟨g',cap,cur,e1,e2,e3,e4,e5,h⟩⟩:=za8.1 H
 ·cases h0
 ·cases e1
  rw [Sat.read h.left.at j]
  have hj:j<xs.length:=(List.getElem?_eq_some_iff.1 hu).1
  rw [←e5,List.length_take] at hj
  rw [←e5,List.getElem?_take_of_lt (by omega),Array.getElem?_toList] at hu
  exact hu
theorem zh0 (H:Sat (Row e sz (.slice (some ⟨g,0,none⟩) n c) n xs*F) w) {k:Nat} (hk:k≤n):Sat (Row e sz (.slice (some ⟨g,0,none⟩) k c) k (xs.take (k*sz))*F) w:=by
 obtain ⟨hl,⟨h0,_⟩ | ⟨g',cap,cur,e1,e2,e3,e4,e5,h⟩⟩:=za8.1 H
 ·cases h0
 ·cases e1
  have:=Nat.mul_le_mul_right sz hk
  refine za8.2 ⟨by rw [List.length_take];omega,.inr ⟨g,c,cur,rfl,by omega,e3,e4,?_,h⟩⟩
  rw [←e5,List.take_take,Nat.min_eq_left this]
end
end Go.Proofs.YtfknjmoekbabcaaGreatDoor
namespace Go.Proofs.YtfknjmoekbabcaaGreatDoor
abbrev Pr:=Int × Int
namespace Eg
def less (a b:Pr):Bool:=decide (a.1<b.1) || (a.1 == b.1 && decide (a.2<b.2))
theorem zq0 {a b:Pr}:less a b=true↔a.1<b.1∨(a.1=b.1∧a.2<b.2):=by simp [less]
theorem zw1 (a:Pr):less a a=false:=by
 rw [Bool.eq_false_iff];intro h;rw [zq0] at h;omega
theorem zpd {a b c:Pr} (h:less a b=true) (k:less b c=true):less a c=true:=by
 rw [zq0] at *;omega
theorem z0l {a b:Pr} (h:less a b=false) (k:less b a=false):a=b:=by
 rw [Bool.eq_false_iff,ne_eq,zq0] at h k
 exact Prod.ext (by omega) (by omega)
def Srt (l:List Pr):Prop:=l.Pairwise (fun a b=>less a b=true)
theorem Srt.cons {x:Pr} {l:List Pr}:Srt (x::l)↔(∀ y∈l,less x y=true)∧Srt l:=List.pairwise_cons
theorem Srt.nil:Srt []:=List.Pairwise.nil
theorem Srt.filter {l:List Pr} (h:Srt l) (p:Pr→Bool):Srt (l.filter p):=List.Pairwise.filter p h
def ins (p:Pr):List Pr→List Pr
 | []=>[p]
 | q::l=>if less p q then p::q::l else q::ins p l
def put (l:List Pr) (p:Pr):List Pr:=if p∈l then l else ins p l
def sort (l:List Pr):List Pr:=l.foldl put []
def without (l:List Pr) (p:Pr):List Pr:=l.filter fun x=>decide (x≠p)
def minus (a b:List Pr):List Pr:=(sort a).filter fun x=>!decide (x∈b)
def one (s:List Pr) (x:Pr × Bool):List Pr:=if x.2 then put s x.1 else without s x.1
theorem zqx (p x:Pr):∀ l,x∈ins p l↔x=p∨x∈l
 | []=>by simp [ins]
 | q::l=>by
  unfold ins
  split
  ·simp
  ·rw [List.mem_cons,zqx p x l,List.mem_cons]
   constructor
   ·rintro (h | h | h)
    ·exact .inr (.inl h)
    ·exact .inl h
    ·exact .inr (.inr h)
   ·rintro (h | h | h)
    ·exact .inr (.inl h)
    ·exact .inl h
    ·exact .inr (.inr h)
theorem z1y (p:Pr):∀ l,Srt l→p∉l→Srt (ins p l)
 | [],_,_=>Srt.cons.2 ⟨by simp,Srt.nil⟩
 | q::l,h,hp=>by
  obtain ⟨h1,h2⟩:=Srt.cons.1 h
  unfold ins
  split
  ·rename_i hl
   refine Srt.cons.2 ⟨fun y hy=>?_,h⟩
   rcases List.mem_cons.1 hy with rfl | hy
   ·exact hl
   ·exact zpd hl (h1 y hy)
  ·rename_i hl
   have hpl:p∉l:=fun k=>hp (List.mem_cons_of_mem _ k)
   have hpq:p≠q:=fun e=>hp (e ▸ List.mem_cons_self ..)
   refine Srt.cons.2 ⟨fun y hy=>?_,z1y p l h2 hpl⟩
   rcases (zqx p y l).1 hy with rfl | hy
   ·cases k:less q y with
    | true=>rfl
    | false=>exact absurd (z0l (by simpa using hl) k) hpq
   ·exact h1 y hy
theorem zmq (l:List Pr) (p x:Pr):x∈put l p↔x=p∨x∈l:=by
 unfold put
 split
 ·rename_i h
  constructor
  ·exact .inr
  ·rintro (rfl | k)
   ·exact h
   ·exact k
 ·exact zqx p x l
theorem xeh {l:List Pr} (h:Srt l) (p:Pr):Srt (put l p):=by
 unfold put
 split
 ·exact h
 ·exact z1y p l h (by assumption)
theorem zyb:∀ (l s:List Pr),Srt s→Srt (l.foldl put s)∧∀ x,x∈l.foldl put s↔x∈l∨x∈s
 | [],s,h=>⟨h,fun x=>by simp⟩
 | p::l,s,h=>by
  obtain ⟨h1,h2⟩:=zyb l (put s p) (xeh h p)
  refine ⟨h1,fun x=>?_⟩
  rw [List.foldl_cons,h2,zmq,List.mem_cons]
  constructor
  ·rintro (k | k | k)
   ·exact .inl (.inr k)
   ·exact .inl (.inl k)
   ·exact .inr k
  ·rintro ((k | k) | k)
   ·exact .inr (.inl k)
   ·exact .inl k
   ·exact .inr (.inr k)
theorem xan (l:List Pr) (x:Pr):x∈sort l↔x∈l:=by rw [sort,(zyb l [] Srt.nil).2];simp
theorem zmr (a b:List Pr) (x:Pr):x∈minus a b↔x∈a∧x∉b:=by simp [minus,xan]
end Eg
namespace Eg
def cnt (p:Pr):List Pr→Nat
 | []=>0
 | q::l=>if less q p then cnt p l+1 else 0
theorem zun (p:Pr):∀ (l:List Pr) (j:Nat) (h:j<cnt p l) (hl:j<l.length),less l[j] p=true
 | [],j,h,hl=>absurd hl (by simp)
 | q::l,j,h,hl=>by
  unfold cnt at h
  split at h
  ·rename_i hq
   cases j with
   | zero=>exact hq
   | succ j=>exact zun p l j (by omega) (by simpa using hl)
  ·omega
theorem zpr (p:Pr):∀ (l:List Pr),Srt l→∀ (j:Nat) (h:cnt p l≤j) (hl:j<l.length),less l[j] p=false
 | [],_,j,h,hl=>absurd hl (by simp)
 | q::l,hs,j,h,hl=>by
  obtain ⟨h1,h2⟩:=Srt.cons.1 hs
  unfold cnt at h
  split at h
  ·cases j with
   | zero=>omega
   | succ j=>exact zpr p l h2 j (by omega) (by simpa using hl)
  ·rename_i hq
   cases j with
   | zero=>simpa using hq
   | succ j =>
    cases k:less (q::l)[j+1] p with
    | false=>rfl
    | true =>
     have hm : l[j]'(by simpa using hl) ∈ l := List.getElem_mem _
     have:=zpd (h1 _ hm) k
     simp [this] at hq
theorem zfz {p:Pr} {l:List Pr} (hs:Srt l):p∈l↔∃ h:cnt p l<l.length,l[cnt p l]=p:=by
 constructor
 ·intro hp
  obtain ⟨j,hj,e⟩:=List.getElem_of_mem hp
  have h1:¬ j<cnt p l:=fun k=>by have:=zun p l j k hj;rw [e,zw1] at this;cases this
  have h2:¬ cnt p l<j:=fun k=>by
   have x:=(List.pairwise_iff_getElem.1 hs) (cnt p l) j (by omega) hj k
   rw [e] at x
   rw [zpr p l hs (cnt p l) (Nat.le_refl _) (by omega)] at x
   cases x
  have:j=cnt p l:=by omega
  subst this
  exact ⟨hj,e⟩
 ·rintro ⟨h,e⟩
  rw [←e]
  exact List.getElem_mem h
end Eg
end Go.Proofs.YtfknjmoekbabcaaGreatDoor
namespace Go.Proofs.YtfknjmoekbabcaaGreatDoor.Gr
abbrev Pr:=Int × Int
def pst (n:Int) (s:List Int × Bool) (y:Int):List Int × Bool:=if s.2=false∧n<y then (s.1++[n]++[y],true) else (s.1++[y],s.2)
def pfin (n:Int) (s:List Int × Bool):List Int:=if s.2=true then s.1 else s.1++[n]
def ins (l:List Int) (n:Int):List Int:=pfin n (l.foldl (pst n) ([],decide (n∈l)))
def zq4 (n:Int):List Int→List Int
 | []=>[n]
 | y::l=>if n<y then n::y::l else y::zq4 n l
theorem zm1 (n:Int):∀ (l o:List Int),l.foldl (pst n) (o,true)=(o++l,true)
 | [],o=>by simp
 | y::l,o=>by
  rw [List.foldl_cons,show pst n (o,true) y=(o++[y],true) from by simp [pst],zm1 n l]
  simp
theorem zt8 (n:Int):∀ (l o:List Int),pfin n (l.foldl (pst n) (o,false))=o++zq4 n l
 | [],o=>by simp [pfin,zq4]
 | y::l,o=>by
  rw [List.foldl_cons]
  unfold zq4
  by_cases h:n<y
  ·rw [show pst n (o,false) y=(o++[n]++[y],true) from by simp [pst,h],zm1,if_pos h]
   simp [pfin]
  ·rw [show pst n (o,false) y=(o++[y],false) from by simp [pst,h],zt8 n l,if_neg h]
   simp
theorem z5c {l:List Int} {n:Int} (h:n∈l):ins l n=l:=by
 unfold ins
 rw [decide_eq_true h,zm1]
 simp [pfin]
theorem xfk {l:List Int} {n:Int} (h:n∉l):ins l n=zq4 n l:=by
 unfold ins
 rw [decide_eq_false h,zt8]
 rfl
theorem zyq (n x:Int):∀ l:List Int,x∈zq4 n l↔x=n∨x∈l
 | []=>by simp [zq4]
 | y::l=>by
  unfold zq4
  split
  ·simp
  ·rw [List.mem_cons,zyq n x l,List.mem_cons]
   constructor
   ·rintro (h | h | h)<;>simp [h]
   ·rintro (h | h | h)<;>simp [h]
theorem zqx {l:List Int} {n x:Int}:x∈ins l n↔x=n∨x∈l:=by
 by_cases h:n∈l
 ·rw [z5c h]
  exact ⟨.inr,fun k=>k.elim (fun e=>e ▸ h) id⟩
 ·rw [xfk h,zyq]
end Go.Proofs.YtfknjmoekbabcaaGreatDoor.Gr
