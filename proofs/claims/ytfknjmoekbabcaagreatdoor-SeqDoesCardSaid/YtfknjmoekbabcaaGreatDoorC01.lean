/-
  A part of a proof. It proves no statement by itself.
-/
import Derived.WalkKit
import Derived.WalkSpells
import Derived.WalkLawsBesides
import Derived.Deep.QuietTactic
import Derived.BigQuiet
import Derived.StillTailTactics
import Derived.Lib.Hide
import Derived.Laws.CopyOwn
import Derived.Deep.RegionLaw
import Derived.BigRegion
set_option linter.unusedSimpArgs false
set_option linter.unusedVariables false
set_option linter.unusedSectionVars false
set_option maxRecDepth 100000
set_option maxHeartbeats 64000000
namespace Go.Proofs.YtfknjmoekbabcaaGreatDoor
open Go.RowKit
theorem L_ {p:Prop} (h:p):Hid p:=h
abbrev Hl:=Nat→Option Obj
def Asn:=Hl→Prop
def pts (b:Nat) (o:Obj):Asn:=fun h=>∀ k,h k=if k=b then some o else none
def emp:Asn:=fun h=>∀ k,h k=none
def star (A B:Asn):Asn:=fun h=>∃ h1 h2,A h1∧B h2∧∀ k,(h1 k=none∧h2 k=h k)∨(h2 k=none∧h1 k=h k)
instance:Mul Asn:=⟨star⟩
def ex {α:Type} (A:α→Asn):Asn:=fun h=>∃ x,A x h
def on (p:Prop) (A:Asn):Asn:=fun h=>p∧A h
def Sat (A:Asn) (w:World):Prop:=∃ h,A h∧∀ k o,h k=some o→w.heap[k]?=some o
theorem zep (A B:Asn):A*B=B*A:=by
 funext h
 apply propext
 constructor
 ·rintro ⟨h1,h2,a,b,c⟩;exact ⟨h2,h1,b,a,fun k=>(c k).symm⟩
 ·rintro ⟨h1,h2,a,b,c⟩;exact ⟨h2,h1,b,a,fun k=>(c k).symm⟩
theorem zi1 (A B C:Asn) (h:Hl):(A*B*C) h→(A*(B*C)) h:=by
 rintro ⟨h12,h3,⟨h1,h2,a,b,c⟩,d,e⟩
 refine ⟨h1,fun k=>(h2 k).or (h3 k),a,⟨h2,h3,b,d,fun k=>?_⟩,fun k=>?_⟩
 ·rcases c k with ⟨c1,c2⟩ | ⟨c1,c2⟩<;>rcases e k with ⟨e1,e2⟩ | ⟨e1,e2⟩<;>simp_all
 ·rcases c k with ⟨c1,c2⟩ | ⟨c1,c2⟩<;>rcases e k with ⟨e1,e2⟩ | ⟨e1,e2⟩<;>simp_all
theorem zdn (A B C:Asn):A*B*C=A*(B*C):=by
 funext h
 apply propext
 constructor
 ·exact zi1 A B C h
 ·intro x
  have x2:(C*B*A) h:=by rw [zep (C*B) A,zep C B];exact x
  have y:=zi1 C B A h x2
  rw [zep C (B*A),zep B A] at y
  exact y
instance:Std.Associative (α:=Asn) (·*·):=⟨zdn⟩
instance:Std.Commutative (α:=Asn) (·*·):=⟨zep⟩
theorem Sat.of_eq {A B:Asn} {w:World} (h:Sat A w) (e:A=B):Sat B w:=e ▸ h
theorem Sat.left {A B:Asn} {w:World} (h:Sat (A*B) w):Sat A w:=by
 obtain ⟨h0,⟨h1,h2,a,b,c⟩,f⟩:=h
 refine ⟨h1,a,fun k o hk=>f k o ?_⟩
 rcases c k with ⟨c1,c2⟩ | ⟨c1,c2⟩
 ·rw [c1] at hk;cases hk
 ·rw [←c2];exact hk
theorem Sat.right {A B:Asn} {w:World} (h:Sat (A*B) w):Sat B w:=by rw [zep] at h;exact h.left
theorem Sat.at {b:Nat} {o:Obj} {w:World} (h:Sat (pts b o) w):w.heap[b]?=some o:=by
 obtain ⟨h0,a,f⟩:=h
 exact f b o (by rw [a b,if_pos rfl])
theorem Sat.lt {b:Nat} {o:Obj} {w:World} (h:Sat (pts b o) w):b<w.heap.size:=(Array.getElem?_eq_some_iff.1 h.at).1
theorem Sat.ne {a b:Nat} {x y:Obj} {w:World} (h:Sat (pts a x*pts b y) w):a≠b:=by
 obtain ⟨h0,⟨h1,h2,p,q,c⟩,f⟩:=h
 rintro rfl
 have e1:=p a
 have e2:=q a
 rw [if_pos rfl] at e1 e2
 rcases c a with ⟨c1,c2⟩ | ⟨c1,c2⟩<;>simp_all
theorem Sat.set {b:Nat} {o o':Obj} {R:Asn} {w w':World} (h:Sat (pts b o*R) w) (hb:w'.heap[b]?=some o')
  (hk:∀ k,k<w.heap.size→k≠b→w'.heap[k]?=w.heap[k]?):Sat (pts b o'*R) w':=by
 obtain ⟨h0,⟨h1,h2,p,q,c⟩,f⟩:=h
 refine ⟨fun k=>if k=b then some o' else h2 k,⟨fun k=>if k=b then some o' else none,h2,fun k=>rfl,q,fun k=>?_⟩,fun k u hu=>?_⟩
 ·by_cases e:k=b
  ·subst e
   have e1:=p k
   rw [if_pos rfl] at e1
   rcases c k with ⟨c1,c2⟩ | ⟨c1,c2⟩
   ·rw [c1] at e1;cases e1
   ·right;simp [c1]
  ·left;simp [e]
 ·by_cases e:k=b
  ·subst e;simp at hu;subst hu;exact hb
  ·simp only [e,if_false] at hu
   have hw:w.heap[k]?=some u:=by
    apply f
    rcases c k with ⟨c1,c2⟩ | ⟨c1,c2⟩
    ·rw [←c2];exact hu
    ·rw [c1] at hu;cases hu
   rw [hk k (Array.getElem?_eq_some_iff.1 hw).1 e]
   exact hw
theorem Sat.keep {A:Asn} {w w':World} (h:Sat A w) (hk:∀ k,k<w.heap.size→w'.heap[k]?=w.heap[k]?):Sat A w':=by
 obtain ⟨h0,a,f⟩:=h
 refine ⟨h0,a,fun k o hko=>?_⟩
 have hw:=f k o hko
 rw [hk k (Array.getElem?_eq_some_iff.1 hw).1]
 exact hw
theorem Sat.fresh {A:Asn} {w w':World} {n:Nat} {o:Obj} (h:Sat A w) (hn:w.heap.size≤n) (hb:w'.heap[n]?=some o)
  (hk:∀ k,k<w.heap.size→w'.heap[k]?=w.heap[k]?):Sat (pts n o*A) w':=by
 obtain ⟨h0,a,f⟩:=h
 refine ⟨fun k=>if k=n then some o else h0 k,⟨fun k=>if k=n then some o else none,h0,fun k=>rfl,a,fun k=>?_⟩,fun k u hu=>?_⟩
 ·by_cases e:k=n
  ·subst e
   right
   refine ⟨?_,by simp⟩
   cases hx:h0 k with
   | none=>rfl
   | some u=>have:=(Array.getElem?_eq_some_iff.1 (f k u hx)).1;omega
  ·left;simp [e]
 ·by_cases e:k=n
  ·subst e;simp at hu;subst hu;exact hb
  ·simp only [e,if_false] at hu
   have hw:=f k u hu
   rw [hk k (Array.getElem?_eq_some_iff.1 hw).1]
   exact hw
theorem Sat.new {A:Asn} {w:World} (h:Sat A w) (o:Obj):Sat (pts w.heap.size o*A) (w.alloc o) :=
 h.fresh (Nat.le_refl _) (heap_alloc_new w o) fun k hk=>Below.heap_alloc w o k hk
theorem Sat.alloc {A:Asn} {w:World} (h:Sat A w) (o:Obj):Sat A (w.alloc o):=(h.new o).right
theorem Sat.drew {A:Asn} {w:World} (h:Sat A w):Sat A w.drew:=h.keep fun _ _=>rfl
theorem Sat.drewN {A:Asn} {w:World} (h:Sat A w) (n:Nat):Sat A (w.drewN n):=h.keep fun _ _=>rfl
theorem Sat.cell {b:Nat} {c:Array Value} {t:TypeId} {fr:Nat × Nat} {R:Asn} {w:World} (h:Sat (pts b (.cells c t fr)*R) w) (j:Nat) (v:Value) :
  Sat (pts b (.cells (c.setIfInBounds j v) t fr)*R) (w.setCell ⟨b,j,none⟩ v):=by
 refine h.set ?_ fun k _ hk=>Below.heap_setCell w ⟨b,j,none⟩ v k hk
 have hb:=h.left.at
 simp [World.setCell,Array.getElem?_modify,hb]
theorem Sat.read {b:Nat} {c:Array Value} {t:TypeId} {fr:Nat × Nat} {w:World} (h:w.heap[b]?=some (.cells c t fr)) (j:Nat):w.cell? ⟨b,j,none⟩=c[j]?:=by
 simp [World.cell?,h]
theorem Sat.free {b:Nat} {c:Array Value} {t:TypeId} {w:World} (h:w.heap[b]?=some (.cells c t (0,0))) (j:Nat):w.frozen? ⟨b,j,none⟩=false:=by
 simp [World.frozen?,h]
theorem zde {α:Type} {A:α→Asn} {R:Asn} {w:World}:Sat (ex A*R) w↔∃ x,Sat (A x*R) w:=by
 constructor
 ·rintro ⟨h0,⟨h1,h2,⟨x,a⟩,b,c⟩,f⟩;exact ⟨x,h0,⟨h1,h2,a,b,c⟩,f⟩
 ·rintro ⟨x,h0,⟨h1,h2,a,b,c⟩,f⟩;exact ⟨h0,⟨h1,h2,⟨x,a⟩,b,c⟩,f⟩
theorem ze4 {p:Prop} {A R:Asn} {w:World}:Sat (on p A*R) w↔p∧Sat (A*R) w:=by
 constructor
 ·rintro ⟨h0,⟨h1,h2,⟨x,a⟩,b,c⟩,f⟩;exact ⟨x,h0,⟨h1,h2,a,b,c⟩,f⟩
 ·rintro ⟨x,h0,⟨h1,h2,a,b,c⟩,f⟩;exact ⟨h0,⟨h1,h2,⟨x,a⟩,b,c⟩,f⟩
theorem zcq (A:Asn):emp*A=A:=by
 funext h
 apply propext
 constructor
 ·rintro ⟨h1,h2,a,b,c⟩
  have:h2=h:=by
   funext k
   rcases c k with ⟨_,e⟩ | ⟨e1,e2⟩
   ·exact e
   ·rw [e1,←e2,a k]
  rw [←this];exact b
 ·intro a
  exact ⟨fun _=>none,h,fun _=>rfl,a,fun k=>.inl ⟨rfl,rfl⟩⟩
theorem zlz (A:Asn):A*emp=A:=by rw [zep,zcq]
def whole (W:World):Asn:=fun h=>∀ k,h k=W.heap[k]?
theorem Sat.all (W:World):Sat (whole W) W:=⟨fun k=>W.heap[k]?,fun _=>rfl,fun _ _ h=>h⟩
theorem Sat.was {W w:World} (h:Sat (whole W) w):∀ k,k<W.heap.size→w.heap[k]?=W.heap[k]?:=by
 obtain ⟨h0,a,f⟩:=h
 intro k hk
 have e:=a k
 rw [Array.getElem?_eq_getElem hk] at e ⊢
 exact f k _ e
structure Io (w w':World):Prop where
 os:w'.os=w.os
 tape:w'.tape=w.tape
 output:w'.output=w.output
 size:w.heap.size≤w'.heap.size
theorem Io.refl (w:World):Io w w:=⟨rfl,rfl,rfl,Nat.le_refl _⟩
theorem Io.trans {a b c:World} (h:Io a b) (k:Io b c):Io a c:=⟨k.os.trans h.os,k.tape.trans h.tape,k.output.trans h.output,Nat.le_trans h.size k.size⟩
theorem Io.alloc {a w:World} (h:Io a w) (o:Obj):Io a (w.alloc o):=h.trans ⟨rfl,rfl,rfl,by simp⟩
theorem io1 {A:Asn} {a w:World} {o1:Obj} (_:Sat A (w.alloc o1)) (i:Io a w):Io a (w.alloc o1):=i.alloc o1
theorem io2 {A:Asn} {a w:World} {o1 o2:Obj} (_:Sat A ((w.alloc o1).alloc o2)) (i:Io a w):Io a ((w.alloc o1).alloc o2):=(i.alloc o1).alloc o2
theorem io3 {A:Asn} {a w:World} {o1 o2 o3:Obj} (_:Sat A (((w.alloc o1).alloc o2).alloc o3)) (i:Io a w):Io a (((w.alloc o1).alloc o2).alloc o3):=((i.alloc o1).alloc o2).alloc o3
theorem io4 {A:Asn} {a w:World} {o1 o2 o3 o4:Obj} (_:Sat A ((((w.alloc o1).alloc o2).alloc o3).alloc o4)) (i:Io a w):Io a ((((w.alloc o1).alloc o2).alloc o3).alloc o4):=(((i.alloc o1).alloc o2).alloc o3).alloc o4
theorem Io.drew {a w:World} (h:Io a w):Io a w.drew:=h.trans ⟨rfl,rfl,rfl,Nat.le_refl _⟩
theorem Io.drewN {a w:World} (h:Io a w) (n:Nat):Io a (w.drewN n):=h.trans ⟨rfl,rfl,rfl,Nat.le_refl _⟩
theorem Io.setCell {a w:World} (h:Io a w) (p:Addr) (v:Value):Io a (w.setCell p v):=h.trans ⟨rfl,rfl,rfl,by simp [World.setCell]⟩
theorem Io.below {W w:World} (h:Io W w) (k:Sat (whole W) w):Below W.heap.size W w :=
 ⟨h.os,h.tape,h.output,h.size,k.was⟩
def Row (e:TypeId) (size:Nat) (v:Value) (n:Nat) (xs:List Value):Asn:=fun h =>
 xs.length=n*size∧((v=.slice none 0 0∧n=0∧emp h) ∨
  ∃ g cap cur,v=.slice (some ⟨g,0,none⟩) n cap∧n≤cap∧cap≤maxLen∧cur.size=cap*size∧cur.toList.take (n*size)=xs∧pts g (.cells cur e (0,0)) h)
theorem zj3 (e:TypeId) (size:Nat) (R:Asn) (w:World) (h:Sat R w):Sat (Row e size (.slice none 0 0) 0 []*R) w:=by
 have h2:Sat (emp*R) w:=by rw [zcq];exact h
 obtain ⟨h0,⟨h1,h2,a,b,c⟩,f⟩:=h2
 exact ⟨h0,⟨h1,h2,⟨by simp,.inl ⟨rfl,rfl,a⟩⟩,b,c⟩,f⟩
theorem za8 {e:TypeId} {size:Nat} {v:Value} {n:Nat} {xs:List Value} {R:Asn} {w:World} :
  Sat (Row e size v n xs*R) w↔xs.length=n*size∧((v=.slice none 0 0∧n=0∧Sat R w) ∨
   ∃ g cap cur,v=.slice (some ⟨g,0,none⟩) n cap∧n≤cap∧cap≤maxLen∧cur.size=cap*size∧cur.toList.take (n*size)=xs∧Sat (pts g (.cells cur e (0,0))*R) w):=by
 constructor
 ·rintro ⟨h0,⟨h1,h2,⟨l,a⟩,b,c⟩,f⟩
  refine ⟨l,?_⟩
  rcases a with ⟨rfl,rfl,a⟩ | ⟨g,cap,cur,e1,e2,e3,e4,e5,a⟩
  ·refine .inl ⟨rfl,rfl,?_⟩
   have:Sat (emp*R) w:=⟨h0,⟨h1,h2,a,b,c⟩,f⟩
   exact this.right
  ·exact .inr ⟨g,cap,cur,e1,e2,e3,e4,e5,h0,⟨h1,h2,a,b,c⟩,f⟩
 ·rintro ⟨l,h | ⟨g,cap,cur,e1,e2,e3,e4,e5,h0,⟨h1,h2,a,b,c⟩,f⟩⟩
  ·obtain ⟨rfl,rfl,h⟩:=h
   have hx:xs=[]:=List.eq_nil_of_length_eq_zero (by simpa using l)
   subst hx
   exact zj3 e size R w h
  ·exact ⟨h0,⟨h1,h2,⟨l,.inr ⟨g,cap,cur,e1,e2,e3,e4,e5,a⟩⟩,b,c⟩,f⟩
theorem Sat.owns {e:TypeId} {size:Nat} {v:Value} {n:Nat} {xs:List Value} {R:Asn} {w:World} (h:Sat (Row e size v n xs*R) w):w.ownsRow 0 e size v n xs:=by
 obtain ⟨l,h⟩:=za8.1 h
 refine ⟨l,?_⟩
 rcases h with ⟨e1,e2,_⟩ | ⟨g,cap,cur,e1,e2,e3,e4,e5,h⟩
 ·exact .inl ⟨e1,e2⟩
 ·exact .inr ⟨g,cap,cur,e1,Nat.zero_le _,h.left.at,e2,e3,e4,e5⟩
section
variable {P:Program}
theorem zgg {R:Asn} (w:World) (t ty e:TypeId) {i:TypeInfo} {z:Value} {size bytes:Nat} (ht:P.underlying t=some (.slice e)) (hi:P.info? e=some i) (hz:i.zero=some z)
  (hsize:i.size=size) (hby:i.bytes=bytes) (hzs:z.cells.size=size)
  {v:Value} {n:Nat} {xs:List Value} (H:Sat (Row e size v n xs*R) w)
  (a:Addr) (m c:Nat) (news:List Value) (hl:news.length=m*size) (hnews:∀ j u,news[j]?=some u→w.cell? (a.add j)=some u) (h1:∀ u∈news,u.oneCell'=true)
  (h63:n+m≤maxLen) (hbytes:(n+m)*bytes≤140737488355328) :
  ∃ v' w',(Builtin.append_ #[t,t] ty #[v,.slice (some a) m c]).run P w=.ok v' w'∧Sat (Row e size v' (n+m) (xs++news)*R) w'∧Io w w':=by
 subst hsize
 subst hby
 have hsmall:n+m≤9223372036854775807:=by simp only [maxLen] at h63;omega
 obtain ⟨hx,hc⟩:=za8.1 H
 have hlen:(xs++news).length=(n+m)*i.size:=by rw [List.length_append,hx,hl,Nat.add_mul]
 have grown:∀ old,Sat R w→Sat (Row e i.size (.slice (some ⟨w.heap.size,0,none⟩) (n+m) (grownCap w (n+m) old e)) (n+m) (xs++news)*R)
   (w.drew.alloc (.cells (xs.toArray++news.toArray++Builtin.zeroCells z.cells (grownCap w (n+m) old e - (n+m))) e)):=by
  intro old hR
  have hge:=grownCap_ge w (n+m) old e
  have hcm:grownCap w (n+m) old e≤maxLen:=grownCap_le_maxLen w (n+m) old e h63
  refine za8.2 ⟨hlen,.inr ⟨w.heap.size,_,_,rfl,hge,hcm,?_,?_,(Sat.drew hR).new _⟩⟩
  ·simp only [Array.size_append,List.size_toArray,size_zeroCells,hzs,hx,hl,←Nat.add_mul]
   congr 1
   omega
  ·simp only [Array.toList_append,List.append_assoc]
   rw [←List.append_assoc,←hlen]
   exact List.take_left
 rcases hc with ⟨rfl,rfl,hR⟩ | ⟨g,cap,cur,rfl,hnc,hcm,hcs,htake,hR⟩
 ·have hx0:xs=[]:=List.eq_nil_of_length_eq_zero (by simpa using hx)
  subst hx0
  by_cases hm:m=0
  ·subst hm
   have hn:news=[]:=List.eq_nil_of_length_eq_zero (by simpa using hl)
   subst hn
   refine ⟨.slice none 0 0,w,?_,zj3 _ _ _ _ hR,Io.refl _⟩
   simp [Builtin.append_,run_underlying ht,sizeOf,typeInfo,hi,Builtin.lenOf,Builtin.firstCells,loadCells,loadCellsFrom]
  ·have hr:=run_append_nil (P:=P) w t ty e i z ht hi hz a m c news hl hnews (by omega) (by omega) (by have hb:=hbytes;simp only [Nat.zero_add] at hb;omega)
   have hgr:=grown 0 hR
   simp only [Nat.zero_add,List.nil_append,Array.empty_append] at hgr ⊢
   exact ⟨_,_,hr,hgr,((Io.refl w).drew).alloc _⟩
 ·have hg:=hR.left.at
  by_cases hroom:n+m≤cap
  ·have hfit:n*i.size+news.length≤cur.size:=by rw [hl,hcs,←Nat.add_mul];exact Nat.mul_le_mul_right _ hroom
   have hr:=run_append_room (P:=P) w t ty e i ht hi g n cap cur hg a m c news hl hnews h1 hroom hfit
   refine ⟨_,_,hr,za8.2 ⟨hlen,.inr ⟨g,cap,_,rfl,hroom,hcm,?_,?_,hR.set (setRow_heap w g cur _ e _ hg) fun k _ hk=>setRow_other w g k _ hk⟩⟩,⟨rfl,rfl,rfl,by simp⟩⟩
   ·simp only [List.size_toArray,List.length_append,List.length_take,List.length_drop,Array.length_toList]
    omega
   ·rw [htake,←hlen]
    exact List.take_left
  ·have hown:=H.owns
   have holds:∀ j u,xs[j]?=some u→w.cell? ((⟨g,0,none⟩:Addr).add j)=some u:=hown.cells (g:=g) rfl
   have hr:=run_append_grow (P:=P) w t ty e i z ht hi hz ⟨g,0,none⟩ n cap xs hx holds a m c news hl hnews (by omega) (by omega) (growslice_fits (by omega) hbytes)
   exact ⟨_,_,hr,grown cap hR.right,((Io.refl w).drew).alloc _⟩
theorem zlb {R:Asn} {w:World} {ops:Array Oper} {rest:List Oper} {o:Oper} {a:Act} {Q:Exit→Act→World→Prop} (hgd:o.guard=none) (s x:Operand) (t:TypeId)
  (ho:o.op=.call { callee:=.builtin .append,args:=#[s,x],argTypes:=#[t,t] })
  (e:TypeId) {i:TypeInfo} {z:Value} {size bytes:Nat} (ht:P.underlying t=some (.slice e)) (hi:P.info? e=some i) (hz:i.zero=some z)
  (hsize:i.size=size) (hby:i.bytes=bytes) (hzs:z.cells.size=size)
  {v:Value} {n:Nat} {xs:List Value} (hs:a.eval s=v) (H:Sat (Row e size v n xs*R) w)
  (ad:Addr) (m c:Nat) (news:List Value) (hx:a.eval x=.slice (some ad) m c) (hl:news.length=m*size) (hnews:∀ j u,news[j]?=some u→w.cell? (ad.add j)=some u) (h1:∀ u∈news,u.oneCell'=true)
  (h63:n+m≤maxLen) (hbytes:(n+m)*bytes≤140737488355328)
  (h:∀ v' w',Sat (Row e size v' (n+m) (xs++news)*R) w'→Io w w'→wpList P ops Q rest (a.put o.dst v') w'):wpList P ops Q (o::rest) a w :=
 wpList_plain hgd fun K hK=>by
  obtain ⟨v',w',hr,h2,h3⟩:=zgg (P:=P) w t o.type e ht hi hz hsize hby hzs H ad m c news hl hnews h1 h63 hbytes
  unfold Oper.wp execOp
  simp only [ho,resolve,invoke,builtin,Sem.run_bind,Sem.run_pure,Result.andThen_ok,List.map_toArray,List.map_cons,List.map_nil,hs,hx,hr]
  exact hK _ _ (h v' w' h2 h3)
theorem zd5 {e:TypeId} {size:Nat} {v:Value} {n:Nat} {xs:List Value} {R:Asn} {w:World} (h:Sat (Row e size v n xs*R) w) (hn:0<n):∃ g c,v=.slice (some ⟨g,0,none⟩) n c:=by
 obtain ⟨_,⟨_,h0,_⟩ | ⟨g,cap,cur,e1,_⟩⟩:=za8.1 h
 ·omega
 ·exact ⟨g,cap,e1⟩
theorem z3r (w:World) (n:Nat) (hn:n=w.heap.size) (cs:List Value) (t:TypeId):∀ j u,cs[j]?=some u→(w.alloc (.cells cs.toArray t)).cell? ((⟨n,0,none⟩:Addr).add j)=some u:=by
 subst hn
 intro j u hj
 have e:(⟨w.heap.size,0,none⟩:Addr).add j=⟨w.heap.size,j,none⟩:=by unfold Addr.add;split<;>simp_all
 rw [e,World.cell?_alloc_new]
 simpa using hj
theorem zbv {R:Asn} {w:World} {ops:Array Oper} {rest:List Oper} {o:Oper} {a:Act} {Q:Exit→Act→World→Prop} (hgd:o.guard=none) (s x:Operand) (t:TypeId)
  (ho:o.op=.call { callee:=.builtin .append,args:=#[s,x],argTypes:=#[t,t] })
  (e:TypeId) {i:TypeInfo} {z:Value} {size bytes:Nat} (ht:P.underlying t=some (.slice e)) (hi:P.info? e=some i) (hz:i.zero=some z)
  (hsize:i.size=size) (hby:i.bytes=bytes) (hzs:z.cells.size=size)
  {v:Value} {n:Nat} {xs:List Value} (hs:a.eval s=v) (H:Sat (Row e size v n xs*R) w)
  {b:Nat} (m c:Nat) (cs:List Value) (hx:a.eval x=.slice (some ⟨b,0,none⟩) m c) (hb:b=w.heap.size) (hl:cs.length=m*size) (h1:cs.all (·.oneCell')=true)
  (hbytes:n+m≤1000000000) (hby2:bytes≤100000)
  (hm:0<m) (h:∀ g c' w',Sat (Row e size (.slice (some ⟨g,0,none⟩) (n+m) c') (n+m) (xs++cs)*R) w'→Io w w'→wpList P ops Q rest (a.put o.dst (.slice (some ⟨g,0,none⟩) (n+m) c')) w') :
  wpList P ops Q (o::rest) a (w.alloc (.cells cs.toArray e)):=by
 have hk:(n+m)*bytes≤1000000000*100000:=Nat.mul_le_mul hbytes hby2
 exact zlb hgd s x t ho e ht hi hz hsize hby hzs hs (H.alloc _) ⟨b,0,none⟩ m c cs hx hl (z3r w b hb cs e) (fun u hu=>List.all_eq_true.1 h1 u hu) (by unfold maxLen;omega) (by omega)
  fun v' w' h2 h3=>by
   obtain ⟨g,c',rfl⟩:=zd5 h2 (by omega)
   exact h g c' w' h2 (((Io.refl w).alloc _).trans h3)
theorem zwm {id:Nat} {Q:Exit→Act→World→Prop} {a:Act} {w:World} {l:List Oper} (n:Nat) (hm:P.follows .mixedOrders=true) (hB:Region.lexTailB .any l.toArray n=true)
  (h:wpStill P l.toArray w.drew (fun a'=>wpList P l.toArray Q (l.drop n) a' w.drew) (l.take n) a):(Code.region id l.toArray true).wp P Q a w :=
 wp_region_still_tail n hm hB h
def z3z (k:Int):List (Int × Value)→Option Value
 | []=>none
 | p::m=>if p.1=k then some p.2 else z3z k m
def xdu (k:Int) (v:Value):List (Int × Value)→List (Int × Value)
 | []=>[(k,v)]
 | p::m=>if p.1=k then (k,v)::m else p::xdu k v m
def MapI (q:IntKind) (m:List (Int × Value)) (o:Obj):Prop :=
 ∃ es clock,o=.map es clock∧es.toList.map (fun e=>(e.key,e.val))=m.map fun p=>(Value.int q p.1,p.2)
theorem zif (k:Int) (v:Value):∀ m,z3z k (xdu k v m)=some v
 | []=>by simp [xdu,z3z]
 | p::m=>by
  unfold xdu
  split
  ·simp [z3z]
  ·rename_i h;simp [z3z,h,zif k v m]
theorem zg4 {k j:Int} (v:Value) (h:j≠k):∀ m,z3z j (xdu k v m)=z3z j m
 | []=>by simp [xdu,z3z,Ne.symm h]
 | p::m=>by
  unfold xdu
  split
  ·rename_i e;subst e;simp [z3z,Ne.symm h]
  ·simp [z3z,zg4 v h m]
theorem xar (q:IntKind):MapI q [] (.map #[] 0):=⟨#[],0,rfl,rfl⟩
end
end Go.Proofs.YtfknjmoekbabcaaGreatDoor
namespace Go.Proofs.YtfknjmoekbabcaaGreatDoor
def be:Nat→Nat→List UInt8
 | 0,_=>[]
 | k+1,n=>be k (n / 256)++[UInt8.ofNat (n % 256)]
def un (l:List UInt8):Nat:=l.foldl (fun n c=>n*256+c.toNat) 0
theorem zju:∀ k n,(be k n).length=k
 | 0,_=>rfl
 | k+1,n=>by simp [be,zju k]
theorem z1o (l:List UInt8) (c:UInt8):un (l++[c])=un l*256+c.toNat:=by simp [un]
theorem z1p:∀ k n,un (be k n)=n % 256 ^ k
 | 0,n=>by simp [be,un,Nat.mod_one]
 | k+1,n=>by
  rw [be,z1o,z1p k]
  have e:(UInt8.ofNat (n % 256)).toNat=n % 256:=by simp
  rw [e,Nat.pow_succ,Nat.mul_comm (256 ^ k) 256,Nat.mod_mul]
  omega
theorem un_lt:∀ l:List UInt8,un l<256 ^ l.length:=by
 intro l
 have key:∀ (l:List UInt8) (a:Nat),(l.foldl (fun n c=>n*256+c.toNat) a)<(a+1)*256 ^ l.length:=by
  intro l
  induction l with
  | nil=>intro a;simp
  | cons c l ih =>
   intro a
   have h:=ih (a*256+c.toNat)
   have hc:=c.toNat_lt
   simp only [List.foldl_cons,List.length_cons]
   refine Nat.lt_of_lt_of_le h ?_
   rw [Nat.pow_succ,Nat.mul_comm (256 ^ l.length) 256,←Nat.mul_assoc]
   exact Nat.mul_le_mul_right _ (by omega)
 have:=key l 0
 simpa [un] using this
def halves:List Nat:=[0,498536548,997073096,651767980,1994146192,1802195444,1303535960,1342533948,3988292384,4027552580,3604390888,3412177804,2607071920,2262029012,2685067896,3183342108]
end Go.Proofs.YtfknjmoekbabcaaGreatDoor
