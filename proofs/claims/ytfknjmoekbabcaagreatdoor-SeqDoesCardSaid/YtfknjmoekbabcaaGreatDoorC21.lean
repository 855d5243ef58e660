/-
  A part of a proof. It proves no statement by itself.
-/
import Derived.Test.YtfknjmoekbabcaaGreatDoorC01
import Derived.Deep.RegionHeld3
set_option linter.unusedSimpArgs false
set_option linter.unusedVariables false
set_option linter.unusedSectionVars false
set_option maxRecDepth 100000
set_option maxHeartbeats 64000000
namespace Go.Proofs.YtfknjmoekbabcaaGreatDoor
open Go.RowKit
section
variable {P:Program} {md:Region.Mode} {ops:Array Oper} {Q:Exit→Act→World→Prop} {S:World→Prop}
theorem zii {σ:Type} (lst:σ→Array Bool) (rdy:σ→List (Nat × σ)) (m:σ→Nat) (ok:σ→Bool) (Inv:σ→Act→World→Prop) {f:Nat}
  (h1:∀ s,ok s=true→0<m s→Region.ready md ops (lst s)=(rdy s).map (·.1)∧rdy s≠[]∧∀ p∈rdy s,m p.2<m s∧ok p.2=true)
  (h3:∀ s p,ok s=true→p∈rdy s→∀ a w,Inv s a w→S w→(∀ a' w',Inv p.2 a' w'→S w'→wpAnyH P md ops Q S (f+m p.2) (lst p.2) a' w') →
   wpOp P ops Q p.1 (fun a' w'=>S w'∧wpAnyH P md ops Q S (f+m s - 1) ((lst s).setIfInBounds p.1 true) a' w') a w)
  (h4:∀ s a w,ok s=true→m s=0→Inv s a w→S w→wpAnyH P md ops Q S f (lst s) a w) :
  ∀ n s a w,m s≤n→ok s=true→Inv s a w→S w→wpAnyH P md ops Q S (f+m s) (lst s) a w
 | 0,s,a,w,hm,ho,hi,hs=>by
  have e:m s=0:=by omega
  rw [e]
  exact h4 s a w ho e hi hs
 | n+1,s,a,w,hm,ho,hi,hs=>by
  by_cases e:m s=0
  ·rw [e]
   exact h4 s a w ho e hi hs
  ·obtain ⟨r1,r2,r3⟩:=h1 s ho (by omega)
   rw [show f+m s=(f+m s - 1)+1 by omega]
   refine wpAnyH_all r1 (by simpa using r2) fun i hmem=>?_
   obtain ⟨p,hp,rfl⟩:=List.mem_map.1 hmem
   obtain ⟨e2,e3⟩:=r3 p hp
   exact h3 s p ho hp a w hi hs fun a' w' hi' hs'=>zii lst rdy m ok Inv h1 h3 h4 n p.2 a' w' (by omega) e3 hi' hs'
theorem zkh {fuel:Nat} {listed:Array Bool} {a:Act} {w:World} (h:∀ a0:Act,a0=a→wpAnyH P md ops Q S fuel listed a0 w):wpAnyH P md ops Q S fuel listed a w:=h a rfl
theorem ziy {fuel fuel':Nat} {listed listed':Array Bool} {a:Act} {w:World} (h1:fuel=fuel') (h2:listed=listed') (h:wpAnyH P md ops Q S fuel' listed' a w):wpAnyH P md ops Q S fuel listed a w:=by subst h1 h2;exact h
theorem zbs {i:Nat} {o:Oper} {K:Act→World→Prop} {a:Act} {w:World} (ho:ops[i]?=some o)
  (h:∀ K':Act→World→Prop,Shut (∀ a' w',K a' w'→K' a' w')→(if Region.wanted o (yielded ops a.tmps) then o.wp P a w K' Q else K' (a.put o.dst undef) w)):wpOp P ops Q i K a w:=by
 have:=h K (fun _ _ h=>h)
 unfold wpOp
 rw [ho]
 simp only
 split
 ·rename_i hw;rw [if_pos hw] at this;exact .inl this
 ·rename_i hw;rw [if_neg hw] at this;exact this
theorem zev {c b:Bool} (h:(!c || b)=true) (hc:c=true):b=true:=by subst hc;simpa using h
theorem zbb {a b:Bool} (h:(a && b)=true):a=true∧b=true:=by simpa using h
theorem zc0 {A B:Array Bool} (h:(A.toList == B.toList)=true):A=B:=Array.toList_inj.1 (eq_of_beq h)
theorem zcd (b:Bool):b∈[false,true]:=by cases b<;>simp
def nbb (b:Bool) (n:Nat):Nat:=if b then 0 else n
theorem zcc {b:Bool} {n:Nat} (hn:0<n) (h:nbb b n=0):b=true:=by cases b<;>simp [nbb] at h ⊢;omega
end
structure zad where
 b1:Bool
 c1:Bool
 b2:Bool
 c2:Bool
 b3:Bool
 c3:Bool
 b4:Bool
 c4:Bool
namespace zad
def start:zad:=⟨false,false,false,false,false,false,false,false⟩
def done:zad:=⟨true,true,true,true,true,true,true,true⟩
def ok (s:zad):Bool:=(!s.c1 || (s.b1)) && (!s.c2 || (s.b2 && s.c1)) && (!s.c3 || (s.b3 && s.c2)) && (!s.c4 || (s.b4 && s.c3))
def left (s:zad):Nat:=nbb s.b1 1+nbb s.c1 1+nbb s.b2 1+nbb s.c2 2+nbb s.b3 1+nbb s.c3 1+nbb s.b4 1+nbb s.c4 2
def all:List zad:=[false,true].flatMap fun b1=>[false,true].flatMap fun c1=>[false,true].flatMap fun b2=>[false,true].flatMap fun c2=>[false,true].flatMap fun b3=>[false,true].flatMap fun c3=>[false,true].flatMap fun b4=>[false,true].map fun c4=>⟨b1,c1,b2,c2,b3,c3,b4,c4⟩
theorem zwz (s:zad):s∈all:=by
 obtain ⟨b1,c1,b2,c2,b3,c3,b4,c4⟩:=s
 unfold all
 exact List.mem_flatMap.2 ⟨b1,zcd b1,List.mem_flatMap.2 ⟨c1,zcd c1,List.mem_flatMap.2 ⟨b2,zcd b2,List.mem_flatMap.2 ⟨c2,zcd c2,List.mem_flatMap.2 ⟨b3,zcd b3,List.mem_flatMap.2 ⟨c3,zcd c3,List.mem_flatMap.2 ⟨b4,zcd b4,List.mem_map.2 ⟨c4,zcd c4,rfl⟩⟩⟩⟩⟩⟩⟩⟩
section
variable (base:Array Bool) (ib1 j1 ib2 j2 p2 ib3 j3 ib4 j4 p4:Nat)
def lst (s:zad):Array Bool:=((((((((((base.setIfInBounds ib1 s.b1).setIfInBounds j1 s.c1).setIfInBounds ib2 s.b2).setIfInBounds j2 s.c2).setIfInBounds p2 s.c2).setIfInBounds ib3 s.b3).setIfInBounds j3 s.c3).setIfInBounds ib4 s.b4).setIfInBounds j4 s.c4).setIfInBounds p4 s.c4)
def rdy (s:zad):List (Nat × zad):=(if !s.b1 then [(ib1,{ s with b1:=true })] else [])++((if s.b1 && !s.c1 then [(j1,{ s with c1:=true })] else [])++((if !s.b2 then [(ib2,{ s with b2:=true })] else [])++((if s.b2 && s.c1 && !s.c2 then [(j2,{ s with c2:=true })] else [])++((if !s.b3 then [(ib3,{ s with b3:=true })] else [])++((if s.b3 && s.c2 && !s.c3 then [(j3,{ s with c3:=true })] else [])++((if !s.b4 then [(ib4,{ s with b4:=true })] else [])++((if s.b4 && s.c3 && !s.c4 then [(j4,{ s with c4:=true })] else []))))))))
def chk (md:Region.Mode) (ops:Array Oper) (s:zad):Bool:=!s.ok || s.left == 0 ||
 (Region.ready md ops (s.lst base ib1 j1 ib2 j2 p2 ib3 j3 ib4 j4 p4) == (s.rdy ib1 j1 ib2 j2 ib3 j3 ib4 j4).map (·.1) && !(s.rdy ib1 j1 ib2 j2 ib3 j3 ib4 j4).isEmpty && (s.rdy ib1 j1 ib2 j2 ib3 j3 ib4 j4).all (fun p=>decide (p.2.left<s.left) && p.2.ok) && ((!(!s.b1) || (((s.lst base ib1 j1 ib2 j2 p2 ib3 j3 ib4 j4 p4).setIfInBounds ib1 true).toList == (({ s with b1:=true }:zad).lst base ib1 j1 ib2 j2 p2 ib3 j3 ib4 j4 p4).toList)) && ((!(s.b1 && !s.c1) || (((s.lst base ib1 j1 ib2 j2 p2 ib3 j3 ib4 j4 p4).setIfInBounds j1 true).toList == (({ s with c1:=true }:zad).lst base ib1 j1 ib2 j2 p2 ib3 j3 ib4 j4 p4).toList)) && ((!(!s.b2) || (((s.lst base ib1 j1 ib2 j2 p2 ib3 j3 ib4 j4 p4).setIfInBounds ib2 true).toList == (({ s with b2:=true }:zad).lst base ib1 j1 ib2 j2 p2 ib3 j3 ib4 j4 p4).toList)) && ((!(s.b2 && s.c1 && !s.c2) || (Region.free md ops ((s.lst base ib1 j1 ib2 j2 p2 ib3 j3 ib4 j4 p4).setIfInBounds j2 true) p2 && (Region.ready md ops ((s.lst base ib1 j1 ib2 j2 p2 ib3 j3 ib4 j4 p4).setIfInBounds j2 true)).contains p2 && (((s.lst base ib1 j1 ib2 j2 p2 ib3 j3 ib4 j4 p4).setIfInBounds j2 true).setIfInBounds p2 true).toList == (({ s with c2:=true }:zad).lst base ib1 j1 ib2 j2 p2 ib3 j3 ib4 j4 p4).toList)) && ((!(!s.b3) || (((s.lst base ib1 j1 ib2 j2 p2 ib3 j3 ib4 j4 p4).setIfInBounds ib3 true).toList == (({ s with b3:=true }:zad).lst base ib1 j1 ib2 j2 p2 ib3 j3 ib4 j4 p4).toList)) && ((!(s.b3 && s.c2 && !s.c3) || (((s.lst base ib1 j1 ib2 j2 p2 ib3 j3 ib4 j4 p4).setIfInBounds j3 true).toList == (({ s with c3:=true }:zad).lst base ib1 j1 ib2 j2 p2 ib3 j3 ib4 j4 p4).toList)) && ((!(!s.b4) || (((s.lst base ib1 j1 ib2 j2 p2 ib3 j3 ib4 j4 p4).setIfInBounds ib4 true).toList == (({ s with b4:=true }:zad).lst base ib1 j1 ib2 j2 p2 ib3 j3 ib4 j4 p4).toList)) && ((!(s.b4 && s.c3 && !s.c4) || (Region.free md ops ((s.lst base ib1 j1 ib2 j2 p2 ib3 j3 ib4 j4 p4).setIfInBounds j4 true) p4 && (Region.ready md ops ((s.lst base ib1 j1 ib2 j2 p2 ib3 j3 ib4 j4 p4).setIfInBounds j4 true)).contains p4 && (((s.lst base ib1 j1 ib2 j2 p2 ib3 j3 ib4 j4 p4).setIfInBounds j4 true).setIfInBounds p4 true).toList == (({ s with c4:=true }:zad).lst base ib1 j1 ib2 j2 p2 ib3 j3 ib4 j4 p4).toList)))))))))))
end
end zad
theorem zad.zbz {base:Array Bool} {ib1 j1 ib2 j2 p2 ib3 j3 ib4 j4 p4:Nat} {md:Region.Mode} {ops:Array Oper} (h:zad.all.all (zad.chk base ib1 j1 ib2 j2 p2 ib3 j3 ib4 j4 p4 md ops)=true) (s:zad) (ho:s.ok=true) (hl:0<s.left) :
  Region.ready md ops (s.lst base ib1 j1 ib2 j2 p2 ib3 j3 ib4 j4 p4)=(s.rdy ib1 j1 ib2 j2 ib3 j3 ib4 j4).map (·.1)∧s.rdy ib1 j1 ib2 j2 ib3 j3 ib4 j4≠[]∧(∀ p∈s.rdy ib1 j1 ib2 j2 ib3 j3 ib4 j4,p.2.left<s.left∧p.2.ok=true)∧(s.b1=false→((s.lst base ib1 j1 ib2 j2 p2 ib3 j3 ib4 j4 p4).setIfInBounds ib1 true=(({ s with b1:=true }:zad).lst base ib1 j1 ib2 j2 p2 ib3 j3 ib4 j4 p4)))∧(s.b1=true→s.c1=false→((s.lst base ib1 j1 ib2 j2 p2 ib3 j3 ib4 j4 p4).setIfInBounds j1 true=(({ s with c1:=true }:zad).lst base ib1 j1 ib2 j2 p2 ib3 j3 ib4 j4 p4)))∧(s.b2=false→((s.lst base ib1 j1 ib2 j2 p2 ib3 j3 ib4 j4 p4).setIfInBounds ib2 true=(({ s with b2:=true }:zad).lst base ib1 j1 ib2 j2 p2 ib3 j3 ib4 j4 p4)))∧(s.b2=true→s.c1=true→s.c2=false→(Region.free md ops ((s.lst base ib1 j1 ib2 j2 p2 ib3 j3 ib4 j4 p4).setIfInBounds j2 true) p2=true∧(Region.ready md ops ((s.lst base ib1 j1 ib2 j2 p2 ib3 j3 ib4 j4 p4).setIfInBounds j2 true)).contains p2=true∧((s.lst base ib1 j1 ib2 j2 p2 ib3 j3 ib4 j4 p4).setIfInBounds j2 true).setIfInBounds p2 true=(({ s with c2:=true }:zad).lst base ib1 j1 ib2 j2 p2 ib3 j3 ib4 j4 p4)))∧(s.b3=false→((s.lst base ib1 j1 ib2 j2 p2 ib3 j3 ib4 j4 p4).setIfInBounds ib3 true=(({ s with b3:=true }:zad).lst base ib1 j1 ib2 j2 p2 ib3 j3 ib4 j4 p4)))∧(s.b3=true→s.c2=true→s.c3=false→((s.lst base ib1 j1 ib2 j2 p2 ib3 j3 ib4 j4 p4).setIfInBounds j3 true=(({ s with c3:=true }:zad).lst base ib1 j1 ib2 j2 p2 ib3 j3 ib4 j4 p4)))∧(s.b4=false→((s.lst base ib1 j1 ib2 j2 p2 ib3 j3 ib4 j4 p4).setIfInBounds ib4 true=(({ s with b4:=true }:zad).lst base ib1 j1 ib2 j2 p2 ib3 j3 ib4 j4 p4)))∧(s.b4=true→s.c3=true→s.c4=false→(Region.free md ops ((s.lst base ib1 j1 ib2 j2 p2 ib3 j3 ib4 j4 p4).setIfInBounds j4 true) p4=true∧(Region.ready md ops ((s.lst base ib1 j1 ib2 j2 p2 ib3 j3 ib4 j4 p4).setIfInBounds j4 true)).contains p4=true∧((s.lst base ib1 j1 ib2 j2 p2 ib3 j3 ib4 j4 p4).setIfInBounds j4 true).setIfInBounds p4 true=(({ s with c4:=true }:zad).lst base ib1 j1 ib2 j2 p2 ib3 j3 ib4 j4 p4))):=by
 have hs:=List.all_eq_true.1 h s (zad.zwz s)
 unfold zad.chk at hs
 have e0:(s.left == 0)=false:=by rw [beq_eq_false_iff_ne];omega
 rw [ho,e0] at hs
 rw [Bool.not_true,Bool.false_or,Bool.false_or] at hs
 obtain ⟨hs,r⟩:=zbb hs
 obtain ⟨hs,q3⟩:=zbb hs
 obtain ⟨q1,q2⟩:=zbb hs
 obtain ⟨r0,r⟩:=zbb r
 obtain ⟨r1,r⟩:=zbb r
 obtain ⟨r2,r⟩:=zbb r
 obtain ⟨r3,r⟩:=zbb r
 obtain ⟨r4,r⟩:=zbb r
 obtain ⟨r5,r⟩:=zbb r
 obtain ⟨r6,r⟩:=zbb r
 refine ⟨eq_of_beq q1,(fun e=>by rw [e] at q2;exact Bool.noConfusion q2),fun p hp=>?_,?_,?_,?_,?_,?_,?_,?_,?_⟩
 ·have:=zbb (List.all_eq_true.1 q3 p hp)
  exact ⟨of_decide_eq_true this.1,this.2⟩
 ·intro h0
  have a:=zev r0 (by rw [h0];rfl)
  exact zc0 a
 ·intro h0 h1
  have a:=zev r1 (by rw [h0,h1];rfl)
  exact zc0 a
 ·intro h0
  have a:=zev r2 (by rw [h0];rfl)
  exact zc0 a
 ·intro h0 h1 h2
  have a:=zev r3 (by rw [h0,h1,h2];rfl)
  obtain ⟨a,a3⟩:=zbb a
  obtain ⟨a1,a2⟩:=zbb a
  exact ⟨a1,a2,zc0 a3⟩
 ·intro h0
  have a:=zev r4 (by rw [h0];rfl)
  exact zc0 a
 ·intro h0 h1 h2
  have a:=zev r5 (by rw [h0,h1,h2];rfl)
  exact zc0 a
 ·intro h0
  have a:=zev r6 (by rw [h0];rfl)
  exact zc0 a
 ·intro h0 h1 h2
  have a:=zev r (by rw [h0,h1,h2];rfl)
  obtain ⟨a,a3⟩:=zbb a
  obtain ⟨a1,a2⟩:=zbb a
  exact ⟨a1,a2,zc0 a3⟩
theorem zsa {P:Program} {md:Region.Mode} {ops:Array Oper} {Q:Exit→Act→World→Prop} {S:World→Prop} {base:Array Bool} {ib1 j1 ib2 j2 p2 ib3 j3 ib4 j4 p4:Nat} (Inv:zad→Act→World→Prop) {f:Nat}
  {op2:Oper} (hop2:ops[p2]?=some op2)
  {op4:Oper} (hop4:ops[p4]?=some op4)
  (hsel:Region.noSelect ops=true) (hQ:∀ c a d v w,Q (.panic c) (a.put d v) w→Q (.panic c) a w)
  (h1:zad.all.all (zad.chk base ib1 j1 ib2 j2 p2 ib3 j3 ib4 j4 p4 md ops)=true)
  (hb1:∀ s:zad,s.ok=true→s.b1=false→∀ a w,Inv s a w→S w→wpOp P ops Q ib1 (fun a' w'=>S w'∧Inv { s with b1:=true } a' w') a w)
  (hc1:∀ s:zad,s.ok=true→s.b1=true→s.c1=false→∀ a w,Inv s a w→S w→wpOp P ops Q j1 (fun a' w'=>S w'∧Inv { s with c1:=true } a' w') a w)
  (hb2:∀ s:zad,s.ok=true→s.b2=false→∀ a w,Inv s a w→S w→wpOp P ops Q ib2 (fun a' w'=>S w'∧Inv { s with b2:=true } a' w') a w)
  (hc2:∀ s:zad,s.ok=true→s.b2=true→s.c1=true→s.c2=false→∀ a w,Inv s a w→S w→wpOp P ops Q j2 (fun a' w'=>S w'∧∃ v,YieldsIf P ops S op2 v a'∧Inv { s with c2:=true } (a'.put op2.dst v) w') a w)
  (hb3:∀ s:zad,s.ok=true→s.b3=false→∀ a w,Inv s a w→S w→wpOp P ops Q ib3 (fun a' w'=>S w'∧Inv { s with b3:=true } a' w') a w)
  (hc3:∀ s:zad,s.ok=true→s.b3=true→s.c2=true→s.c3=false→∀ a w,Inv s a w→S w→wpOp P ops Q j3 (fun a' w'=>S w'∧Inv { s with c3:=true } a' w') a w)
  (hb4:∀ s:zad,s.ok=true→s.b4=false→∀ a w,Inv s a w→S w→wpOp P ops Q ib4 (fun a' w'=>S w'∧Inv { s with b4:=true } a' w') a w)
  (hc4:∀ s:zad,s.ok=true→s.b4=true→s.c3=true→s.c4=false→∀ a w,Inv s a w→S w→wpOp P ops Q j4 (fun a' w'=>S w'∧∃ v,YieldsIf P ops S op4 v a'∧Inv { s with c4:=true } (a'.put op4.dst v) w') a w)
  (h4:∀ a w,Inv zad.done a w→S w→wpAnyH P md ops Q S f (zad.lst base ib1 j1 ib2 j2 p2 ib3 j3 ib4 j4 p4 zad.done) a w)
  {a:Act} {w:World} (hi:Inv zad.start a w) (hs:S w):wpAnyH P md ops Q S (f+10) (zad.lst base ib1 j1 ib2 j2 p2 ib3 j3 ib4 j4 p4 zad.start) a w:=by
 refine zii (f:=f) (zad.lst base ib1 j1 ib2 j2 p2 ib3 j3 ib4 j4 p4) (zad.rdy ib1 j1 ib2 j2 ib3 j3 ib4 j4) zad.left zad.ok Inv (fun s ho hl=>?_) (fun s p ho hp a w hi hs hk=>?_) (fun s a w ho hm hi hs=>?_) 10 zad.start a w (by decide) rfl hi hs
 ·have:=zad.zbz h1 s ho hl
  exact ⟨this.1,this.2.1,this.2.2.1⟩
 ·unfold zad.rdy at hp
  simp only [List.mem_append] at hp
  rcases hp with hp | hp | hp | hp | hp | hp | hp | hp
  ·split at hp
   ·rename_i e;rw [List.mem_singleton] at hp;subst hp
    simp only [Bool.and_eq_true,Bool.not_eq_true'] at e
    have hl:0<s.left:=by
     unfold zad.left
     have e1:s.b1=false:=e
     rw [e1]
     have:nbb false 1=1:=rfl
     omega
    have hc:=(zad.zbz h1 s ho hl).2.2.2.1 e
    have hm:({ s with b1:=true }:zad).left+1=s.left:=by
     unfold zad.left
     have e1:s.b1=false:=e
     rw [e1]
     have:nbb false 1=1:=rfl
     have:nbb true 1=0:=rfl
     simp only
     omega
    refine wpOp_mono (fun a' w' h=>⟨h.1,?_⟩) (hb1 s ho e a w hi hs)
    rw [hc,show f+s.left - 1=f+({ s with b1:=true }:zad).left by omega]
    exact hk _ _ h.2 h.1
   ·simp at hp
  ·split at hp
   ·rename_i e;rw [List.mem_singleton] at hp;subst hp
    simp only [Bool.and_eq_true,Bool.not_eq_true'] at e
    have hl:0<s.left:=by
     unfold zad.left
     have e1:s.c1=false:=e.2
     rw [e1]
     have:nbb false 1=1:=rfl
     omega
    have hc:=(zad.zbz h1 s ho hl).2.2.2.2.1 e.1 e.2
    have hm:({ s with c1:=true }:zad).left+1=s.left:=by
     unfold zad.left
     have e1:s.c1=false:=e.2
     rw [e1]
     have:nbb false 1=1:=rfl
     have:nbb true 1=0:=rfl
     simp only
     omega
    refine wpOp_mono (fun a' w' h=>⟨h.1,?_⟩) (hc1 s ho e.1 e.2 a w hi hs)
    rw [hc,show f+s.left - 1=f+({ s with c1:=true }:zad).left by omega]
    exact hk _ _ h.2 h.1
   ·simp at hp
  ·split at hp
   ·rename_i e;rw [List.mem_singleton] at hp;subst hp
    simp only [Bool.and_eq_true,Bool.not_eq_true'] at e
    have hl:0<s.left:=by
     unfold zad.left
     have e1:s.b2=false:=e
     rw [e1]
     have:nbb false 1=1:=rfl
     omega
    have hc:=(zad.zbz h1 s ho hl).2.2.2.2.2.1 e
    have hm:({ s with b2:=true }:zad).left+1=s.left:=by
     unfold zad.left
     have e1:s.b2=false:=e
     rw [e1]
     have:nbb false 1=1:=rfl
     have:nbb true 1=0:=rfl
     simp only
     omega
    refine wpOp_mono (fun a' w' h=>⟨h.1,?_⟩) (hb2 s ho e a w hi hs)
    rw [hc,show f+s.left - 1=f+({ s with b2:=true }:zad).left by omega]
    exact hk _ _ h.2 h.1
   ·simp at hp
  ·split at hp
   ·rename_i e;rw [List.mem_singleton] at hp;subst hp
    simp only [Bool.and_eq_true,Bool.not_eq_true'] at e
    have hl:0<s.left:=by
     unfold zad.left
     have e1:s.c2=false:=e.2
     rw [e1]
     have:nbb false 2=2:=rfl
     omega
    have hc:=(zad.zbz h1 s ho hl).2.2.2.2.2.2.1 e.1.1 e.1.2 e.2
    have hm:({ s with c2:=true }:zad).left+2=s.left:=by
     unfold zad.left
     have e1:s.c2=false:=e.2
     rw [e1]
     have:nbb false 2=2:=rfl
     have:nbb true 2=0:=rfl
     simp only
     omega
    obtain ⟨c1,c2,c3⟩:=hc
    refine wpOp_mono (fun a' w' h=>⟨h.1,?_⟩) (hc2 s ho e.1.1 e.1.2 e.2 a w hi hs)
    obtain ⟨hS,v,hy,hI⟩:=h
    rw [show f+s.left - 1=(f+({ s with c2:=true }:zad).left)+1 by omega]
    refine wpAnyH_take hop2 hsel c1 c2 (fun c a w h=>hQ c a _ _ w h) hy hS ?_
    rw [c3]
    exact hk _ _ hI hS
   ·simp at hp
  ·split at hp
   ·rename_i e;rw [List.mem_singleton] at hp;subst hp
    simp only [Bool.and_eq_true,Bool.not_eq_true'] at e
    have hl:0<s.left:=by
     unfold zad.left
     have e1:s.b3=false:=e
     rw [e1]
     have:nbb false 1=1:=rfl
     omega
    have hc:=(zad.zbz h1 s ho hl).2.2.2.2.2.2.2.1 e
    have hm:({ s with b3:=true }:zad).left+1=s.left:=by
     unfold zad.left
     have e1:s.b3=false:=e
     rw [e1]
     have:nbb false 1=1:=rfl
     have:nbb true 1=0:=rfl
     simp only
     omega
    refine wpOp_mono (fun a' w' h=>⟨h.1,?_⟩) (hb3 s ho e a w hi hs)
    rw [hc,show f+s.left - 1=f+({ s with b3:=true }:zad).left by omega]
    exact hk _ _ h.2 h.1
   ·simp at hp
  ·split at hp
   ·rename_i e;rw [List.mem_singleton] at hp;subst hp
    simp only [Bool.and_eq_true,Bool.not_eq_true'] at e
    have hl:0<s.left:=by
     unfold zad.left
     have e1:s.c3=false:=e.2
     rw [e1]
     have:nbb false 1=1:=rfl
     omega
    have hc:=(zad.zbz h1 s ho hl).2.2.2.2.2.2.2.2.1 e.1.1 e.1.2 e.2
    have hm:({ s with c3:=true }:zad).left+1=s.left:=by
     unfold zad.left
     have e1:s.c3=false:=e.2
     rw [e1]
     have:nbb false 1=1:=rfl
     have:nbb true 1=0:=rfl
     simp only
     omega
    refine wpOp_mono (fun a' w' h=>⟨h.1,?_⟩) (hc3 s ho e.1.1 e.1.2 e.2 a w hi hs)
    rw [hc,show f+s.left - 1=f+({ s with c3:=true }:zad).left by omega]
    exact hk _ _ h.2 h.1
   ·simp at hp
  ·split at hp
   ·rename_i e;rw [List.mem_singleton] at hp;subst hp
    simp only [Bool.and_eq_true,Bool.not_eq_true'] at e
    have hl:0<s.left:=by
     unfold zad.left
     have e1:s.b4=false:=e
     rw [e1]
     have:nbb false 1=1:=rfl
     omega
    have hc:=(zad.zbz h1 s ho hl).2.2.2.2.2.2.2.2.2.1 e
    have hm:({ s with b4:=true }:zad).left+1=s.left:=by
     unfold zad.left
     have e1:s.b4=false:=e
     rw [e1]
     have:nbb false 1=1:=rfl
     have:nbb true 1=0:=rfl
     simp only
     omega
    refine wpOp_mono (fun a' w' h=>⟨h.1,?_⟩) (hb4 s ho e a w hi hs)
    rw [hc,show f+s.left - 1=f+({ s with b4:=true }:zad).left by omega]
    exact hk _ _ h.2 h.1
   ·simp at hp
  ·split at hp
   ·rename_i e;rw [List.mem_singleton] at hp;subst hp
    simp only [Bool.and_eq_true,Bool.not_eq_true'] at e
    have hl:0<s.left:=by
     unfold zad.left
     have e1:s.c4=false:=e.2
     rw [e1]
     have:nbb false 2=2:=rfl
     omega
    have hc:=(zad.zbz h1 s ho hl).2.2.2.2.2.2.2.2.2.2 e.1.1 e.1.2 e.2
    have hm:({ s with c4:=true }:zad).left+2=s.left:=by
     unfold zad.left
     have e1:s.c4=false:=e.2
     rw [e1]
     have:nbb false 2=2:=rfl
     have:nbb true 2=0:=rfl
     simp only
     omega
    obtain ⟨c1,c2,c3⟩:=hc
    refine wpOp_mono (fun a' w' h=>⟨h.1,?_⟩) (hc4 s ho e.1.1 e.1.2 e.2 a w hi hs)
    obtain ⟨hS,v,hy,hI⟩:=h
    rw [show f+s.left - 1=(f+({ s with c4:=true }:zad).left)+1 by omega]
    refine wpAnyH_take hop4 hsel c1 c2 (fun c a w h=>hQ c a _ _ w h) hy hS ?_
    rw [c3]
    exact hk _ _ hI hS
   ·simp at hp
 ·obtain ⟨b1,c1,b2,c2,b3,c3,b4,c4⟩:=s
  unfold zad.left at hm
  simp only at hm
  obtain rfl:b1=true:=zcc (n:=1) (by decide) (by omega)
  obtain rfl:c1=true:=zcc (n:=1) (by decide) (by omega)
  obtain rfl:b2=true:=zcc (n:=1) (by decide) (by omega)
  obtain rfl:c2=true:=zcc (n:=2) (by decide) (by omega)
  obtain rfl:b3=true:=zcc (n:=1) (by decide) (by omega)
  obtain rfl:c3=true:=zcc (n:=1) (by decide) (by omega)
  obtain rfl:b4=true:=zcc (n:=1) (by decide) (by omega)
  obtain rfl:c4=true:=zcc (n:=2) (by decide) (by omega)
  exact h4 a w hi hs
structure zam where
 b1:Bool
 c1:Bool
 b2:Bool
 c2:Bool
 b3a:Bool
 b3b:Bool
 c3:Bool
namespace zam
def start:zam:=⟨false,false,false,false,false,false,false⟩
def done:zam:=⟨true,true,true,true,true,true,true⟩
def ok (s:zam):Bool:=(!s.c1 || (s.b1)) && (!s.c2 || (s.b2 && s.c1)) && (!s.b3b || (s.b3a)) && (!s.c3 || (s.b3b && s.c2))
def left (s:zam):Nat:=nbb s.b1 1+nbb s.c1 1+nbb s.b2 1+nbb s.c2 1+nbb s.b3a 1+nbb s.b3b 1+nbb s.c3 2
def all:List zam:=[false,true].flatMap fun b1=>[false,true].flatMap fun c1=>[false,true].flatMap fun b2=>[false,true].flatMap fun c2=>[false,true].flatMap fun b3a=>[false,true].flatMap fun b3b=>[false,true].map fun c3=>⟨b1,c1,b2,c2,b3a,b3b,c3⟩
theorem zwz (s:zam):s∈all:=by
 obtain ⟨b1,c1,b2,c2,b3a,b3b,c3⟩:=s
 unfold all
 exact List.mem_flatMap.2 ⟨b1,zcd b1,List.mem_flatMap.2 ⟨c1,zcd c1,List.mem_flatMap.2 ⟨b2,zcd b2,List.mem_flatMap.2 ⟨c2,zcd c2,List.mem_flatMap.2 ⟨b3a,zcd b3a,List.mem_flatMap.2 ⟨b3b,zcd b3b,List.mem_map.2 ⟨c3,zcd c3,rfl⟩⟩⟩⟩⟩⟩⟩
section
variable (base:Array Bool) (ib1 j1 ib2 j2 zdy zdx j3 p3:Nat)
def lst (s:zam):Array Bool:=((((((((base.setIfInBounds ib1 s.b1).setIfInBounds j1 s.c1).setIfInBounds ib2 s.b2).setIfInBounds j2 s.c2).setIfInBounds zdy s.b3a).setIfInBounds zdx s.b3b).setIfInBounds j3 s.c3).setIfInBounds p3 s.c3)
def rdy (s:zam):List (Nat × zam):=(if !s.b1 then [(ib1,{ s with b1:=true })] else [])++((if s.b1 && !s.c1 then [(j1,{ s with c1:=true })] else [])++((if !s.b2 then [(ib2,{ s with b2:=true })] else [])++((if s.b2 && s.c1 && !s.c2 then [(j2,{ s with c2:=true })] else [])++((if !s.b3a then [(zdy,{ s with b3a:=true })] else [])++((if s.b3a && !s.b3b then [(zdx,{ s with b3b:=true })] else [])++((if s.b3b && s.c2 && !s.c3 then [(j3,{ s with c3:=true })] else [])))))))
def chk (md:Region.Mode) (ops:Array Oper) (s:zam):Bool:=!s.ok || s.left == 0 ||
 (Region.ready md ops (s.lst base ib1 j1 ib2 j2 zdy zdx j3 p3) == (s.rdy ib1 j1 ib2 j2 zdy zdx j3).map (·.1) && !(s.rdy ib1 j1 ib2 j2 zdy zdx j3).isEmpty && (s.rdy ib1 j1 ib2 j2 zdy zdx j3).all (fun p=>decide (p.2.left<s.left) && p.2.ok) && ((!(!s.b1) || (((s.lst base ib1 j1 ib2 j2 zdy zdx j3 p3).setIfInBounds ib1 true).toList == (({ s with b1:=true }:zam).lst base ib1 j1 ib2 j2 zdy zdx j3 p3).toList)) && ((!(s.b1 && !s.c1) || (((s.lst base ib1 j1 ib2 j2 zdy zdx j3 p3).setIfInBounds j1 true).toList == (({ s with c1:=true }:zam).lst base ib1 j1 ib2 j2 zdy zdx j3 p3).toList)) && ((!(!s.b2) || (((s.lst base ib1 j1 ib2 j2 zdy zdx j3 p3).setIfInBounds ib2 true).toList == (({ s with b2:=true }:zam).lst base ib1 j1 ib2 j2 zdy zdx j3 p3).toList)) && ((!(s.b2 && s.c1 && !s.c2) || (((s.lst base ib1 j1 ib2 j2 zdy zdx j3 p3).setIfInBounds j2 true).toList == (({ s with c2:=true }:zam).lst base ib1 j1 ib2 j2 zdy zdx j3 p3).toList)) && ((!(!s.b3a) || (((s.lst base ib1 j1 ib2 j2 zdy zdx j3 p3).setIfInBounds zdy true).toList == (({ s with b3a:=true }:zam).lst base ib1 j1 ib2 j2 zdy zdx j3 p3).toList)) && ((!(s.b3a && !s.b3b) || (((s.lst base ib1 j1 ib2 j2 zdy zdx j3 p3).setIfInBounds zdx true).toList == (({ s with b3b:=true }:zam).lst base ib1 j1 ib2 j2 zdy zdx j3 p3).toList)) && ((!(s.b3b && s.c2 && !s.c3) || (Region.free md ops ((s.lst base ib1 j1 ib2 j2 zdy zdx j3 p3).setIfInBounds j3 true) p3 && (Region.ready md ops ((s.lst base ib1 j1 ib2 j2 zdy zdx j3 p3).setIfInBounds j3 true)).contains p3 && (((s.lst base ib1 j1 ib2 j2 zdy zdx j3 p3).setIfInBounds j3 true).setIfInBounds p3 true).toList == (({ s with c3:=true }:zam).lst base ib1 j1 ib2 j2 zdy zdx j3 p3).toList))))))))))
end
end zam
theorem zam.zbz {base:Array Bool} {ib1 j1 ib2 j2 zdy zdx j3 p3:Nat} {md:Region.Mode} {ops:Array Oper} (h:zam.all.all (zam.chk base ib1 j1 ib2 j2 zdy zdx j3 p3 md ops)=true) (s:zam) (ho:s.ok=true) (hl:0<s.left) :
  Region.ready md ops (s.lst base ib1 j1 ib2 j2 zdy zdx j3 p3)=(s.rdy ib1 j1 ib2 j2 zdy zdx j3).map (·.1)∧s.rdy ib1 j1 ib2 j2 zdy zdx j3≠[]∧(∀ p∈s.rdy ib1 j1 ib2 j2 zdy zdx j3,p.2.left<s.left∧p.2.ok=true)∧(s.b1=false→((s.lst base ib1 j1 ib2 j2 zdy zdx j3 p3).setIfInBounds ib1 true=(({ s with b1:=true }:zam).lst base ib1 j1 ib2 j2 zdy zdx j3 p3)))∧(s.b1=true→s.c1=false→((s.lst base ib1 j1 ib2 j2 zdy zdx j3 p3).setIfInBounds j1 true=(({ s with c1:=true }:zam).lst base ib1 j1 ib2 j2 zdy zdx j3 p3)))∧(s.b2=false→((s.lst base ib1 j1 ib2 j2 zdy zdx j3 p3).setIfInBounds ib2 true=(({ s with b2:=true }:zam).lst base ib1 j1 ib2 j2 zdy zdx j3 p3)))∧(s.b2=true→s.c1=true→s.c2=false→((s.lst base ib1 j1 ib2 j2 zdy zdx j3 p3).setIfInBounds j2 true=(({ s with c2:=true }:zam).lst base ib1 j1 ib2 j2 zdy zdx j3 p3)))∧(s.b3a=false→((s.lst base ib1 j1 ib2 j2 zdy zdx j3 p3).setIfInBounds zdy true=(({ s with b3a:=true }:zam).lst base ib1 j1 ib2 j2 zdy zdx j3 p3)))∧(s.b3a=true→s.b3b=false→((s.lst base ib1 j1 ib2 j2 zdy zdx j3 p3).setIfInBounds zdx true=(({ s with b3b:=true }:zam).lst base ib1 j1 ib2 j2 zdy zdx j3 p3)))∧(s.b3b=true→s.c2=true→s.c3=false→(Region.free md ops ((s.lst base ib1 j1 ib2 j2 zdy zdx j3 p3).setIfInBounds j3 true) p3=true∧(Region.ready md ops ((s.lst base ib1 j1 ib2 j2 zdy zdx j3 p3).setIfInBounds j3 true)).contains p3=true∧((s.lst base ib1 j1 ib2 j2 zdy zdx j3 p3).setIfInBounds j3 true).setIfInBounds p3 true=(({ s with c3:=true }:zam).lst base ib1 j1 ib2 j2 zdy zdx j3 p3))):=by
 have hs:=List.all_eq_true.1 h s (zam.zwz s)
 unfold zam.chk at hs
 have e0:(s.left == 0)=false:=by rw [beq_eq_false_iff_ne];omega
 rw [ho,e0] at hs
 rw [Bool.not_true,Bool.false_or,Bool.false_or] at hs
 obtain ⟨hs,r⟩:=zbb hs
 obtain ⟨hs,q3⟩:=zbb hs
 obtain ⟨q1,q2⟩:=zbb hs
 obtain ⟨r0,r⟩:=zbb r
 obtain ⟨r1,r⟩:=zbb r
 obtain ⟨r2,r⟩:=zbb r
 obtain ⟨r3,r⟩:=zbb r
 obtain ⟨r4,r⟩:=zbb r
 obtain ⟨r5,r⟩:=zbb r
 refine ⟨eq_of_beq q1,(fun e=>by rw [e] at q2;exact Bool.noConfusion q2),fun p hp=>?_,?_,?_,?_,?_,?_,?_,?_⟩
 ·have:=zbb (List.all_eq_true.1 q3 p hp)
  exact ⟨of_decide_eq_true this.1,this.2⟩
 ·intro h0
  have a:=zev r0 (by rw [h0];rfl)
  exact zc0 a
 ·intro h0 h1
  have a:=zev r1 (by rw [h0,h1];rfl)
  exact zc0 a
 ·intro h0
  have a:=zev r2 (by rw [h0];rfl)
  exact zc0 a
 ·intro h0 h1 h2
  have a:=zev r3 (by rw [h0,h1,h2];rfl)
  exact zc0 a
 ·intro h0
  have a:=zev r4 (by rw [h0];rfl)
  exact zc0 a
 ·intro h0 h1
  have a:=zev r5 (by rw [h0,h1];rfl)
  exact zc0 a
 ·intro h0 h1 h2
  have a:=zev r (by rw [h0,h1,h2];rfl)
  obtain ⟨a,a3⟩:=zbb a
  obtain ⟨a1,a2⟩:=zbb a
  exact ⟨a1,a2,zc0 a3⟩
theorem zv3 {P:Program} {md:Region.Mode} {ops:Array Oper} {Q:Exit→Act→World→Prop} {S:World→Prop} {base:Array Bool} {ib1 j1 ib2 j2 zdy zdx j3 p3:Nat} (Inv:zam→Act→World→Prop) {f:Nat}
  {op3:Oper} (hop3:ops[p3]?=some op3)
  (hsel:Region.noSelect ops=true) (hQ:∀ c a d v w,Q (.panic c) (a.put d v) w→Q (.panic c) a w)
  (h1:zam.all.all (zam.chk base ib1 j1 ib2 j2 zdy zdx j3 p3 md ops)=true)
  (hb1:∀ s:zam,s.ok=true→s.b1=false→∀ a w,Inv s a w→S w→wpOp P ops Q ib1 (fun a' w'=>S w'∧Inv { s with b1:=true } a' w') a w)
  (hc1:∀ s:zam,s.ok=true→s.b1=true→s.c1=false→∀ a w,Inv s a w→S w→wpOp P ops Q j1 (fun a' w'=>S w'∧Inv { s with c1:=true } a' w') a w)
  (hb2:∀ s:zam,s.ok=true→s.b2=false→∀ a w,Inv s a w→S w→wpOp P ops Q ib2 (fun a' w'=>S w'∧Inv { s with b2:=true } a' w') a w)
  (hc2:∀ s:zam,s.ok=true→s.b2=true→s.c1=true→s.c2=false→∀ a w,Inv s a w→S w→wpOp P ops Q j2 (fun a' w'=>S w'∧Inv { s with c2:=true } a' w') a w)
  (hb3a:∀ s:zam,s.ok=true→s.b3a=false→∀ a w,Inv s a w→S w→wpOp P ops Q zdy (fun a' w'=>S w'∧Inv { s with b3a:=true } a' w') a w)
  (hb3b:∀ s:zam,s.ok=true→s.b3a=true→s.b3b=false→∀ a w,Inv s a w→S w→wpOp P ops Q zdx (fun a' w'=>S w'∧Inv { s with b3b:=true } a' w') a w)
  (hc3:∀ s:zam,s.ok=true→s.b3b=true→s.c2=true→s.c3=false→∀ a w,Inv s a w→S w→wpOp P ops Q j3 (fun a' w'=>S w'∧∃ v,YieldsIf P ops S op3 v a'∧Inv { s with c3:=true } (a'.put op3.dst v) w') a w)
  (h4:∀ a w,Inv zam.done a w→S w→wpAnyH P md ops Q S f (zam.lst base ib1 j1 ib2 j2 zdy zdx j3 p3 zam.done) a w)
  {a:Act} {w:World} (hi:Inv zam.start a w) (hs:S w):wpAnyH P md ops Q S (f+8) (zam.lst base ib1 j1 ib2 j2 zdy zdx j3 p3 zam.start) a w:=by
 refine zii (f:=f) (zam.lst base ib1 j1 ib2 j2 zdy zdx j3 p3) (zam.rdy ib1 j1 ib2 j2 zdy zdx j3) zam.left zam.ok Inv (fun s ho hl=>?_) (fun s p ho hp a w hi hs hk=>?_) (fun s a w ho hm hi hs=>?_) 8 zam.start a w (by decide) rfl hi hs
 ·have:=zam.zbz h1 s ho hl
  exact ⟨this.1,this.2.1,this.2.2.1⟩
 ·unfold zam.rdy at hp
  simp only [List.mem_append] at hp
  rcases hp with hp | hp | hp | hp | hp | hp | hp
  ·split at hp
   ·rename_i e;rw [List.mem_singleton] at hp;subst hp
    simp only [Bool.and_eq_true,Bool.not_eq_true'] at e
    have hl:0<s.left:=by
     unfold zam.left
     have e1:s.b1=false:=e
     rw [e1]
     have:nbb false 1=1:=rfl
     omega
    have hc:=(zam.zbz h1 s ho hl).2.2.2.1 e
    have hm:({ s with b1:=true }:zam).left+1=s.left:=by
     unfold zam.left
     have e1:s.b1=false:=e
     rw [e1]
     have:nbb false 1=1:=rfl
     have:nbb true 1=0:=rfl
     simp only
     omega
    refine wpOp_mono (fun a' w' h=>⟨h.1,?_⟩) (hb1 s ho e a w hi hs)
    rw [hc,show f+s.left - 1=f+({ s with b1:=true }:zam).left by omega]
    exact hk _ _ h.2 h.1
   ·simp at hp
  ·split at hp
   ·rename_i e;rw [List.mem_singleton] at hp;subst hp
    simp only [Bool.and_eq_true,Bool.not_eq_true'] at e
    have hl:0<s.left:=by
     unfold zam.left
     have e1:s.c1=false:=e.2
     rw [e1]
     have:nbb false 1=1:=rfl
     omega
    have hc:=(zam.zbz h1 s ho hl).2.2.2.2.1 e.1 e.2
    have hm:({ s with c1:=true }:zam).left+1=s.left:=by
     unfold zam.left
     have e1:s.c1=false:=e.2
     rw [e1]
     have:nbb false 1=1:=rfl
     have:nbb true 1=0:=rfl
     simp only
     omega
    refine wpOp_mono (fun a' w' h=>⟨h.1,?_⟩) (hc1 s ho e.1 e.2 a w hi hs)
    rw [hc,show f+s.left - 1=f+({ s with c1:=true }:zam).left by omega]
    exact hk _ _ h.2 h.1
   ·simp at hp
  ·split at hp
   ·rename_i e;rw [List.mem_singleton] at hp;subst hp
    simp only [Bool.and_eq_true,Bool.not_eq_true'] at e
    have hl:0<s.left:=by
     unfold zam.left
     have e1:s.b2=false:=e
     rw [e1]
     have:nbb false 1=1:=rfl
     omega
    have hc:=(zam.zbz h1 s ho hl).2.2.2.2.2.1 e
    have hm:({ s with b2:=true }:zam).left+1=s.left:=by
     unfold zam.left
     have e1:s.b2=false:=e
     rw [e1]
     have:nbb false 1=1:=rfl
     have:nbb true 1=0:=rfl
     simp only
     omega
    refine wpOp_mono (fun a' w' h=>⟨h.1,?_⟩) (hb2 s ho e a w hi hs)
    rw [hc,show f+s.left - 1=f+({ s with b2:=true }:zam).left by omega]
    exact hk _ _ h.2 h.1
   ·simp at hp
  ·split at hp
   ·rename_i e;rw [List.mem_singleton] at hp;subst hp
    simp only [Bool.and_eq_true,Bool.not_eq_true'] at e
    have hl:0<s.left:=by
     unfold zam.left
     have e1:s.c2=false:=e.2
     rw [e1]
     have:nbb false 1=1:=rfl
     omega
    have hc:=(zam.zbz h1 s ho hl).2.2.2.2.2.2.1 e.1.1 e.1.2 e.2
    have hm:({ s with c2:=true }:zam).left+1=s.left:=by
     unfold zam.left
     have e1:s.c2=false:=e.2
     rw [e1]
     have:nbb false 1=1:=rfl
     have:nbb true 1=0:=rfl
     simp only
     omega
    refine wpOp_mono (fun a' w' h=>⟨h.1,?_⟩) (hc2 s ho e.1.1 e.1.2 e.2 a w hi hs)
    rw [hc,show f+s.left - 1=f+({ s with c2:=true }:zam).left by omega]
    exact hk _ _ h.2 h.1
   ·simp at hp
  ·split at hp
   ·rename_i e;rw [List.mem_singleton] at hp;subst hp
    simp only [Bool.and_eq_true,Bool.not_eq_true'] at e
    have hl:0<s.left:=by
     unfold zam.left
     have e1:s.b3a=false:=e
     rw [e1]
     have:nbb false 1=1:=rfl
     omega
    have hc:=(zam.zbz h1 s ho hl).2.2.2.2.2.2.2.1 e
    have hm:({ s with b3a:=true }:zam).left+1=s.left:=by
     unfold zam.left
     have e1:s.b3a=false:=e
     rw [e1]
     have:nbb false 1=1:=rfl
     have:nbb true 1=0:=rfl
     simp only
     omega
    refine wpOp_mono (fun a' w' h=>⟨h.1,?_⟩) (hb3a s ho e a w hi hs)
    rw [hc,show f+s.left - 1=f+({ s with b3a:=true }:zam).left by omega]
    exact hk _ _ h.2 h.1
   ·simp at hp
  ·split at hp
   ·rename_i e;rw [List.mem_singleton] at hp;subst hp
    simp only [Bool.and_eq_true,Bool.not_eq_true'] at e
    have hl:0<s.left:=by
     unfold zam.left
     have e1:s.b3b=false:=e.2
     rw [e1]
     have:nbb false 1=1:=rfl
     omega
    have hc:=(zam.zbz h1 s ho hl).2.2.2.2.2.2.2.2.1 e.1 e.2
    have hm:({ s with b3b:=true }:zam).left+1=s.left:=by
     unfold zam.left
     have e1:s.b3b=false:=e.2
     rw [e1]
     have:nbb false 1=1:=rfl
     have:nbb true 1=0:=rfl
     simp only
     omega
    refine wpOp_mono (fun a' w' h=>⟨h.1,?_⟩) (hb3b s ho e.1 e.2 a w hi hs)
    rw [hc,show f+s.left - 1=f+({ s with b3b:=true }:zam).left by omega]
    exact hk _ _ h.2 h.1
   ·simp at hp
  ·split at hp
   ·rename_i e;rw [List.mem_singleton] at hp;subst hp
    simp only [Bool.and_eq_true,Bool.not_eq_true'] at e
    have hl:0<s.left:=by
     unfold zam.left
     have e1:s.c3=false:=e.2
     rw [e1]
     have:nbb false 2=2:=rfl
     omega
    have hc:=(zam.zbz h1 s ho hl).2.2.2.2.2.2.2.2.2 e.1.1 e.1.2 e.2
    have hm:({ s with c3:=true }:zam).left+2=s.left:=by
     unfold zam.left
     have e1:s.c3=false:=e.2
     rw [e1]
     have:nbb false 2=2:=rfl
     have:nbb true 2=0:=rfl
     simp only
     omega
    obtain ⟨c1,c2,c3⟩:=hc
    refine wpOp_mono (fun a' w' h=>⟨h.1,?_⟩) (hc3 s ho e.1.1 e.1.2 e.2 a w hi hs)
    obtain ⟨hS,v,hy,hI⟩:=h
    rw [show f+s.left - 1=(f+({ s with c3:=true }:zam).left)+1 by omega]
    refine wpAnyH_take hop3 hsel c1 c2 (fun c a w h=>hQ c a _ _ w h) hy hS ?_
    rw [c3]
    exact hk _ _ hI hS
   ·simp at hp
 ·obtain ⟨b1,c1,b2,c2,b3a,b3b,c3⟩:=s
  unfold zam.left at hm
  simp only at hm
  obtain rfl:b1=true:=zcc (n:=1) (by decide) (by omega)
  obtain rfl:c1=true:=zcc (n:=1) (by decide) (by omega)
  obtain rfl:b2=true:=zcc (n:=1) (by decide) (by omega)
  obtain rfl:c2=true:=zcc (n:=1) (by decide) (by omega)
  obtain rfl:b3a=true:=zcc (n:=1) (by decide) (by omega)
  obtain rfl:b3b=true:=zcc (n:=1) (by decide) (by omega)
  obtain rfl:c3=true:=zcc (n:=2) (by decide) (by omega)
  exact h4 a w hi hs
end Go.Proofs.YtfknjmoekbabcaaGreatDoor
