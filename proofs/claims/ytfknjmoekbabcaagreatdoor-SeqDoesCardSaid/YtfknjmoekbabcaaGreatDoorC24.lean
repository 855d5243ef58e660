/-
  A part of a proof. It proves no statement by itself.
-/
import Derived.Test.YtfknjmoekbabcaaGreatDoorC13
set_option linter.unusedSimpArgs false
set_option linter.unusedVariables false
set_option linter.unusedSectionVars false
set_option maxRecDepth 100000
set_option maxHeartbeats 64000000
namespace Go.Proofs.YtfknjmoekbabcaaGreatDoor
namespace Tb
open Ky
theorem Sub.high {h c g:Nat} (hg:11*h+min c 12≤12+g) (hc:1≤c):h≤(11+g) / 11:=by omega
def most (q g:Nat):Nat:=q*(g / 11+2) / 60
theorem Tree.most {root:Int} {es:List En} {L:Pg} {g q:Nat} (t:Tree root es L g) (hq:Tb.psi L≤q):L.length≤Tb.most q g:=by
 have h:=t.pages
 have h2:psi L*(g / 11+2)≤q*(g / 11+2):=Nat.mul_le_mul_right _ hq
 unfold Tb.most
 omega
theorem Done.tree {h c d g:Nat} {L:Pg} {k:Int} {es':List En} {L':Pg} {c':Nat} (p:Done h none none c d L [k] [] es' L' c') (hg:11*h+min c 12≤12+g):Sub h none none k es' L' c'∧11*h+min c' 12≤12+(g+min d 1):=by
 have hr:=p.rank rfl
 obtain ⟨part,_,_,_,_⟩:=p
 cases part with
 | one s=>exact ⟨s,by omega⟩
theorem Done.none {h c d:Nat} {L:Pg} {keys:List Nm} {es':List En} {L':Pg} {c':Nat} {lo hi:Bd} (p:Done h lo hi c d L [] keys es' L' c'):keys=[]∧es'=[]∧L'=[]:=by
 obtain ⟨part,_,_,_,_⟩:=p
 cases part
 exact ⟨rfl,rfl,rfl⟩
theorem Done.forms {h c d:Nat} {L:Pg} {kids:List Int} {keys:List Nm} {es':List En} {L':Pg} {c':Nat} {lo hi:Bd} (p:Done h lo hi c d L kids keys es' L' c') :
  (kids=[]∧keys=[]∧es'=[]∧L'=[])∨(∃ k,kids=[k]∧keys=[])∨∃ k1 k2 y,kids=[k1,k2]∧keys=[y]:=by
 obtain ⟨part,_,_,_,_⟩:=p
 cases part with
 | none=>exact .inl ⟨rfl,rfl,rfl,rfl⟩
 | one s=>exact .inr (.inl ⟨_,rfl,rfl⟩)
 | two s1 s2 hy=>exact .inr (.inr ⟨_,_,_,rfl,rfl⟩)
theorem Loc.first {op:List En→List En} {P:List En→Prop} {key:Nm} {d:Nat} (o:Loc op P key d) (hp:P []):Right (op [])∧Ky.size (op [])≤58:=by
 have h0:Right ([]:List En):=⟨by simp,.nil⟩
 have h1:=o.size [] h0 hp
 have h2:=o.le
 simp only [Ky.size] at h1
 exact ⟨o.right _ h0,by omega⟩
theorem Loc.z5x {op:List En→List En} {P:List En→Prop} {key:Nm} {d g:Nat} (o:Loc op P key d) (hp:P []) (hn:op []≠[]) {id:Int} (hid:zjx id):Sub 0 none none id (op []) [(id,lf (op []))] 12∧11*0+min 12 12≤12+g∧Tb.psi [(id,lf (op []))]≤60:=by
 obtain ⟨h1,h2⟩:=o.first hp
 refine ⟨⟨zrn _,hid,fun x _=>⟨(fun y hy=>by cases hy),(fun y hy=>by cases hy)⟩,h1,hn,by omega,rfl,rfl⟩,by omega,?_⟩
 simp only [Tb.psi,wt,lf,if_true]
 omega
theorem Sub.zsx {h:Nat} {lo hi:Bd} {id:Int} {es:List En} {L:Pg} {c:Nat} (s:Sub h lo hi id es L c) :
  (h=0∧c=12∧L=[(id,lf es)]∧Right es∧Ky.size es≤240)∨∃ h' K B L',h=h'+1∧Node (Sb h') lo hi K B es L'∧4+zah B≤240∧(∀ k∈B,1≤k.size∧k.size≤16)∧L.Perm ((id,Ky.inn K B)::L')∧c=K.length:=by
 cases h with
 | zero =>
  obtain ⟨_,_,_,h1,_,h2,rfl,rfl⟩:=s
  exact .inl ⟨rfl,rfl,rfl,h1,h2⟩
 | succ h =>
  obtain ⟨_,_,K,B,L',n,h1,h2,h3,h4⟩:=s
  exact .inr ⟨h,K,B,L',rfl,n,h1,h2,h3,h4⟩
end Tb
end Go.Proofs.YtfknjmoekbabcaaGreatDoor
