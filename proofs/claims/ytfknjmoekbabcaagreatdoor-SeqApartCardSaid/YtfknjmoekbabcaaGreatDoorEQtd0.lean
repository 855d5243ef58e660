/-
  A part of a proof. It proves no statement by itself.
-/
import Derived.Test.YtfknjmoekbabcaaGreatDoorEQtc
set_option linter.unusedSimpArgs false
set_option linter.unusedVariables false
set_option linter.unusedSectionVars false
set_option maxRecDepth 100000
set_option maxHeartbeats 64000000
namespace Go.Proofs.YtfknjmoekbabcaaGreatDoor
open Go.RowKit Go.Lib
open Sq (Tk Nd Mp LL)
namespace Sq
def tkb (n i:Nat):Tk:=((i:Int),(n:Int) - (i:Int))
structure Bw (n i:Nat) (W:List Tk):Prop where
 len:W.length=i
 nd:W.Nodup
 mem:∀ y∈W,∃ j,j<i∧y=tkb n j
theorem zxz {n j:Nat} (hj:j<n) (hn:n≤120):OkT (tkb n j):=⟨⟨by show (0:Int)≤j;omega,by show (j:Int)<1048576;omega⟩,by show (0:Int)≤(n:Int) - j;omega,by show (n:Int) - (j:Int)<1048576;omega⟩
theorem Bw.ok {n i:Nat} {W:List Tk} (h:Bw n i W) (hi:i≤n) (hn:n≤120):∀ y∈W,OkT y:=fun y hy=>by
 obtain ⟨j,h1,rfl⟩:=h.mem y hy
 exact zxz (by omega) hn
theorem Bw.new {n i:Nat} {W:List Tk} (h:Bw n i W):tkb n i∉W:=fun k=>by
 obtain ⟨j,h1,h2⟩:=h.mem _ k
 simp only [tkb,Prod.mk.injEq] at h2
 omega
theorem bw_nil (n:Nat):Bw n 0 []:=⟨rfl,by simp,by simp⟩
theorem Bw.front {n i:Nat} {W:List Tk} (h:Bw n i W):Bw n (i+1) ([tkb n i]++W) where
 len:=by rw [List.length_append,h.len,List.length_singleton];omega
 nd:=List.nodup_cons.2 ⟨h.new,h.nd⟩
 mem:=fun y hy=>by
  rcases List.mem_cons.1 hy with rfl | hy
  ·exact ⟨i,by omega,rfl⟩
  ·obtain ⟨j,h1,h2⟩:=h.mem y hy
   exact ⟨j,by omega,h2⟩
theorem Bw.back {n i:Nat} {W:List Tk} (h:Bw n i W):Bw n (i+1) (W++[tkb n i]) where
 len:=by rw [List.length_append,h.len];rfl
 nd:=by
  rw [List.nodup_append]
  refine ⟨h.nd,by simp,fun a ha b hb e=>?_⟩
  rw [List.mem_singleton] at hb
  subst hb;subst e
  exact h.new ha
 mem:=fun y hy=>by
  rw [List.mem_append,List.mem_singleton] at hy
  rcases hy with hy | rfl
  ·obtain ⟨j,h1,h2⟩:=h.mem y hy
   exact ⟨j,by omega,h2⟩
  ·exact ⟨i,by omega,rfl⟩
def LW (W:List Tk):LL:=if W=[] then [] else [W]
theorem xap {W:List Tk} (h:W≠[]):LW W=[W]:=if_neg h
theorem z3y (W:List Tk):(LW W).flatten=W:=by
 unfold LW
 split
 ·rename_i h;rw [h];rfl
 ·rw [List.flatten_cons,List.flatten_nil,List.append_nil]
theorem xce {n i:Nat} {W:List Tk} (h:Bw n i W) (hi:i<n) (hn:n≤120):zdk (LW W) (tkb n i)=(0,LW W++[[tkb n i]]):=zyo (zxz hi hn) (by rw [z3y];exact h.new)
theorem xcf {n i:Nat} {W:List Tk} {a:Tk} (h:Bw n i W) (h0:W[0]?=some a) (hi:i<n) (hn:n≤120) :
  zcw (LW W++[[tkb n i]]) (tkb n i) a=(0,LW ([tkb n i]++W))∧zcw (LW W++[[tkb n i]]) a (tkb n i)=(0,LW (W++[tkb n i])):=by
 have hm:a∈W:=List.mem_of_getElem? h0
 have hne:W≠[]:=fun e=>by rw [e] at hm;cases hm
 rw [xap hne,xap (by simp),xap (by simp)]
 have oa:=h.ok (by omega) hn a hm
 exact ⟨z0k hm oa (zxz hi hn) h.new,z4u hm oa (zxz hi hn) h.new⟩
theorem lw_one {W:List Tk} {k:Tk} (h:W.length=0):LW W++[[k]]=LW (W++[k]):=by
 obtain rfl:=List.eq_nil_of_length_eq_zero h
 rfl
theorem z8u {P Q:List Tk} {x:Tk} (hx:x∈P) (ok:OkT x):zcz [P,Q] x=0∧lst [P,Q] x=P:=by
 have ha:there [P,Q] x:=zdc (by simp) hx
 have h0:zcz [P,Q] x=0:=zxq.2 ⟨ok,ha⟩
 exact ⟨h0,by rw [zj7 h0];unfold rowOf;rw [zdh hx];rfl⟩
theorem z8t {P Q:List Tk} {x:Tk} (hx:x∈Q) (hn:x∉P) (ok:OkT x):zcz [P,Q] x=0∧lst [P,Q] x=Q:=by
 have ha:there [P,Q] x:=zdc (l:=Q) (by simp) hx
 have h0:zcz [P,Q] x=0:=zxq.2 ⟨ok,ha⟩
 exact ⟨h0,by rw [zj7 h0];unfold rowOf;rw [zq9 hn,zdh hx];rfl⟩
theorem zmh {W:List Tk} {x:Tk} (hx:x∈W) (ok:OkT x):zcz [W] x=0∧lst [W] x=W:=by
 have h:=xex hx ok
 exact ⟨h.1,(zj7 h.1).trans h.2⟩
theorem xf8 {W:List Tk} (ok:∀ y∈W,OkT y) (nd:W.Nodup) {cc:Nat} {a b:Tk} (ha:W[0]?=some a) (hb:W[cc]?=some b):∃ L1 YL L2,zdv [W] b 0=(0,L1)∧(zcz L1 b=0∧lst L1 b=W.drop cc)∧(zcz L1 a=0∧lst L1 a=YL)∧(0<cc→YL=W.take cc∧zcw L1 b a=(0,L2))∧(cc=0→L2=L1)∧(zcz L2 a=0∧lst L2 a=W.drop cc++W.take cc)∧L1.flatten.length=W.length∧L2.flatten.length=W.length∧YL.length≤W.length:=by
 obtain ⟨h0,rfl⟩:=List.getElem?_eq_some_iff.1 ha
 obtain ⟨hc,rfl⟩:=List.getElem?_eq_some_iff.1 hb
 have oa:=ok _ (List.getElem_mem h0)
 have ob:=ok _ (List.getElem_mem hc)
 by_cases hz:cc=0
 ·subst hz
  refine ⟨[W],W,[W],z6d ok nd hc,?_,zmh (List.getElem_mem h0) oa,fun h=>absurd h (Nat.lt_irrefl 0),fun _=>rfl,?_,by simp,by simp,Nat.le_refl _⟩
  ·rw [List.drop_zero];exact zmh (List.getElem_mem hc) ob
  ·rw [List.drop_zero,List.take_zero,List.append_nil];exact zmh (List.getElem_mem h0) oa
 ·have hz:0<cc:=Nat.pos_of_ne_zero hz
  have m0:W[0]∈W.take cc:=List.mem_take_iff_getElem.2 ⟨0,by omega,rfl⟩
  have mc:W[cc]∈W.drop cc:=List.mem_drop_iff_getElem.2 ⟨0,by omega,by simp⟩
  have nc:W[cc]∉W.take cc:=fun h=>by
   obtain ⟨j,hj,e⟩:=List.mem_take_iff_getElem.1 h
   have h3:=List.pairwise_iff_getElem.1 nd
   exact h3 j cc (by omega) hc (by omega) e
  refine ⟨[W.take cc,W.drop cc],W.take cc,[W.drop cc++W.take cc],cut_at ok nd hz hc,z8t mc nc ob,z8u m0 oa,fun _=>⟨rfl,z4r ok nd hz hc⟩,fun h=>absurd h (by omega),zmh (by simp [m0]) oa,?_,?_,by rw [List.length_take];omega⟩
  ·simp
   try omega
  ·simp
   try omega
end Sq
theorem zo0 {F:Asn} {w:World} {a:Option Addr} {n c:Nat} {l:List Tk} (H:Sat (zar (.slice a n c) l*F) w) {i:Nat} (hi:i<l.length):∃ g,a=some ⟨g,0,none⟩:=by
 obtain ⟨g,c',e⟩:=zcv (fun e=>by rw [e] at hi;cases hi) H
 cases e
 exact ⟨g,rfl⟩
end Go.Proofs.YtfknjmoekbabcaaGreatDoor
