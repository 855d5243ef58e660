/-
  A part of a proof. It proves no statement by itself.
-/
import Derived.Test.YtfknjmoekbabcaaGreatDoorC39
import Derived.Test.YtfknjmoekbabcaaGreatDoorC27
set_option linter.unusedSimpArgs false
set_option linter.unusedVariables false
set_option linter.unusedSectionVars false
set_option maxRecDepth 100000
set_option maxHeartbeats 64000000
namespace Go.Proofs.YtfknjmoekbabcaaGreatDoor
namespace Sq
variable {M M':Mp} {L:LL} {k a b:Tk} {ts:List T} {z:Z} {l r A B:T}
theorem For.place (f:For M ts) (ha:a∈flat ts):∃ l r z,zd8 ts a=Z.zcm z (.node l a r):=by
 obtain ⟨hi,e1,e2⟩:=f.zic ha
 have hm:a∈(zd8 ts a).toks:=by rw [e2];exact row_mem (zao.2 ha)
 obtain ⟨l,r,z,hz⟩:=Z.find (zd8 ts a) .top hm
 exact ⟨l,r,z,hz⟩
theorem For.row (f:For M ts) (ha:a∈flat ts) (hz:zd8 ts a=z.zcm (.node l a r)):rowOf (ts.map T.toks) a=(z.ahead++l.toks)++a::(r.toks++z.behind)∧fj (rowOf (ts.map T.toks) a) a=(z.ahead++l.toks).length:=by
 obtain ⟨hi,e1,e2⟩:=f.zic ha
 have e3:rowOf (ts.map T.toks) a=(z.ahead++l.toks)++a::(r.toks++z.behind):=by
  rw [←e2,hz,Z.zb2]
  simp [T.toks]
 refine ⟨e3,?_⟩
 have nd:(rowOf (ts.map T.toks) a).Nodup:=by rw [←e2,e1];exact f.zhw (List.getElem_mem hi)
 rw [e3] at nd ⊢
 refine zue fun h=>?_
 exact (List.nodup_append.1 nd).2.2 a h a (by simp) rfl
theorem zp8 {t:T} (h:t.toks≠[]):t≠.nil:=by rintro rfl;exact h rfl
theorem Ls.cut0 (f:For M ts) (ha:a∈flat ts) (hz:zd8 ts a=z.zcm (.node l a r)) (hn:fj (rowOf (ts.map T.toks) a) a≠0) (hA:A.toks=z.ahead++l.toks) (hB:B.toks=(a::r.toks)++z.behind) (bA:A.Bal) (bB:B.Bal)
  (oA:zc8 M' A nob) (oB:zc8 M' B nob) (fr:∀ x,x∉(z.zcm (.node l a r)).toks→M' x=M x):Ls M' (cut (ts.map T.toks) a (fj (rowOf (ts.map T.toks) a) a)):=by
 obtain ⟨e1,e2⟩:=f.row ha hz
 obtain ⟨hi,e3,e4⟩:=f.zic ha
 have h:=f.cut (M':=M') (l:=A) (r:=B) (n:=fj (rowOf (ts.map T.toks) a) a) ha (by rw [hA,e2,e1,List.take_left]) (by rw [hB,e2,e1,List.drop_left];rfl)
  (zp8 (by rw [hA];intro e;rw [e2,e] at hn;exact hn rfl)) (zp8 (by rw [hB];simp)) bA bB oA oB (by rw [←e4,hz];exact fr)
 exact ⟨_,h.1,h.2⟩
theorem Ls.xf6 (f:For M ts) (ha:a∈flat ts) (hz:zd8 ts a=z.zcm (.node l a r)) (hn:fj (rowOf (ts.map T.toks) a) a+1≠(rowOf (ts.map T.toks) a).length) (hA:A.toks=z.ahead++(l.toks++[a])) (hB:B.toks=r.toks++z.behind) (bA:A.Bal) (bB:B.Bal)
  (oA:zc8 M' A nob) (oB:zc8 M' B nob) (fr:∀ x,x∉(z.zcm (.node l a r)).toks→M' x=M x):Ls M' (cut (ts.map T.toks) a (fj (rowOf (ts.map T.toks) a) a+1)):=by
 obtain ⟨e1,e2⟩:=f.row ha hz
 obtain ⟨hi,e3,e4⟩:=f.zic ha
 have e5:rowOf (ts.map T.toks) a=(z.ahead++(l.toks++[a]))++(r.toks++z.behind):=by rw [e1];simp
 have e6:fj (rowOf (ts.map T.toks) a) a+1=(z.ahead++(l.toks++[a])).length:=by rw [e2];simp;omega
 have h:=f.cut (M':=M') (l:=A) (r:=B) (n:=fj (rowOf (ts.map T.toks) a) a+1) ha (by rw [hA,e6,e5,List.take_left]) (by rw [hB,e6,e5,List.drop_left])
  (zp8 (by rw [hA];simp)) (zp8 (by rw [hB];intro e;rw [e] at e5;apply hn;rw [e6,e5];simp)) bA bB oA oB (by rw [←e4,hz];exact fr)
 exact ⟨_,h.1,h.2⟩
theorem For.xdc (f:For M ts) (hc:(flat ts).length≤250) (ha:a∈flat ts) (hz:zd8 ts a=z.zcm (.node l a r)):zed M (z.zcm (.node l a r)) a:=by
 rw [←hz]
 exact f.tf hc a (f.here.2 ha)
def orErr (m:Option Mp) (e:Int):Int:=match m with
 | some _=>e
 | none=>2
end Sq
namespace Sq
variable {L:LL} {k a b:Tk} {l p want:List Tk}
theorem z0m {i:Nat} (h:p∈L) (hi:i<L.length) (ha:a∈L[i]) (hp:a∉p):p∈L.eraseIdx i:=by
 obtain ⟨j,hj,rfl⟩:=List.mem_iff_getElem.1 h
 rw [List.mem_eraseIdx_iff_getElem]
 refine ⟨j,hj,fun e=>?_,rfl⟩
 subst e
 exact hp ha
theorem zyy (h:p∈L) (ht:there L a) (hp:a∉p):p∈L.eraseIdx (fi L a):=z0m h ht (by rw [←zf4 ht];exact row_mem ht) hp
theorem zxf (hn:L.flatten.Nodup) (ha:there L a) (hb:there L b) (hne:fi L a≠fi L b):there (L.eraseIdx (fi L a)) b:=by
 refine zfz.2 ⟨rowOf L b,?_,row_mem hb⟩
 refine zyy (row_in hb) ha fun h=>hne ?_
 exact xbr hn hb (by rw [←zf4 hb];exact h)
theorem zjb (ht:there L a):List.Perm L.flatten (rowOf L a++(L.eraseIdx (fi L a)).flatten):=by
 rw [zf4 ht]
 exact zpl ht
theorem zjc {n:Nat}:List.Perm (zdw L k n).2.flatten L.flatten:=by
 unfold zdw
 split
 ·exact List.Perm.refl _
 ·rename_i e
  split
  ·exact List.Perm.refl _
  ·have ht:=(zxv.1 (Decidable.not_not.1 e)).2
   refine List.Perm.trans ?_ (zjb ht).symm
   unfold cut
   rw [List.flatten_append,List.flatten_append,List.append_assoc]
   refine List.perm_append_comm.trans ?_
   refine List.Perm.append_right _ ?_
   simp
theorem z2r (hn:L.flatten.Nodup) (ha:there L a) (hb:there L b) (hne:fi L a≠fi L b):rowOf (L.eraseIdx (fi L a)) b=rowOf L b:=by
 have h1:rowOf L b∈L.eraseIdx (fi L a):=by
  refine zyy (row_in hb) ha fun h=>hne ?_
  exact xbr hn hb (by rw [←zf4 hb];exact h)
 have nd:(L.eraseIdx (fi L a)).flatten.Nodup:=(List.nodup_append.1 ((zjb ha).nodup_iff.1 hn)).2.1
 exact row_of nd h1 (row_mem hb)
theorem ztb (hn:L.flatten.Nodup):List.Perm (zcw L a b).2.flatten L.flatten:=by
 unfold zcw
 split
 ·exact List.Perm.refl _
 ·rename_i e
  have e:=Decidable.not_not.1 e
  split
  ·exact List.Perm.refl _
  ·rename_i e1
   obtain ⟨⟨_,h1⟩,_,h2⟩:=xdb.1 e
   rw [two1 e,decide_eq_true_iff] at e1
   have h3:=zxf hn h1 h2 e1
   have p1:=zjb h1
   have p2:=zjb h3
   rw [z2r hn h1 h2 e1] at p2
   refine List.Perm.trans ?_ (p1.trans (List.Perm.append_left _ p2)).symm
   unfold joined
   rw [List.flatten_append]
   refine List.perm_append_comm.trans ?_
   simp
theorem xa3:(zdl L k).2.flatten.length≤L.flatten.length+1:=by
 unfold zdl
 split
 ·simp
 ·split<;>simp
theorem xhv:(zft L k).2.flatten.length≤L.flatten.length:=by
 unfold zft
 split
 ·simp
 ·rename_i e
  split
  ·simp
  ·have:=(zjb (zxv.1 (Decidable.not_not.1 e)).2).length_eq
   rw [List.length_append] at this
   simp only
   omega
end Sq
end Go.Proofs.YtfknjmoekbabcaaGreatDoor
namespace Go.Proofs.YtfknjmoekbabcaaGreatDoor
open Go.RowKit Go.Lib
open Sq (Tk Nd Mp zca InT Fr)
namespace Sq
theorem zr1.kid {M:Mp} {t:T} {u res:Tk} {i:Nat} (h:zr1 M t u i res):∃ l k r,t=.node l k r∧M k=some (nod l r u):=by
 obtain ⟨l,k,r,e⟩:=h.ne
 subst e
 exact ⟨l,k,r,rfl,h.hold.1⟩
end Sq
section
variable {x:Sx} {M:Mp} {F:Asn} {w:World} {R:Ending→World→Prop}
theorem z7e {A B C D:Asn} (H:Sat (A*(B*(C*(D*F)))) w):Sat (D*(A*(B*(C*F)))) w:=H.of_eq (by ac_rfl)
theorem z7g {A B C D:Asn} (H:Sat (D*(A*(B*(C*F)))) w):Sat (A*(B*(C*(D*F)))) w:=H.of_eq (by ac_rfl)
theorem xco {A B C D:Asn} (H:Sat (A*(B*(C*(D*F)))) w):Sat (C*(A*(B*(D*F)))) w:=H.of_eq (by ac_rfl)
theorem at_nb {A B C D:Asn} (H:Sat (C*(A*(B*(D*F)))) w):Sat (A*(B*(C*(D*F)))) w:=H.of_eq (by ac_rfl)
theorem at_fin {A B C D:Asn} (H:Sat (A*(B*(C*(D*F)))) w):Sat (B*((C*D)*(A*F))) w:=H.of_eq (by ac_rfl)
theorem xeq (tr:Tk→Sq.T) (a b i c1 c2:Int) (he:Hid (Sq.zfw M (a,b)=0∧∃ q:Nat,i=q∧(tr (a,b)).toks[q]?=some (c1,c2))) (hT:Hid (Sq.TF M tr)) (hx:Hid x.Ok) (H:Sat (zav x (some M)*F) w)
  (h:∀ w',Sat (zav x (some M)*F) w'→Io w w'→R (.returned (.tuple #[tkA c1 c2,.int .i64 0])) w') :
  Calls Tryz.prog 39 #[.pointer (some ⟨x.s,0,none⟩),tkA a b,.int .i64 i] w R:=by
 have HH:=L_ h
 have FACTS:=L_ (zya H)
 have H1:=(((H.new (.cells #[.int .i64 a,.int .i64 b] 29)).new (.cells #[.int .i64 0,.int .i64 0] 29)).of_eq (show _=zav x (some M)*(pts w.heap.size (.cells #[.int .i64 a,.int .i64 b] 29 (0,0))*(pts (w.alloc (.cells #[.int .i64 a,.int .i64 b] 29)).heap.size (.cells #[.int .i64 0,.int .i64 0] 29 (0,0))*F)) from by ac_rfl))
 have I1:=io2 H1 (Io.refl w)
 rw [World.size_alloc] at H1
 clear h H
 go_enter Tryz.func39,Tryz.ntmps39
 go_upto_region 1 with fail
 generalize (w.alloc _).alloc _=w1 at *
 generalize w.heap.size=bx at *
 obtain ⟨y0,y1⟩:=tk2 H1.right
 go_upto_region 2 with (go_at_call 47;(with_reducible refine zef tr a b hT hx H1 ?_);intro r1 r2 v1 v2 v3 v4 v5 v6 v7 v8 e2 w2 hr H2 I2;have HA:=(H2.new (.cells #[.int .i64 0,.int .i64 0,.int .i64 0,.int .i64 0,.int .i64 0,.int .i64 0,.int .i64 0,.int .i64 0] 85)).of_eq (show _=pts bx (.cells #[.int .i64 a,.int .i64 b] 29 (0,0))*(pts w2.heap.size (.cells #[.int .i64 0,.int .i64 0,.int .i64 0,.int .i64 0,.int .i64 0,.int .i64 0,.int .i64 0,.int .i64 0] 85 (0,0))*(zav x (some M)*(pts (bx+1) (.cells #[.int .i64 0,.int .i64 0] 29 (0,0))*F))) from by ac_rfl);obtain ⟨g0,g1⟩:=tk2 HA;obtain ⟨g2,g3⟩:=zgf HA;have KE:=z4l (zc2 (.int .i64 r1) (.int .i64 r2) HA);have G:=zb0 KE;obtain ⟨j0,j1,j2,j3,j4,j5,j6,j7⟩:=G;have G2:=nd8 KE;obtain ⟨i0,i1,i2,i3,i4,i5,i6,i7⟩:=G2;have KN:=zaz (.int .i64 v1) (.int .i64 v2) (.int .i64 v3) (.int .i64 v4) (.int .i64 v5) (.int .i64 v6) (.int .i64 v7) (.int .i64 v8) KE;have JN:=zac (b:=w2.heap.size) (.int .i64 v1) (.int .i64 v2) (.int .i64 v3) (.int .i64 v4) (.int .i64 v5) (.int .i64 v6) (.int .i64 v7) (.int .i64 v8) (zay (b:=bx) (.int .i64 r1) (.int .i64 r2) ((I1.trans I2).alloc (.cells #[.int .i64 0,.int .i64 0,.int .i64 0,.int .i64 0,.int .i64 0,.int .i64 0,.int .i64 0,.int .i64 0] 85))))
 clear y0 y1 g0 g1 g2 g3 j0 j1 j2 j3 j4 j5 j6 j7 i0 i1 i2 i3 i4 i5 i6 i7 HA KE H1 I1 H2 I2
 generalize ((((((((((w2.alloc _).setCell ⟨bx,0,none⟩ (.int .i64 r1)).setCell ⟨bx,1,none⟩ (.int .i64 r2)).setCell ⟨w2.heap.size,0,none⟩ (.int .i64 v1)).setCell ⟨w2.heap.size,1,none⟩ (.int .i64 v2)).setCell ⟨w2.heap.size,2,none⟩ (.int .i64 v3)).setCell ⟨w2.heap.size,3,none⟩ (.int .i64 v4)).setCell ⟨w2.heap.size,4,none⟩ (.int .i64 v5)).setCell ⟨w2.heap.size,5,none⟩ (.int .i64 v6)).setCell ⟨w2.heap.size,6,none⟩ (.int .i64 v7)).setCell ⟨w2.heap.size,7,none⟩ (.int .i64 v8)=w3 at *
 generalize w2.heap.size=b6 at *
 have K3:Sat (zav x (some M)*(pts (bx+1) (.cells #[.int .i64 0,.int .i64 0] 29 (0,0))*(pts b6 (.cells #[.int .i64 v1,.int .i64 v2,.int .i64 v3,.int .i64 v4,.int .i64 v5,.int .i64 v6,.int .i64 v7,.int .i64 v8] 85 (0,0))*(pts bx (.cells #[.int .i64 r1,.int .i64 r2] 29 (0,0))*F)))) w3:=KN.of_eq (by ac_rfl)
 clear KN
 obtain ⟨rfl,ST⟩:e2=0∧Hid (∃ (q:Nat) (t:Sq.T),i=q∧t=tr (a,b)∧Sq.zr1 M t Sq.nob q (c1,c2)∧t.ht≤255∧t.cnt≤250∧(r1,r2)=t.top∧(⟨(v1,v2),(v3,v4),(v5,v6),v7,v8⟩:Nd)=t.nd Sq.nob):=by
  rcases hr.out with h1 | ⟨_,h2,h3,_,h5,h6⟩
  ·exact absurd (h1.1.trans he.out.1) h1.2.1
  ·obtain ⟨_,q,hq,hg⟩:=he.out
   have ht:=hT.out _ h3
   exact ⟨h2,L_ ⟨q,_,hq,rfl,⟨ht.hold,ht.ok,hg⟩,by have:=(tr (a,b)).zec;have:=ht.cnt;omega,ht.cnt,h5,h6⟩⟩
 obtain ⟨q0,hq0,hlt⟩:∃ q0:Nat,i=q0∧q0<250∧(q0:Int)<v7:=by
  obtain ⟨q,t,h1,_,h3,_,h5,_,h7⟩:=ST.out
  have h8:=List.getElem?_eq_some_iff.1 h3.get
  obtain ⟨h8,_⟩:=h8
  rw [Sq.T.zbn] at h8
  refine ⟨q,h1,by omega,?_⟩
  obtain ⟨l,k,r,e⟩:=h3.ne
  subst e
  have:v7=_:=congrArg Nd.count h7
  rw [this]
  exact Int.ofNat_lt.2 h8
 subst hq0
 have hp0:(0:Int)≤(q0:Int):=by omega
 have hp1:(q0:Int)<250:=by omega
 have hp2:=hlt.2
 have Z7:w3.cell? ⟨b6,6,none⟩=some (.int .i64 v7):=(nd8 K3.right.right).2.2.2.2.2.2.1
 have START:Hid (∃ l r,Sq.zr1 M (.node l (r1,r2) r) (v1,v2) q0 (c1,c2)∧((Sq.T.node l (r1,r2) r).ht:Int)≤255∧(⟨(v1,v2),(v3,v4),(v5,v6),v7,v8⟩:Nd)=Sq.nod l r (v1,v2)):=L_ (by
  obtain ⟨q,t,h1,_,h3,h4,h5,h6,h7⟩:=ST.out
  obtain rfl:q=q0:=by omega
  obtain ⟨l,k,r,e⟩:=h3.ne
  subst e
  have e1:(r1,r2)=k:=h6
  subst e1
  have e2:(⟨(v1,v2),(v3,v4),(v5,v6),v7,v8⟩:Nd)=Sq.nod l r Sq.nob:=h7
  have e3:(v1,v2)=Sq.nob:=congrArg Nd.up e2
  exact ⟨l,r,by rw [e3];exact h3,by omega,by rw [e3];rw [e3] at e2;exact e2⟩)
 clear ST hlt he hr
 go_wp2_with fail
 go_loopw [2,10,31] (fun xi xa xc wr=>∃ (j q:Nat) (l r:Sq.T) (k1 k2 n1 n2 n3 n4 n5 n6 n7 n8:Int),Hid (Sq.zr1 M (.node l (k1,k2) r) (n1,n2) q (c1,c2))∧Hid ((j:Int)+((Sq.T.node l (k1,k2) r).ht:Int)≤255)∧Hid ((⟨(n1,n2),(n3,n4),(n5,n6),n7,n8⟩:Nd)=Sq.nod l r (n1,n2))∧Hid (q<250)∧xi=.int .i64 (q:Int)∧xc=.int .i64 (j:Int)∧Sat (zav x (some M)*(pts (bx+1) (.cells #[.int .i64 0,.int .i64 0] 29 (0,0))*(pts b6 (.cells #[.int .i64 n1,.int .i64 n2,.int .i64 n3,.int .i64 n4,.int .i64 n5,.int .i64 n6,.int .i64 n7,.int .i64 n8] 85 (0,0))*(pts bx (.cells #[.int .i64 k1,.int .i64 k2] 29 (0,0))*F)))) wr∧Io w wr) (fun _ _ xc _=>300 - (RowKit.intOf xc).toNat)
 case atStart =>
  obtain ⟨l,r,h1,h2,h3⟩:=START.out
  exact ⟨0,q0,l,r,r1,r2,v1,v2,v3,v4,v5,v6,v7,v8,L_ h1,L_ (by simpa using h2),L_ h3,L_ (by omega),rfl,rfl,K3,JN⟩
 case round =>
  clear K3 JN Z7 hp0 hp1 hp2 START
  obtain ⟨j,q,l,r,k1,k2,n1,n2,n3,n4,n5,n6,n7,n8,hs,hjt,hnd,hq,rfl,rfl,Hk,Ik⟩:=hrel
  have hj0:(0:Int)≤(j:Int):=by omega
  have hj1:(j:Int)<255:=by have:=hjt.out;simp only [Sq.T.ht] at this;omega
  have hq0:(0:Int)≤(q:Int):=by omega
  have hq1:(q:Int)<250:=by have:=hq.out;omega
  have HC:Hid (Sq.zej M (n3,n4)=(l.cnt:Int)):=L_ (by
   have e:=congrArg Nd.left hnd.out
   have e:(n3,n4)=l.top:=e
   rw [e]
   exact Sq.z6l hs.out.hold.2.1 FACTS.out.1)
  have HL:Hid ((n3,n4)=Sq.nob∨∃ n,M (n3,n4)=some n):=L_ (by
   have e:=congrArg Nd.left hnd.out
   have e:(n3,n4)=l.top:=e
   rw [e]
   by_cases hl:l=.nil
   ·left;rw [hl];rfl
   ·right;exact ⟨_,hs.out.hold.2.1.read hl⟩)
  obtain ⟨la,hla⟩:∃ la:Int,la=(l.cnt:Int):=⟨_,rfl⟩
  rw [←hla] at HC
  have hla0:(0:Int)≤la:=by omega
  have hla1:la<4294967296:=by
   have h1:=FACTS.out.2 _ _ hs.out.hold.1
   have h1:zca ((l.cnt+r.cnt+1:Nat):Int):=h1
   unfold zca at h1
   omega
  have HLA:=L_ hla
  clear hla
  have Z:=nd8 (xco Hk)
  obtain ⟨z0,z1,z2,z3,z4,z5,z6,z7⟩:=Z
  have ag:=Tryz.isAgg29
  go_upto_region 10 with (go_at_call 58;(with_reducible refine zso n3 n4 la HC (L_ FACTS.out.1) HL hx Hk ?_);intro s1 s2 s3 s4 s5 s6 s8 w4 H4 I4;have FC:=fun W=>zjm s1 s2 s3 s4 s5 s6 la s8 W)
  have J4:=Ik.trans I4
  clear FC
  clear z0 z1 z2 z3 z4 z5 z6 z7 Hk Ik I4
  have B1:=tk2 H4.right.right.right
  obtain ⟨b0,b1⟩:=B1
  obtain ⟨y0,y1⟩:=zb5 H4
  rcases Int.lt_trichotomy (q:Int) la with hc | hc | hc
  ·have hci:(q:Int)<la:=hc
   have hcn:¬ (q:Int)=la:=by omega
   have CH:=L_ (hs.out.left (by have:=HLA.out;omega))
   obtain ⟨l2,kk,r2,he2,hM⟩:=CH.out.kid
   obtain ⟨k1',k2'⟩:=kk
   obtain ⟨nl,hnl⟩:∃ nl,nl=Sq.nod l2 r2 (k1,k2):=⟨_,rfl⟩
   obtain ⟨⟨m1,m2⟩,⟨m3,m4⟩,⟨m5,m6⟩,m7,m8⟩:=nl
   rw [←hnl] at hM
   have HM:=L_ hM
   have HT:Hid ((j:Int)+1+((Sq.T.node l2 (k1',k2') r2).ht:Int)≤255):=L_ (by have h1:=hjt.out;have h2:=congrArg Sq.T.ht he2;simp only [Sq.T.ht] at h1 h2 ⊢;omega)
   have HN:Hid ((⟨(m1,m2),(m3,m4),(m5,m6),m7,m8⟩:Nd)=Sq.nod l2 r2 (m1,m2)):=L_ (by have e:(m1,m2)=(k1,k2):=congrArg Nd.up hnl;rw [e];rw [e] at hnl;exact hnl)
   have HU:Hid ((k1,k2)=(m1,m2)):=L_ (by have e:(m1,m2)=(k1,k2):=congrArg Nd.up hnl;exact e.symm)
   have EC:(n3,n4)=(k1',k2'):=by
    have e:(n3,n4)=_:=congrArg Nd.left hnd.out
    exact e.trans (congrArg Sq.T.top he2)
   obtain ⟨rfl,rfl⟩:n3=k1'∧n4=k2':=by simpa using EC
   have CH2:Hid (Sq.zr1 M (.node l2 (n3,n4) r2) (m1,m2) (q) (c1,c2)):=L_ (by rw [←he2,←HU.out];exact CH.out)
   have HQ2:Hid (q<250):=L_ (by have:=hq.out;omega)
   have HCC:=L_ hc
   clear hnl hM EC he2 CH HL HC hs hjt hnd hc
   have Z:=nd8 (xco H4)
   obtain ⟨z0,z1,z2,z3,z4,z5,z6,z7⟩:=Z
   obtain ⟨f0,f1⟩:=zgf H4.right.right.right
   have K5:=z7g (zc2 (.int .i64 n3) (.int .i64 n4) (z7e H4))
   have J5:=zay (b:=bx) (.int .i64 n3) (.int .i64 n4) J4
   obtain ⟨g0,g1⟩:=tk2 K5.right.right.right
   go_upto_region 15 with (go_at_call 58;(with_reducible refine zd2 n3 n4 HM hx K5 ?_);intro w6 H6 I6;have J6:=J5.trans I6;have GF:=zb0 (xco H6);obtain ⟨p0,p1,p2,p3,p4,p5,p6,p7⟩:=GF;have GC:=nd8 (xco H6);obtain ⟨o0,o1,o2,o3,o4,o5,o6,o7⟩:=GC)
   have KN:=at_nb (zaz (.int .i64 m1) (.int .i64 m2) (.int .i64 m3) (.int .i64 m4) (.int .i64 m5) (.int .i64 m6) (.int .i64 m7) (.int .i64 m8) (xco H6))
   have JN:=zac (b:=b6) (.int .i64 m1) (.int .i64 m2) (.int .i64 m3) (.int .i64 m4) (.int .i64 m5) (.int .i64 m6) (.int .i64 m7) (.int .i64 m8) J6
   clear b0 b1 y0 y1 z0 z1 z2 z3 z4 z5 z6 z7 f0 f1 g0 g1 p0 p1 p2 p3 p4 p5 p6 p7 o0 o1 o2 o3 o4 o5 o6 o7 K5 J5 J6 J4 H4 H6 I6
   generalize ((((((((w6).setCell ⟨b6,0,none⟩ (.int .i64 m1)).setCell ⟨b6,1,none⟩ (.int .i64 m2)).setCell ⟨b6,2,none⟩ (.int .i64 m3)).setCell ⟨b6,3,none⟩ (.int .i64 m4)).setCell ⟨b6,4,none⟩ (.int .i64 m5)).setCell ⟨b6,5,none⟩ (.int .i64 m6)).setCell ⟨b6,6,none⟩ (.int .i64 m7)).setCell ⟨b6,7,none⟩ (.int .i64 m8)=w7 at *
   obtain ⟨y0,y1⟩:=zb5 KN
   go_wp2_with fail
   go_roundw
   case rel=>exact ⟨j+1,q,l2,r2,n3,n4,m1,m2,m3,m4,m5,m6,m7,m8,CH2,L_ (by have:=HT.out;omega),HN,HQ2,rfl,by go_num,KN,JN⟩
   case measure=>simp [RowKit.intOf];omega
  ·subst hc
   have EQ:Hid ((c1,c2)=(k1,k2)):=L_ (hs.out.here (by have:=HLA.out;omega))
   obtain ⟨rfl,rfl⟩:c1=k1∧c2=k2:=by have:=EQ.out;simpa using this
   obtain ⟨f0,f1⟩:=zgf H4.right
   obtain ⟨f2,f3⟩:=tk2 H4.right
   have KE:=at_fin (z4l (zc2 (.int .i64 c1) (.int .i64 c2) (z4l H4)))
   have JE:=zay (b:=bx+1) (.int .i64 c1) (.int .i64 c2) J4
   obtain ⟨g0,g1⟩:=tk2 KE
   have FIN:=L_ (HH.out _ KE.right.right JE)
   clear EQ HL HC hs hjt hnd FACTS
   go_wp2_with fail
   have hag:=Tryz.isAgg29
   have hsz:=Tryz.sizeOf29
   exact bodyPost_ret (v:=.tuple #[tkA c1 c2,.int .i64 0]) (by simp [results,Tryz.results39,go_sem,g0,g1]) rfl FIN.out
  ·have hci:¬ (q:Int)<la:=by omega
   have hcn:¬ (q:Int)=la:=by omega
   have CH:=L_ (hs.out.right (by have:=HLA.out;omega))
   obtain ⟨l2,kk,r2,he2,hM⟩:=CH.out.kid
   obtain ⟨k1',k2'⟩:=kk
   obtain ⟨nl,hnl⟩:∃ nl,nl=Sq.nod l2 r2 (k1,k2):=⟨_,rfl⟩
   obtain ⟨⟨m1,m2⟩,⟨m3,m4⟩,⟨m5,m6⟩,m7,m8⟩:=nl
   rw [←hnl] at hM
   have HM:=L_ hM
   have HT:Hid ((j:Int)+1+((Sq.T.node l2 (k1',k2') r2).ht:Int)≤255):=L_ (by have h1:=hjt.out;have h2:=congrArg Sq.T.ht he2;simp only [Sq.T.ht] at h1 h2 ⊢;omega)
   have HN:Hid ((⟨(m1,m2),(m3,m4),(m5,m6),m7,m8⟩:Nd)=Sq.nod l2 r2 (m1,m2)):=L_ (by have e:(m1,m2)=(k1,k2):=congrArg Nd.up hnl;rw [e];rw [e] at hnl;exact hnl)
   have HU:Hid ((k1,k2)=(m1,m2)):=L_ (by have e:(m1,m2)=(k1,k2):=congrArg Nd.up hnl;exact e.symm)
   have EC:(n5,n6)=(k1',k2'):=by
    have e:(n5,n6)=_:=congrArg Nd.right hnd.out
    exact e.trans (congrArg Sq.T.top he2)
   obtain ⟨rfl,rfl⟩:n5=k1'∧n6=k2':=by simpa using EC
   have CH2:Hid (Sq.zr1 M (.node l2 (n5,n6) r2) (m1,m2) (q - l.cnt - 1) (c1,c2)):=L_ (by rw [←he2,←HU.out];exact CH.out)
   have HQ2:Hid (q - l.cnt - 1<250):=L_ (by have:=hq.out;omega)
   have HCC:=L_ hc
   clear hnl hM EC he2 CH HL HC hs hjt hnd hc
   have Z:=nd8 (xco H4)
   obtain ⟨z0,z1,z2,z3,z4,z5,z6,z7⟩:=Z
   obtain ⟨f0,f1⟩:=zgf H4.right.right.right
   have K5:=z7g (zc2 (.int .i64 n5) (.int .i64 n6) (z7e H4))
   have J5:=zay (b:=bx) (.int .i64 n5) (.int .i64 n6) J4
   obtain ⟨g0,g1⟩:=tk2 K5.right.right.right
   go_upto_region 15 with (go_at_call 58;(with_reducible refine zd2 n5 n6 HM hx K5 ?_);intro w6 H6 I6;have J6:=J5.trans I6;have GF:=zb0 (xco H6);obtain ⟨p0,p1,p2,p3,p4,p5,p6,p7⟩:=GF;have GC:=nd8 (xco H6);obtain ⟨o0,o1,o2,o3,o4,o5,o6,o7⟩:=GC)
   have KN:=at_nb (zaz (.int .i64 m1) (.int .i64 m2) (.int .i64 m3) (.int .i64 m4) (.int .i64 m5) (.int .i64 m6) (.int .i64 m7) (.int .i64 m8) (xco H6))
   have JN:=zac (b:=b6) (.int .i64 m1) (.int .i64 m2) (.int .i64 m3) (.int .i64 m4) (.int .i64 m5) (.int .i64 m6) (.int .i64 m7) (.int .i64 m8) J6
   clear b0 b1 y0 y1 z0 z1 z2 z3 z4 z5 z6 z7 f0 f1 g0 g1 p0 p1 p2 p3 p4 p5 p6 p7 o0 o1 o2 o3 o4 o5 o6 o7 K5 J5 J6 J4 H4 H6 I6
   generalize ((((((((w6).setCell ⟨b6,0,none⟩ (.int .i64 m1)).setCell ⟨b6,1,none⟩ (.int .i64 m2)).setCell ⟨b6,2,none⟩ (.int .i64 m3)).setCell ⟨b6,3,none⟩ (.int .i64 m4)).setCell ⟨b6,4,none⟩ (.int .i64 m5)).setCell ⟨b6,5,none⟩ (.int .i64 m6)).setCell ⟨b6,6,none⟩ (.int .i64 m7)).setCell ⟨b6,7,none⟩ (.int .i64 m8)=w7 at *
   obtain ⟨y0,y1⟩:=zb5 KN
   go_wp2_with fail
   go_roundw
   case rel=>exact ⟨j+1,q - l.cnt - 1,l2,r2,n5,n6,m1,m2,m3,m4,m5,m6,m7,m8,CH2,L_ (by have:=HT.out;omega),HN,HQ2,by have:=HLA.out;have:=HCC.out;go_num,by go_num,KN,JN⟩
   case measure=>simp [RowKit.intOf];omega
end
end Go.Proofs.YtfknjmoekbabcaaGreatDoor
namespace Go.Proofs.YtfknjmoekbabcaaGreatDoor
open Go.RowKit Go.Lib
open Sq (Tk Nd Mp zca InT Fr)
open Sq.Z (Step)
theorem nd10 {F:Asn} {w:World} {b:Nat} {t:TypeId} {v0 v1 v2 v3 v4 v5 v6 v7 v8 v9:Value} (H:Sat (pts b (.cells #[v0,v1,v2,v3,v4,v5,v6,v7,v8,v9] t (0,0))*F) w) :
  w.cell? ⟨b,0,none⟩=some v0∧w.cell? ⟨b,1,none⟩=some v1∧w.cell? ⟨b,2,none⟩=some v2∧w.cell? ⟨b,3,none⟩=some v3∧w.cell? ⟨b,4,none⟩=some v4∧w.cell? ⟨b,5,none⟩=some v5∧w.cell? ⟨b,6,none⟩=some v6∧w.cell? ⟨b,7,none⟩=some v7∧w.cell? ⟨b,8,none⟩=some v8∧w.cell? ⟨b,9,none⟩=some v9 :=
 ⟨Sat.read H.left.at 0,Sat.read H.left.at 1,Sat.read H.left.at 2,Sat.read H.left.at 3,Sat.read H.left.at 4,Sat.read H.left.at 5,Sat.read H.left.at 6,Sat.read H.left.at 7,Sat.read H.left.at 8,Sat.read H.left.at 9⟩
theorem zik {g c n:Nat} {l:List Sp} {F:Asn} {w:World} {x1 x2 u1 u2 p1 p2 q1 q2 ct ht:Int} (H:Sat (zdm (.slice (some ⟨g,0,none⟩) n c) l*F) w) (k:Nat) (h:l[k]?=some ((x1,x2),⟨(u1,u2),(p1,p2),(q1,q2),ct,ht⟩)) :
  w.cell? ⟨g,k*10,none⟩=some (.int .i64 x1)∧w.cell? ⟨g,k*10+1,none⟩=some (.int .i64 x2)∧w.cell? ⟨g,k*10+2,none⟩=some (.int .i64 u1)∧w.cell? ⟨g,k*10+3,none⟩=some (.int .i64 u2)∧w.cell? ⟨g,k*10+4,none⟩=some (.int .i64 p1)∧w.cell? ⟨g,k*10+5,none⟩=some (.int .i64 p2)∧w.cell? ⟨g,k*10+6,none⟩=some (.int .i64 q1)∧w.cell? ⟨g,k*10+7,none⟩=some (.int .i64 q2)∧w.cell? ⟨g,k*10+8,none⟩=some (.int .i64 ct)∧w.cell? ⟨g,k*10+9,none⟩=some (.int .i64 ht):=by
 obtain ⟨hk,e⟩:=List.getElem?_eq_some_iff.1 h
 exact ⟨za4 zdj H k hk 0 (by omega) _ (by rw [e];rfl),za4 zdj H k hk 1 (by omega) _ (by rw [e];rfl),za4 zdj H k hk 2 (by omega) _ (by rw [e];rfl),za4 zdj H k hk 3 (by omega) _ (by rw [e];rfl),za4 zdj H k hk 4 (by omega) _ (by rw [e];rfl),za4 zdj H k hk 5 (by omega) _ (by rw [e];rfl),za4 zdj H k hk 6 (by omega) _ (by rw [e];rfl),za4 zdj H k hk 7 (by omega) _ (by rw [e];rfl),za4 zdj H k hk 8 (by omega) _ (by rw [e];rfl),za4 zdj H k hk 9 (by omega) _ (by rw [e];rfl)⟩
section
variable {x:Sx} {F:Asn} {w:World} {R:Ending→World→Prop} {m0:Option Mp} {all A B:List Tk}
theorem zhx (k1 k2:Int) (hx:Hid x.Ok) (H:Sat (zav x none*F) w) (h:∀ w',Sat (zav x none*F) w'→Io w w'→R (.returned (.tuple #[])) w') :
  Calls Tryz.prog 48 #[.pointer (some ⟨x.s,0,none⟩),tkA k1 k2] w R:=by
 by_cases e:(k1,k2)=Sq.nob
 ·exact zx8 k1 k2 (L_ e) H h
 ·exact zsi k1 k2 (L_ e) hx H h
def z7t (m0 m':Option Mp) (all A B:List Tk):Prop:=∀ M',m'=some M'→∃ a b:Sq.T,a.toks=A∧b.toks=B∧a.Bal∧b.Bal∧Sq.zc8 M' a Sq.nob∧Sq.zc8 M' b Sq.nob∧∃ M0,m0=some M0∧∀ y,y∉all→M' y=M0 y
theorem ztc:z7t m0 none all A B:=fun M' h=>nomatch h
theorem xfu {m:Option Mp} {t:Sq.T} {ts:List Sq.T} {ks:List Tk} (f:Fr m0 m all (t::ts) ks):Fr m m t.toks [t] [] where
 nodup:=by rw [Sq.zck,List.append_nil];exact (f.toks (t:=t) (by simp)).2.2
 ok:=fun y hy=>by rw [Sq.zck,List.append_nil] at hy;exact (f.toks (t:=t) (by simp)).1 y hy
 cnt:=by rw [Sq.zck,List.append_nil,Sq.T.zbn];exact (f.toks (t:=t) (by simp)).2.1
 sub:=fun y hy=>by rw [Sq.zck,List.append_nil] at hy;exact hy
 own:=fun M e=>⟨M,e,fun s hs=>by rw [List.mem_singleton] at hs;subst hs;exact f.hold e (by simp),fun k hk=>by simp at hk,fun _ _=>rfl⟩
theorem z3j {M:Mp} {L R:Sq.T} {m7 m8:Option Mp} {way:List Step} {i:Nat} (h:Sq.ze2 m0 (some M) all A B way i L R) (hi:way.length≤i) (h7:Fr m0 m7 all (L::[R]) []∧∀ M',m7=some M'→Sq.zc8 M' L Sq.nob) (h8:Fr m7 m8 R.toks (R::[]) []∧∀ M',m8=some M'→Sq.zc8 M' R Sq.nob):z7t m0 m8 all A B:=fun M' e=>by
 obtain ⟨h1,h2,h3,h4,h5⟩:=h.done hi
 obtain ⟨M7,e7,_,_,h6⟩:=h8.1.own M' e
 obtain ⟨M0,e0,_,_,h9⟩:=h7.1.own M7 e7
 have nd:=h7.1.nodup
 rw [Sq.zei,List.append_nil,List.nodup_append] at nd
 have hs:∀ y∈R.toks,y∈all:=fun y hy=>h7.1.sub y (by rw [Sq.zei,List.append_nil];exact List.mem_append_right _ hy)
 exact ⟨L,R,h1,h2,h3,h4,(h7.2 M7 e7).congr fun y hy=>h6 y (fun hn=>nd.2.2 _ hy _ hn rfl),h8.2 M' e,M0,e0,fun y hy=>(h6 y fun hn=>hy (hs y hn)).trans (h9 y hy)⟩
theorem z3k {A B C D:Asn} (H:Sat (A*(B*(C*(D*F)))) w):Sat (A*(D*F)) w:=(H.of_eq (show _=(B*C)*(A*(D*F)) from by ac_rfl)).right
theorem pa_new {A B C D E:Asn} (H:Sat (E*(A*(B*(C*(D*F))))) w):Sat (A*(B*(C*(D*(E*F))))) w:=H.of_eq (by ac_rfl)
theorem pa_l {A C D:Asn} {b:Nat} {t:TypeId} {z0 z1:Value} (v0 v1:Value) (H:Sat (A*(pts b (.cells #[z0,z1] t (0,0))*(C*(D*F)))) w):Sat (A*(pts b (.cells #[v0,v1] t (0,0))*(C*(D*F)))) ((w.setCell ⟨b,0,none⟩ v0).setCell ⟨b,1,none⟩ v1) :=
 (zc2 v0 v1 (H.of_eq (show _=pts b (.cells #[z0,z1] t (0,0))*(A*(C*(D*F))) from by ac_rfl))).of_eq (by ac_rfl)
theorem pa_r {A B D:Asn} {b:Nat} {t:TypeId} {z0 z1:Value} (v0 v1:Value) (H:Sat (A*(B*(pts b (.cells #[z0,z1] t (0,0))*(D*F)))) w):Sat (A*(B*(pts b (.cells #[v0,v1] t (0,0))*(D*F)))) ((w.setCell ⟨b,0,none⟩ v0).setCell ⟨b,1,none⟩ v1) :=
 (zc2 v0 v1 (H.of_eq (show _=pts b (.cells #[z0,z1] t (0,0))*(A*(B*(D*F))) from by ac_rfl))).of_eq (by ac_rfl)
theorem z3l {A B C D E:Asn} (H:Sat (A*(B*(C*(D*(E*F))))) w):Sat (A*(B*(C*(D*F)))) w:=(H.of_eq (show _=E*(A*(B*(C*(D*F)))) from by ac_rfl)).right
theorem zsl {m1:Option Mp} (way:List Step) (L0 R0:Sq.T) (l01 l02 r01 r02:Int) (v:Value) (hl:Hid (Sq.ze2 m0 m1 all A B way 1 L0 R0)) (al0:Hid (∀ M,m1=some M→(l01,l02)=L0.top∧(r01,r02)=R0.top)) (hw:Hid (1≤way.length∧way.length≤255)) (hx:Hid x.Ok) (H:Sat (zav x m1*(zdm v (way.map zlo)*F)) w)
  (h:∀ m' w',Hid (z7t m0 m' all A B)→Sat (zav x m'*(zdm v (way.map zlo)*F)) w'→Io w w'→R (.returned (.tuple #[])) w') :
  Calls Tryz.prog 51 #[.pointer (some ⟨x.s,0,none⟩),v,tkA l01 l02,tkA r01 r02] w R:=by
 have HH:=L_ h
 obtain ⟨g,c,hv⟩:∃ g c,v=.slice (some ⟨g,0,none⟩) (way.map zlo).length c:=zd5 (H.of_eq (show _=zdm v (way.map zlo)*(zav x m1*F) from by unfold zdm;ac_rfl)) (by rw [List.length_map];have:=hw.out.1;omega)
 rw [List.length_map] at hv
 subst hv
 obtain ⟨wn,hwn⟩:∃ wn:Nat,wn=way.length:=⟨_,rfl⟩
 rw [←hwn] at H h HH ⊢
 have HWN:=L_ hwn
 have hwi:(wn:Int)≤255:=by have:=hw.out.2;omega
 have hwp:(1:Int)≤(wn:Int):=by have:=hw.out.1;omega
 have H1:=((H.new (.cells #[.int .i64 l01,.int .i64 l02] 29)).new (.cells #[.int .i64 r01,.int .i64 r02] 29)).of_eq (show _=zav x m1*(pts w.heap.size (.cells #[.int .i64 l01,.int .i64 l02] 29 (0,0))*(pts (w.alloc (.cells #[.int .i64 l01,.int .i64 l02] 29)).heap.size (.cells #[.int .i64 r01,.int .i64 r02] 29 (0,0))*(zdm (.slice (some ⟨g,0,none⟩) wn c) (way.map zlo)*F))) from by unfold zdm;ac_rfl)
 have I1:=io2 H1 (Io.refl w)
 rw [World.size_alloc] at H1
 clear h H hwn
 go_enter Tryz.func51,Tryz.ntmps51
 go_upto_region 1 with fail
 generalize (w.alloc _).alloc _=w1 at *
 generalize w.heap.size=bx at *
 go_wp2_with fail
 go_loopw [8] (fun xi wr=>∃ (i:Nat) (m:Option Mp) (Lt Rt:Sq.T) (l1 l2 r1 r2:Int),Hid (Sq.ze2 m0 m all A B way i Lt Rt)∧Hid (∀ M,m=some M→(l1,l2)=Lt.top∧(r1,r2)=Rt.top)∧Hid (1≤i∧i≤wn)∧xi=.int .i64 (i:Int)∧Sat (zav x m*(pts bx (.cells #[.int .i64 l1,.int .i64 l2] 29 (0,0))*(pts (bx+1) (.cells #[.int .i64 r1,.int .i64 r2] 29 (0,0))*(zdm (.slice (some ⟨g,0,none⟩) wn c) (way.map zlo)*F)))) wr∧Io w wr) (fun xi _=>300 - (RowKit.intOf xi).toNat)
 case atStart=>exact ⟨1,m1,L0,R0,l01,l02,r01,r02,hl,al0,L_ (by omega),rfl,H1,I1⟩
 case round =>
  clear H1 I1 hl al0
  obtain ⟨i,m,Lt,Rt,l1,l2,r1,r2,hlp,al,hi,rfl,Hk,Ik⟩:=hrel
  have hi0:(1:Int)≤(i:Int):=by have:=hi.out;omega
  have hi1:(i:Int)≤255:=by have:=hi.out;omega
  obtain ⟨b0,b1⟩:=tk2 Hk.right
  obtain ⟨b2,b3⟩:=tk2 Hk.right.right
  cases m with
  | none =>
   obtain ⟨y0,y1⟩:=zox Hk
   by_cases hlt:(i:Int)<(wn:Int)
   ·go_wp2_with (first
     | (go_at_call 48;(with_reducible refine zhx l1 l2 hx Hk ?_);intro w5 H5 I5;have Z5:=tk2 H5.right.right;obtain ⟨z2,z3⟩:=Z5)
     | (go_at_call 48;(with_reducible refine zhx r1 r2 hx H5 ?_);intro w6 H6 I6)
     | fail)
    go_end0
    exact HH.out none _ (L_ ztc) (z3k H6) ((Ik.trans I5).trans I6)
   ·go_wp2_with (first
     | (go_at_call 48;(with_reducible refine zhx l1 l2 hx Hk ?_);intro w5 H5 I5;have Z5:=tk2 H5.right.right;obtain ⟨z2,z3⟩:=Z5)
     | (go_at_call 48;(with_reducible refine zhx r1 r2 hx H5 ?_);intro w6 H6 I6)
     | fail)
    go_end0
    exact HH.out none _ (L_ ztc) (z3k H6) ((Ik.trans I5).trans I6)
  | some M =>
   obtain ⟨y0,y1⟩:=zb5 Hk
   by_cases hlt:(i:Int)<(wn:Int)
   ·obtain ⟨p,s,hp,hs,D⟩:=hlp.out.step (by have:=HWN.out;omega)
    obtain ⟨⟨e1,e2⟩,pn,pf⟩:=p
    obtain ⟨⟨x1,x2⟩,⟨⟨u1,u2⟩,⟨p1,p2⟩,⟨q1,q2⟩,ct,ht⟩,sf⟩:=s
    have D:=L_ D
    obtain ⟨j,hj⟩:∃ j,i=j+1:=⟨i - 1,by have:=hi.out;omega⟩
    have hsub:(i:Int) - 1=(j:Int):=by omega
    have hj0:(0:Int)≤(j:Int):=by omega
    have hjn:(j:Int)<(wn:Int):=by omega
    have KR:Sat (zdm (.slice (some ⟨g,0,none⟩) wn c) (way.map zlo)*(zav x (some M)*(pts bx (.cells #[.int .i64 l1,.int .i64 l2] 29 (0,0))*(pts (bx+1) (.cells #[.int .i64 r1,.int .i64 r2] 29 (0,0))*F)))) wr:=Hk.of_eq (by unfold zdm;ac_rfl)
    have C:=zik KR i (x1:=x1) (x2:=x2) (u1:=u1) (u2:=u2) (p1:=p1) (p2:=p2) (q1:=q1) (q2:=q2) (ct:=ct) (ht:=ht) (by rw [List.getElem?_map,hs];rfl)
    obtain ⟨d0,d1,d2,d3,d4,d5,d6,d7,d8,d9⟩:=C
    have KN:=pa_new (Hk.new (.cells #[.int .i64 x1,.int .i64 x2,.int .i64 u1,.int .i64 u2,.int .i64 p1,.int .i64 p2,.int .i64 q1,.int .i64 q2,.int .i64 ct,.int .i64 ht] 94))
    have JN:=io1 KN Ik
    have HP:=L_ hp
    have HJ:=L_ hj
    have hs:=L_ hs
    clear hp hj KR
    go_upto_region 5 with fail
    clear d0 d1 d2 d3 d4 d5 d6 d7 d8 d9
    clear b0 b1 b2 b3 y0 y1 Hk Ik
    generalize wr.alloc _=w3 at *
    generalize wr.heap.size=b9 at *
    have KN9:Sat (pts b9 (.cells #[.int .i64 x1,.int .i64 x2,.int .i64 u1,.int .i64 u2,.int .i64 p1,.int .i64 p2,.int .i64 q1,.int .i64 q2,.int .i64 ct,.int .i64 ht] 94 (0,0))*(zdm (.slice (some ⟨g,0,none⟩) wn c) (way.map zlo)*(zav x (some M)*(pts bx (.cells #[.int .i64 l1,.int .i64 l2] 29 (0,0))*(pts (bx+1) (.cells #[.int .i64 r1,.int .i64 r2] 29 (0,0))*F))))) w3:=KN.of_eq (by unfold zdm;ac_rfl)
    have C:=nd10 KN9
    obtain ⟨d0,d1,d2,d3,d4,d5,d6,d7,d8,d9⟩:=C
    have C:=zik KN9.right j (x1:=e1) (x2:=e2) (u1:=pn.up.1) (u2:=pn.up.2) (p1:=pn.left.1) (p2:=pn.left.2) (q1:=pn.right.1) (q2:=pn.right.2) (ct:=pn.count) (ht:=pn.height) (by rw [List.getElem?_map];have:=HP.out;rw [HJ.out,Nat.add_sub_cancel] at this;rw [this];rfl)
    obtain ⟨a0,a1,-⟩:=C
    obtain ⟨b0,b1⟩:=tk2 KN.right
    obtain ⟨b2,b3⟩:=tk2 KN.right.right
    have Hn:=fun n=>KN.drewN n
    have In:=fun n=>JN.drewN n
    have EQ:=fun W=>zci e1 e2 p1 p2 W
    obtain ⟨eq,heq⟩:∃ e,e=decide ((e1,e2)=(p1,p2)):=⟨_,rfl⟩
    rw [←heq] at EQ
    have HE:=L_ heq
    clear heq KN9 KN JN
    cases eq with
    | true =>
     obtain ⟨⟨s,ts,ks,hr,fr,br,bs,nx⟩⟩:Sq.xd0 m0 (some M) all A B way i Lt Rt (x1,x2) (q1,q2):=by
      rcases D.out with ⟨_,h⟩ | ⟨h,_⟩
      ·exact h
      ·exact absurd (of_decide_eq_true HE.out.symm) h
     have HN:Hid ((Rt).ht+(s).ht≤(Rt).ht+(s).ht):=L_ (Nat.le_refl _)
     have AL:Hid (∀ M',some M=some M'→((r1,r2):Tk)=(Rt).top∧((q1,q2):Tk)=(s).top):=L_ fun M' e=>⟨(al.out M rfl).2,hr⟩
     have FRR:=L_ fr
     have BB:Hid ((Rt).Bal∧(s).Bal):=L_ ⟨br,bs⟩
     have NX:=L_ nx
     have HI:=L_ hi0
     clear hr fr br bs nx HE D
     go_wp2_with fail
     go_quiet (fail)
     go_upto_region 3 with (go_at_call 52;(refine zf2 _ (Rt) (s) r1 r2 x1 x2 q1 q2 HN AL FRR BB hx (Hn _) ?_);intro m5 v1 v2 t w5 D5 H5 I5;have J5:=(In _).trans I5;obtain ⟨f0,f1⟩:=zgf H5.right.right;obtain ⟨c0,c1⟩:=tk2 H5.right.right)
     have KE:=z3l (pa_r (.int .i64 v1) (.int .i64 v2) H5)
     have JE:=zay (b:=bx+1) (.int .i64 v1) (.int .i64 v2) J5
     clear b0 b1 b2 b3 d0 d1 d2 d3 d4 d5 d6 d7 d8 d9 a0 a1 EQ Hn In
     go_wp2_with fail
     go_roundw
     case rel=>exact ⟨i+1,m5,Lt,t,l1,l2,v1,v2,L_ (NX.out m5 t (v1,v2) D5.out),L_ (fun M' e=>⟨(al.out M rfl).1,(D5.out.2.2 M' e).1⟩),L_ (by have:=hi.out;omega),by go_num,KE,JE⟩
     case measure=>simp [RowKit.intOf];omega
    | false =>
     obtain ⟨⟨s,ts,ks,hr,fr,br,bs,nx⟩⟩:Sq.xd1 m0 (some M) all A B way i Lt Rt (x1,x2) (p1,p2):=by
      rcases D.out with ⟨h,_⟩ | ⟨_,h⟩
      ·exact absurd h (of_decide_eq_false HE.out.symm)
      ·exact h
     have HN:Hid ((s).ht+(Lt).ht≤(s).ht+(Lt).ht):=L_ (Nat.le_refl _)
     have AL:Hid (∀ M',some M=some M'→((p1,p2):Tk)=(s).top∧((l1,l2):Tk)=(Lt).top):=L_ fun M' e=>⟨hr,(al.out M rfl).1⟩
     have FRR:=L_ fr
     have BB:Hid ((s).Bal∧(Lt).Bal):=L_ ⟨br,bs⟩
     have NX:=L_ nx
     have HI:=L_ hi0
     clear hr fr br bs nx HE D
     go_wp2_with fail
     go_quiet (fail)
     go_upto_region 3 with (go_at_call 52;(refine zf2 _ (s) (Lt) p1 p2 x1 x2 l1 l2 HN AL FRR BB hx (Hn _) ?_);intro m5 v1 v2 t w5 D5 H5 I5;have J5:=(In _).trans I5;obtain ⟨f0,f1⟩:=zgf H5.right;obtain ⟨c0,c1⟩:=tk2 H5.right)
     have KE:=z3l (pa_l (.int .i64 v1) (.int .i64 v2) H5)
     have JE:=zay (b:=bx) (.int .i64 v1) (.int .i64 v2) J5
     clear b0 b1 b2 b3 d0 d1 d2 d3 d4 d5 d6 d7 d8 d9 a0 a1 EQ Hn In
     go_wp2_with fail
     go_roundw
     case rel=>exact ⟨i+1,m5,t,Rt,v1,v2,r1,r2,L_ (NX.out m5 t (v1,v2) D5.out),L_ (fun M' e=>⟨(D5.out.2.2 M' e).1,(al.out M rfl).2⟩),L_ (by have:=hi.out;omega),by go_num,KE,JE⟩
     case measure=>simp [RowKit.intOf];omega
   ·have HW:way.length≤i:=by have:=HWN.out;omega
    obtain ⟨h1,h2,h3,h4,h5⟩:=hlp.out.done HW
    have AL1:Hid (∀ M',some M=some M'→(l1,l2)=Lt.top):=L_ fun M' e=>(al.out M' e).1
    have FR1:=L_ h5
    have ER:=L_ ((al.out M rfl).2)
    clear h1 h2 h3 h4 h5
    go_wp2_with (first
     | (go_at_call 48;(with_reducible refine zl5 Lt l1 l2 AL1 FR1 hx Hk ?_);intro m5 w5 D5 H5 I5;have Z5:=tk2 H5.right.right;obtain ⟨z2,z3⟩:=Z5;have FR2:=L_ (xfu (D5.out.1.perm (List.Perm.swap _ _ _) (List.Perm.refl _)));have AL2:Hid (∀ M',m5=some M'→(r1,r2)=Rt.top):=L_ fun M' e=>ER.out)
     | (go_at_call 48;(with_reducible refine zl5 Rt r1 r2 AL2 FR2 hx H5 ?_);intro m6 w6 D6 H6 I6)
     | fail)
    go_end0
    exact HH.out m6 _ (L_ (z3j hlp.out HW D5.out D6.out)) (z3k H6) ((Ik.trans I5).trans I6)
end
section
variable {x:Sx} {M:Mp} {F:Asn} {w:World} {R:Ending→World→Prop}
theorem zfp {A:Asn} {g wn c bx:Nat} {tk:TypeId} {l:List Sp} {a b u1 u2 p1 p2 q1 q2 ct ht:Int} (h:l[0]?=some ((a,b),⟨(u1,u2),(p1,p2),(q1,q2),ct,ht⟩)) (H:Sat (A*(zdm (.slice (some ⟨g,0,none⟩) wn c) l*(pts bx (.cells #[.int .i64 a,.int .i64 b] tk (0,0))*F))) w) :
  (w.cell? ⟨bx,0,none⟩=some (.int .i64 a)∧w.cell? ⟨bx,1,none⟩=some (.int .i64 b))∧(w.cell? ⟨g,4,none⟩=some (.int .i64 p1)∧w.cell? ⟨g,5,none⟩=some (.int .i64 p2))∧(w.cell? ⟨g,6,none⟩=some (.int .i64 q1)∧w.cell? ⟨g,7,none⟩=some (.int .i64 q2)):=by
 obtain ⟨_,_,_,_,c4,c5,c6,c7,_,_⟩:=zik H.right 0 h
 exact ⟨tk2 H.right.right,⟨c4,c5⟩,⟨c6,c7⟩⟩
theorem zol {A B:Asn} (H:Sat (A*(B*F)) w):Sat (B*(A*F)) w:=H.of_eq (by ac_rfl)
theorem xde {A B:Asn} {v:Value} {l:List Sp} (H:Sat (zdm v l*(A*(B*F))) w):Sat (A*(zdm v l*(B*F))) w:=H.of_eq (by unfold zdm;ac_rfl)
theorem xdf {A B C:Asn} (H:Sat (A*(B*(C*F))) w):Sat (A*F) w:=(H.of_eq (show _=(B*C)*(A*F) from by ac_rfl)).right
theorem zsh (tr:Tk→Sq.T) (a b:Int) {n e:Int} (hr:Hid ((e=Sq.zfw M (a,b)∧e≠0∧n=0)∨(Sq.zfw M (a,b)=0∧e=0∧n=(Sq.fj (tr (a,b)).toks (a,b):Nat)))) (hno:Hid (e≠0∨n=0)) (hT:Hid (Sq.TF M tr)) (hx:Hid x.Ok) (H:Sat (zav x (some M)*F) w)
  (h:∀ w',Sat (zav x (some M)*F) w'→Io w w'→R (.returned (.int .i64 e)) w') :
  Calls Tryz.prog 15 #[.pointer (some ⟨x.s,0,none⟩),tkA a b] w R:=by
 have HH:=L_ h
 have H1:=zol (H.new (.cells #[.int .i64 a,.int .i64 b] 29))
 have I1:=io1 H1 (Io.refl w)
 clear h H
 go_enter Tryz.func15,Tryz.ntmps15
 go_upto_region 1 with fail
 generalize w.alloc _=w1 at *
 generalize w.heap.size=bx at *
 obtain ⟨y0,y1⟩:=tk2 H1.right
 go_upto_region 2 with (go_at_call 37;(with_reducible refine zf1 tr a b hr hT hx H1 ?_);intro w2 H2 I2;have J2:=I1.trans I2)
 clear y0 y1 H1 I1 I2
 have he:e=30∨e=181∨(e=0∧n=0):=by
  rcases hr.out with ⟨h1,h2,h3⟩ | ⟨h1,h2,h3⟩
  ·rcases zd6 M (a,b) with ⟨q1,q2⟩ | ⟨q1,q2,q3⟩ | ⟨q1,q2,q3⟩
   ·exact .inl (h1.trans q1)
   ·exact .inr (.inl (h1.trans q1))
   ·exact absurd (h1.trans q1) h2
  ·rcases hno.out with h | h
   ·exact absurd h2 h
   ·exact .inr (.inr ⟨h2,h⟩)
 have FIN:=L_ (HH.out w2 (zol H2).right J2)
 clear HH hr hno
 rcases he with rfl | rfl | ⟨rfl,rfl⟩
 ·go_wp2_with fail
  first | exact FIN.out | exact bodyPost_ret (v:=.int .i64 30) (by simp [results,Tryz.results15,go_sem]) rfl FIN.out
 ·go_wp2_with fail
  first | exact FIN.out | exact bodyPost_ret (v:=.int .i64 181) (by simp [results,Tryz.results15,go_sem]) rfl FIN.out
 ·go_wp2_with fail
  first | exact FIN.out | exact bodyPost_ret (v:=.int .i64 0) (by simp [results,Tryz.results15,go_sem]) rfl FIN.out
theorem zzq (tr:Tk→Sq.T) (a b:Int) {l r:Sq.T} {z:Sq.Z} (ht:Hid (tr (a,b)=z.zcm (.node l (a,b) r))) (hta:Hid (Sq.zed M (z.zcm (.node l (a,b) r)) (a,b))) (he:Hid (Sq.zfw M (a,b)=0)) (hno:Hid (Sq.fj (tr (a,b)).toks (a,b)≠0)) (hT:Hid (Sq.TF M tr)) (hx:Hid x.Ok) (H:Sat (zav x (some M)*F) w)
  (h:∀ m' w',Hid (z7t (some M) m' (z.zcm (.node l (a,b) r)).toks (z.ahead++l.toks) (((a,b)::r.toks)++z.behind))→Sat (zav x m'*F) w'→Io w w'→R (.returned (.int .i64 (zi3 m'))) w') :
  Calls Tryz.prog 15 #[.pointer (some ⟨x.s,0,none⟩),tkA a b] w R:=by
 have HH:=L_ h
 have H1:=zol (H.new (.cells #[.int .i64 a,.int .i64 b] 29))
 have I1:=io1 H1 (Io.refl w)
 obtain ⟨n,hn⟩:∃ n:Nat,n=Sq.fj (tr (a,b)).toks (a,b):=⟨_,rfl⟩
 have HR:Hid (((0:Int)=Sq.zfw M (a,b)∧(0:Int)≠0∧(n:Int)=0)∨(Sq.zfw M (a,b)=0∧(0:Int)=0∧(n:Int)=(Sq.fj (tr (a,b)).toks (a,b):Nat))):=L_ (.inr ⟨he.out,rfl,by rw [hn]⟩)
 rw [←hn] at hno
 have hn0:¬ (n:Int)=0:=by have:=hno.out;omega
 clear h H hn
 go_enter Tryz.func15,Tryz.ntmps15
 go_upto_region 1 with fail
 generalize w.alloc _=w1 at *
 generalize w.heap.size=bx at *
 obtain ⟨y0,y1⟩:=tk2 H1.right
 go_upto_region 2 with (go_at_call 37;(with_reducible refine zf1 tr a b HR hT hx H1 ?_);intro w2 H2 I2;have J2:=I1.trans I2)
 clear y0 y1 H1 I1 I2 HR
 obtain ⟨y0,y1⟩:=tk2 H2.right
 obtain ⟨way,xbd⟩:∃ way,way=z.way l (a,b) r Sq.nob:=⟨_,rfl⟩
 obtain ⟨⟨u1,u2⟩,hu⟩:∃ u:Tk,u=z.up Sq.nob:=⟨_,rfl⟩
 obtain ⟨⟨p1,p2⟩,hp⟩:∃ u:Tk,u=l.top:=⟨_,rfl⟩
 obtain ⟨⟨q1,q2⟩,hq⟩:∃ u:Tk,u=r.top:=⟨_,rfl⟩
 obtain ⟨ct,hct⟩:∃ u:Int,u=((l.cnt+r.cnt+1:Nat):Int):=⟨_,rfl⟩
 obtain ⟨hh,hht⟩:∃ u:Int,u=((max l.ht r.ht+1:Nat):Int):=⟨_,rfl⟩
 have W0:Hid (way[0]?=some ⟨(a,b),⟨(u1,u2),(p1,p2),(q1,q2),ct,hh⟩,Sq.nob⟩):=L_ (by rw [xbd,hu,hp,hq,hct,hht];rfl)
 have HP:=L_ hp
 have HQ:=L_ hq
 have HW:Hid (zry M way):=L_ (by rw [xbd];exact Sq.zhv hta.out)
 have HWL:Hid (1≤way.length∧way.length≤255):=L_ ⟨by have:=W0.out;have:=(List.getElem?_eq_some_iff.1 this).1;omega,HW.out.len⟩
 have HWAY:=L_ xbd
 have H0:Hid (way[0]?=some ⟨(a,b),⟨(u1,u2),(p1,p2),(q1,q2),ct,hh⟩,Sq.nob⟩∧(⟨(a,b),⟨(u1,u2),(p1,p2),(q1,q2),ct,hh⟩,Sq.nob⟩:Step).fr=Sq.nob):=L_ ⟨W0.out,rfl⟩
 have HK:Hid ((⟨(a,b),⟨(u1,u2),(p1,p2),(q1,q2),ct,hh⟩,Sq.nob⟩:Step).k=(a,b)):=L_ rfl
 clear xbd hu hp hq hct hht
 go_upto_region 5 with (go_at_call 50;(with_reducible refine zsk way HW _ H0 a b HK hx H2 ?_);intro v w3 H3 I3;have J3:=J2.trans I3)
 obtain ⟨g,c,hv⟩:∃ g c,v=.slice (some ⟨g,0,none⟩) (way.map zlo).length c:=zd5 H3 (by rw [List.length_map];have:=HWL.out.1;omega)
 rw [List.length_map] at hv
 subst hv
 obtain ⟨wn,hwn⟩:∃ wn:Nat,wn=way.length:=⟨_,rfl⟩
 rw [←hwn] at H3
 have hwi:(0:Int)<(wn:Int):=by have:=HWL.out.1;omega
 have hw0:0<wn:=by have:=HWL.out.1;omega
 have EW:Hid (wn=way.length):=L_ hwn
 rw [←hwn]
 have K3:=xde H3
 clear y0 y1 H2 J2 I3 H3 hwn HW H0 HK
 obtain ⟨y0,y1⟩:=zb5 K3
 go_upto_region 6 with fail
 clear y0 y1
 have Kd:=K3.drew
 have Jd:=J3.drew
 clear K3 J3
 have M0:Hid ((way.map zlo)[0]?=some ((a,b),⟨(u1,u2),(p1,p2),(q1,q2),ct,hh⟩)):=L_ (by rw [List.getElem?_map,W0.out];rfl)
 have S0:=zfp M0.out Kd
 refine rh Kd (fun W Kd=>zfp M0.out Kd) fun hHeld=>?_
 refine tk ?_ ?_ [0,1,2,3,4,5,6,7,9,10,11,12,13,14] ?_ hHeld ?_;rotate_left 2;exact tt
 refine rd [8] (rc fun K hK=>?_)
 go_simp
 go_at_call 46;(with_reducible refine zan Kd ?_);intro w5 H5 I5;have S5:=zfp M0.out H5
 refine hK.out _ _ (by exact S5) fun hHeld=>?_
 clear hK K
 try simp only [sp]
 refine rd [15] (rc fun K hK=>?_)
 go_simp
 have FR:=L_ (Sq.zwb hta.out);have HN:Hid ((Sq.T.nil).ht+(r).ht≤(Sq.T.nil).ht+(r).ht):=L_ (Nat.le_refl _);have AL:Hid (∀ M',some M=some M'→((4294967295,4294967295):Tk)=(Sq.T.nil).top∧((q1,q2):Tk)=(r).top):=L_ (fun _ _=>⟨rfl,HQ.out⟩);have BB:Hid ((Sq.T.nil).Bal∧(r).Bal):=L_ ⟨trivial,(Sq.zgb hta.out).2.1⟩;go_at_call 52;(refine zf2 _ (Sq.T.nil) (r) 4294967295 4294967295 a b q1 q2 HN AL FR BB hx H5 ?_);intro m1 v1 v2 t w6 D6 H6 I6;have S6:=zfp M0.out H6
 refine hK.out _ _ (by exact S6) fun hHeld=>?_
 clear hK K
 try simp only [sp]
 refine rd [16] (rc fun K hK=>?_)
 go_simp
 have HLP:Hid (Sq.ze2 (some M) m1 _ _ _ way 1 l t):=L_ (by rw [HWAY.out];exact Sq.z9f hta.out D6.out);have AL2:Hid (∀ M',m1=some M'→((p1,p2):Tk)=(l).top∧((v1,v2):Tk)=(t).top):=L_ (fun M' e=>⟨HP.out,(D6.out.2.2 M' e).1⟩);go_at_call 51;(refine zsl way l t p1 p2 v1 v2 _ HLP AL2 HWL hx H6 ?_);intro m7 w7 D7 H7 I7;have S7:=zfp M0.out H7
 refine hK.out _ _ (by exact S7) fun hHeld=>?_
 clear hK K
 try simp only [sp]
 refine wpAnyH_done (by kernel_rfl) ?_ _
 have JE:=((Jd.trans I5).trans I6).trans I7
 clear S0 hHeld
 obtain ⟨⟨y0,y1⟩,-⟩:=zeg H7
 have FIN:=L_ (HH.out m7 w7 D7 (xdf H7) JE)
 go_wp2_with fail
 first | exact FIN.out | exact bodyPost_ret (v:=.int .i64 (zi3 m7)) (by simp [results,Tryz.results15,go_sem]) rfl FIN.out
theorem zsv (tr:Tk→Sq.T) (a b:Int) {n e:Int} (hr:Hid ((e=Sq.zfw M (a,b)∧e≠0∧n=0)∨(Sq.zfw M (a,b)=0∧e=0∧n=(Sq.fj (tr (a,b)).toks (a,b):Nat)))) (hno:Hid (e≠0∨n=((tr (a,b)).cnt:Int) - 1)) (hT:Hid (Sq.TF M tr)) (hx:Hid x.Ok) (H:Sat (zav x (some M)*F) w)
  (h:∀ w',Sat (zav x (some M)*F) w'→Io w w'→R (.returned (.int .i64 e)) w') :
  Calls Tryz.prog 24 #[.pointer (some ⟨x.s,0,none⟩),tkA a b] w R:=by
 have HH:=L_ h
 have H1:=zol (H.new (.cells #[.int .i64 a,.int .i64 b] 29))
 have I1:=io1 H1 (Io.refl w)
 clear h H
 go_enter Tryz.func24,Tryz.ntmps24
 go_upto_region 1 with fail
 generalize w.alloc _=w1 at *
 generalize w.heap.size=bx at *
 obtain ⟨y0,y1⟩:=tk2 H1.right
 go_upto_region 2 with (go_at_call 37;(with_reducible refine zf1 tr a b hr hT hx H1 ?_);intro w2 H2 I2;have J2:=I1.trans I2)
 clear y0 y1 H1 I1 I2
 have he:e=30∨e=181∨(e=0∧n=((tr (a,b)).cnt:Int) - 1∧Sq.zfw M (a,b)=0):=by
  rcases hr.out with ⟨h1,h2,h3⟩ | ⟨h1,h2,h3⟩
  ·rcases zd6 M (a,b) with ⟨q1,q2⟩ | ⟨q1,q2,q3⟩ | ⟨q1,q2,q3⟩
   ·exact .inl (h1.trans q1)
   ·exact .inr (.inl (h1.trans q1))
   ·exact absurd (h1.trans q1) h2
  ·rcases hno.out with h | h
   ·exact absurd h2 h
   ·exact .inr (.inr ⟨h2,h,h1⟩)
 rcases he with rfl | rfl | ⟨rfl,hn,hb⟩
 ·have FIN:=L_ (HH.out w2 (zol H2).right J2)
  clear HH hr hno
  go_wp2_with fail
  first | exact FIN.out | exact bodyPost_ret (v:=.int .i64 30) (by simp [results,Tryz.results24,go_sem]) rfl FIN.out
 ·have FIN:=L_ (HH.out w2 (zol H2).right J2)
  clear HH hr hno
  go_wp2_with fail
  first | exact FIN.out | exact bodyPost_ret (v:=.int .i64 181) (by simp [results,Tryz.results24,go_sem]) rfl FIN.out
 ·have HN:=L_ hn
  have HB:=L_ hb
  clear hn hb hr hno
  obtain ⟨y0,y1⟩:=tk2 H2.right
  go_upto_region 5 with (go_at_call 38;(with_reducible refine zj0 tr a b hT hx H2 ?_);intro r1 r2 v1 v2 v3 v4 v5 v6 v7 v8 e2 w3 hr H3 I3;have J3:=J2.trans I3)
  clear y0 y1 H2 J2 I3
  obtain ⟨rfl,hv,hv0,hv1⟩:e2=0∧v7=((tr (a,b)).cnt:Int)∧0≤v7∧v7≤250:=by
   rcases hr.out with ⟨h1,h2,_⟩ | ⟨_,h2,h3,_,_,h6⟩
   ·exact absurd (h1.trans HB.out) h2
   ·have ht:=hT.out _ h3
    have e:v7=_:=congrArg Nd.count h6
    rw [Sq.T.zyp] at e
    have:=ht.cnt
    exact ⟨h2,e,by omega,by omega⟩
  clear hr
  have hn1:n=v7 - 1:=HN.out.trans (by rw [hv])
  have FIN:=L_ (HH.out w3 (zol H3).right J3)
  clear HH HN HB hv hT
  subst hn1
  go_wp2_with fail
  first | exact FIN.out | exact bodyPost_ret (v:=.int .i64 0) (by simp [results,Tryz.results24,go_sem]) rfl FIN.out
theorem zz1 (tr:Tk→Sq.T) (a b:Int) {l r:Sq.T} {z:Sq.Z} (ht:Hid (tr (a,b)=z.zcm (.node l (a,b) r))) (hta:Hid (Sq.zed M (z.zcm (.node l (a,b) r)) (a,b))) (he:Hid (Sq.zfw M (a,b)=0)) (hno:Hid (Sq.fj (tr (a,b)).toks (a,b)+1≠(tr (a,b)).cnt)) (hT:Hid (Sq.TF M tr)) (hx:Hid x.Ok) (H:Sat (zav x (some M)*F) w)
  (h:∀ m' w',Hid (z7t (some M) m' (z.zcm (.node l (a,b) r)).toks (z.ahead++(l.toks++[(a,b)])) (r.toks++z.behind))→Sat (zav x m'*F) w'→Io w w'→R (.returned (.int .i64 (zi3 m'))) w') :
  Calls Tryz.prog 24 #[.pointer (some ⟨x.s,0,none⟩),tkA a b] w R:=by
 have HH:=L_ h
 have H1:=zol (H.new (.cells #[.int .i64 a,.int .i64 b] 29))
 have I1:=io1 H1 (Io.refl w)
 obtain ⟨n,hn⟩:∃ n:Nat,n=Sq.fj (tr (a,b)).toks (a,b):=⟨_,rfl⟩
 have HR:Hid (((0:Int)=Sq.zfw M (a,b)∧(0:Int)≠0∧(n:Int)=0)∨(Sq.zfw M (a,b)=0∧(0:Int)=0∧(n:Int)=(Sq.fj (tr (a,b)).toks (a,b):Nat))):=L_ (.inr ⟨he.out,rfl,by rw [hn]⟩)
 rw [←hn] at hno
 clear h H hn
 go_enter Tryz.func24,Tryz.ntmps24
 go_upto_region 1 with fail
 generalize w.alloc _=w1 at *
 generalize w.heap.size=bx at *
 obtain ⟨y0,y1⟩:=tk2 H1.right
 go_upto_region 2 with (go_at_call 37;(with_reducible refine zf1 tr a b HR hT hx H1 ?_);intro w2 H2 I2;have J2:=I1.trans I2)
 clear y0 y1 H1 I1 I2 HR
 obtain ⟨y0,y1⟩:=tk2 H2.right
 have HB:=he
 go_upto_region 5 with (go_at_call 38;(with_reducible refine zj0 tr a b hT hx H2 ?_);intro r1 r2 v1 v2 v3 v4 v5 v6 v7 v8 e2 w3 hr H3 I3;have J3:=J2.trans I3)
 clear y0 y1 H2 J2 I3
 obtain ⟨rfl,hv,hv0,hv1⟩:e2=0∧v7=((tr (a,b)).cnt:Int)∧0≤v7∧v7≤250:=by
  rcases hr.out with ⟨h1,h2,_⟩ | ⟨_,h2,h3,_,_,h6⟩
  ·exact absurd (h1.trans HB.out) h2
  ·have ht:=hT.out _ h3
   have e:v7=_:=congrArg Nd.count h6
   rw [Sq.T.zyp] at e
   have:=ht.cnt
   exact ⟨h2,e,by omega,by omega⟩
 clear hr
 have hn0:¬ (n:Int)=v7 - 1:=by have:=hno.out;omega
 obtain ⟨y0,y1⟩:=tk2 H3.right
 obtain ⟨way,xbd⟩:∃ way,way=z.way l (a,b) r Sq.nob:=⟨_,rfl⟩
 obtain ⟨⟨u1,u2⟩,hu⟩:∃ u:Tk,u=z.up Sq.nob:=⟨_,rfl⟩
 obtain ⟨⟨p1,p2⟩,hp⟩:∃ u:Tk,u=l.top:=⟨_,rfl⟩
 obtain ⟨⟨q1,q2⟩,hq⟩:∃ u:Tk,u=r.top:=⟨_,rfl⟩
 obtain ⟨ct,hct⟩:∃ u:Int,u=((l.cnt+r.cnt+1:Nat):Int):=⟨_,rfl⟩
 obtain ⟨hh,hht⟩:∃ u:Int,u=((max l.ht r.ht+1:Nat):Int):=⟨_,rfl⟩
 have W0:Hid (way[0]?=some ⟨(a,b),⟨(u1,u2),(p1,p2),(q1,q2),ct,hh⟩,Sq.nob⟩):=L_ (by rw [xbd,hu,hp,hq,hct,hht];rfl)
 have HP:=L_ hp
 have HQ:=L_ hq
 have HW:Hid (zry M way):=L_ (by rw [xbd];exact Sq.zhv hta.out)
 have HWL:Hid (1≤way.length∧way.length≤255):=L_ ⟨by have:=W0.out;have:=(List.getElem?_eq_some_iff.1 this).1;omega,HW.out.len⟩
 have HWAY:=L_ xbd
 have H0:Hid (way[0]?=some ⟨(a,b),⟨(u1,u2),(p1,p2),(q1,q2),ct,hh⟩,Sq.nob⟩∧(⟨(a,b),⟨(u1,u2),(p1,p2),(q1,q2),ct,hh⟩,Sq.nob⟩:Step).fr=Sq.nob):=L_ ⟨W0.out,rfl⟩
 have HK:Hid ((⟨(a,b),⟨(u1,u2),(p1,p2),(q1,q2),ct,hh⟩,Sq.nob⟩:Step).k=(a,b)):=L_ rfl
 clear xbd hu hp hq hct hht
 go_upto_region 8 with (go_at_call 50;(with_reducible refine zsk way HW _ H0 a b HK hx H3 ?_);intro v w4 H4 I4;have J4:=J3.trans I4)
 obtain ⟨g,c,hv⟩:∃ g c,v=.slice (some ⟨g,0,none⟩) (way.map zlo).length c:=zd5 H4 (by rw [List.length_map];have:=HWL.out.1;omega)
 rw [List.length_map] at hv
 subst hv
 obtain ⟨wn,hwn⟩:∃ wn:Nat,wn=way.length:=⟨_,rfl⟩
 rw [←hwn] at H4
 have hwi:(0:Int)<(wn:Int):=by have:=HWL.out.1;omega
 have hw0:0<wn:=by have:=HWL.out.1;omega
 have EW:Hid (wn=way.length):=L_ hwn
 rw [←hwn]
 have K3:=xde H4
 clear y0 y1 H3 J3 I4 H4 hwn hv hv0 hv1 HW H0 HK
 obtain ⟨y0,y1⟩:=zb5 K3
 go_upto_region 9 with fail
 clear y0 y1
 have Kd:=K3.drew
 have Jd:=J4.drew
 clear K3 J4
 have M0:Hid ((way.map zlo)[0]?=some ((a,b),⟨(u1,u2),(p1,p2),(q1,q2),ct,hh⟩)):=L_ (by rw [List.getElem?_map,W0.out];rfl)
 have S0:=zfp M0.out Kd
 refine rh Kd (fun W Kd=>zfp M0.out Kd) fun hHeld=>?_
 refine tk ?_ ?_ [0,1,2,3,4,5,6,7,8,11,12,13,14,15] ?_ hHeld ?_;rotate_left 2;exact tt
 refine rd [9] (rc fun K hK=>?_)
 go_simp
 go_at_call 46;(with_reducible refine zan Kd ?_);intro w5 H5 I5;have S5:=zfp M0.out H5
 refine hK.out _ _ (by exact S5) fun hHeld=>?_
 clear hK K
 try simp only [sp]
 refine rd [10] (rc fun K hK=>?_)
 go_simp
 have FR:=L_ (Sq.zxy hta.out);have HN:Hid ((l).ht+(Sq.T.nil).ht≤(l).ht+(Sq.T.nil).ht):=L_ (Nat.le_refl _);have AL:Hid (∀ M',some M=some M'→((p1,p2):Tk)=(l).top∧((4294967295,4294967295):Tk)=(Sq.T.nil).top):=L_ (fun _ _=>⟨HP.out,rfl⟩);have BB:Hid ((l).Bal∧(Sq.T.nil).Bal):=L_ ⟨(Sq.zgb hta.out).1,trivial⟩;go_at_call 52;(refine zf2 _ (l) (Sq.T.nil) p1 p2 a b 4294967295 4294967295 HN AL FR BB hx H5 ?_);intro m1 v1 v2 t w6 D6 H6 I6;have S6:=zfp M0.out H6
 refine hK.out _ _ (by exact S6) fun hHeld=>?_
 clear hK K
 try simp only [sp]
 refine rd [16] (rc fun K hK=>?_)
 go_simp
 have HLP:Hid (Sq.ze2 (some M) m1 _ _ _ way 1 t r):=L_ (by rw [HWAY.out];exact Sq.xcq hta.out D6.out);have AL2:Hid (∀ M',m1=some M'→((v1,v2):Tk)=(t).top∧((q1,q2):Tk)=(r).top):=L_ (fun M' e=>⟨(D6.out.2.2 M' e).1,HQ.out⟩);go_at_call 51;(refine zsl way t r v1 v2 q1 q2 _ HLP AL2 HWL hx H6 ?_);intro m7 w7 D7 H7 I7;have S7:=zfp M0.out H7
 refine hK.out _ _ (by exact S7) fun hHeld=>?_
 clear hK K
 try simp only [sp]
 refine wpAnyH_done (by kernel_rfl) ?_ _
 have JE:=((Jd.trans I5).trans I6).trans I7
 clear S0 hHeld
 obtain ⟨⟨y0,y1⟩,-⟩:=zeg H7
 have FIN:=L_ (HH.out m7 w7 D7 (xdf H7) JE)
 go_wp2_with fail
 first | exact FIN.out | exact bodyPost_ret (v:=.int .i64 (zi3 m7)) (by simp [results,Tryz.results24,go_sem]) rfl FIN.out
end
end Go.Proofs.YtfknjmoekbabcaaGreatDoor
namespace Go.Proofs.YtfknjmoekbabcaaGreatDoor
open Go.RowKit Go.Lib
open Sq (Tk Nd Mp LL)
def SqL (x:Sx) (L:LL):Asn:=ex fun M:{M:Mp // Sq.Ls M L}=>zav x (some M.1)
def SqO (x:Sx):Option LL→Asn
 | some L=>SqL x L
 | none=>zav x none
def xag (o:Option LL) (e:Int):Int:=match o with
 | some _=>e
 | none=>2
section
variable {x:Sx} {L:LL} {F:Asn} {w:World} {R:Ending→World→Prop}
theorem za7:Sat (SqL x L*F) w↔∃ M,Sq.Ls M L∧Sat (zav x (some M)*F) w:=by
 have e0:SqL x L*F=(ex fun M:{M:Mp // Sq.Ls M L}=>zav x (some M.1))*F:=rfl
 rw [e0,zde]
 constructor
 ·rintro ⟨⟨M,h⟩,k⟩;exact ⟨M,h,k⟩
 ·rintro ⟨M,h,k⟩;exact ⟨⟨M,h⟩,k⟩
theorem zx9 {m:Option Mp} {o:LL} (hm:∀ M,m=some M→Sq.Ls M o) (H:Sat (zav x m*F) w):Sat (SqO x (m.map fun _=>o)*F) w:=by
 cases m with
 | none=>exact H
 | some M=>exact za7.2 ⟨M,hm M rfl,H⟩
theorem zqq (m:Option Mp) (o:LL) (e:Int):xag (m.map fun _=>o) e=Sq.orErr m e:=by cases m<;>rfl
theorem zlm {o:Option LL} {L':LL} (ho:o=some L'∨o=none) (room:¬ x.full) (H:Sat (SqO x o*F) w):o=some L':=by
 rcases ho with h | h
 ·exact h
 ·subst h
  exact absurd (zi4.1 H).1 room
theorem omap {m:Option Mp} {o:LL}:(m.map fun _=>o)=some o∨(m.map fun _=>o)=none:=by cases m<;>simp
theorem z4i (a b:Int) (hx:Hid x.Ok) (H:Sat (SqL x L*F) w)
  (h:∀ o w',Hid (o=some (Sq.zdl L (a,b)).2∨o=none)→Sat (SqO (x.grow 40) o*F) w'→Io w w'→R (.returned (.int .i64 (xag o (Sq.zdl L (a,b)).1))) w') :
  Calls Tryz.prog 13 #[.pointer (some ⟨x.s,0,none⟩),tkA a b] w R:=by
 have HS:=za7.1 H
 clear H
 obtain ⟨M,hl,H⟩:=HS
 refine zzv a b hx H fun e m' w' he H' I=>?_
 have HE:(∀ M',m'=some M'→Sq.Ls M' (Sq.zdl L (a,b)).2)∧e=Sq.orErr m' (Sq.zdl L (a,b)).1:=by
  unfold Sq.zdl
  rcases he.out with ⟨h1,h2,h3⟩ | ⟨h1,h2,h3,h4⟩ | ⟨h1,h2,h3,h4⟩
  ·subst h3
   rw [if_pos h2]
   exact ⟨fun M' e=>by cases e;exact hl,h1⟩
  ·subst h4
   rw [if_neg (not_not_intro h2),if_pos (hl.there.2 h3)]
   exact ⟨fun M' e=>by cases e;exact hl,h1⟩
  ·rw [if_neg (not_not_intro h1),if_neg (fun h=>(hl.there.1 h) h2)]
   refine ⟨fun M' e=>hl.make h1 h2 (h4 M' e).1 (h4 M' e).2,?_⟩
   rw [h3]
   cases m'<;>rfl
 rw [HE.2,←zqq m' (Sq.zdl L (a,b)).2]
 exact h _ w' (L_ omap) (zx9 HE.1 H') I
theorem z4j (a1 b1 a2 b2:Int) (hc:Hid (L.flatten.length≤250)) (hx:Hid x.Ok) (H:Sat (SqL x L*F) w)
  (h:∀ o w',Hid (o=some (Sq.zcw L (a1,b1) (a2,b2)).2∨o=none)→Sat (SqO x o*F) w'→Io w w'→R (.returned (.int .i64 (xag o (Sq.zcw L (a1,b1) (a2,b2)).1))) w') :
  Calls Tryz.prog 14 #[.pointer (some ⟨x.s,0,none⟩),tkA a1 b1,tkA a2 b2] w R:=by
 have HS:=za7.1 H
 clear H
 obtain ⟨M,hl,H⟩:=HS
 obtain ⟨ts,f,rfl⟩:=id hl
 have hc':(Sq.flat ts).length≤250:=hc.out
 have tf:=L_ (f.tf hc')
 by_cases h0:(Sq.two (ts.map Sq.T.toks) (a1,b1) (a2,b2)).2=0
 ·have hb:Sq.ze0 M (a1,b1) (a2,b2)=0:=(hl.beg2 _ _).trans h0
  obtain ⟨⟨_,h1⟩,_,h2⟩:=Sq.xdb.1 h0
  by_cases hs:(Sq.zd8 ts (a1,b1)).top=(Sq.zd8 ts (a2,b2)).top
  ·have e:Sq.zcw (ts.map Sq.T.toks) (a1,b1) (a2,b2)=(1,ts.map Sq.T.toks):=by
    unfold Sq.zcw
    rw [if_neg (not_not_intro h0),if_pos ((Sq.Ls.ztx f h0).1 hs)]
   refine zyc (Sq.zd8 ts) a1 b1 a2 b2 (e:=1) (L_ (.inr ⟨hb,rfl,hs⟩)) tf hx H fun w' H' I=>?_
   exact h (some (ts.map Sq.T.toks)) w' (L_ (by rw [e];exact .inl rfl)) (za7.2 ⟨M,hl,H'⟩) I |> fun k=>by rw [e] at k;exact k
  ·have e:Sq.zcw (ts.map Sq.T.toks) (a1,b1) (a2,b2)=(0,Sq.joined (ts.map Sq.T.toks) (a1,b1) (a2,b2)):=by
    unfold Sq.zcw
    rw [if_neg (not_not_intro h0),if_neg (fun k=>hs ((Sq.Ls.ztx f h0).2 k))]
   have hne:Sq.fi (ts.map Sq.T.toks) (a1,b1)≠Sq.fi (ts.map Sq.T.toks) (a2,b2):=fun k=>hs ((f.zp6 (Sq.zao.1 h1) (Sq.zao.1 h2)).2 k)
   have jl:=f.xba (Sq.zao.1 h1) (Sq.zao.1 h2) hne
   refine z2a (Sq.zd8 ts) a1 b1 a2 b2 (L_ ⟨hb,hs⟩) (L_ ⟨jl.1,by omega⟩) tf hx H fun m' t w' hd H' I=>?_
   have HE:∀ M',m'=some M'→Sq.Ls M' (Sq.zcw (ts.map Sq.T.toks) (a1,b1) (a2,b2)).2:=fun M' e'=>by
    rw [e]
    obtain ⟨g1,g2,g3⟩:=hd.out
    exact Sq.Ls.join f h0 hs g1 g2 (g3 M' e').1 (g3 M' e').2
   have hr:zi3 m'=xag (m'.map fun _=>(Sq.zcw (ts.map Sq.T.toks) (a1,b1) (a2,b2)).2) (Sq.zcw (ts.map Sq.T.toks) (a1,b1) (a2,b2)).1:=by
    rw [zqq,e];cases m'<;>rfl
   rw [hr]
   exact h _ w' (L_ omap) (zx9 HE H') I
 ·have e:Sq.zcw (ts.map Sq.T.toks) (a1,b1) (a2,b2)=((Sq.two (ts.map Sq.T.toks) (a1,b1) (a2,b2)).2,ts.map Sq.T.toks):=by
   unfold Sq.zcw
   rw [if_pos h0]
  refine zyc (Sq.zd8 ts) a1 b1 a2 b2 (e:=(Sq.two (ts.map Sq.T.toks) (a1,b1) (a2,b2)).2) (L_ (.inl ⟨h0,(hl.beg2 _ _).symm⟩)) tf hx H fun w' H' I=>?_
  exact h (some (ts.map Sq.T.toks)) w' (L_ (by rw [e];exact .inl rfl)) (za7.2 ⟨M,hl,H'⟩) I |> fun k=>by rw [e] at k;exact k
theorem zyw (a b:Int) (hc:Hid (L.flatten.length≤250)) (hx:Hid x.Ok) (H:Sat (SqL x L*F) w)
  (h:∀ o w',Hid (o=some (Sq.zdw L (a,b) 0).2∨o=none)→Sat (SqO x o*F) w'→Io w w'→R (.returned (.int .i64 (xag o (Sq.zdw L (a,b) 0).1))) w') :
  Calls Tryz.prog 15 #[.pointer (some ⟨x.s,0,none⟩),tkA a b] w R:=by
 have HS:=za7.1 H
 clear H
 obtain ⟨M,hl,H⟩:=HS
 obtain ⟨ts,f,rfl⟩:=id hl
 have hc':(Sq.flat ts).length≤250:=hc.out
 have tf:=L_ (f.tf hc')
 have hb:=hl.beg (a,b)
 by_cases h0:Sq.zcz (ts.map Sq.T.toks) (a,b)=0
 ·obtain ⟨hok,hth⟩:=Sq.zxv.1 h0
  have ha:=Sq.zao.1 hth
  obtain ⟨hi,e1,e2⟩:=f.zic ha
  by_cases hn:Sq.fj (Sq.rowOf (ts.map Sq.T.toks) (a,b)) (a,b)=0
  ·have e:Sq.zdw (ts.map Sq.T.toks) (a,b) 0=(0,ts.map Sq.T.toks):=by
    unfold Sq.zdw
    rw [if_neg (not_not_intro h0),if_pos (.inl (by omega))]
   refine zsh (Sq.zd8 ts) a b (n:=0) (e:=0) (L_ (.inr ⟨hb.trans h0,rfl,by rw [e2,hn];rfl⟩)) (L_ (.inr rfl)) tf hx H fun w' H' I=>?_
   exact h (some (ts.map Sq.T.toks)) w' (L_ (by rw [e];exact .inl rfl)) (za7.2 ⟨M,hl,H'⟩) I |> fun k=>by rw [e] at k;exact k
  ·obtain ⟨l,r,z,hz⟩:=f.place ha
   have hlt:=Sq.z5v (Sq.row_mem hth)
   have e:Sq.zdw (ts.map Sq.T.toks) (a,b) 0=(0,Sq.cut (ts.map Sq.T.toks) (a,b) (Sq.fj (Sq.rowOf (ts.map Sq.T.toks) (a,b)) (a,b))):=by
    unfold Sq.zdw
    rw [if_neg (not_not_intro h0),if_neg (by omega)]
    rfl
   refine zzq (Sq.zd8 ts) a b (l:=l) (r:=r) (z:=z) (L_ hz) (L_ (f.xdc hc' ha hz)) (L_ (hb.trans h0)) (L_ (by rw [e2];exact hn)) tf hx H fun m' w' hp H' I=>?_
   have HE:∀ M',m'=some M'→Sq.Ls M' (Sq.zdw (ts.map Sq.T.toks) (a,b) 0).2:=fun M' e'=>by
    rw [e]
    obtain ⟨A,B,g1,g2,g3,g4,g5,g6,M0,g7,g8⟩:=hp.out M' e'
    cases g7
    exact Sq.Ls.cut0 f ha hz hn g1 g2 g3 g4 g5 g6 g8
   have hr:zi3 m'=xag (m'.map fun _=>(Sq.zdw (ts.map Sq.T.toks) (a,b) 0).2) (Sq.zdw (ts.map Sq.T.toks) (a,b) 0).1:=by
    rw [zqq,e];cases m'<;>rfl
   rw [hr]
   exact h _ w' (L_ omap) (zx9 HE H') I
 ·have e:Sq.zdw (ts.map Sq.T.toks) (a,b) 0=(Sq.zcz (ts.map Sq.T.toks) (a,b),ts.map Sq.T.toks):=by
   unfold Sq.zdw
   rw [if_pos h0]
  refine zsh (Sq.zd8 ts) a b (n:=0) (e:=Sq.zcz (ts.map Sq.T.toks) (a,b)) (L_ (.inl ⟨hb.symm,h0,rfl⟩)) (L_ (.inl h0)) tf hx H fun w' H' I=>?_
  exact h (some (ts.map Sq.T.toks)) w' (L_ (by rw [e];exact .inl rfl)) (za7.2 ⟨M,hl,H'⟩) I |> fun k=>by rw [e] at k;exact k
theorem xa2 (a b:Int) (hc:Hid (L.flatten.length≤250)) (hx:Hid x.Ok) (H:Sat (SqL x L*F) w)
  (h:∀ o w',Hid (o=some (Sq.zdw L (a,b) 1).2∨o=none)→Sat (SqO x o*F) w'→Io w w'→R (.returned (.int .i64 (xag o (Sq.zdw L (a,b) 1).1))) w') :
  Calls Tryz.prog 24 #[.pointer (some ⟨x.s,0,none⟩),tkA a b] w R:=by
 have HS:=za7.1 H
 clear H
 obtain ⟨M,hl,H⟩:=HS
 obtain ⟨ts,f,rfl⟩:=id hl
 have hc':(Sq.flat ts).length≤250:=hc.out
 have tf:=L_ (f.tf hc')
 have hb:=hl.beg (a,b)
 by_cases h0:Sq.zcz (ts.map Sq.T.toks) (a,b)=0
 ·obtain ⟨hok,hth⟩:=Sq.zxv.1 h0
  have ha:=Sq.zao.1 hth
  obtain ⟨hi,e1,e2⟩:=f.zic ha
  have e3:(Sq.zd8 ts (a,b)).cnt=(Sq.rowOf (ts.map Sq.T.toks) (a,b)).length:=by rw [←e2,Sq.T.zbn]
  have hlt:=Sq.z5v (Sq.row_mem hth)
  by_cases hn:Sq.fj (Sq.rowOf (ts.map Sq.T.toks) (a,b)) (a,b)+1=(Sq.rowOf (ts.map Sq.T.toks) (a,b)).length
  ·have e:Sq.zdw (ts.map Sq.T.toks) (a,b) 1=(0,ts.map Sq.T.toks):=by
    unfold Sq.zdw
    rw [if_neg (not_not_intro h0),if_pos (.inr hn)]
   refine zsv (Sq.zd8 ts) a b (n:=(Sq.fj (Sq.rowOf (ts.map Sq.T.toks) (a,b)) (a,b):Nat)) (e:=0) (L_ (.inr ⟨hb.trans h0,rfl,by rw [e2]⟩)) (L_ (.inr (by rw [e3];omega))) tf hx H fun w' H' I=>?_
   exact h (some (ts.map Sq.T.toks)) w' (L_ (by rw [e];exact .inl rfl)) (za7.2 ⟨M,hl,H'⟩) I |> fun k=>by rw [e] at k;exact k
  ·obtain ⟨l,r,z,hz⟩:=f.place ha
   have e:Sq.zdw (ts.map Sq.T.toks) (a,b) 1=(0,Sq.cut (ts.map Sq.T.toks) (a,b) (Sq.fj (Sq.rowOf (ts.map Sq.T.toks) (a,b)) (a,b)+1)):=by
    unfold Sq.zdw
    rw [if_neg (not_not_intro h0),if_neg (by omega)]
   refine zz1 (Sq.zd8 ts) a b (l:=l) (r:=r) (z:=z) (L_ hz) (L_ (f.xdc hc' ha hz)) (L_ (hb.trans h0)) (L_ (by rw [e2,e3];exact hn)) tf hx H fun m' w' hp H' I=>?_
   have HE:∀ M',m'=some M'→Sq.Ls M' (Sq.zdw (ts.map Sq.T.toks) (a,b) 1).2:=fun M' e'=>by
    rw [e]
    obtain ⟨A,B,g1,g2,g3,g4,g5,g6,M0,g7,g8⟩:=hp.out M' e'
    cases g7
    exact Sq.Ls.xf6 f ha hz hn g1 g2 g3 g4 g5 g6 g8
   have hr:zi3 m'=xag (m'.map fun _=>(Sq.zdw (ts.map Sq.T.toks) (a,b) 1).2) (Sq.zdw (ts.map Sq.T.toks) (a,b) 1).1:=by
    rw [zqq,e];cases m'<;>rfl
   rw [hr]
   exact h _ w' (L_ omap) (zx9 HE H') I
 ·have e:Sq.zdw (ts.map Sq.T.toks) (a,b) 1=(Sq.zcz (ts.map Sq.T.toks) (a,b),ts.map Sq.T.toks):=by
   unfold Sq.zdw
   rw [if_pos h0]
  refine zsv (Sq.zd8 ts) a b (n:=0) (e:=Sq.zcz (ts.map Sq.T.toks) (a,b)) (L_ (.inl ⟨hb.symm,h0,rfl⟩)) (L_ (.inl h0)) tf hx H fun w' H' I=>?_
  exact h (some (ts.map Sq.T.toks)) w' (L_ (by rw [e];exact .inl rfl)) (za7.2 ⟨M,hl,H'⟩) I |> fun k=>by rw [e] at k;exact k
theorem z4h (a b:Int) (hx:Hid x.Ok) (room:Hid (¬ x.full)) (H:Sat (SqL x L*F) w)
  (h:∀ w',Sat (SqL x (Sq.zft L (a,b)).2*F) w'→Io w w'→R (.returned (.int .i64 (Sq.zft L (a,b)).1)) w') :
  Calls Tryz.prog 25 #[.pointer (some ⟨x.s,0,none⟩),tkA a b] w R:=by
 have HS:=za7.1 H
 clear H
 obtain ⟨M,hl,H⟩:=HS
 obtain ⟨ts,f,rfl⟩:=id hl
 refine z1z a b hx (L_ (Int.not_le.1 room.out)) H fun e M' w' he H' I=>?_
 have hb:=hl.beg (a,b)
 have HE:e=(Sq.zft (ts.map Sq.T.toks) (a,b)).1∧Sq.Ls M' (Sq.zft (ts.map Sq.T.toks) (a,b)).2:=by
  unfold Sq.zft
  rcases he.out with ⟨h1,h2,h3⟩ | ⟨h1,n,h2,h3⟩
  ·rw [hb] at h1
   rw [if_pos (by rw [←h1];exact h2)]
   exact ⟨h1,h3 ▸ hl⟩
  ·have hth:Sq.there (ts.map Sq.T.toks) (a,b):=hl.there.2 (by rw [h2];simp)
   have h0:=Sq.zxv.2 ⟨h1,hth⟩
   have al:=f.alone (Sq.zao.1 hth) h2
   rw [if_neg (not_not_intro h0)]
   rcases h3 with ⟨g1,g2,g3⟩ | ⟨g1,g2,g3,g4⟩
   ·rw [if_pos (fun k=>g2 (al.2 k))]
    exact ⟨g1,g3 ▸ hl⟩
   ·rw [if_neg (not_not_intro (al.1 ⟨g2,g3⟩))]
    exact ⟨g1,g4 ▸ Sq.Ls.remove f (Sq.zao.1 hth) (al.1 ⟨g2,g3⟩)⟩
 rw [HE.1]
 exact h w' (za7.2 ⟨M',HE.2,H'⟩) I
end
namespace Sq
def lst (L:LL) (k:Tk):List Tk:=if zcz L k=0 then rowOf L k else []
theorem xdv {L:LL} {k:Tk} (h:zcz L k≠0):lst L k=[]:=if_neg h
theorem zj7 {L:LL} {k:Tk} (h:zcz L k=0):lst L k=rowOf L k:=if_pos h
theorem xdd {M:Mp} {ts:List T} (f:For M ts) {k r:Tk} {n:Nd} {e:Int} (h:TopR M (zd8 ts) k r n e) :
  e=zcz (ts.map T.toks) k∧n.count=(lst (ts.map T.toks) k).length∧(e≠0→r=(0,0)∧n.height=0)∧(e=0→r∈rowOf (ts.map T.toks) k∧∃ q:Nat,n.height=q∧1≤q∧q≤(rowOf (ts.map T.toks) k).length∧least q≤(rowOf (ts.map T.toks) k).length):=by
 have hl:Ls M (ts.map T.toks):=⟨ts,f,rfl⟩
 rcases h with ⟨h1,h2,h3,h4⟩ | ⟨h1,h2,h3,h4,h5,h6⟩
 ·rw [hl.beg] at h1
  subst h4
  refine ⟨h1,?_,fun _=>⟨h3,rfl⟩,fun h=>absurd h h2⟩
  rw [xdv (h1 ▸ h2)]
  rfl
 ·rw [hl.beg] at h1
  have ha:k∈flat ts:=f.here.1 h3
  obtain ⟨hi,e1,e2⟩:=f.zic ha
  have hne:zd8 ts k≠.nil:=by rw [e1];exact f.ne _ (List.getElem_mem hi)
  have hb:(zd8 ts k).Bal:=by rw [e1];exact f.bal _ (List.getElem_mem hi)
  subst h6
  refine ⟨h2.trans h1.symm,?_,fun h=>absurd h2 h,fun _=>⟨by rw [←e2,h5];exact T.zeo hne,(zd8 ts k).ht,T.nd_ht _ _,?_,?_,?_⟩⟩
  ·rw [zj7 h1,T.zyp,←e2,T.zbn]
  ·revert hne
   cases zd8 ts k with
   | nil=>intro h;exact absurd rfl h
   | node l x r=>intro _;simp [T.ht]
  ·rw [←e2,T.zbn]
   exact T.zec _
  ·rw [←e2,T.zbn]
   exact zmt _ hb
end Sq
section
variable {x:Sx} {L:LL} {F:Asn} {w:World} {R:Ending→World→Prop}
theorem xfc (a b:Int) (hc:Hid (L.flatten.length≤250)) (hx:Hid x.Ok) (H:Sat (SqL x L*F) w)
  (h:∀ v w',Sat (zar v (Sq.lst L (a,b))*(SqL x L*F)) w'→Io w w'→R (.returned (.tuple #[v,.int .i64 (Sq.zcz L (a,b))])) w') :
  Calls Tryz.prog 17 #[.pointer (some ⟨x.s,0,none⟩),tkA a b] w R:=by
 have HS:=za7.1 H
 clear H
 obtain ⟨M,hl,H⟩:=HS
 obtain ⟨ts,f,rfl⟩:=id hl
 have hc':(Sq.flat ts).length≤250:=hc.out
 refine z18 (Sq.zd8 ts) a b (L_ (f.tf hc')) hx H fun v l e w' he H' I=>?_
 have HE:e=Sq.zcz (ts.map Sq.T.toks) (a,b)∧l=Sq.lst (ts.map Sq.T.toks) (a,b):=by
  rcases he.out with ⟨h1,h2,h3⟩ | ⟨h1,h2,h3⟩
  ·rw [hl.beg] at h1
   exact ⟨h1,by rw [Sq.xdv (h1 ▸ h2),h3]⟩
  ·rw [hl.beg] at h1
   obtain ⟨_,_,e2⟩:=f.zic (Sq.zao.1 (Sq.zxv.1 h1).2)
   exact ⟨h2.trans h1.symm,by rw [Sq.zj7 h1,h3,e2]⟩
 rw [HE.1]
 refine h v w' ?_ I
 rw [←HE.2]
 have K:Sat (zav x (some M)*(zar v l*F)) w':=H'.of_eq (by unfold zar;ac_rfl)
 have K2:Sat (SqL x (ts.map Sq.T.toks)*(zar v l*F)) w':=za7.2 ⟨M,hl,K⟩
 exact K2.of_eq (by unfold zar;ac_rfl)
theorem xax (a b:Int) (hc:Hid (L.flatten.length≤250)) (hx:Hid x.Ok) (H:Sat (SqL x L*F) w)
  (h:∀ w',Sat (SqL x L*F) w'→Io w w'→R (.returned (.tuple #[.int .i64 ((Sq.lst L (a,b)).length:Nat),.int .i64 (Sq.zcz L (a,b))])) w') :
  Calls Tryz.prog 38 #[.pointer (some ⟨x.s,0,none⟩),tkA a b] w R:=by
 have HS:=za7.1 H
 clear H
 obtain ⟨M,hl,H⟩:=HS
 obtain ⟨ts,f,rfl⟩:=id hl
 have hc':(Sq.flat ts).length≤250:=hc.out
 refine zj0 (Sq.zd8 ts) a b (L_ (f.tf hc')) hx H fun r1 r2 v1 v2 v3 v4 v5 v6 v7 v8 e w' he H' I=>?_
 obtain ⟨h1,h2,_⟩:=Sq.xdd f he.out
 have h2:v7=_:=h2
 rw [h1,h2]
 exact h w' (za7.2 ⟨M,hl,H'⟩) I
theorem z4e (a b:Int) (hc:Hid (L.flatten.length≤250)) (hx:Hid x.Ok) (H:Sat (SqL x L*F) w)
  (h:∀ q w',Hid ((Sq.zcz L (a,b)≠0→q=0)∧(Sq.zcz L (a,b)=0→1≤q∧q≤(Sq.rowOf L (a,b)).length∧Sq.least q≤(Sq.rowOf L (a,b)).length))→Sat (SqL x L*F) w'→Io w w'→R (.returned (.tuple #[.int .i64 (q:Nat),.int .i64 (Sq.zcz L (a,b))])) w') :
  Calls Tryz.prog 18 #[.pointer (some ⟨x.s,0,none⟩),tkA a b] w R:=by
 have HS:=za7.1 H
 clear H
 obtain ⟨M,hl,H⟩:=HS
 obtain ⟨ts,f,rfl⟩:=id hl
 have hc':(Sq.flat ts).length≤250:=hc.out
 refine zwe (Sq.zd8 ts) a b (L_ (f.tf hc')) hx H fun r1 r2 v1 v2 v3 v4 v5 v6 v7 v8 e w' he H' I=>?_
 obtain ⟨h1,_,h3,h4⟩:=Sq.xdd f he.out
 by_cases h0:e=0
 ·obtain ⟨_,q,h5,h6,h7,h8⟩:=h4 h0
  have h5:v8=_:=h5
  rw [h5,h1]
  exact h q w' (L_ ⟨fun k=>absurd (h1.symm.trans h0) k,fun _=>⟨h6,h7,h8⟩⟩) (za7.2 ⟨M,hl,H'⟩) I
 ·have h5:v8=_:=(h3 h0).2
  rw [h5,h1]
  exact h 0 w' (L_ ⟨fun _=>rfl,fun k=>absurd (h1.trans k) h0⟩) (za7.2 ⟨M,hl,H'⟩) I
theorem xih (a b:Int) (hc:Hid (L.flatten.length≤250)) (hx:Hid x.Ok) (H:Sat (SqL x L*F) w)
  (h:∀ r1 r2 w',Hid ((Sq.zcz L (a,b)≠0→(r1,r2)=((0,0):Tk))∧(Sq.zcz L (a,b)=0→(r1,r2)∈Sq.rowOf L (a,b)))→Sat (SqL x L*F) w'→Io w w'→R (.returned (.tuple #[tkA r1 r2,.int .i64 (Sq.zcz L (a,b))])) w') :
  Calls Tryz.prog 61 #[.pointer (some ⟨x.s,0,none⟩),tkA a b] w R:=by
 have HS:=za7.1 H
 clear H
 obtain ⟨M,hl,H⟩:=HS
 obtain ⟨ts,f,rfl⟩:=id hl
 have hc':(Sq.flat ts).length≤250:=hc.out
 refine xhu (Sq.zd8 ts) a b (L_ (f.tf hc')) hx H fun r1 r2 v1 v2 v3 v4 v5 v6 v7 v8 e w' he H' I=>?_
 obtain ⟨h1,_,h3,h4⟩:=Sq.xdd f he.out
 rw [h1] at h3 h4 ⊢
 exact h r1 r2 w' (L_ ⟨fun k=>(h3 k).1,fun k=>(h4 k).1⟩) (za7.2 ⟨M,hl,H'⟩) I
theorem xfb (a b:Int) (hc:Hid (L.flatten.length≤250)) (hx:Hid x.Ok) (H:Sat (SqL x L*F) w)
  (h:∀ w',Sat (SqL x L*F) w'→Io w w'→R (.returned (.tuple #[.int .i64 (if Sq.zcz L (a,b)=0 then (Sq.fj (Sq.rowOf L (a,b)) (a,b):Int) else 0),.int .i64 (Sq.zcz L (a,b))])) w') :
  Calls Tryz.prog 37 #[.pointer (some ⟨x.s,0,none⟩),tkA a b] w R:=by
 have HS:=za7.1 H
 clear H
 obtain ⟨M,hl,H⟩:=HS
 obtain ⟨ts,f,rfl⟩:=id hl
 have hc':(Sq.flat ts).length≤250:=hc.out
 have tf:=L_ (f.tf hc')
 by_cases h0:Sq.zcz (ts.map Sq.T.toks) (a,b)=0
 ·obtain ⟨_,_,e2⟩:=f.zic (Sq.zao.1 (Sq.zxv.1 h0).2)
  rw [if_pos h0,h0] at h
  exact zf1 (Sq.zd8 ts) a b (e:=0) (L_ (.inr ⟨(hl.beg _).trans h0,rfl,by rw [e2]⟩)) tf hx H fun w' H' I=>h w' (za7.2 ⟨M,hl,H'⟩) I
 ·rw [if_neg h0] at h
  exact zf1 (Sq.zd8 ts) a b (L_ (.inl ⟨(hl.beg _).symm,h0,rfl⟩)) tf hx H fun w' H' I=>h w' (za7.2 ⟨M,hl,H'⟩) I
theorem lq_has (a b:Int) (hx:Hid x.Ok) (H:Sat (SqL x L*F) w)
  (h:∀ w',Sat (SqL x L*F) w'→Io w w'→R (.returned (.tuple #[.bool (decide (Sq.zcz L (a,b)=0)),.int .i64 (if Sq.zcz L (a,b)=30 then 30 else 0)])) w') :
  Calls Tryz.prog 62 #[.pointer (some ⟨x.s,0,none⟩),tkA a b] w R:=by
 have HS:=za7.1 H
 clear H
 obtain ⟨M,hl,H⟩:=HS
 refine xhz a b (L_ ?_) (L_ ?_) hx H fun w' H' I=>h w' (za7.2 ⟨M,hl,H'⟩) I
 ·rw [decide_eq_decide,Sq.zxv,hl.there,and_comm]
 ·unfold Sq.zcz
  by_cases h1:Sq.OkT (a,b)<;>by_cases h2:Sq.there L (a,b)<;>simp [h1,h2]
theorem xig (a1 b1 a2 b2:Int) (hc:Hid (L.flatten.length≤250)) (hx:Hid x.Ok) (H:Sat (SqL x L*F) w)
  (h:∀ w',Sat (SqL x L*F) w'→Io w w'→R (.returned (.tuple #[.bool (Sq.two L (a1,b1) (a2,b2)).1,.int .i64 (Sq.two L (a1,b1) (a2,b2)).2])) w') :
  Calls Tryz.prog 27 #[.pointer (some ⟨x.s,0,none⟩),tkA a1 b1,tkA a2 b2] w R:=by
 have HS:=za7.1 H
 clear H
 obtain ⟨M,hl,H⟩:=HS
 obtain ⟨ts,f,rfl⟩:=id hl
 have hc':(Sq.flat ts).length≤250:=hc.out
 have tf:=L_ (f.tf hc')
 have hb:=hl.beg2 (a1,b1) (a2,b2)
 by_cases h0:(Sq.two (ts.map Sq.T.toks) (a1,b1) (a2,b2)).2=0
 ·obtain ⟨⟨_,h1⟩,_,h2⟩:=Sq.xdb.1 h0
  rw [h0,Sq.two1 h0] at h
  exact zi2 (Sq.zd8 ts) a1 b1 a2 b2 (e:=0) (L_ (.inr ⟨hb.trans h0,rfl,by rw [decide_eq_decide];exact (f.zp6 (Sq.zao.1 h1) (Sq.zao.1 h2)).symm⟩)) tf hx H fun w' H' I=>h w' (za7.2 ⟨M,hl,H'⟩) I
 ·have e:(Sq.two (ts.map Sq.T.toks) (a1,b1) (a2,b2)).1=false:=by
   revert h0
   unfold Sq.two
   split
   ·intro _;rfl
   ·split
    ·intro _;rfl
    ·split
     ·intro _;rfl
     ·intro h;exact absurd rfl h
  rw [e] at h
  exact zi2 (Sq.zd8 ts) a1 b1 a2 b2 (L_ (.inl ⟨rfl,h0,hb.symm⟩)) tf hx H fun w' H' I=>h w' (za7.2 ⟨M,hl,H'⟩) I
def atE (L:LL) (k:Tk) (i:Int):Int:=if Sq.zcz L k≠0 then Sq.zcz L k else if 0≤i∧i<((Sq.rowOf L k).length:Int) then 0 else 1
def atT (L:LL) (k:Tk) (i:Int):Tk:=if atE L k i=0 then (Sq.rowOf L k)[i.toNat]?.getD (0,0) else (0,0)
theorem lq_at (a b i:Int) (hc:Hid (L.flatten.length≤250)) (hx:Hid x.Ok) (H:Sat (SqL x L*F) w)
  (h:∀ w',Sat (SqL x L*F) w'→Io w w'→R (.returned (.tuple #[tkA (atT L (a,b) i).1 (atT L (a,b) i).2,.int .i64 (atE L (a,b) i)])) w') :
  Calls Tryz.prog 39 #[.pointer (some ⟨x.s,0,none⟩),tkA a b,.int .i64 i] w R:=by
 have HS:=za7.1 H
 clear H
 obtain ⟨M,hl,H⟩:=HS
 obtain ⟨ts,f,rfl⟩:=id hl
 have hc':(Sq.flat ts).length≤250:=hc.out
 have tf:=L_ (f.tf hc')
 by_cases h0:Sq.zcz (ts.map Sq.T.toks) (a,b)=0
 ·obtain ⟨_,_,e2⟩:=f.zic (Sq.zao.1 (Sq.zxv.1 h0).2)
  by_cases h1:0≤i∧i<((Sq.rowOf (ts.map Sq.T.toks) (a,b)).length:Int)
  ·have e:atE (ts.map Sq.T.toks) (a,b) i=0:=by unfold atE;rw [if_neg (not_not_intro h0),if_pos h1]
   have hlt:i.toNat<(Sq.rowOf (ts.map Sq.T.toks) (a,b)).length:=by omega
   obtain ⟨c1,c2,hcc⟩:∃ c1 c2,(Sq.rowOf (ts.map Sq.T.toks) (a,b))[i.toNat]=(c1,c2):=⟨_,_,rfl⟩
   have et:atT (ts.map Sq.T.toks) (a,b) i=(c1,c2):=by unfold atT;rw [if_pos e,List.getElem?_eq_getElem hlt,hcc];rfl
   rw [e,et] at h
   exact xeq (Sq.zd8 ts) a b i c1 c2 (L_ ⟨(hl.beg _).trans h0,i.toNat,by omega,by rw [e2,List.getElem?_eq_getElem hlt,hcc]⟩) tf hx H fun w' H' I=>h w' (za7.2 ⟨M,hl,H'⟩) I
  ·have e:atE (ts.map Sq.T.toks) (a,b) i=1:=by unfold atE;rw [if_neg (not_not_intro h0),if_neg h1]
   have et:atT (ts.map Sq.T.toks) (a,b) i=(0,0):=by unfold atT;rw [if_neg (by rw [e];decide)]
   rw [e,et] at h
   exact xdg (Sq.zd8 ts) a b i (e:=1) (L_ (.inr ⟨(hl.beg _).trans h0,rfl,by rw [←Sq.T.zbn,e2];omega⟩)) tf hx H fun w' H' I=>h w' (za7.2 ⟨M,hl,H'⟩) I
 ·have e:atE (ts.map Sq.T.toks) (a,b) i=Sq.zcz (ts.map Sq.T.toks) (a,b):=by unfold atE;rw [if_pos h0]
  have et:atT (ts.map Sq.T.toks) (a,b) i=(0,0):=by unfold atT;rw [if_neg (by rw [e];exact h0)]
  rw [e,et] at h
  exact xdg (Sq.zd8 ts) a b i (L_ (.inl ⟨(hl.beg _).symm,h0⟩)) tf hx H fun w' H' I=>h w' (za7.2 ⟨M,hl,H'⟩) I
end
end Go.Proofs.YtfknjmoekbabcaaGreatDoor
