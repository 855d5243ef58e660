/-
  A part of a proof. It proves no statement by itself.
-/
import Derived.Test.YtfknjmoekbabcaaGreatDoorC37
import Derived.Test.YtfknjmoekbabcaaGreatDoorC38
import Derived.Test.YtfknjmoekbabcaaGreatDoorC04
import Derived.Test.YtfknjmoekbabcaaGreatDoorC23
set_option linter.unusedSimpArgs false
set_option linter.unusedVariables false
set_option linter.unusedSectionVars false
set_option maxRecDepth 100000
set_option maxHeartbeats 64000000
namespace Go.Proofs.YtfknjmoekbabcaaGreatDoor
open Go.RowKit Go.Lib
open Sq (Tk Nd Mp zca InT Fr)
open Sq.Z (Step)
namespace Sq
structure zed (M:Mp) (t:T) (k:Tk):Prop where
 hold:zc8 M t nob
 mem:k∈t.toks
 ok:∀ y∈t.toks,OkT y
 cnt:t.cnt≤250
 bal:t.Bal
 nodup:t.toks.Nodup
theorem zja (z:Z) (t:T):∀ y∈t.toks,y∈(z.zcm t).toks:=fun y hy=>by rw [Z.zb2];simp [hy]
theorem zhv {M:Mp} {l r:T} {z:Z} {k:Tk} (h:zed M (z.zcm (.node l k r)) k):zry M (z.way l k r nob) where
 len:=by
  unfold Z.way
  rw [List.length_cons,Z.zxw]
  have h1:=Z.zw7 z (.node l k r)
  have h2:=(z.zcm (.node l k r)).zec
  have h3:=h.cnt
  simp only [T.ht] at h1
  omega
 here:=fun s hs=>by
  obtain ⟨h1,h2⟩:=Z.zg8 h.hold
  unfold Z.way at hs
  rcases List.mem_cons.1 hs with rfl | hs
  ·exact ⟨h1.1,h.ok _ h.mem⟩
  ·exact ⟨Z.zrt h2 s hs,h.ok _ (Z.zrr z _ _ s hs)⟩
 chain:=Z.z1l z l k r nob
theorem z8t (z:Z) (l:T) (k:Tk) (r:T):∃ s,(z.way l k r nob)[(z.way l k r nob).length - 1]?=some s∧s.k=(z.zcm (.node l k r)).top∧s.n=(z.zcm (.node l k r)).nd nob:=by
 have hne:z.way l k r nob≠[]:=by unfold Z.way;simp
 refine ⟨(z.way l k r nob).getLast hne,?_,?_,?_⟩
 ·rw [List.getLast_eq_getElem hne]
  exact List.getElem?_eq_getElem _
 ·exact Z.zv7 z (.node l k r) nob ⟨k,nod l r (z.up nob),nob⟩ rfl
 ·exact Z.zw2 z (.node l k r) nob ⟨k,nod l r (z.up nob),nob⟩ rfl
theorem For.at {M : Mp} {ts : List T} (f : For M ts) (hc : (flat ts).length ≤ 250) {k : Tk} (h : k ∈ flat ts) : ∃ (hi : fi (ts.map T.toks) k < ts.length), zed M (ts[fi (ts.map T.toks) k]'hi) k ∧ rowOf (ts.map T.toks) k = (ts[fi (ts.map T.toks) k]'hi).toks := by
 obtain ⟨hi,hm,e⟩:=f.tree h
 have hmem:=List.getElem_mem hi
 exact ⟨hi,⟨f.hold _ hmem,hm,fun y hy=>f.ok y (zdv.2 ⟨_,hmem,hy⟩),by have:=f.len_le hmem;omega,f.bal _ hmem,f.zhw hmem⟩,e⟩
def ztt (way:List Step):Nat→Nd
 | 0=>nd0
 | i+1=>match way[i]? with | some s=>s.n | none=>nd0
theorem zpf {way:List Step} {i:Nat} {s:Step} (h:way[i]?=some s):ztt way (i+1)=s.n:=by
 show (match way[i]? with | some s=>s.n | none=>nd0)=s.n
 rw [h]
end Sq
section
variable {x:Sx} {M:Mp} {F:Asn} {w:World} {R:Ending→World→Prop}
abbrev ndAt (b:Nat) (n:Nd):Asn:=pts b (.cells #[.int .i64 n.up.1,.int .i64 n.up.2,.int .i64 n.left.1,.int .i64 n.left.2,.int .i64 n.right.1,.int .i64 n.right.2,.int .i64 n.count,.int .i64 n.height] 85 (0,0))
theorem xga (args:Array Value) (w:World):(callFunc 80 args).run Tryz.prog w=.ok (.enter 80 args) w:=enters_of Tryz.func80 (by kernel_rfl) rfl args w
theorem te_out {A B C D E:Asn} (H:Sat (A*(B*(C*(D*(E*F))))) w):Sat (E*(A*F)) w:=(H.of_eq (show _=(B*(C*D))*(E*(A*F)) from by ac_rfl)).right
theorem tp_in {A B C D:Asn} (H:Sat (A*(B*(C*(D*F)))) w):Sat (D*(A*(B*(C*F)))) w:=H.of_eq (by ac_rfl)
theorem xea {A:Asn} {b1 b2:Nat} {t1 t2:TypeId} {x0 x1 y0 y1 y2 y3 y4 y5 y6 y7:Value} (H:Sat (A*(pts b2 (.cells #[y0,y1,y2,y3,y4,y5,y6,y7] t2 (0,0))*(pts b1 (.cells #[x0,x1] t1 (0,0))*F))) w) :
  Sat (A*(pts b2 (.cells #[.int .i64 0,.int .i64 0,.int .i64 0,.int .i64 0,.int .i64 0,.int .i64 0,.int .i64 0,.int .i64 0] t2 (0,0))*(pts b1 (.cells #[.int .i64 0,.int .i64 0] t1 (0,0))*F))) ((((((((((w.setCell ⟨b1,0,none⟩ (.int .i64 0)).setCell ⟨b1,1,none⟩ (.int .i64 0)).setCell ⟨b2,0,none⟩ (.int .i64 0)).setCell ⟨b2,1,none⟩ (.int .i64 0)).setCell ⟨b2,2,none⟩ (.int .i64 0)).setCell ⟨b2,3,none⟩ (.int .i64 0)).setCell ⟨b2,4,none⟩ (.int .i64 0)).setCell ⟨b2,5,none⟩ (.int .i64 0)).setCell ⟨b2,6,none⟩ (.int .i64 0)).setCell ⟨b2,7,none⟩ (.int .i64 0)):=by
 have h1:=zc2 (.int .i64 0) (.int .i64 0) (H.of_eq (show _=pts b1 (.cells #[x0,x1] t1 (0,0))*(pts b2 (.cells #[y0,y1,y2,y3,y4,y5,y6,y7] t2 (0,0))*(A*F)) from by ac_rfl))
 have h2:=zaz (.int .i64 0) (.int .i64 0) (.int .i64 0) (.int .i64 0) (.int .i64 0) (.int .i64 0) (.int .i64 0) (.int .i64 0) (zai h1)
 exact h2.of_eq (by ac_rfl)
theorem zp5 {A:Asn} {b9 bl:Nat} {t9 tl:TypeId} {x0 x1 y0 y1 y2 y3 y4 y5 y6 y7:Value} (H:Sat (pts b9 (.cells #[x0,x1] t9 (0,0))*(A*(pts bl (.cells #[y0,y1,y2,y3,y4,y5,y6,y7] tl (0,0))*F))) w) :
  (w.cell? ⟨b9,0,none⟩=some x0∧w.cell? ⟨b9,1,none⟩=some x1)∧(w.cell? ⟨bl,0,none⟩=some y0∧w.cell? ⟨bl,1,none⟩=some y1∧w.cell? ⟨bl,2,none⟩=some y2∧w.cell? ⟨bl,3,none⟩=some y3∧w.cell? ⟨bl,4,none⟩=some y4∧w.cell? ⟨bl,5,none⟩=some y5∧w.cell? ⟨bl,6,none⟩=some y6∧w.cell? ⟨bl,7,none⟩=some y7):=⟨tk2 H,nd8 H.right.right⟩
theorem xeb {A S N:Asn} {b1 b2:Nat} {t1 t2:TypeId} {z0 z1 y0 y1 y2 y3 y4 y5 y6 y7:Value} (x0 x1 u0 u1 u2 u3 u4 u5 u6 u7:Value) (H:Sat (A*(S*(N*(pts b2 (.cells #[y0,y1,y2,y3,y4,y5,y6,y7] t2 (0,0))*(pts b1 (.cells #[z0,z1] t1 (0,0))*F))))) w) :
  Sat (A*(S*(N*(pts b2 (.cells #[y0,y1,y2,y3,y4,y5,y6,y7] t2 (0,0))*(pts b1 (.cells #[x0,x1] t1 (0,0))*F))))) ((w.setCell ⟨b1,0,none⟩ x0).setCell ⟨b1,1,none⟩ x1) ∧
  Sat (A*(S*(N*(pts b2 (.cells #[u0,u1,u2,u3,u4,u5,u6,u7] t2 (0,0))*(pts b1 (.cells #[x0,x1] t1 (0,0))*F))))) ((((((((((w.setCell ⟨b1,0,none⟩ x0).setCell ⟨b1,1,none⟩ x1).setCell ⟨b2,0,none⟩ u0).setCell ⟨b2,1,none⟩ u1).setCell ⟨b2,2,none⟩ u2).setCell ⟨b2,3,none⟩ u3).setCell ⟨b2,4,none⟩ u4).setCell ⟨b2,5,none⟩ u5).setCell ⟨b2,6,none⟩ u6).setCell ⟨b2,7,none⟩ u7):=by
 have h1:=zc2 x0 x1 (H.of_eq (show _=pts b1 (.cells #[z0,z1] t1 (0,0))*(pts b2 (.cells #[y0,y1,y2,y3,y4,y5,y6,y7] t2 (0,0))*(A*(S*(N*F)))) from by ac_rfl))
 have h2:=zaz u0 u1 u2 u3 u4 u5 u6 u7 (zai h1)
 exact ⟨h1.of_eq (by ac_rfl),h2.of_eq (by ac_rfl)⟩
theorem xec {A S N B C D:Asn} (H:Sat (A*(S*(N*(B*(C*(D*F)))))) w):Sat (S*F) w:=(H.of_eq (show _=(A*(N*(B*(C*D))))*(S*F) from by ac_rfl)).right
theorem tp_end {A B C D:Asn} (H:Sat (A*(B*(C*(D*F)))) w):Sat (A*F) w:=(H.of_eq (show _=(B*(C*D))*(A*F) from by ac_rfl)).right
theorem z81 (way:List Step) (bl:Nat):zv0 x M 80 #[.pointer (some ⟨bl,0,none⟩)] way (fun i=>ndAt bl (Sq.ztt way i)):=by
 intro F w R i s hs H h
 obtain ⟨⟨k1,k2⟩,⟨⟨u1,u2⟩,⟨p1,p2⟩,⟨q1,q2⟩,ct,ht⟩,⟨f1,f2⟩⟩:=s
 change Sat (zav x (some M)*(ndAt bl (Sq.ztt way i)*F)) w at H
 change ∀ w',Sat (zav x (some M)*(ndAt bl (Sq.ztt way (i+1))*F)) w'→Io w w'→R (.returned (.tuple #[])) w' at h
 have HH:=L_ h
 generalize Sq.ztt way i=n0 at *
 obtain ⟨⟨v1,v2⟩,⟨v3,v4⟩,⟨v5,v6⟩,v7,v8⟩:=n0
 have e1:Sq.ztt way (i+1)=⟨(u1,u2),(p1,p2),(q1,q2),ct,ht⟩:=Sq.zpf hs
 rw [e1] at HH
 have H1:=(((H.new (.cells #[.int .i64 k1,.int .i64 k2] 29)).new (.cells #[.int .i64 u1,.int .i64 u2,.int .i64 p1,.int .i64 p2,.int .i64 q1,.int .i64 q2,.int .i64 ct,.int .i64 ht] 85)).new (.cells #[.int .i64 f1,.int .i64 f2] 29)).of_eq (show _=pts bl (.cells #[.int .i64 v1,.int .i64 v2,.int .i64 v3,.int .i64 v4,.int .i64 v5,.int .i64 v6,.int .i64 v7,.int .i64 v8] 85 (0,0))*(pts (((w.alloc (.cells #[.int .i64 k1,.int .i64 k2] 29)).alloc (.cells #[.int .i64 u1,.int .i64 u2,.int .i64 p1,.int .i64 p2,.int .i64 q1,.int .i64 q2,.int .i64 ct,.int .i64 ht] 85)).heap.size) (.cells #[.int .i64 f1,.int .i64 f2] 29 (0,0))*(pts ((w.alloc (.cells #[.int .i64 k1,.int .i64 k2] 29)).heap.size) (.cells #[.int .i64 u1,.int .i64 u2,.int .i64 p1,.int .i64 p2,.int .i64 q1,.int .i64 q2,.int .i64 ct,.int .i64 ht] 85 (0,0))*(pts w.heap.size (.cells #[.int .i64 k1,.int .i64 k2] 29 (0,0))*(zav x (some M)*F)))) from by ac_rfl)
 have I1:=io3 H1 (Io.refl w)
 simp only [World.size_alloc,Nat.add_assoc,Nat.reduceAdd] at H1
 clear h H e1 hs
 show Calls Tryz.prog 80 #[tkA k1 k2,ndA u1 u2 p1 p2 q1 q2 ct ht,tkA f1 f2,.pointer (some ⟨bl,0,none⟩)] w R
 go_enter Tryz.func80,Tryz.ntmps80
 go_upto_region 1 with fail
 generalize ((w.alloc _).alloc _).alloc _=w1 at *
 generalize w.heap.size=bx at *
 have Q:=nd8 H1
 obtain ⟨q0,q1',q2',q3,q4,q5,q6,q7⟩:=Q
 have G:=zb0 H1
 obtain ⟨g0,g1,g2,g3,g4,g5,g6,g7⟩:=G
 have P:=nd8 H1.right.right
 obtain ⟨r0,r1,r2,r3,r4,r5,r6,r7⟩:=P
 have KE:=zaz (.int .i64 u1) (.int .i64 u2) (.int .i64 p1) (.int .i64 p2) (.int .i64 q1) (.int .i64 q2) (.int .i64 ct) (.int .i64 ht) H1
 have JE:=zac (b:=bl) (.int .i64 u1) (.int .i64 u2) (.int .i64 p1) (.int .i64 p2) (.int .i64 q1) (.int .i64 q2) (.int .i64 ct) (.int .i64 ht) I1
 have FIN:=L_ (HH.out _ (te_out KE) JE)
 go_wp2_with fail
 go_end0
 exact FIN.out
theorem z1x (a b:Int) {e:Int} (he:Hid (e=Sq.zfw M (a,b))) (hne:Hid (e≠0)) (hx:Hid x.Ok) (H:Sat (zav x (some M)*F) w) (h:∀ w',Sat (zav x (some M)*F) w'→Io w w'→R (.returned (.tuple #[tkA 0 0,ndA 0 0 0 0 0 0 0 0,.int .i64 e])) w') :
  Calls Tryz.prog 47 #[.pointer (some ⟨x.s,0,none⟩),tkA a b] w R:=by
 have HH:=L_ h
 have H1:=tp_in (((H.new (.cells #[.int .i64 a,.int .i64 b] 29)).new (.cells #[.int .i64 0,.int .i64 0] 29)).new (.cells #[.int .i64 0,.int .i64 0,.int .i64 0,.int .i64 0,.int .i64 0,.int .i64 0,.int .i64 0,.int .i64 0] 85))
 have I1:=io3 H1 (Io.refl w)
 simp only [World.size_alloc,Nat.add_assoc,Nat.reduceAdd] at H1
 have K1:=zai (H1.new (.cells #[.int .i64 a,.int .i64 b] 29))
 have J1:=io1 K1 I1
 clear h H
 go_enter Tryz.func47,Tryz.ntmps47
 go_upto_region 1 with fail
 generalize ((w.alloc _).alloc _).alloc _=w1 at *
 generalize w.heap.size=bx at *
 obtain ⟨y0,y1⟩:=tk2 H1.right.right.right
 go_upto_region 2 with (go_at_call 44;(with_reducible refine zd4 a b he hx K1 ?_);intro w2 H2 I2;have K2:=zcf H2;have J2:=J1.trans I2)
 clear y0 y1 H1 I1 K1 J1 H2 I2
 have de:decide (e=0)=false:=decide_eq_false hne.out
 have be:(e == 0)=false:=by simpa using hne.out
 have bn:(e != 0)=true:=by simpa using hne.out
 obtain ⟨f0,f1⟩:=zgf K2.right.right
 obtain ⟨g0,g1⟩:=tk2 K2.right.right
 have G:=zb0 K2.right
 obtain ⟨g2,g3,g4,g5,g6,g7,g8,g9⟩:=G
 have KE:=xea K2
 have Q:=nd8 K2.right
 obtain ⟨h0,h1,h2,h3,h4,h5,h6,h7⟩:=Q
 have Z:=nd8 KE.right
 obtain ⟨z0,z1,z2,z3,z4,z5,z6,z7⟩:=Z
 obtain ⟨y2,y3⟩:=tk2 KE.right.right
 have JE:=zac (b:=bx+2) (.int .i64 0) (.int .i64 0) (.int .i64 0) (.int .i64 0) (.int .i64 0) (.int .i64 0) (.int .i64 0) (.int .i64 0) (zay (b:=bx+1) (.int .i64 0) (.int .i64 0) J2)
 have FIN:=L_ (HH.out _ (tp_end KE) JE)
 go_wp2_with fail
 have hag:=Tryz.isAgg29
 have hsz:=Tryz.sizeOf29
 have hag2:=Tryz.isAgg85
 have hsz2:=Tryz.sizeOf85
 exact bodyPost_ret (v:=.tuple #[tkA 0 0,ndA 0 0 0 0 0 0 0 0,.int .i64 e]) (by simp [results,Tryz.results47,go_sem,z0,z1,z2,z3,z4,z5,z6,z7,y2,y3]) rfl FIN.out
theorem z9d (t:Sq.T) (a b:Int) (ht:Hid (Sq.zed M t (a,b))) (hx:Hid x.Ok) (H:Sat (zav x (some M)*F) w)
  (h:∀ r1 r2 v1 v2 v3 v4 v5 v6 v7 v8 w',Hid ((r1,r2)=t.top∧t.nd Sq.nob=⟨(v1,v2),(v3,v4),(v5,v6),v7,v8⟩)→Sat (zav x (some M)*F) w'→Io w w'→R (.returned (.tuple #[tkA r1 r2,ndA v1 v2 v3 v4 v5 v6 v7 v8,.int .i64 0])) w') :
  Calls Tryz.prog 47 #[.pointer (some ⟨x.s,0,none⟩),tkA a b] w R:=by
 have HH:=L_ h
 obtain ⟨l,r,z,hz⟩:=Sq.Z.find t .top ht.out.mem
 have hz':t=z.zcm (.node l (a,b) r):=hz
 have HZ:=L_ hz'
 have HW:Hid (zry M (z.way l (a,b) r Sq.nob)):=L_ (Sq.zhv (hz' ▸ ht.out))
 have HL:=L_ (Sq.z8t z l (a,b) r)
 have H0:Hid ((z.way l (a,b) r Sq.nob)[0]?=some ⟨(a,b),Sq.nod l r (z.up Sq.nob),Sq.nob⟩∧(⟨(a,b),Sq.nod l r (z.up Sq.nob),Sq.nob⟩:Step).fr=Sq.nob):=L_ ⟨rfl,rfl⟩
 have HK:Hid ((⟨(a,b),Sq.nod l r (z.up Sq.nob),Sq.nob⟩:Step).k=(a,b)):=L_ rfl
 generalize z.way l (a,b) r Sq.nob=way at *
 generalize (⟨(a,b),Sq.nod l r (z.up Sq.nob),Sq.nob⟩:Step)=s0 at *
 obtain ⟨e,hee⟩:∃ e:Int,e=0:=⟨0,rfl⟩
 have hb0:Sq.zfw M (a,b)=0:=by
  unfold Sq.zfw
  rw [if_neg (not_not_intro (ht.out.ok _ ht.out.mem)),if_neg]
  obtain ⟨n,hn⟩:=ht.out.hold.some _ ht.out.mem
  rw [hn];simp
 have he:Hid (e=Sq.zfw M (a,b)):=L_ (hee.trans hb0.symm)
 clear hb0 hz hz'
 have H1:=tp_in (((H.new (.cells #[.int .i64 a,.int .i64 b] 29)).new (.cells #[.int .i64 0,.int .i64 0] 29)).new (.cells #[.int .i64 0,.int .i64 0,.int .i64 0,.int .i64 0,.int .i64 0,.int .i64 0,.int .i64 0,.int .i64 0] 85))
 have I1:=io3 H1 (Io.refl w)
 simp only [World.size_alloc,Nat.add_assoc,Nat.reduceAdd] at H1
 have K1:=zai (H1.new (.cells #[.int .i64 a,.int .i64 b] 29))
 have J1:=io1 K1 I1
 clear h H
 go_enter Tryz.func47,Tryz.ntmps47
 go_upto_region 1 with fail
 generalize ((w.alloc _).alloc _).alloc _=w1 at *
 generalize w.heap.size=bx at *
 obtain ⟨y0,y1⟩:=tk2 H1.right.right.right
 go_upto_region 2 with (go_at_call 44;(with_reducible refine zd4 a b he hx K1 ?_);intro w2 H2 I2;have K2:=zcf H2;have J2:=J1.trans I2)
 clear y0 y1 H1 I1 K1 J1 H2 I2
 subst hee
 go_upto_region 5 with fail
 have K3:=(K2.new (.cells #[.int .i64 0,.int .i64 0,.int .i64 0,.int .i64 0,.int .i64 0,.int .i64 0,.int .i64 0,.int .i64 0] 85))
 have J3:=io1 K3 J2
 generalize w2.alloc _=w3 at *
 generalize w2.heap.size=bl at *
 obtain ⟨y0,y1⟩:=tk2 K3.right.right.right.right
 have K4:Sat (zav x (some M)*(ndAt bl (Sq.ztt way 0)*(pts (bx+2) (.cells #[.int .i64 0,.int .i64 0,.int .i64 0,.int .i64 0,.int .i64 0,.int .i64 0,.int .i64 0,.int .i64 0] 85 (0,0))*(pts (bx+1) (.cells #[.int .i64 0,.int .i64 0] 29 (0,0))*(pts bx (.cells #[.int .i64 a,.int .i64 b] 29 (0,0))*F))))) w3:=zai K3
 go_upto_region 6 with (go_at_call 70;(refine zj1 xga (z81 way bl) HW s0 H0 a b HK hx K4 ?_);intro r1 r2 w4 hr H4 I4;have K5:=H4.new (.cells #[.int .i64 r1,.int .i64 r2] 29);have J5:=(J3.trans I4).alloc (.cells #[.int .i64 r1,.int .i64 r2] 29))
 clear y0 y1 K3 J3 K4 K2 J2 I4
 generalize w4.alloc _=w5 at *
 generalize w4.heap.size=b9 at *
 obtain ⟨sl,hl1,hl2,hl3⟩:=HL.out
 have HR:Hid ((r1,r2)=t.top):=L_ (by
  obtain ⟨s',e1,e2⟩:=hr.out
  rw [hl1] at e1
  cases e1
  rw [←e2,hl2,HZ.out])
 have hlast:Sq.ztt way way.length=t.nd Sq.nob:=by
  obtain ⟨hi,-⟩:=List.getElem?_eq_some_iff.1 hl1
  cases hw:way.length with
  | zero=>rw [hw] at hi;omega
  | succ n =>
   have hl4:way[n]?=some sl:=by rw [hw] at hl1;exact hl1
   rw [Sq.zpf hl4,hl3,HZ.out]
 rw [hlast] at K5
 have HT:Hid (t.nd Sq.nob=t.nd Sq.nob):=L_ rfl
 generalize t.nd Sq.nob=n at *
 obtain ⟨⟨v1,v2⟩,⟨v3,v4⟩,⟨v5,v6⟩,v7,v8⟩:=n
 obtain ⟨y0,y1⟩:=zb5 K5.right
 clear H4 HL hl1 hl2 hl3 hr hlast HZ HW H0 HK
 go_upto_region 8 with fail
 clear y0 y1
 have Kd:=K5.drew
 have Jd:=J5.drew
 clear K5 J5
 have S0:=zp5 Kd
 have FL:=xeb (.int .i64 r1) (.int .i64 r2) (.int .i64 v1) (.int .i64 v2) (.int .i64 v3) (.int .i64 v4) (.int .i64 v5) (.int .i64 v6) (.int .i64 v7) (.int .i64 v8) Kd
 obtain ⟨f0,f1⟩:=zgf Kd.right.right.right.right
 obtain ⟨g0,g1⟩:=tk2 Kd.right.right.right.right
 have G:=zb0 FL.1.right.right.right
 obtain ⟨g2,g3,g4,g5,g6,g7,g8,g9⟩:=G
 have Q:=nd8 FL.1.right.right.right
 obtain ⟨h0,h1,h2,h3,h4,h5,h6,h7⟩:=Q
 have JE:=zac (b:=bx+2) (.int .i64 v1) (.int .i64 v2) (.int .i64 v3) (.int .i64 v4) (.int .i64 v5) (.int .i64 v6) (.int .i64 v7) (.int .i64 v8) (zay (b:=bx+1) (.int .i64 r1) (.int .i64 r2) Jd)
 refine rh Kd (fun W Kd=>zp5 Kd) fun hHeld=>?_
 generalize w5.drew=wd at *
 refine tk ?_ ?_ [0,1] ?_ hHeld ?_;rotate_left 2;exact tt
 refine rd [2] (rc fun K hK=>?_)
 go_simp
 refine hK.out _ _ (by exact zp5 FL.1) fun hHeld=>?_
 clear hK K
 try simp only [sp]
 refine rd [3] (rc fun K hK=>?_)
 go_simp
 refine hK.out _ _ (by exact zp5 FL.2) fun hHeld=>?_
 clear hK K
 try simp only [sp]
 refine tk ?_ ?_ [4] ?_ hHeld ?_;rotate_left 2;exact tt
 refine wpAnyH_done (by kernel_rfl) ?_ _
 have Z:=nd8 FL.2.right.right.right
 obtain ⟨z0,z1,z2,z3,z4,z5,z6,z7⟩:=Z
 obtain ⟨y2,y3⟩:=tk2 FL.2.right.right.right.right
 have FIN:=L_ (HH.out r1 r2 v1 v2 v3 v4 v5 v6 v7 v8 _ (L_ ⟨HR.out,HT.out⟩) (xec FL.2) JE)
 go_wp2_with fail
 have hag:=Tryz.isAgg29
 have hsz:=Tryz.sizeOf29
 have hag2:=Tryz.isAgg85
 have hsz2:=Tryz.sizeOf85
 exact bodyPost_ret (v:=.tuple #[tkA r1 r2,ndA v1 v2 v3 v4 v5 v6 v7 v8,.int .i64 0]) (by simp [results,Tryz.results47,go_sem,z0,z1,z2,z3,z4,z5,z6,z7,y2,y3]) rfl FIN.out
end
end Go.Proofs.YtfknjmoekbabcaaGreatDoor
namespace Go.Proofs.YtfknjmoekbabcaaGreatDoor
open Go.RowKit Go.Lib
open Sq (Tk Nd Mp zca InT Fr)
namespace Sq
def TF (M:Mp) (tr:Tk→T):Prop:=∀ k,M k≠none→zed M (tr k) k
def TopR (M:Mp) (tr:Tk→T) (k r:Tk) (n:Nd) (e:Int):Prop:=(e=zfw M k∧e≠0∧r=(0,0)∧n=nd0)∨(zfw M k=0∧e=0∧M k≠none∧OkT k∧r=(tr k).top∧n=(tr k).nd nob)
def zd8 (ts:List T) (k:Tk):T:=ts[fi (ts.map T.toks) k]?.getD .nil
theorem For.tf {M:Mp} {ts:List T} (f:For M ts) (hc:(flat ts).length≤250):TF M (zd8 ts):=fun k hk=>by
 obtain ⟨hi,h1,_⟩:=f.at hc (f.here.1 hk)
 unfold zd8
 rw [List.getElem?_eq_getElem hi]
 exact h1
end Sq
section
variable {x:Sx} {M:Mp} {F:Asn} {w:World} {R:Ending→World→Prop} {tr:Tk→Sq.T}
theorem zef (tr:Tk→Sq.T) (a b:Int) (hT:Hid (Sq.TF M tr)) (hx:Hid x.Ok) (H:Sat (zav x (some M)*F) w)
  (h:∀ r1 r2 v1 v2 v3 v4 v5 v6 v7 v8 e w',Hid (Sq.TopR M tr (a,b) (r1,r2) ⟨(v1,v2),(v3,v4),(v5,v6),v7,v8⟩ e)→Sat (zav x (some M)*F) w'→Io w w'→R (.returned (.tuple #[tkA r1 r2,ndA v1 v2 v3 v4 v5 v6 v7 v8,.int .i64 e])) w') :
  Calls Tryz.prog 47 #[.pointer (some ⟨x.s,0,none⟩),tkA a b] w R:=by
 rcases zd6 M (a,b) with ⟨q1,q2⟩ | ⟨q1,q2,q3⟩ | ⟨q1,q2,q3⟩
 ·exact z1x a b (e:=30) (L_ q1.symm) (L_ (by decide)) hx H fun w' H' I=>h 0 0 0 0 0 0 0 0 0 0 30 w' (L_ (.inl ⟨q1.symm,by decide,rfl,rfl⟩)) H' I
 ·exact z1x a b (e:=181) (L_ q1.symm) (L_ (by decide)) hx H fun w' H' I=>h 0 0 0 0 0 0 0 0 0 0 181 w' (L_ (.inl ⟨q1.symm,by decide,rfl,rfl⟩)) H' I
 ·exact z9d (tr (a,b)) a b (L_ (hT.out _ q3)) hx H fun r1 r2 v1 v2 v3 v4 v5 v6 v7 v8 w' hr H' I=>h r1 r2 v1 v2 v3 v4 v5 v6 v7 v8 0 w' (L_ (.inr ⟨q1,rfl,q3,q2,hr.out.1,hr.out.2.symm⟩)) H' I
theorem wr_in {A B:Asn} {C:Asn} (H:Sat (A*(B*(C*F))) w):Sat (C*(A*(B*F))) w:=H.of_eq (by ac_rfl)
theorem xcu {A B C D:Asn} (H:Sat (A*(B*(C*(D*F)))) w):Sat (C*F) w:=(H.of_eq (show _=(A*(B*D))*(C*F) from by ac_rfl)).right
theorem wr_res {A B C D:Asn} {b1:Nat} {t1:TypeId} {z0 z1:Value} (x0 x1:Value) (H:Sat (A*(B*(C*(pts b1 (.cells #[z0,z1] t1 (0,0))*(D*F))))) w) :
  Sat (pts b1 (.cells #[x0,x1] t1 (0,0))*(C*F)) ((w.setCell ⟨b1,0,none⟩ x0).setCell ⟨b1,1,none⟩ x1):=by
 have h:=zc2 x0 x1 (H.of_eq (show _=pts b1 (.cells #[z0,z1] t1 (0,0))*((A*(B*D))*(C*F)) from by ac_rfl))
 exact (h.of_eq (show _=(A*(B*D))*(pts b1 (.cells #[x0,x1] t1 (0,0))*(C*F)) from by ac_rfl)).right
theorem xhu (tr:Tk→Sq.T) (a b:Int) (hT:Hid (Sq.TF M tr)) (hx:Hid x.Ok) (H:Sat (zav x (some M)*F) w)
  (h:∀ r1 r2 v1 v2 v3 v4 v5 v6 v7 v8 e w',Hid (Sq.TopR M tr (a,b) (r1,r2) ⟨(v1,v2),(v3,v4),(v5,v6),v7,v8⟩ e)→Sat (zav x (some M)*F) w'→Io w w'→R (.returned (.tuple #[tkA r1 r2,.int .i64 e])) w') :
  Calls Tryz.prog 61 #[.pointer (some ⟨x.s,0,none⟩),tkA a b] w R:=by
 have HH:=L_ h
 have H1:=(H.new (.cells #[.int .i64 a,.int .i64 b] 29)).new (.cells #[.int .i64 0,.int .i64 0] 29)
 have I1:=io2 H1 (Io.refl w)
 rw [World.size_alloc] at H1
 have H1:=wr_in H1
 clear h H
 go_enter Tryz.func61,Tryz.ntmps61
 go_upto_region 1 with fail
 generalize (w.alloc _).alloc _=w1 at *
 generalize w.heap.size=bx at *
 obtain ⟨y0,y1⟩:=tk2 H1.right.right
 go_upto_region 2 with (go_at_call 47;(with_reducible refine zef tr a b hT hx H1 ?_);intro r1 r2 v1 v2 v3 v4 v5 v6 v7 v8 e w2 hr H2 I2;have K2:=(H2.new (.cells #[.int .i64 r1,.int .i64 r2] 29)).new (.cells #[.int .i64 v1,.int .i64 v2,.int .i64 v3,.int .i64 v4,.int .i64 v5,.int .i64 v6,.int .i64 v7,.int .i64 v8] 85);have J2:=((I1.trans I2).alloc (.cells #[.int .i64 r1,.int .i64 r2] 29)).alloc (.cells #[.int .i64 v1,.int .i64 v2,.int .i64 v3,.int .i64 v4,.int .i64 v5,.int .i64 v6,.int .i64 v7,.int .i64 v8] 85))
 rw [World.size_alloc] at K2
 clear y0 y1 H1 I1 H2 I2
 generalize (w2.alloc _).alloc _=w3 at *
 generalize w2.heap.size=b6 at *
 obtain ⟨z0,z1⟩:=tk2 K2.right
 obtain ⟨f0,f1⟩:=zgf K2.right.right.right
 obtain ⟨g0,g1⟩:=tk2 K2.right.right.right
 have KE:=wr_res (.int .i64 r1) (.int .i64 r2) K2
 have JE:=zay (b:=bx+1) (.int .i64 r1) (.int .i64 r2) J2
 obtain ⟨q0,q1⟩:=tk2 KE
 have FIN:=L_ (HH.out r1 r2 v1 v2 v3 v4 v5 v6 v7 v8 e _ hr KE.right JE)
 go_wp2_with fail
 have hag:=Tryz.isAgg29
 have hsz:=Tryz.sizeOf29
 exact bodyPost_ret (v:=.tuple #[tkA r1 r2,.int .i64 e]) (by simp [results,Tryz.results61,go_sem,q0,q1]) rfl FIN.out
theorem zj0 (tr:Tk→Sq.T) (a b:Int) (hT:Hid (Sq.TF M tr)) (hx:Hid x.Ok) (H:Sat (zav x (some M)*F) w)
  (h:∀ r1 r2 v1 v2 v3 v4 v5 v6 v7 v8 e w',Hid (Sq.TopR M tr (a,b) (r1,r2) ⟨(v1,v2),(v3,v4),(v5,v6),v7,v8⟩ e)→Sat (zav x (some M)*F) w'→Io w w'→R (.returned (.tuple #[.int .i64 v7,.int .i64 e])) w') :
  Calls Tryz.prog 38 #[.pointer (some ⟨x.s,0,none⟩),tkA a b] w R:=by
 have HH:=L_ h
 have H1:=zai (H.new (.cells #[.int .i64 a,.int .i64 b] 29))
 have I1:=io1 H1 (Io.refl w)
 clear h H
 go_enter Tryz.func38,Tryz.ntmps38
 go_upto_region 1 with fail
 generalize w.alloc _=w1 at *
 generalize w.heap.size=bx at *
 obtain ⟨y0,y1⟩:=tk2 H1.right
 go_upto_region 2 with (go_at_call 47;(with_reducible refine zef tr a b hT hx H1 ?_);intro r1 r2 v1 v2 v3 v4 v5 v6 v7 v8 e w2 hr H2 I2;have K2:=(H2.new (.cells #[.int .i64 r1,.int .i64 r2] 29)).new (.cells #[.int .i64 v1,.int .i64 v2,.int .i64 v3,.int .i64 v4,.int .i64 v5,.int .i64 v6,.int .i64 v7,.int .i64 v8] 85);have J2:=((I1.trans I2).alloc (.cells #[.int .i64 r1,.int .i64 r2] 29)).alloc (.cells #[.int .i64 v1,.int .i64 v2,.int .i64 v3,.int .i64 v4,.int .i64 v5,.int .i64 v6,.int .i64 v7,.int .i64 v8] 85))
 rw [World.size_alloc] at K2
 clear y0 y1 H1 I1 H2 I2
 generalize (w2.alloc _).alloc _=w3 at *
 generalize w2.heap.size=b6 at *
 have Z:=nd8 K2
 obtain ⟨-,-,-,-,-,-,z6,z7⟩:=Z
 have FIN:=L_ (HH.out r1 r2 v1 v2 v3 v4 v5 v6 v7 v8 e _ hr (xcu K2) J2)
 go_wp2_with fail
 first | exact FIN.out | exact bodyPost_ret (v:=.tuple #[.int .i64 v7,.int .i64 e]) (by simp [results,Tryz.results38,go_sem]) rfl FIN.out
theorem zwe (tr:Tk→Sq.T) (a b:Int) (hT:Hid (Sq.TF M tr)) (hx:Hid x.Ok) (H:Sat (zav x (some M)*F) w)
  (h:∀ r1 r2 v1 v2 v3 v4 v5 v6 v7 v8 e w',Hid (Sq.TopR M tr (a,b) (r1,r2) ⟨(v1,v2),(v3,v4),(v5,v6),v7,v8⟩ e)→Sat (zav x (some M)*F) w'→Io w w'→R (.returned (.tuple #[.int .i64 v8,.int .i64 e])) w') :
  Calls Tryz.prog 18 #[.pointer (some ⟨x.s,0,none⟩),tkA a b] w R:=by
 have HH:=L_ h
 have H1:=zai (H.new (.cells #[.int .i64 a,.int .i64 b] 29))
 have I1:=io1 H1 (Io.refl w)
 clear h H
 go_enter Tryz.func18,Tryz.ntmps18
 go_upto_region 1 with fail
 generalize w.alloc _=w1 at *
 generalize w.heap.size=bx at *
 obtain ⟨y0,y1⟩:=tk2 H1.right
 go_upto_region 2 with (go_at_call 47;(with_reducible refine zef tr a b hT hx H1 ?_);intro r1 r2 v1 v2 v3 v4 v5 v6 v7 v8 e w2 hr H2 I2;have K2:=(H2.new (.cells #[.int .i64 r1,.int .i64 r2] 29)).new (.cells #[.int .i64 v1,.int .i64 v2,.int .i64 v3,.int .i64 v4,.int .i64 v5,.int .i64 v6,.int .i64 v7,.int .i64 v8] 85);have J2:=((I1.trans I2).alloc (.cells #[.int .i64 r1,.int .i64 r2] 29)).alloc (.cells #[.int .i64 v1,.int .i64 v2,.int .i64 v3,.int .i64 v4,.int .i64 v5,.int .i64 v6,.int .i64 v7,.int .i64 v8] 85))
 rw [World.size_alloc] at K2
 clear y0 y1 H1 I1 H2 I2
 generalize (w2.alloc _).alloc _=w3 at *
 generalize w2.heap.size=b6 at *
 have Z:=nd8 K2
 obtain ⟨-,-,-,-,-,-,z6,z7⟩:=Z
 have FIN:=L_ (HH.out r1 r2 v1 v2 v3 v4 v5 v6 v7 v8 e _ hr (xcu K2) J2)
 go_wp2_with fail
 first | exact FIN.out | exact bodyPost_ret (v:=.tuple #[.int .i64 v8,.int .i64 e]) (by simp [results,Tryz.results18,go_sem]) rfl FIN.out
theorem zke (M:Mp) (a b:Tk):(Sq.ze0 M a b≠0∧(Sq.ze0 M a b=30∨Sq.ze0 M a b=181))∨(Sq.ze0 M a b=0∧Sq.zfw M a=0∧Sq.zfw M b=0):=by
 unfold Sq.ze0 Sq.zfw
 by_cases h1:Sq.OkT a<;>by_cases h2:Sq.OkT b<;>by_cases h3:M a=none<;>by_cases h4:M b=none<;>simp [h1,h2,h3,h4]
theorem z1k {B C D:Asn} (H:Sat (B*(C*(D*F))) w):Sat (B*F) w:=(H.of_eq (show _=(C*D)*(B*F) from by ac_rfl)).right
theorem sm_fr {A B C D:Asn} (H:Sat (A*(B*(C*(D*F)))) w):Sat (C*(A*(B*(D*F)))) w:=H.of_eq (by ac_rfl)
theorem sm_end {A B C D E G I:Asn} (H:Sat (A*(B*(C*(D*(E*(G*(I*F))))))) w):Sat (C*F) w:=(H.of_eq (show _=(A*(B*(D*(E*(G*I)))))*(C*F) from by ac_rfl)).right
theorem zi2 (tr:Tk→Sq.T) (a1 b1 a2 b2:Int) {d:Bool} {e:Int} (hd:Hid ((d=false∧e≠0∧e=Sq.ze0 M (a1,b1) (a2,b2))∨(Sq.ze0 M (a1,b1) (a2,b2)=0∧e=0∧d=decide ((tr (a1,b1)).top=(tr (a2,b2)).top)))) (hT:Hid (Sq.TF M tr)) (hx:Hid x.Ok) (H:Sat (zav x (some M)*F) w)
  (h:∀ w',Sat (zav x (some M)*F) w'→Io w w'→R (.returned (.tuple #[.bool d,.int .i64 e])) w') :
  Calls Tryz.prog 27 #[.pointer (some ⟨x.s,0,none⟩),tkA a1 b1,tkA a2 b2] w R:=by
 have HH:=L_ h
 have H1:=wr_in (((H.new (.cells #[.int .i64 a1,.int .i64 b1] 29)).new (.cells #[.int .i64 a2,.int .i64 b2] 29)).of_eq (show _=pts (w.alloc (.cells #[.int .i64 a1,.int .i64 b1] 29)).heap.size (.cells #[.int .i64 a2,.int .i64 b2] 29 (0,0))*(pts w.heap.size (.cells #[.int .i64 a1,.int .i64 b1] 29 (0,0))*(zav x (some M)*F)) from by ac_rfl))
 have I1:=io2 H1 (Io.refl w)
 rw [World.size_alloc] at H1
 have K1:=zai (H1.new (.cells #[.int .i64 a1,.int .i64 b1,.int .i64 a2,.int .i64 b2] 29))
 have J1:=io1 K1 I1
 obtain ⟨eb,heb⟩:∃ eb,eb=Sq.ze0 M (a1,b1) (a2,b2):=⟨_,rfl⟩
 have HEB:=L_ heb
 clear h H heb
 go_enter Tryz.func27,Tryz.ntmps27
 go_upto_region 1 with fail
 generalize (w.alloc _).alloc _=w1 at *
 generalize w.heap.size=bx at *
 obtain ⟨y0,y1⟩:=tk2 H1.right.right
 obtain ⟨y2,y3⟩:=tk2 H1.right
 go_upto_region 2 with (go_at_call 44;(with_reducible refine zst a1 b1 a2 b2 HEB hx K1 ?_);intro w2 H2 I2;have K2:=zcf H2;have J2:=J1.trans I2)
 clear y0 y1 y2 y3 H1 I1 K1 J1 H2 I2
 rcases zke M (a1,b1) (a2,b2) with ⟨q1,q2⟩ | ⟨q1,q2,q3⟩
 ·obtain ⟨rfl,rfl⟩:d=false∧e=eb:=by
   rcases hd.out with ⟨h1,h2,h3⟩ | ⟨h1,_⟩
   ·exact ⟨h1,h3.trans HEB.out.symm⟩
   ·exact absurd h1 q1
  have FIN:=L_ (HH.out w2 (z1k K2) J2)
  have hq:e=30∨e=181:=by rw [HEB.out];exact q2
  clear q1 q2 HEB hd
  rcases hq with rfl | rfl
  ·go_wp2_with fail
   first | exact FIN.out | exact bodyPost_ret (v:=.tuple #[.bool false,.int .i64 30]) (by simp [results,Tryz.results27,go_sem]) rfl FIN.out
  ·go_wp2_with fail
   first | exact FIN.out | exact bodyPost_ret (v:=.tuple #[.bool false,.int .i64 181]) (by simp [results,Tryz.results27,go_sem]) rfl FIN.out
 ·obtain ⟨rfl,hdd⟩:e=0∧d=decide ((tr (a1,b1)).top=(tr (a2,b2)).top):=by
   rcases hd.out with ⟨h1,h2,h3⟩ | ⟨_,h2,h3⟩
   ·exact absurd (h3.trans q1) h2
   ·exact ⟨h2,h3⟩
  obtain rfl:eb=0:=HEB.out.trans q1
  have HDD:=L_ hdd
  have Q2:=L_ q2
  have Q3:=L_ q3
  obtain ⟨y0,y1⟩:=tk2 K2.right.right
  clear q1 q2 q3 HEB hd hdd
  go_upto_region 5 with (go_at_call 47;(with_reducible refine zef tr a1 b1 hT hx K2 ?_);intro r1 r2 v1 v2 v3 v4 v5 v6 v7 v8 e1 w3 hr H3 I3;have K3:=(H3.new (.cells #[.int .i64 r1,.int .i64 r2] 29)).new (.cells #[.int .i64 v1,.int .i64 v2,.int .i64 v3,.int .i64 v4,.int .i64 v5,.int .i64 v6,.int .i64 v7,.int .i64 v8] 85);have J3:=((J2.trans I3).alloc (.cells #[.int .i64 r1,.int .i64 r2] 29)).alloc (.cells #[.int .i64 v1,.int .i64 v2,.int .i64 v3,.int .i64 v4,.int .i64 v5,.int .i64 v6,.int .i64 v7,.int .i64 v8] 85))
  rw [World.size_alloc] at K3
  clear y0 y1 K2 J2 H3 I3
  generalize (w3.alloc _).alloc _=w4 at *
  generalize w3.heap.size=b9 at *
  obtain ⟨rfl,HR1⟩:e1=0∧Hid ((r1,r2)=(tr (a1,b1)).top):=by
   rcases hr.out with ⟨h1,h2,_⟩ | ⟨_,h2,_,_,h3,_⟩
   ·exact absurd (h1.trans Q2.out) h2
   ·exact ⟨h2,L_ h3⟩
  obtain ⟨y2,y3⟩:=tk2 K3.right.right.right
  go_upto_region 8 with (go_at_call 47;(with_reducible refine zef tr a2 b2 hT hx (sm_fr K3) ?_);intro s1 s2 u1 u2 u3 u4 u5 u6 u7 u8 e2 w5 hs H5 I5;have K5:=(H5.new (.cells #[.int .i64 s1,.int .i64 s2] 29)).new (.cells #[.int .i64 u1,.int .i64 u2,.int .i64 u3,.int .i64 u4,.int .i64 u5,.int .i64 u6,.int .i64 u7,.int .i64 u8] 85);have J5:=((J3.trans I5).alloc (.cells #[.int .i64 s1,.int .i64 s2] 29)).alloc (.cells #[.int .i64 u1,.int .i64 u2,.int .i64 u3,.int .i64 u4,.int .i64 u5,.int .i64 u6,.int .i64 u7,.int .i64 u8] 85))
  rw [World.size_alloc] at K5
  clear y2 y3 K3 J3 H5 I5
  generalize (w5.alloc _).alloc _=w6 at *
  generalize w5.heap.size=b12 at *
  obtain ⟨rfl,HR2⟩:e2=0∧Hid ((s1,s2)=(tr (a2,b2)).top):=by
   rcases hs.out with ⟨h1,h2,_⟩ | ⟨_,h2,_,_,h3,_⟩
   ·exact absurd (h1.trans Q3.out) h2
   ·exact ⟨h2,L_ h3⟩
  have EQ:=fun W=>zci r1 r2 s1 s2 W
  rw [show decide ((r1,r2)=(s1,s2))=d from by rw [HDD.out,HR1.out,HR2.out]] at EQ
  obtain ⟨y4,y5⟩:=tk2 K5.right
  obtain ⟨y6,y7⟩:=tk2 K5.right.right.right.right
  have FIN:=L_ (HH.out _ (sm_end K5) J5)
  clear hr hs HDD HR1 HR2
  go_wp2_with fail
  first | exact FIN.out | exact bodyPost_ret (v:=.tuple #[.bool d,.int .i64 0]) (by simp [results,Tryz.results27,go_sem]) rfl FIN.out
end
end Go.Proofs.YtfknjmoekbabcaaGreatDoor
namespace Go.Proofs.YtfknjmoekbabcaaGreatDoor
open Go.RowKit Go.Lib
open Sq (Tk Nd Mp zca InT Fr)
open Sq.Z (Step)
namespace Sq
def zej (M:Mp) (k:Tk):Int:=match M k with | some n=>n.count | none=>0
def ziq (M:Mp) (s:Step):Int:=if s.fr=nob then zej M s.n.left else if s.fr=s.n.right then zej M s.n.left+1 else 0
def rkE (M:Mp) (way:List Step) (i:Nat):Int:=((way.take i).map (ziq M)).sum
theorem zyi {M:Mp} {way:List Step} {i:Nat} {s:Step} (h:way[i]?=some s):rkE M way (i+1)=rkE M way i+ziq M s:=by
 unfold rkE
 rw [List.take_add_one,h]
 simp
theorem z6l {M:Mp} {t:T} {u:Tk} (h:zc8 M t u) (hn:M nob=none):zej M t.top=t.cnt:=by
 cases t with
 | nil=>unfold zej T.top T.cnt;rw [hn];rfl
 | node l k r=>unfold zej T.top;rw [h.1];rfl
theorem zru {M:Mp} (hn:M nob=none):∀ (z:Z) (t:T) (u:Tk),t≠.nil→Z.z8p M z t u→(∀ y∈(z.zcm t).toks,OkT y)→(z.zcm t).toks.Nodup→(Z.anc z t u).map (ziq M)=(Z.gains z).map (Nat.cast:Nat→Int)
 | .top,t,u,_,_,_,_=>rfl
 | .inl x r z,t,u,ht,h,ok,nd=>by
  have e1:(Z.anc z (.node t x r) u).map (ziq M)=_:=zru hn z (.node t x r) u (by intro e;cases e) h.2.2 ok nd
  have nt:t.top≠nob:=(ok _ (zja z _ _ (by simp [T.toks,T.zeo ht]))).ne
  have nr:t.top≠r.top:=by
   intro e
   have hr:r≠.nil:=by rintro rfl;exact nt e
   have nd2:(T.node t x r).toks.Nodup:=by
    have:=nd
    rw [Z.zcm,Z.zb2] at this
    exact (List.nodup_append.1 (List.nodup_append.1 this).2.1).1
   rw [T.toks] at nd2
   exact (List.nodup_append.1 nd2).2.2 _ (T.zeo ht) _ (List.mem_cons_of_mem _ (T.zeo hr)) e
  simp only [Z.anc,Z.gains,List.map_cons,e1]
  congr 1
  have:ziq M ⟨x,nod t r (z.up u),t.top⟩=0:=(if_neg nt).trans (if_neg nr)
  exact this
 | .inr l x z,t,u,ht,h,ok,nd=>by
  have e1:(Z.anc z (.node l x t) u).map (ziq M)=_:=zru hn z (.node l x t) u (by intro e;cases e) h.2.2 ok nd
  have nt:t.top≠nob:=(ok _ (zja z _ _ (by simp [T.toks,T.zeo ht]))).ne
  simp only [Z.anc,Z.gains,List.map_cons,e1]
  congr 1
  have e2:ziq M ⟨x,nod l t (z.up u),t.top⟩=zej M l.top+1:=(if_neg nt).trans (if_pos rfl)
  have:zej M l.top=l.cnt:=z6l h.2.1 hn
  rw [e2,this];rfl
theorem z1v:∀ l:List Nat,(l.map (Nat.cast:Nat→Int)).sum=(l.sum:Nat)
 | []=>rfl
 | a::l=>by simp [z1v l]
theorem rk_way {M:Mp} (hn:M nob=none) {l r:T} {z:Z} {k:Tk} (h:zed M (z.zcm (.node l k r)) k):rkE M (z.way l k r nob) (z.way l k r nob).length=fj (z.zcm (.node l k r)).toks k:=by
 unfold rkE
 rw [List.take_length]
 obtain ⟨h1,h2⟩:=Z.zg8 h.hold
 unfold Z.way
 rw [List.map_cons,List.sum_cons,zru hn z _ nob (by intro e;cases e) h2 h.ok h.nodup,z1v,Z.zm0]
 have e:ziq M ⟨k,nod l r (z.up nob),nob⟩=l.cnt:=by
  unfold ziq
  rw [if_pos rfl]
  exact z6l h1.2.1 hn
 have nd:=h.nodup
 rw [Z.zb2] at nd
 have ek:(z.zcm (.node l k r)).toks=(z.ahead++l.toks)++k::(r.toks++z.behind):=by rw [Z.zb2,T.toks];simp
 have hk:k∉z.ahead++l.toks:=by
  have:=h.nodup
  rw [ek] at this
  intro hm
  exact (List.nodup_append.1 this).2.2 k hm k (List.mem_cons_self ..) rfl
 rw [e,ek,zue hk,List.length_append,Z.zqk,T.zbn]
 omega
theorem zmu {M:Mp}:∀ {t:T} {u:Tk},zc8 M t u→∀ k∈t.toks,∀ n,M k=some n→n.left=nob∨∃ n',M n.left=some n'
 | .nil,_,_,k,hk,_,_=>by simp [T.toks] at hk
 | .node l x r,u,h,k,hk,n,hn=>by
  rw [T.toks,List.mem_append,List.mem_cons] at hk
  rcases hk with hk | rfl | hk
  ·exact zmu h.2.1 k hk n hn
  ·rw [h.1] at hn
   cases hn
   cases l with
   | nil=>exact .inl rfl
   | node l1 y l2=>exact .inr ⟨_,h.2.1.1⟩
  ·exact zmu h.2.2 k hk n hn
structure znj (M:Mp) (way:List Step):Prop where
 len:way.length≤255
 left:∀ s∈way,s.n.left=nob∨∃ n,M s.n.left=some n
 none:M nob=.none
 cnt:∀ k n,M k=some n→zca n.count
theorem z9e {M:Mp} {l r:T} {z:Z} {k:Tk} (h:zed M (z.zcm (.node l k r)) k) (hn:M nob=.none) (hc:∀ k n,M k=some n→zca n.count):znj M (z.way l k r nob) where
 len:=(zhv h).len
 left:=fun s hs=>by
  have h1:=(zhv h).here s hs
  refine zmu h.hold s.k ?_ s.n h1.1
  unfold Z.way at hs
  rcases List.mem_cons.1 hs with rfl | hs
  ·exact h.mem
  ·exact Z.zrr z _ _ s hs
 none:=hn
 cnt:=hc
theorem zy8 {M:Mp} {way:List Step} (h:znj M way) (k:Tk):0≤zej M k∧zej M k≤4294967295:=by
 unfold zej
 cases e:M k with
 | none=>simp
 | some n=>exact h.cnt k n e
theorem xdj {M:Mp} {way:List Step} (h:znj M way):∀ i:Nat,0≤rkE M way i∧rkE M way i≤4294967296*i
 | 0=>by simp [rkE]
 | i+1=>by
  have ih:=xdj h i
  cases e:way[i]? with
  | none =>
   have:rkE M way (i+1)=rkE M way i:=by unfold rkE;rw [List.take_add_one,e];simp
   rw [this];omega
  | some s =>
   rw [zyi e]
   have h1:=zy8 h s.n.left
   have:0≤ziq M s∧ziq M s≤4294967296:=by unfold ziq;split<;>(try split)<;>omega
   omega
end Sq
section
variable {x:Sx} {M:Mp} {F:Asn} {w:World} {R:Ending→World→Prop}
theorem zso (k1 k2 c:Int) (hc:Hid (Sq.zej M (k1,k2)=c)) (hn:Hid (M Sq.nob=none)) (hk:Hid ((k1,k2)=Sq.nob∨∃ n,M (k1,k2)=some n)) (hx:Hid x.Ok) (H:Sat (zav x (some M)*F) w)
  (h:∀ n1 n2 n3 n4 n5 n6 n8 w',Sat (zav x (some M)*F) w'→Io w w'→R (.returned (ndA n1 n2 n3 n4 n5 n6 c n8)) w') :
  Calls Tryz.prog 58 #[.pointer (some ⟨x.s,0,none⟩),tkA k1 k2] w R:=by
 by_cases e:(k1,k2)=Sq.nob
 ·have e2:=hc.out
  rw [e] at e2
  unfold Sq.zej at e2
  rw [hn.out] at e2
  unfold Sq.nob at e
  rw [Prod.mk.injEq] at e
  obtain ⟨rfl,rfl⟩:=e
  simp only at e2
  subst e2
  exact zqd H fun w' H' I=>h 0 0 0 0 0 0 0 w' H' I
 ·obtain ⟨⟨⟨u1,u2⟩,⟨l1,l2⟩,⟨r1,r2⟩,ct,ht⟩,hm⟩:=hk.out.resolve_left e
  have e2:=hc.out
  unfold Sq.zej at e2
  rw [hm] at e2
  simp only at e2
  subst e2
  exact zd2 k1 k2 (L_ hm) hx H fun w' H' I=>h u1 u2 l1 l2 r1 r2 ht w' H' I
theorem zjm (a b c d e f g h:Int) (w:World):(Instr.field 85 (ndA a b c d e f g h) 3).run Tryz.prog w=.ok (.int .i64 g) w:=by kernel_rfl
theorem xcd (args:Array Value) (w:World):(callFunc 71 args).run Tryz.prog w=.ok (.enter 71 args) w:=enters_of Tryz.func71 (by kernel_rfl) rfl args w
theorem za9 {A:Asn} {b1 b2:Nat} {t1 t2:TypeId} {x0 x1 y0 y1 y2 y3 y4 y5 y6 y7:Value} (H:Sat (A*(pts b2 (.cells #[x0,x1] t2 (0,0))*(pts b1 (.cells #[y0,y1,y2,y3,y4,y5,y6,y7] t1 (0,0))*F))) w) :
  (w.cell? ⟨b2,0,none⟩=some x0∧w.cell? ⟨b2,1,none⟩=some x1)∧(w.cell? ⟨b1,2,none⟩=some y2∧w.cell? ⟨b1,3,none⟩=some y3)∧(w.cell? ⟨b1,4,none⟩=some y4∧w.cell? ⟨b1,5,none⟩=some y5) :=
 ⟨tk2 H.right,⟨(nd8 H.right.right).2.2.1,(nd8 H.right.right).2.2.2.1⟩,⟨(nd8 H.right.right).2.2.2.2.1,(nd8 H.right.right).2.2.2.2.2.1⟩⟩
theorem zc5 {A B C:Asn} {rb sb:Nat} {tr ts:TypeId} {v p:Value} (H:Sat (A*(B*(C*(pts rb (.cells #[v] tr (0,0))*(pts sb (.cells #[p] ts (0,0))*F))))) w) :
  (w.cell? ⟨rb,0,none⟩=some v∧w.cell? ⟨sb,0,none⟩=some p)∧w.frozen? ⟨rb,0,none⟩=false :=
 ⟨⟨Sat.read H.right.right.right.left.at 0,Sat.read H.right.right.right.right.left.at 0⟩,Sat.free H.right.right.right.left.at 0⟩
theorem zo2 {A B C D:Asn} {rb:Nat} {tr:TypeId} {v:Value} (v':Value) (H:Sat (A*(B*(C*(pts rb (.cells #[v] tr (0,0))*D)))) w) :
  Sat (A*(B*(C*(pts rb (.cells #[v'] tr (0,0))*D)))) (w.setCell ⟨rb,0,none⟩ v'):=by
 have h:=(H.of_eq (show _=pts rb (.cells #[v] tr (0,0))*(A*(B*(C*D))) from by ac_rfl)).cell 0 v'
 exact Sat.of_eq h (by show pts rb (.cells #[v'] tr (0,0))*(A*(B*(C*D)))=_;ac_rfl)
theorem zsy {A B C D E G:Asn} (H:Sat (A*(B*(C*(D*(E*(G*F)))))) w):Sat (A*((D*E)*F)) w:=(H.of_eq (show _=(B*(C*G))*(A*((D*E)*F)) from by ac_rfl)).right
abbrev rkJ (M:Mp) (way:List Step) (s rb sb:Nat) (i:Nat):Asn:=pts rb (.cells #[.int .i64 (Sq.rkE M way i)] 3 (0,0))*pts sb (.cells #[.pointer (some ⟨s,0,none⟩)] 26 (0,0))
theorem zz9 (k1 k2 u1 u2 p1 p2 q1 q2 ct ht f1 f2:Int) (rb sb:Nat) (v c:Int) (hc:Hid (Sq.zej M (p1,p2)=c)) (hcond:Hid ((f1,f2)=Sq.nob)) (hn:Hid (M Sq.nob=none)) (hk:Hid ((p1,p2)=Sq.nob∨∃ n,M (p1,p2)=some n)) (v1:Int) (hv1:IntKind.i64.wrap (v+c)=v1) (hx:Hid x.Ok)
  (H:Sat (zav x (some M)*((pts rb (.cells #[.int .i64 v] 3 (0,0))*pts sb (.cells #[.pointer (some ⟨x.s,0,none⟩)] 26 (0,0)))*F)) w)
  (h:∀ w',Sat (zav x (some M)*((pts rb (.cells #[.int .i64 v1] 3 (0,0))*pts sb (.cells #[.pointer (some ⟨x.s,0,none⟩)] 26 (0,0)))*F)) w'→Io w w'→R (.returned (.tuple #[])) w') :
  Calls Tryz.prog 71 #[tkA k1 k2,ndA u1 u2 p1 p2 q1 q2 ct ht,tkA f1 f2,.pointer (some ⟨rb,0,none⟩),.pointer (some ⟨sb,0,none⟩)] w R:=by
 have HH:=L_ h
 have H1:=(((H.new (.cells #[.int .i64 k1,.int .i64 k2] 29)).new (.cells #[.int .i64 u1,.int .i64 u2,.int .i64 p1,.int .i64 p2,.int .i64 q1,.int .i64 q2,.int .i64 ct,.int .i64 ht] 85)).new (.cells #[.int .i64 f1,.int .i64 f2] 29)).of_eq (show _=zav x (some M)*(pts (((w.alloc (.cells #[.int .i64 k1,.int .i64 k2] 29)).alloc (.cells #[.int .i64 u1,.int .i64 u2,.int .i64 p1,.int .i64 p2,.int .i64 q1,.int .i64 q2,.int .i64 ct,.int .i64 ht] 85)).heap.size) (.cells #[.int .i64 f1,.int .i64 f2] 29 (0,0))*(pts ((w.alloc (.cells #[.int .i64 k1,.int .i64 k2] 29)).heap.size) (.cells #[.int .i64 u1,.int .i64 u2,.int .i64 p1,.int .i64 p2,.int .i64 q1,.int .i64 q2,.int .i64 ct,.int .i64 ht] 85 (0,0))*(pts rb (.cells #[.int .i64 v] 3 (0,0))*(pts sb (.cells #[.pointer (some ⟨x.s,0,none⟩)] 26 (0,0))*(pts w.heap.size (.cells #[.int .i64 k1,.int .i64 k2] 29 (0,0))*F))))) from by ac_rfl)
 have I1:=io3 H1 (Io.refl w)
 simp only [World.size_alloc,Nat.add_assoc,Nat.reduceAdd] at H1
 clear h H
 go_enter Tryz.func71,Tryz.ntmps71
 go_upto_region 1 with fail
 generalize ((w.alloc _).alloc _).alloc _=w1 at *
 generalize w.heap.size=bx at *
 have Kd:=H1.drew
 have Jd:=I1.drew
 clear H1 I1
 have S0:=za9 Kd
 have EQ:=fun W=>zci f1 f2 4294967295 4294967295 W
 have EN:=fun W=>zds f1 f2 4294967295 4294967295 W
 have c1:decide ((f1,f2)=((4294967295:Int),(4294967295:Int)))=true:=decide_eq_true hcond.out
 rw [c1] at EQ EN
 simp only [Bool.not_true] at EN
 clear c1
 refine rh Kd (fun W Kd=>za9 Kd) fun hHeld=>?_
 refine tk ?_ ?_ [0] ?_ hHeld ?_;rotate_left 2;exact tt
 refine rd [1] (rc fun K hK=>?_)
 go_simp
 go_at_call 46;(with_reducible refine zan Kd ?_);intro w2 H2 I2;have S2:=za9 H2
 refine hK.out _ _ (by exact S2) fun hHeld=>?_
 clear hK K
 try simp only [sp]
 refine tk ?_ ?_ [2,3,4,5,6,7,8] ?_ hHeld ?_;rotate_left 2;exact tt
 refine wpAnyH_done (by kernel_rfl) ?_ _
 have J2:=Jd.trans I2
 clear S0 Kd Jd I2 hHeld
 go_upto_region 2 with fail
 have Kd:=H2.drew
 have Jd:=J2.drew
 clear H2 J2 S2
 have S0:=And.intro (za9 Kd) (zc5 Kd).1
 obtain ⟨⟨x0,x1⟩,-⟩:=zc5 Kd
 refine wp_region_held_drew (S:=(fun W=>((W.cell? ⟨bx+1,2,none⟩=some (.int .i64 p1)∧W.cell? ⟨bx+1,3,none⟩=some (.int .i64 p2))∧W.cell? ⟨sb,0,none⟩=some (.pointer (some ⟨x.s,0,none⟩))))) (by kernel_rfl) (by exact ⟨S0.1.2.1,S0.2.2⟩) (fun hHeld=>?_)
 refine tk ?_ ?_ [1,2,3] ?_ hHeld ?_;rotate_left 2;exact tt
 refine rd [0,4] (rn (fun K hK=>?_) (rc fun K hK=>?_))
 ·go_simp
  refine hK.out _ _ (by exact ⟨S0.1.2.1,S0.2.2⟩) fun hHeld=>?_
  clear hK K
  try simp only [sp]
  refine rd [4] (rc fun K hK=>?_)
  go_simp
  go_at_call 58;(with_reducible refine zso p1 p2 c hc hn hk hx Kd ?_);intro n1 n2 n3 n4 n5 n6 n8 w3 H3 I3;have S3:=And.intro (za9 H3) (zc5 H3).1;have FC:=fun W=>zjm n1 n2 n3 n4 n5 n6 c n8 W
  refine hK.out _ _ (by exact ⟨S3.1.2.1,S3.2.2⟩) fun hHeld=>?_
  clear hK K
  try simp only [sp]
  refine tk ?_ ?_ [5,6] ?_ hHeld ?_;rotate_left 2;exact tt
  have FZ:=(zc5 H3).2
  have KW:=zo2 (.int .i64 v1) H3
  have JW:=(Jd.trans I3).setCell ⟨rb,0,none⟩ (.int .i64 v1)
  refine rd [7] (rc fun K hK=>?_)
  go_simp
  refine hK.out _ _ (by exact ⟨(za9 KW).2.1,(zc5 KW).1.2⟩) fun hHeld=>?_
  clear hK K
  try simp only [sp]
  refine wpAnyH_done (by kernel_rfl) ?_ _
  clear S0 S3 FZ Kd Jd H3 I3 hHeld
  go_upto_region 3 with fail
  have Kd:=KW.drew
  have Jd:=JW.drew
  clear KW JW
  have S0:=za9 Kd
  refine rh Kd (fun W Kd=>za9 Kd) fun hHeld=>?_
  refine tk ?_ ?_ [0] ?_ hHeld ?_;rotate_left 2;exact tt
  refine rd [1] (rc fun K hK=>?_)
  go_simp
  go_at_call 46;(with_reducible refine zan Kd ?_);intro w5 H5 I5;have S5:=za9 H5
  refine hK.out _ _ (by exact S5) fun hHeld=>?_
  clear hK K
  try simp only [sp]
  refine tk ?_ ?_ [2,3,4,5,6,7,8] ?_ hHeld ?_;rotate_left 2;exact tt
  refine wpAnyH_done (by kernel_rfl) ?_ _
  have J5:=Jd.trans I5
  clear S0 Kd Jd I5 hHeld
  have FIN:=L_ (HH.out _ (zsy H5) J5)
  go_wp2_with fail
  go_end0
  exact FIN.out
 ·go_simp
  go_at_call 58;(with_reducible refine zso p1 p2 c hc hn hk hx Kd ?_);intro n1 n2 n3 n4 n5 n6 n8 w3 H3 I3;have S3:=And.intro (za9 H3) (zc5 H3).1;have FC:=fun W=>zjm n1 n2 n3 n4 n5 n6 c n8 W
  refine hK.out _ _ (by exact ⟨S3.1.2.1,S3.2.2⟩) fun hHeld=>?_
  clear hK K
  try simp only [sp]
  refine tk ?_ ?_ [5] ?_ hHeld ?_;rotate_left 2;exact tt
  obtain ⟨⟨y0,-⟩,-⟩:=zc5 H3
  refine rd [0] (rc fun K hK=>?_)
  go_simp
  refine hK.out _ _ (by exact ⟨S3.1.2.1,S3.2.2⟩) fun hHeld=>?_
  clear hK K
  try simp only [sp]
  refine tk ?_ ?_ [6] ?_ hHeld ?_;rotate_left 2;exact tt
  have FZ:=(zc5 H3).2
  have KW:=zo2 (.int .i64 v1) H3
  have JW:=(Jd.trans I3).setCell ⟨rb,0,none⟩ (.int .i64 v1)
  refine rd [7] (rc fun K hK=>?_)
  go_simp
  refine hK.out _ _ (by exact ⟨(za9 KW).2.1,(zc5 KW).1.2⟩) fun hHeld=>?_
  clear hK K
  try simp only [sp]
  refine wpAnyH_done (by kernel_rfl) ?_ _
  clear S0 S3 FZ Kd Jd H3 I3 hHeld
  go_upto_region 3 with fail
  have Kd:=KW.drew
  have Jd:=JW.drew
  clear KW JW
  have S0:=za9 Kd
  refine rh Kd (fun W Kd=>za9 Kd) fun hHeld=>?_
  refine tk ?_ ?_ [0] ?_ hHeld ?_;rotate_left 2;exact tt
  refine rd [1] (rc fun K hK=>?_)
  go_simp
  go_at_call 46;(with_reducible refine zan Kd ?_);intro w5 H5 I5;have S5:=za9 H5
  refine hK.out _ _ (by exact S5) fun hHeld=>?_
  clear hK K
  try simp only [sp]
  refine tk ?_ ?_ [2,3,4,5,6,7,8] ?_ hHeld ?_;rotate_left 2;exact tt
  refine wpAnyH_done (by kernel_rfl) ?_ _
  have J5:=Jd.trans I5
  clear S0 Kd Jd I5 hHeld
  have FIN:=L_ (HH.out _ (zsy H5) J5)
  go_wp2_with fail
  go_end0
  exact FIN.out
theorem zz8 (k1 k2 u1 u2 p1 p2 q1 q2 ct ht f1 f2:Int) (rb sb:Nat) (v c:Int) (hc:Hid (Sq.zej M (p1,p2)=c)) (hcond:Hid ((f1,f2)≠Sq.nob∧(f1,f2)=(q1,q2))) (hn:Hid (M Sq.nob=none)) (hk:Hid ((p1,p2)=Sq.nob∨∃ n,M (p1,p2)=some n)) (v1:Int) (hv1:IntKind.i64.wrap (v+c)=v1) (v2:Int) (hv2:IntKind.i64.wrap (v1+1)=v2) (hx:Hid x.Ok)
  (H:Sat (zav x (some M)*((pts rb (.cells #[.int .i64 v] 3 (0,0))*pts sb (.cells #[.pointer (some ⟨x.s,0,none⟩)] 26 (0,0)))*F)) w)
  (h:∀ w',Sat (zav x (some M)*((pts rb (.cells #[.int .i64 v2] 3 (0,0))*pts sb (.cells #[.pointer (some ⟨x.s,0,none⟩)] 26 (0,0)))*F)) w'→Io w w'→R (.returned (.tuple #[])) w') :
  Calls Tryz.prog 71 #[tkA k1 k2,ndA u1 u2 p1 p2 q1 q2 ct ht,tkA f1 f2,.pointer (some ⟨rb,0,none⟩),.pointer (some ⟨sb,0,none⟩)] w R:=by
 have HH:=L_ h
 have H1:=(((H.new (.cells #[.int .i64 k1,.int .i64 k2] 29)).new (.cells #[.int .i64 u1,.int .i64 u2,.int .i64 p1,.int .i64 p2,.int .i64 q1,.int .i64 q2,.int .i64 ct,.int .i64 ht] 85)).new (.cells #[.int .i64 f1,.int .i64 f2] 29)).of_eq (show _=zav x (some M)*(pts (((w.alloc (.cells #[.int .i64 k1,.int .i64 k2] 29)).alloc (.cells #[.int .i64 u1,.int .i64 u2,.int .i64 p1,.int .i64 p2,.int .i64 q1,.int .i64 q2,.int .i64 ct,.int .i64 ht] 85)).heap.size) (.cells #[.int .i64 f1,.int .i64 f2] 29 (0,0))*(pts ((w.alloc (.cells #[.int .i64 k1,.int .i64 k2] 29)).heap.size) (.cells #[.int .i64 u1,.int .i64 u2,.int .i64 p1,.int .i64 p2,.int .i64 q1,.int .i64 q2,.int .i64 ct,.int .i64 ht] 85 (0,0))*(pts rb (.cells #[.int .i64 v] 3 (0,0))*(pts sb (.cells #[.pointer (some ⟨x.s,0,none⟩)] 26 (0,0))*(pts w.heap.size (.cells #[.int .i64 k1,.int .i64 k2] 29 (0,0))*F))))) from by ac_rfl)
 have I1:=io3 H1 (Io.refl w)
 simp only [World.size_alloc,Nat.add_assoc,Nat.reduceAdd] at H1
 clear h H
 go_enter Tryz.func71,Tryz.ntmps71
 go_upto_region 1 with fail
 generalize ((w.alloc _).alloc _).alloc _=w1 at *
 generalize w.heap.size=bx at *
 have Kd:=H1.drew
 have Jd:=I1.drew
 clear H1 I1
 have S0:=za9 Kd
 have EQ:=fun W=>zci f1 f2 4294967295 4294967295 W
 have EN:=fun W=>zds f1 f2 4294967295 4294967295 W
 have c1:decide ((f1,f2)=((4294967295:Int),(4294967295:Int)))=false:=decide_eq_false hcond.out.1
 rw [c1] at EQ EN
 simp only [Bool.not_false] at EN
 have ER:=fun W=>zci f1 f2 q1 q2 W
 have c2:decide ((f1,f2)=(q1,q2))=true:=decide_eq_true hcond.out.2
 rw [c2] at ER
 clear c1 c2
 refine rh Kd (fun W Kd=>za9 Kd) fun hHeld=>?_
 refine tk ?_ ?_ [0] ?_ hHeld ?_;rotate_left 2;exact tt
 refine rd [1] (rc fun K hK=>?_)
 go_simp
 go_at_call 46;(with_reducible refine zan Kd ?_);intro w2 H2 I2;have S2:=za9 H2
 refine hK.out _ _ (by exact S2) fun hHeld=>?_
 clear hK K
 try simp only [sp]
 refine tk ?_ ?_ [2,3,4,5,6,7,8] ?_ hHeld ?_;rotate_left 2;exact tt
 refine wpAnyH_done (by kernel_rfl) ?_ _
 have J2:=Jd.trans I2
 clear S0 Kd Jd I2 hHeld
 go_upto_region 2 with fail
 have Kd:=H2.drew
 have Jd:=J2.drew
 clear H2 J2 S2
 have S0:=And.intro (za9 Kd) (zc5 Kd).1
 obtain ⟨⟨x0,x1⟩,-⟩:=zc5 Kd
 refine wp_region_held_drew (S:=(fun W=>((W.cell? ⟨bx+1,2,none⟩=some (.int .i64 p1)∧W.cell? ⟨bx+1,3,none⟩=some (.int .i64 p2))∧W.cell? ⟨sb,0,none⟩=some (.pointer (some ⟨x.s,0,none⟩))))) (by kernel_rfl) (by exact ⟨S0.1.2.1,S0.2.2⟩) (fun hHeld=>?_)
 refine tk ?_ ?_ [1,2,3] ?_ hHeld ?_;rotate_left 2;exact tt
 refine rd [0,4] (rn (fun K hK=>?_) (rc fun K hK=>?_))
 ·go_simp
  refine hK.out _ _ (by exact ⟨S0.1.2.1,S0.2.2⟩) fun hHeld=>?_
  clear hK K
  try simp only [sp]
  refine rd [4] (rc fun K hK=>?_)
  go_simp
  go_at_call 58;(with_reducible refine zso p1 p2 c hc hn hk hx Kd ?_);intro n1 n2 n3 n4 n5 n6 n8 w3 H3 I3;have S3:=And.intro (za9 H3) (zc5 H3).1;have FC:=fun W=>zjm n1 n2 n3 n4 n5 n6 c n8 W
  refine hK.out _ _ (by exact ⟨S3.1.2.1,S3.2.2⟩) fun hHeld=>?_
  clear hK K
  try simp only [sp]
  refine tk ?_ ?_ [5,6] ?_ hHeld ?_;rotate_left 2;exact tt
  have FZ:=(zc5 H3).2
  have KW:=zo2 (.int .i64 v1) H3
  have JW:=(Jd.trans I3).setCell ⟨rb,0,none⟩ (.int .i64 v1)
  refine rd [7] (rc fun K hK=>?_)
  go_simp
  refine hK.out _ _ (by exact ⟨(za9 KW).2.1,(zc5 KW).1.2⟩) fun hHeld=>?_
  clear hK K
  try simp only [sp]
  refine wpAnyH_done (by kernel_rfl) ?_ _
  clear S0 S3 FZ Kd Jd H3 I3 hHeld
  go_upto_region 3 with fail
  have Kd:=KW.drew
  have Jd:=JW.drew
  clear KW JW
  have S0:=za9 Kd
  refine rh Kd (fun W Kd=>za9 Kd) fun hHeld=>?_
  refine tk ?_ ?_ [0] ?_ hHeld ?_;rotate_left 2;exact tt
  refine rd [1] (rc fun K hK=>?_)
  go_simp
  go_at_call 46;(with_reducible refine zan Kd ?_);intro w5 H5 I5;have S5:=za9 H5
  refine hK.out _ _ (by exact S5) fun hHeld=>?_
  clear hK K
  try simp only [sp]
  refine tk ?_ ?_ [2,3,4,5,6,7,8] ?_ hHeld ?_;rotate_left 2;exact tt
  refine wpAnyH_done (by kernel_rfl) ?_ _
  have J5:=Jd.trans I5
  clear S0 Kd Jd I5 hHeld
  obtain ⟨⟨z0,-⟩,z1⟩:=zc5 H5
  have KW:=zo2 (.int .i64 v2) H5
  have JW:=J5.setCell ⟨rb,0,none⟩ (.int .i64 v2)
  have FIN:=L_ (HH.out _ (zsy KW) JW)
  go_wp2_with fail
  go_end0
  exact FIN.out
 ·go_simp
  go_at_call 58;(with_reducible refine zso p1 p2 c hc hn hk hx Kd ?_);intro n1 n2 n3 n4 n5 n6 n8 w3 H3 I3;have S3:=And.intro (za9 H3) (zc5 H3).1;have FC:=fun W=>zjm n1 n2 n3 n4 n5 n6 c n8 W
  refine hK.out _ _ (by exact ⟨S3.1.2.1,S3.2.2⟩) fun hHeld=>?_
  clear hK K
  try simp only [sp]
  refine tk ?_ ?_ [5] ?_ hHeld ?_;rotate_left 2;exact tt
  obtain ⟨⟨y0,-⟩,-⟩:=zc5 H3
  refine rd [0] (rc fun K hK=>?_)
  go_simp
  refine hK.out _ _ (by exact ⟨S3.1.2.1,S3.2.2⟩) fun hHeld=>?_
  clear hK K
  try simp only [sp]
  refine tk ?_ ?_ [6] ?_ hHeld ?_;rotate_left 2;exact tt
  have FZ:=(zc5 H3).2
  have KW:=zo2 (.int .i64 v1) H3
  have JW:=(Jd.trans I3).setCell ⟨rb,0,none⟩ (.int .i64 v1)
  refine rd [7] (rc fun K hK=>?_)
  go_simp
  refine hK.out _ _ (by exact ⟨(za9 KW).2.1,(zc5 KW).1.2⟩) fun hHeld=>?_
  clear hK K
  try simp only [sp]
  refine wpAnyH_done (by kernel_rfl) ?_ _
  clear S0 S3 FZ Kd Jd H3 I3 hHeld
  go_upto_region 3 with fail
  have Kd:=KW.drew
  have Jd:=JW.drew
  clear KW JW
  have S0:=za9 Kd
  refine rh Kd (fun W Kd=>za9 Kd) fun hHeld=>?_
  refine tk ?_ ?_ [0] ?_ hHeld ?_;rotate_left 2;exact tt
  refine rd [1] (rc fun K hK=>?_)
  go_simp
  go_at_call 46;(with_reducible refine zan Kd ?_);intro w5 H5 I5;have S5:=za9 H5
  refine hK.out _ _ (by exact S5) fun hHeld=>?_
  clear hK K
  try simp only [sp]
  refine tk ?_ ?_ [2,3,4,5,6,7,8] ?_ hHeld ?_;rotate_left 2;exact tt
  refine wpAnyH_done (by kernel_rfl) ?_ _
  have J5:=Jd.trans I5
  clear S0 Kd Jd I5 hHeld
  obtain ⟨⟨z0,-⟩,z1⟩:=zc5 H5
  have KW:=zo2 (.int .i64 v2) H5
  have JW:=J5.setCell ⟨rb,0,none⟩ (.int .i64 v2)
  have FIN:=L_ (HH.out _ (zsy KW) JW)
  go_wp2_with fail
  go_end0
  exact FIN.out
theorem z2y (k1 k2 u1 u2 p1 p2 q1 q2 ct ht f1 f2:Int) (rb sb:Nat) (v c:Int) (hc:Hid (Sq.zej M (p1,p2)=c)) (hcond:Hid ((f1,f2)≠Sq.nob∧(f1,f2)≠(q1,q2))) (hn:Hid (M Sq.nob=none)) (hk:Hid ((p1,p2)=Sq.nob∨∃ n,M (p1,p2)=some n)) (v1:Int) (hv1:IntKind.i64.wrap (v+c)=v1) (hx:Hid x.Ok)
  (H:Sat (zav x (some M)*((pts rb (.cells #[.int .i64 v] 3 (0,0))*pts sb (.cells #[.pointer (some ⟨x.s,0,none⟩)] 26 (0,0)))*F)) w)
  (h:∀ w',Sat (zav x (some M)*((pts rb (.cells #[.int .i64 v] 3 (0,0))*pts sb (.cells #[.pointer (some ⟨x.s,0,none⟩)] 26 (0,0)))*F)) w'→Io w w'→R (.returned (.tuple #[])) w') :
  Calls Tryz.prog 71 #[tkA k1 k2,ndA u1 u2 p1 p2 q1 q2 ct ht,tkA f1 f2,.pointer (some ⟨rb,0,none⟩),.pointer (some ⟨sb,0,none⟩)] w R:=by
 have HH:=L_ h
 have H1:=(((H.new (.cells #[.int .i64 k1,.int .i64 k2] 29)).new (.cells #[.int .i64 u1,.int .i64 u2,.int .i64 p1,.int .i64 p2,.int .i64 q1,.int .i64 q2,.int .i64 ct,.int .i64 ht] 85)).new (.cells #[.int .i64 f1,.int .i64 f2] 29)).of_eq (show _=zav x (some M)*(pts (((w.alloc (.cells #[.int .i64 k1,.int .i64 k2] 29)).alloc (.cells #[.int .i64 u1,.int .i64 u2,.int .i64 p1,.int .i64 p2,.int .i64 q1,.int .i64 q2,.int .i64 ct,.int .i64 ht] 85)).heap.size) (.cells #[.int .i64 f1,.int .i64 f2] 29 (0,0))*(pts ((w.alloc (.cells #[.int .i64 k1,.int .i64 k2] 29)).heap.size) (.cells #[.int .i64 u1,.int .i64 u2,.int .i64 p1,.int .i64 p2,.int .i64 q1,.int .i64 q2,.int .i64 ct,.int .i64 ht] 85 (0,0))*(pts rb (.cells #[.int .i64 v] 3 (0,0))*(pts sb (.cells #[.pointer (some ⟨x.s,0,none⟩)] 26 (0,0))*(pts w.heap.size (.cells #[.int .i64 k1,.int .i64 k2] 29 (0,0))*F))))) from by ac_rfl)
 have I1:=io3 H1 (Io.refl w)
 simp only [World.size_alloc,Nat.add_assoc,Nat.reduceAdd] at H1
 clear h H
 go_enter Tryz.func71,Tryz.ntmps71
 go_upto_region 1 with fail
 generalize ((w.alloc _).alloc _).alloc _=w1 at *
 generalize w.heap.size=bx at *
 have Kd:=H1.drew
 have Jd:=I1.drew
 clear H1 I1
 have S0:=za9 Kd
 have EQ:=fun W=>zci f1 f2 4294967295 4294967295 W
 have EN:=fun W=>zds f1 f2 4294967295 4294967295 W
 have c1:decide ((f1,f2)=((4294967295:Int),(4294967295:Int)))=false:=decide_eq_false hcond.out.1
 rw [c1] at EQ EN
 simp only [Bool.not_false] at EN
 have ER:=fun W=>zci f1 f2 q1 q2 W
 have c2:decide ((f1,f2)=(q1,q2))=false:=decide_eq_false hcond.out.2
 rw [c2] at ER
 clear c1 c2
 refine rh Kd (fun W Kd=>za9 Kd) fun hHeld=>?_
 refine tk ?_ ?_ [0] ?_ hHeld ?_;rotate_left 2;exact tt
 refine rd [1] (rc fun K hK=>?_)
 go_simp
 go_at_call 46;(with_reducible refine zan Kd ?_);intro w2 H2 I2;have S2:=za9 H2
 refine hK.out _ _ (by exact S2) fun hHeld=>?_
 clear hK K
 try simp only [sp]
 refine tk ?_ ?_ [2,3,4,5,6,7,8] ?_ hHeld ?_;rotate_left 2;exact tt
 refine wpAnyH_done (by kernel_rfl) ?_ _
 have J2:=Jd.trans I2
 clear S0 Kd Jd I2 hHeld
 go_upto_region 3 with fail
 have Kd:=H2.drew
 have Jd:=J2.drew
 clear H2 J2
 have S0:=za9 Kd
 refine rh Kd (fun W Kd=>za9 Kd) fun hHeld=>?_
 refine tk ?_ ?_ [0] ?_ hHeld ?_;rotate_left 2;exact tt
 refine rd [1] (rc fun K hK=>?_)
 go_simp
 go_at_call 46;(with_reducible refine zan Kd ?_);intro w5 H5 I5;have S5:=za9 H5
 refine hK.out _ _ (by exact S5) fun hHeld=>?_
 clear hK K
 try simp only [sp]
 refine tk ?_ ?_ [2,3,4,5,6,7,8] ?_ hHeld ?_;rotate_left 2;exact tt
 refine wpAnyH_done (by kernel_rfl) ?_ _
 have J5:=Jd.trans I5
 clear S0 Kd Jd I5 hHeld
 have FIN:=L_ (HH.out _ (zsy H5) J5)
 go_wp2_with fail
 go_end0
 exact FIN.out
theorem z2z (way:List Step) (hs:Hid (Sq.znj M way)) (hx:Hid x.Ok) (rb sb:Nat):zv0 x M 71 #[.pointer (some ⟨rb,0,none⟩),.pointer (some ⟨sb,0,none⟩)] way (rkJ M way x.s rb sb):=by
 intro F w R i s hi H h
 have hm:=List.mem_of_getElem? hi
 have hlt:=(List.getElem?_eq_some_iff.1 hi).1
 have B:=Sq.xdj hs.out i
 have C:=Sq.zy8 hs.out s.n.left
 have L:=hs.out.left s hm
 have hl:=hs.out.len
 have e:=Sq.zyi (M:=M) hi
 obtain ⟨⟨k1,k2⟩,⟨⟨u1,u2⟩,⟨p1,p2⟩,⟨q1,q2⟩,ct,ht⟩,⟨f1,f2⟩⟩:=s
 simp only at C L
 have h':∀ w',Sat (zav x (some M)*(rkJ M way x.s rb sb (i+1)*F)) w'→Io w w'→R (.returned (.tuple #[])) w':=h
 simp only [rkJ,e] at h'
 have H':Sat (zav x (some M)*(rkJ M way x.s rb sb i*F)) w:=H
 have hi2:i<255:=by omega
 generalize hv:Sq.rkE M way i=v at *
 by_cases c1:(f1,f2)=Sq.nob
 ·have eg:Sq.ziq M ⟨(k1,k2),⟨(u1,u2),(p1,p2),(q1,q2),ct,ht⟩,(f1,f2)⟩=Sq.zej M (p1,p2):=if_pos c1
  rw [eg] at h'
  simp only [rkJ,hv] at H'
  exact zz9 k1 k2 u1 u2 p1 p2 q1 q2 ct ht f1 f2 rb sb v (Sq.zej M (p1,p2)) (L_ rfl) (L_ c1) (L_ hs.out.none) (L_ L) _ (by rw [IntKind.wrap_i64];omega) hx H' h'
 ·by_cases c2:(f1,f2)=(q1,q2)
  ·have eg:Sq.ziq M ⟨(k1,k2),⟨(u1,u2),(p1,p2),(q1,q2),ct,ht⟩,(f1,f2)⟩=Sq.zej M (p1,p2)+1:=(if_neg c1).trans (if_pos c2)
   rw [eg,←Int.add_assoc] at h'
   simp only [rkJ,hv] at H'
   exact zz8 k1 k2 u1 u2 p1 p2 q1 q2 ct ht f1 f2 rb sb v (Sq.zej M (p1,p2)) (L_ rfl) (L_ ⟨c1,c2⟩) (L_ hs.out.none) (L_ L) (v+Sq.zej M (p1,p2)) (by rw [IntKind.wrap_i64];omega) _ (by rw [IntKind.wrap_i64];omega) hx H' h'
  ·have eg:Sq.ziq M ⟨(k1,k2),⟨(u1,u2),(p1,p2),(q1,q2),ct,ht⟩,(f1,f2)⟩=0:=(if_neg c1).trans (if_neg c2)
   rw [eg,Int.add_zero] at h'
   simp only [rkJ,hv] at H'
   exact z2y k1 k2 u1 u2 p1 p2 q1 q2 ct ht f1 f2 rb sb v (Sq.zej M (p1,p2)) (L_ rfl) (L_ ⟨c1,c2⟩) (L_ hs.out.none) (L_ L) (v+Sq.zej M (p1,p2)) (by rw [IntKind.wrap_i64];omega) hx H' h'
end
section
variable {x:Sx} {M:Mp} {F:Asn} {w:World} {R:Ending→World→Prop}
theorem zya (H:Sat (zav x (some M)*F) w):M Sq.nob=none∧∀ k n,M k=some n→zca n.count:=by
 obtain ⟨es,rep,H⟩:=zbt.1 H
 refine ⟨?_,fun k n h=>(rep.okn k n h).count⟩
 cases e:M Sq.nob with
 | none=>rfl
 | some n=>exact absurd rfl (rep.okm _ _ e).ne
theorem rn_in {A B C:Asn} (H:Sat (A*(B*(C*F))) w):Sat (C*(A*(B*F))) w:=H.of_eq (by ac_rfl)
theorem z2t {A B C:Asn} (H:Sat (C*(A*(B*F))) w):Sat (C*F) w:=(H.of_eq (show _=(A*B)*(C*F) from by ac_rfl)).right
theorem zf1 (tr:Tk→Sq.T) (a b:Int) {n e:Int} (hr:Hid ((e=Sq.zfw M (a,b)∧e≠0∧n=0)∨(Sq.zfw M (a,b)=0∧e=0∧n=(Sq.fj (tr (a,b)).toks (a,b):Nat)))) (hT:Hid (Sq.TF M tr)) (hx:Hid x.Ok) (H:Sat (zav x (some M)*F) w)
  (h:∀ w',Sat (zav x (some M)*F) w'→Io w w'→R (.returned (.tuple #[.int .i64 n,.int .i64 e])) w') :
  Calls Tryz.prog 37 #[.pointer (some ⟨x.s,0,none⟩),tkA a b] w R:=by
 have HH:=L_ h
 have FACTS:=L_ (zya H)
 have H1:=rn_in (((H.new (.cells #[.pointer (some ⟨x.s,0,none⟩)] 26)).new (.cells #[.int .i64 a,.int .i64 b] 29)).of_eq (show _=pts (w.alloc (.cells #[.pointer (some ⟨x.s,0,none⟩)] 26)).heap.size (.cells #[.int .i64 a,.int .i64 b] 29 (0,0))*(pts w.heap.size (.cells #[.pointer (some ⟨x.s,0,none⟩)] 26 (0,0))*(zav x (some M)*F)) from by ac_rfl))
 have I1:=io2 H1 (Io.refl w)
 simp only [World.size_alloc] at H1
 have K1:=zai (H1.new (.cells #[.int .i64 a,.int .i64 b] 29))
 have J1:=io1 K1 I1
 obtain ⟨eb,heb⟩:∃ eb,eb=Sq.zfw M (a,b):=⟨_,rfl⟩
 have HEB:=L_ heb
 clear h H heb
 go_enter Tryz.func37,Tryz.ntmps37
 go_upto_region 1 with fail
 generalize (w.alloc _).alloc _=w1 at *
 generalize w.heap.size=bx at *
 obtain ⟨y0,y1⟩:=tk2 H1.right
 have y2:w1.cell? ⟨bx,0,none⟩=some (.pointer (some ⟨x.s,0,none⟩)):=Sat.read H1.right.right.left.at 0
 go_upto_region 2 with (go_at_call 44;(with_reducible refine zd4 a b HEB hx K1 ?_);intro w2 H2 I2;have K2:=zcf H2;have J2:=J1.trans I2)
 clear y0 y1 y2 H1 I1 K1 J1 H2 I2
 rcases zd6 M (a,b) with ⟨q1,q2⟩ | ⟨q1,q2,q3⟩ | ⟨q1,q2,q3⟩
 ·obtain ⟨rfl,rfl,rfl⟩:n=0∧e=30∧eb=30:=by
   rcases hr.out with ⟨h1,h2,h3⟩ | ⟨h1,_⟩
   ·exact ⟨h3,h1.trans q1,HEB.out.trans q1⟩
   ·rw [q1] at h1;exact absurd h1 (by decide)
  have FIN:=L_ (HH.out w2 (z2t K2) J2)
  clear q1 q2 HEB hr
  go_wp2_with fail
  first | exact FIN.out | exact bodyPost_ret (v:=.tuple #[.int .i64 0,.int .i64 30]) (by simp [results,Tryz.results37,go_sem]) rfl FIN.out
 ·obtain ⟨rfl,rfl,rfl⟩:n=0∧e=181∧eb=181:=by
   rcases hr.out with ⟨h1,h2,h3⟩ | ⟨h1,_⟩
   ·exact ⟨h3,h1.trans q1,HEB.out.trans q1⟩
   ·rw [q1] at h1;exact absurd h1 (by decide)
  have FIN:=L_ (HH.out w2 (z2t K2) J2)
  clear q1 q2 q3 HEB hr
  go_wp2_with fail
  first | exact FIN.out | exact bodyPost_ret (v:=.tuple #[.int .i64 0,.int .i64 181]) (by simp [results,Tryz.results37,go_sem]) rfl FIN.out
 ·have ht:=hT.out _ q3
  obtain ⟨rfl,rfl,hn⟩:e=0∧eb=0∧n=(Sq.fj (tr (a,b)).toks (a,b):Nat):=by
   rcases hr.out with ⟨h1,h2,h3⟩ | ⟨h1,h2,h3⟩
   ·exact absurd (h1.trans q1) h2
   ·exact ⟨h2,HEB.out.trans q1,h3⟩
  have HN:=L_ hn
  clear q1 q2 q3 HEB hr hn
  obtain ⟨l,r,z,hz⟩:=Sq.Z.find (tr (a,b)) .top ht.mem
  have hz':tr (a,b)=z.zcm (.node l (a,b) r):=hz
  rw [hz'] at ht
  have HW:Hid (zry M (z.way l (a,b) r Sq.nob)):=L_ (Sq.zhv ht)
  have HS:Hid (Sq.znj M (z.way l (a,b) r Sq.nob)):=L_ (Sq.z9e ht FACTS.out.1 FACTS.out.2)
  have HV:Hid (n=Sq.rkE M (z.way l (a,b) r Sq.nob) (z.way l (a,b) r Sq.nob).length):=L_ (by rw [HN.out,Sq.rk_way FACTS.out.1 ht,hz'])
  have H0:Hid ((z.way l (a,b) r Sq.nob)[0]?=some ⟨(a,b),Sq.nod l r (z.up Sq.nob),Sq.nob⟩∧(⟨(a,b),Sq.nod l r (z.up Sq.nob),Sq.nob⟩:Step).fr=Sq.nob):=L_ ⟨rfl,rfl⟩
  have HK:Hid ((⟨(a,b),Sq.nod l r (z.up Sq.nob),Sq.nob⟩:Step).k=(a,b)):=L_ rfl
  clear hz hz' ht HN
  generalize z.way l (a,b) r Sq.nob=way at *
  generalize (⟨(a,b),Sq.nod l r (z.up Sq.nob),Sq.nob⟩:Step)=s0 at *
  go_upto_region 5 with fail
  have K3:=K2.new (.cells #[.int .i64 0] 3)
  have J3:=io1 K3 J2
  generalize w2.alloc _=w3 at *
  generalize w2.heap.size=br at *
  obtain ⟨y0,y1⟩:=tk2 K3.right.right
  have y2:w3.cell? ⟨bx,0,none⟩=some (.pointer (some ⟨x.s,0,none⟩)):=Sat.read K3.right.right.right.left.at 0
  have K4:Sat (zav x (some M)*(rkJ M way x.s br bx 0*(pts (bx+1) (.cells #[.int .i64 a,.int .i64 b] 29 (0,0))*F))) w3:=K3.of_eq (by show pts br (.cells #[.int .i64 0] 3)*(zav x (some M)*(pts (bx+1) (.cells #[.int .i64 a,.int .i64 b] 29 (0,0))*(pts bx (.cells #[.pointer (some ⟨x.s,0,none⟩)] 26 (0,0))*F)))=zav x (some M)*((pts br (.cells #[.int .i64 0] 3)*pts bx (.cells #[.pointer (some ⟨x.s,0,none⟩)] 26 (0,0)))*(pts (bx+1) (.cells #[.int .i64 a,.int .i64 b] 29 (0,0))*F));ac_rfl)
  go_upto_region 6 with (go_at_call 70;(refine zj1 xcd (z2z way HS hx br bx) HW s0 H0 a b HK hx K4 ?_);intro r1 r2 w4 hr H4 I4;have J5:=J3.trans I4)
  clear y0 y1 y2 K3 J3 K4 K2 J2 I4
  simp only [rkJ] at H4
  rw [←HV.out] at H4
  have K5:Sat (zav x (some M)*(pts br (.cells #[.int .i64 n] 3 (0,0))*(pts bx (.cells #[.pointer (some ⟨x.s,0,none⟩)] 26 (0,0))*(pts (bx+1) (.cells #[.int .i64 a,.int .i64 b] 29 (0,0))*F)))) w4:=H4.of_eq (by ac_rfl)
  obtain ⟨y0,y1⟩:=zb5 K5
  have y2:w4.cell? ⟨bx,0,none⟩=some (.pointer (some ⟨x.s,0,none⟩)):=Sat.read K5.right.right.left.at 0
  have y3:w4.cell? ⟨br,0,none⟩=some (.int .i64 n):=Sat.read K5.right.left.at 0
  have FIN:=L_ (HH.out w4 (K5.of_eq (show _=(pts br (.cells #[.int .i64 n] 3 (0,0))*(pts bx (.cells #[.pointer (some ⟨x.s,0,none⟩)] 26 (0,0))*pts (bx+1) (.cells #[.int .i64 a,.int .i64 b] 29 (0,0))))*(zav x (some M)*F) from by ac_rfl)).right J5)
  clear hr HV HS HW H0 HK
  go_wp2_with fail
  first | exact FIN.out | exact bodyPost_ret (v:=.tuple #[.int .i64 n,.int .i64 0]) (by simp [results,Tryz.results37,go_sem]) rfl FIN.out
end
def zlh (k:Tk):List Value:=[.int .i64 k.1,.int .i64 k.2]
theorem zbq:Enc zlh 2:=⟨fun _=>rfl,fun x u hu=>by
 simp only [zlh,List.mem_cons,List.not_mem_nil,or_false] at hu
 rcases hu with rfl | rfl<;>rfl⟩
theorem zlf:zkg Tryz.prog 39 29 2 16:=⟨Tryz.underlying39,⟨.agg #[.int .i64 0,.int .i64 0],rfl,by kernel_rfl⟩,by decide⟩
abbrev zar (v:Value) (l:List Tk):Asn:=RowOf 29 2 zlh v l
abbrev Sp:=Tk × Nd
def xfx (s:Sp):List Value:=[.int .i64 s.1.1,.int .i64 s.1.2,.int .i64 s.2.up.1,.int .i64 s.2.up.2,.int .i64 s.2.left.1,.int .i64 s.2.left.2,.int .i64 s.2.right.1,.int .i64 s.2.right.2,.int .i64 s.2.count,.int .i64 s.2.height]
theorem zdj:Enc xfx 10:=⟨fun _=>rfl,fun x u hu=>by
 simp only [xfx,List.mem_cons,List.not_mem_nil,or_false] at hu
 rcases hu with rfl | rfl | rfl | rfl | rfl | rfl | rfl | rfl | rfl | rfl<;>rfl⟩
theorem rowSp:zkg Tryz.prog 90 94 10 80:=⟨Tryz.underlying90,⟨.agg #[.int .i64 0,.int .i64 0,.int .i64 0,.int .i64 0,.int .i64 0,.int .i64 0,.int .i64 0,.int .i64 0,.int .i64 0,.int .i64 0],rfl,by kernel_rfl⟩,by decide⟩
abbrev zdm (v:Value) (l:List Sp):Asn:=RowOf 94 10 xfx v l
theorem z9t {α:Type} {enc:α→List Value} {e:TypeId} {sz:Nat} {v:Value} {l:List α} {F:Asn} {w:World} (H:Sat (RowOf e sz enc v l*F) w):∃ a n c,v=.slice a n c:=by
 obtain ⟨_,⟨rfl,_⟩ | ⟨g,cap,cur,rfl,_⟩⟩:=za8.1 H
 ·exact ⟨_,_,_,rfl⟩
 ·exact ⟨_,_,_,rfl⟩
def zlo (s:Step):Sp:=(s.k,s.n)
section
variable {x:Sx} {M:Mp} {F:Asn} {w:World} {R:Ending→World→Prop}
def zfy (lb:Nat) (l:List Sp):Asn:=ex fun v:Value=>pts lb (.cells #[v] 90 (0,0))*zdm v l
theorem zlq {lb:Nat} {l:List Sp}:Sat (zfy lb l*F) w↔∃ v,Sat (pts lb (.cells #[v] 90 (0,0))*(zdm v l*F)) w:=by
 have e0:zfy lb l*F=(ex fun v:Value=>pts lb (.cells #[v] 90 (0,0))*zdm v l)*F:=rfl
 rw [e0,zde]
 constructor<;>rintro ⟨v,H⟩<;>exact ⟨v,H.of_eq (by ac_rfl)⟩
theorem xce (args:Array Value) (w:World):(callFunc 82 args).run Tryz.prog w=.ok (.enter 82 args) w:=enters_of Tryz.func82 (by kernel_rfl) rfl args w
theorem one1 {b:Nat} {t:TypeId} {v:Value} {G:Asn} (H:Sat (pts b (.cells #[v] t (0,0))*G) w):w.cell? ⟨b,0,none⟩=some v∧w.frozen? ⟨b,0,none⟩=false:=⟨Sat.read H.left.at 0,Sat.free H.left.at 0⟩
theorem pt_out {A B C D E G:Asn} (H:Sat (D*(C*(A*(B*(E*(G*F)))))) w):Sat (G*((D*C)*F)) w:=(H.of_eq (show _=(A*(B*E))*(G*((D*C)*F)) from by ac_rfl)).right
theorem z3i (way:List Step) (hw:Hid (way.length≤255)) (lb:Nat):zv0 x M 82 #[.pointer (some ⟨lb,0,none⟩)] way (fun i=>zfy lb ((way.take i).map zlo)):=by
 intro F w R i s hs H h
 obtain ⟨⟨k1,k2⟩,⟨⟨u1,u2⟩,⟨p1,p2⟩,⟨q1,q2⟩,ct,ht⟩,⟨f1,f2⟩⟩:=s
 change Sat (zav x (some M)*(zfy lb ((way.take i).map zlo)*F)) w at H
 change ∀ w',Sat (zav x (some M)*(zfy lb ((way.take (i+1)).map zlo)*F)) w'→Io w w'→R (.returned (.tuple #[])) w' at h
 have e1:(way.take (i+1)).map zlo=(way.take i).map zlo++[((k1,k2),⟨(u1,u2),(p1,p2),(q1,q2),ct,ht⟩)]:=by
  rw [List.take_add_one,hs];simp [zlo]
 rw [e1] at h
 have HH:=L_ h
 have HL:Hid (((way.take i).map zlo).length≤255):=L_ (by rw [List.length_map,List.length_take];have:=hw.out;omega)
 generalize (way.take i).map zlo=l0 at *
 obtain ⟨vv,H⟩:=zlq.1 (H.of_eq (show _=zfy lb l0*(zav x (some M)*F) from by ac_rfl))
 have H1:=(((H.new (.cells #[.int .i64 k1,.int .i64 k2] 29)).new (.cells #[.int .i64 u1,.int .i64 u2,.int .i64 p1,.int .i64 p2,.int .i64 q1,.int .i64 q2,.int .i64 ct,.int .i64 ht] 85)).new (.cells #[.int .i64 f1,.int .i64 f2] 29)).of_eq (show _=zdm vv l0*(pts lb (.cells #[vv] 90 (0,0))*(pts w.heap.size (.cells #[.int .i64 k1,.int .i64 k2] 29 (0,0))*(pts ((w.alloc (.cells #[.int .i64 k1,.int .i64 k2] 29)).heap.size) (.cells #[.int .i64 u1,.int .i64 u2,.int .i64 p1,.int .i64 p2,.int .i64 q1,.int .i64 q2,.int .i64 ct,.int .i64 ht] 85 (0,0))*(pts (((w.alloc (.cells #[.int .i64 k1,.int .i64 k2] 29)).alloc (.cells #[.int .i64 u1,.int .i64 u2,.int .i64 p1,.int .i64 p2,.int .i64 q1,.int .i64 q2,.int .i64 ct,.int .i64 ht] 85)).heap.size) (.cells #[.int .i64 f1,.int .i64 f2] 29 (0,0))*(zav x (some M)*F))))) from by ac_rfl)
 have I1:=io3 H1 (Io.refl w)
 simp only [World.size_alloc,Nat.add_assoc,Nat.reduceAdd] at H1
 clear h H e1 hs
 show Calls Tryz.prog 82 #[tkA k1 k2,ndA u1 u2 p1 p2 q1 q2 ct ht,tkA f1 f2,.pointer (some ⟨lb,0,none⟩)] w R
 go_enter Tryz.func82,Tryz.ntmps82
 go_upto_region 1 with fail
 generalize ((w.alloc _).alloc _).alloc _=w1 at *
 generalize w.heap.size=bx at *
 obtain ⟨y0,y1⟩:=tk2 H1.right.right
 obtain ⟨z0,z1⟩:=one1 H1.right
 have Q:=nd8 H1.right.right.right
 obtain ⟨q0,q1',q2',q3,q4,q5,q6,q7⟩:=Q
 have hag:=Tryz.isAgg29
 have hsz:=Tryz.sizeOf29
 have hag2:=Tryz.isAgg85
 have hsz2:=Tryz.sizeOf85
 go_wp2_with (at_builtin;refine zat rowSp zdj rfl (.tmp 7) (.tmp 11) rfl rfl H1 (by have:=HL.out;omega) ((k1,k2),⟨(u1,u2),(p1,p2),(q1,q2),ct,ht⟩) rfl rfl ?_;intro v3 w3 H3 I3;have H4:=H3.of_eq (show _=pts lb (.cells #[vv] 90 (0,0))*(zdm v3 (l0++[((k1,k2),⟨(u1,u2),(p1,p2),(q1,q2),ct,ht⟩)])*(pts bx (.cells #[.int .i64 k1,.int .i64 k2] 29 (0,0))*(pts (bx+1) (.cells #[.int .i64 u1,.int .i64 u2,.int .i64 p1,.int .i64 p2,.int .i64 q1,.int .i64 q2,.int .i64 ct,.int .i64 ht] 85 (0,0))*(pts (bx+2) (.cells #[.int .i64 f1,.int .i64 f2] 29 (0,0))*(zav x (some M)*F))))) from by unfold zdm;ac_rfl);obtain ⟨g0,g1⟩:=one1 H4;obtain ⟨a3,n3,c3,rfl⟩:=z9t H3)
 have H5:Sat (zav x (some M)*((pts lb (.cells #[.slice a3 n3 c3] 90 (0,0))*zdm (.slice a3 n3 c3) (l0++[((k1,k2),⟨(u1,u2),(p1,p2),(q1,q2),ct,ht⟩)]))*F)) _:=pt_out (H4.cell 0 (.slice a3 n3 c3))
 have H6:Sat (zfy lb (l0++[((k1,k2),⟨(u1,u2),(p1,p2),(q1,q2),ct,ht⟩)])*(zav x (some M)*F)) _:=zlq.2 ⟨_,H5.of_eq (show _=pts lb (.cells #[.slice a3 n3 c3] 90 (0,0))*(zdm (.slice a3 n3 c3) (l0++[((k1,k2),⟨(u1,u2),(p1,p2),(q1,q2),ct,ht⟩)])*(zav x (some M)*F)) from by ac_rfl)⟩
 go_end0
 exact HH.out _ (H6.of_eq (by ac_rfl)) ((I1.trans I3).setCell _ _)
theorem zsk (way:List Step) (hw:Hid (zry M way)) (s0:Step) (h0:Hid (way[0]?=some s0∧s0.fr=Sq.nob)) (k1 k2:Int) (hk:Hid (s0.k=(k1,k2))) (hx:Hid x.Ok) (H:Sat (zav x (some M)*F) w)
  (h:∀ v w',Sat (zdm v (way.map zlo)*(zav x (some M)*F)) w'→Io w w'→R (.returned v) w') :
  Calls Tryz.prog 50 #[.pointer (some ⟨x.s,0,none⟩),tkA k1 k2] w R:=by
 have HH:=L_ h
 have HL:Hid (way.length≤255):=L_ hw.out.len
 have H1:=zai ((H.new (.cells #[.int .i64 k1,.int .i64 k2] 29)).of_eq (show _=pts w.heap.size (.cells #[.int .i64 k1,.int .i64 k2] 29 (0,0))*(zav x (some M)*F) from rfl))
 have I1:=io1 H1 (Io.refl w)
 clear h H
 go_enter Tryz.func50,Tryz.ntmps50
 go_upto_region 1 with fail
 generalize w.alloc _=w1 at *
 generalize w.heap.size=bx at *
 go_upto_region 2 with fail
 have K3:=H1.new (.cells #[.slice none 0 0] 90)
 have J3:=io1 K3 I1
 generalize w1.alloc _=w3 at *
 generalize w1.heap.size=bl at *
 obtain ⟨y0,y1⟩:=tk2 K3.right.right
 have K4:Sat (zfy bl []*(zav x (some M)*(pts bx (.cells #[.int .i64 k1,.int .i64 k2] 29 (0,0))*F))) w3:=zlq.2 ⟨_,(za5 K3).of_eq (show _=pts bl (.cells #[.slice none 0 0] 90 (0,0))*(zdm (.slice none 0 0) []*(zav x (some M)*(pts bx (.cells #[.int .i64 k1,.int .i64 k2] 29 (0,0))*F))) from by unfold zdm;ac_rfl)⟩
 have K5:Sat (zav x (some M)*(zfy bl ((way.take 0).map zlo)*(pts bx (.cells #[.int .i64 k1,.int .i64 k2] 29 (0,0))*F))) w3:=K4.of_eq (by rw [List.take_zero,List.map_nil];ac_rfl)
 go_upto_region 3 with (go_at_call 70;(refine zj1 xce (z3i way HL bl) hw s0 h0 k1 k2 hk hx K5 ?_);intro r1 r2 w4 hr H4 I4;have J5:=J3.trans I4)
 rw [List.take_length] at H4
 clear y0 y1 H1 I1 K3 J3 K4 K5 I4 hr
 obtain ⟨v,H5⟩:=zlq.1 (H4.of_eq (show _=zfy bl (way.map zlo)*(zav x (some M)*(pts bx (.cells #[.int .i64 k1,.int .i64 k2] 29 (0,0))*F)) from by ac_rfl))
 obtain ⟨z0,-⟩:=one1 H5
 have FIN:=L_ (HH.out v w4 (H5.of_eq (show _=(pts bl (.cells #[v] 90 (0,0))*pts bx (.cells #[.int .i64 k1,.int .i64 k2] 29 (0,0)))*(zdm v (way.map zlo)*(zav x (some M)*F)) from by ac_rfl)).right J5)
 go_wp2_with fail
 first | exact FIN.out | exact bodyPost_ret (v:=v) (by simp [results,Tryz.results50,go_sem]) rfl FIN.out
end
structure xct (M:Mp) (t:Sq.T) (u:Tk) (l:List Tk) (d:Int):Prop where
 hold:Sq.zc8 M t u
 ok:∀ y∈t.toks,Sq.OkT y
 len:l.length+t.cnt≤1000
 lo:0≤d
 hi:d+t.ht≤254
abbrev ziv (x:Sx) (M:Mp) (t:Sq.T):Prop:=∀ {F:Asn} {w:World} {R:Ending→World→Prop} (u:Tk) (k1 k2 d:Int) (v:Value) (l:List Tk),Hid ((k1,k2)=t.top)→Hid (xct M t u l d)→Sat (zar v l*(zav x (some M)*F)) w →
 (∀ v' w',Sat (zar v' (l++t.toks)*(zav x (some M)*F)) w'→Io w w'→R (.returned v') w') →
 Calls Tryz.prog 53 #[.pointer (some ⟨x.s,0,none⟩),v,tkA k1 k2,.int .i64 d] w R
theorem z9y {b:Nat} {t:TypeId} {k1 k2:Int} {G:Asn}:Reads zlh (pts b (.cells #[.int .i64 k1,.int .i64 k2] t (0,0))*G) (.slice (some ⟨b,0,none⟩) 1 1) [(k1,k2)]:=by
 refine ⟨some ⟨b,0,none⟩,1,rfl,by simp,.inr ⟨b,0,rfl,fun w hw j u hu=>?_⟩⟩
 obtain ⟨h0,h1⟩:=tk2 hw
 have e:cellsOf zlh [(k1,k2)]=[.int .i64 k1,.int .i64 k2]:=rfl
 rw [e] at hu
 match j,hu with
 | 0,hu=>cases hu;exact h0
 | 1,hu=>cases hu;exact h1
section
variable {x:Sx} {M:Mp} {F:Asn} {w:World} {R:Ending→World→Prop}
theorem bl_in {A B C:Asn} (H:Sat (A*(B*(C*F))) w):Sat (B*(C*(A*F))) w:=H.of_eq (by ac_rfl)
theorem bl_end {A B C:Asn} (H:Sat (B*(C*(A*F))) w):Sat (B*(C*F)) w:=(H.of_eq (show _=A*(B*(C*F)) from by ac_rfl)).right
theorem z6u (hx:Hid x.Ok):ziv x M .nil:=by
 intro F w R u k1 k2 d v l hk hb H h
 have HH:=L_ h
 obtain ⟨rfl,rfl⟩:k1=4294967295∧k2=4294967295:=by have:=hk.out;unfold Sq.T.top Sq.nob at this;rw [Prod.mk.injEq] at this;exact this
 have hge:¬ (255≤d):=by have:=hb.out.hi;omega
 have hlt:d<255:=by omega
 have H1:=bl_in (H.new (.cells #[.int .i64 4294967295,.int .i64 4294967295] 29))
 have I1:=io1 H1 (Io.refl w)
 clear h H hk
 go_enter Tryz.func53,Tryz.ntmps53
 go_upto_region 3 with fail
 generalize w.alloc _=w1 at *
 generalize w.heap.size=bx at *
 have Kd:=H1.drew
 have Jd:=I1.drew
 clear H1 I1
 have S0:=tk2 Kd.right.right
 have EQ:=fun W=>zci 4294967295 4294967295 4294967295 4294967295 W
 simp only [decide_true] at EQ
 refine rh Kd (fun W Kd=>tk2 Kd.right.right) fun hHeld=>?_
 refine tk ?_ ?_ [0] ?_ hHeld ?_;rotate_left 2;exact tt
 refine rd [1] (rc fun K hK=>?_)
 go_simp
 go_at_call 46;(with_reducible refine zan Kd ?_);intro w2 H2 I2;have S1:=tk2 H2.right.right
 refine hK.out _ _ (by exact S1) fun hHeld=>?_
 clear hK K
 try simp only [sp]
 refine tk ?_ ?_ [2,3,4,5,6,7,8,9] ?_ hHeld ?_;rotate_left 2;exact tt
 refine wpAnyH_done (by kernel_rfl) ?_ _
 have FIN:=L_ (HH.out v w2 (by rw [show l++Sq.T.nil.toks=l from List.append_nil l];exact bl_end H2) (Jd.trans I2))
 clear hge hlt
 go_wp2_with fail
 first | exact FIN.out | exact bodyPost_ret (v:=v) (by simp [results,Tryz.results53,go_sem]) rfl FIN.out
theorem z1b (hx:Hid x.Ok) (lt rt:Sq.T) (kk:Tk) (hl:ziv x M lt) (hr:ziv x M rt):ziv x M (.node lt kk rt):=by
 intro F w R u k1 k2 d v l hk hb H h
 obtain rfl:(k1,k2)=kk:=hk.out
 have HH:=L_ h
 have HL:Hid (ziv x M lt):=L_ hl
 have HR:Hid (ziv x M rt):=L_ hr
 have hge:¬ (255≤d):=by have:=hb.out.hi;omega
 have hlt:d<255:=by omega
 have hne:(k1,k2)≠Sq.nob:=(hb.out.ok _ (by simp [Sq.T.toks])).ne
 obtain ⟨p1,p2,EA⟩:∃ p1 p2,Hid ((p1,p2)=lt.top):=⟨_,_,L_ rfl⟩
 obtain ⟨q1,q2,EB⟩:∃ q1 q2,Hid ((q1,q2)=rt.top):=⟨_,_,L_ rfl⟩
 obtain ⟨u1,u2,ct,ht,HM⟩:∃ u1 u2 ct ht,Hid (M (k1,k2)=some ⟨(u1,u2),(p1,p2),(q1,q2),ct,ht⟩):=⟨u.1,u.2,_,_,L_ (by rw [hb.out.hold.1,EA.out,EB.out];rfl)⟩
 have BL:Hid (xct M lt (k1,k2) l (d+1)):=L_ (by
  obtain ⟨h1,h2,h3,h4,h5⟩:=hb.out
  refine ⟨h1.2.1,fun y hy=>h2 y (by simp [Sq.T.toks,hy]),?_,by omega,?_⟩
  ·simp only [Sq.T.cnt] at h3;omega
  ·simp only [Sq.T.ht] at h5;omega)
 have BR:Hid (xct M rt (k1,k2) (l++lt.toks++[(k1,k2)]) (d+1)):=L_ (by
  obtain ⟨h1,h2,h3,h4,h5⟩:=hb.out
  refine ⟨h1.2.2,fun y hy=>h2 y (by simp [Sq.T.toks,hy]),?_,by omega,?_⟩
  ·have:=lt.zbn;simp only [Sq.T.cnt] at h3;simp only [List.length_append,List.length_singleton];omega
  ·simp only [Sq.T.ht] at h5;omega)
 have LN:Hid ((l++lt.toks).length≤1000000):=L_ (by have h3:=hb.out.len;have:=lt.zbn;simp only [Sq.T.cnt] at h3;rw [List.length_append];omega)
 have wr1:IntKind.i64.wrap (d+1)=d+1:=wrap_in (by have:=hb.out.lo;omega) (by omega)
 have H1:=(bl_in (H.new (.cells #[.int .i64 k1,.int .i64 k2] 29))).of_eq (show _=zav x (some M)*(pts w.heap.size (.cells #[.int .i64 k1,.int .i64 k2] 29 (0,0))*(zar v l*F)) from by unfold zar;ac_rfl)
 have I1:=io1 H1 (Io.refl w)
 clear h H hk hb hl hr
 go_enter Tryz.func53,Tryz.ntmps53
 go_upto_region 3 with fail
 generalize w.alloc _=w1 at *
 generalize w.heap.size=bx at *
 clear hge hlt
 have Kd:=H1.drew
 have Jd:=I1.drew
 clear H1 I1
 have S0:=And.intro (tk2 Kd.right) (zb5 Kd)
 have EQ:=fun W=>zci k1 k2 4294967295 4294967295 W
 rw [show decide ((k1,k2)=((4294967295:Int),(4294967295:Int)))=false from decide_eq_false hne] at EQ
 refine rh Kd (fun W Kd=>And.intro (tk2 Kd.right) (zb5 Kd)) fun hHeld=>?_
 refine tk ?_ ?_ [0] ?_ hHeld ?_;rotate_left 2;exact tt
 refine rd [1] (rc fun K hK=>?_)
 go_simp
 go_at_call 46;(with_reducible refine zan Kd ?_);intro w2 H2 I2;have S1:=And.intro (tk2 H2.right) (zb5 H2)
 refine hK.out _ _ (by exact S1) fun hHeld=>?_
 clear hK K
 try simp only [sp]
 refine tk ?_ ?_ [2,3,4,5,6,7,8,9] ?_ hHeld ?_;rotate_left 2;exact tt
 refine wpAnyH_done (by kernel_rfl) ?_ _
 have J2:=Jd.trans I2
 clear S0 S1 Kd Jd I2 hHeld EQ hne
 obtain ⟨y0,y1⟩:=tk2 H2.right
 go_upto_region 6 with (go_at_call 58;(with_reducible refine zd2 k1 k2 HM hx H2 ?_);intro w4 H4 I4;have K4:=H4.new (.cells #[.int .i64 u1,.int .i64 u2,.int .i64 p1,.int .i64 p2,.int .i64 q1,.int .i64 q2,.int .i64 ct,.int .i64 ht] 85);have J4:=(J2.trans I4).alloc (.cells #[.int .i64 u1,.int .i64 u2,.int .i64 p1,.int .i64 p2,.int .i64 q1,.int .i64 q2,.int .i64 ct,.int .i64 ht] 85))
 clear y0 y1 H2 J2 H4 I4
 generalize w4.alloc _=w5 at *
 generalize w4.heap.size=bn at *
 have Kd:=K4.drew
 have Jd:=J4.drew
 clear K4 J4
 have S0:=And.intro (tk2 Kd.right.right) (And.intro (nd8 Kd).2.2.1 (nd8 Kd).2.2.2.1)
 skip
 refine rh Kd (fun W Kd=>And.intro (tk2 Kd.right.right) (And.intro (nd8 Kd).2.2.1 (nd8 Kd).2.2.2.1)) fun hHeld=>?_
 refine tk ?_ ?_ [0,1,2,3,4,5,7] ?_ hHeld ?_;rotate_left 2;exact tt
 refine rd [6,8] (rn (fun K hK=>?_) (rc fun K hK=>?_))
 ·go_simp
  go_at_call 53;(refine HL.out (k1,k2) p1 p2 (d+1) v l EA BL (Kd.of_eq (show _=zar v l*(zav x (some M)*(pts bn (.cells #[.int .i64 u1,.int .i64 u2,.int .i64 p1,.int .i64 p2,.int .i64 q1,.int .i64 q2,.int .i64 ct,.int .i64 ht] 85 (0,0))*(pts bx (.cells #[.int .i64 k1,.int .i64 k2] 29 (0,0))*F))) from by unfold zar;ac_rfl)) ?_);intro v6 w6 H6 I6
  have S1:=And.intro (tk2 H6.right.right.right) (And.intro (nd8 H6.right.right).2.2.1 (nd8 H6.right.right).2.2.2.1)
  refine hK.out _ _ (by exact S1) fun hHeld=>?_
  clear hK K
  try simp only [sp]
  refine rd [8] (rc fun K hK=>?_)
  go_simp
  have HN:=H6.new (.cells #[.int .i64 k1,.int .i64 k2] 29)
  have S2:=And.intro (tk2 HN.right.right.right.right) (And.intro (nd8 HN.right.right.right).2.2.1 (nd8 HN.right.right.right).2.2.2.1)
  refine hK.out _ _ (by exact S2) fun hHeld=>?_
  clear hK K
  try simp only [sp]
  refine rd [9] (rc fun K hK=>?_)
  refine zcn zlf zbq rfl (.tmp 35) (.tmp 37) rfl rfl H6 LN.out (k1,k2) rfl rfl ?_
  intro v7 w8 H8 I8
  have S3:=And.intro (tk2 H8.right.right.right) (And.intro (nd8 H8.right.right).2.2.1 (nd8 H8.right.right).2.2.2.1)
  refine hK.out _ _ (by exact S3) fun hHeld=>?_
  clear hK K
  try simp only [sp]
  have CB:w8.cell? ⟨bn,4,none⟩=some (.int .i64 q1)∧w8.cell? ⟨bn,5,none⟩=some (.int .i64 q2):=⟨(nd8 H8.right.right).2.2.2.2.1,(nd8 H8.right.right).2.2.2.2.2.1⟩
  have J8:=(Jd.trans I6).trans I8
  clear Kd Jd H6 I6 HN I8 S1 S2
  have EN9:∀ (v9:Value) (w9:World) (m:List Tk),Sat (zar v9 m*(zav x (some M)*(pts bn (.cells #[.int .i64 u1,.int .i64 u2,.int .i64 p1,.int .i64 p2,.int .i64 q1,.int .i64 q2,.int .i64 ct,.int .i64 ht] 85 (0,0))*(pts bx (.cells #[.int .i64 k1,.int .i64 k2] 29 (0,0))*F)))) w9→Sat (zar v9 m*(zav x (some M)*F)) w9:=fun _ _ _ H=>(H.of_eq (show _=(pts bn (.cells #[.int .i64 u1,.int .i64 u2,.int .i64 p1,.int .i64 p2,.int .i64 q1,.int .i64 q2,.int .i64 ct,.int .i64 ht] 85 (0,0))*pts bx (.cells #[.int .i64 k1,.int .i64 k2] 29 (0,0)))*(zar _ _*(zav x (some M)*F)) from by unfold zar;ac_rfl)).right
  have EN9:=L_ EN9
  refine rd [10] (rc fun K hK=>?_)
  go_simp
  refine hK.out _ _ (by exact S3) fun hHeld=>?_
  clear hK K
  try simp only [sp]
  refine wpAnyH_done (by kernel_rfl) ?_ _
  clear S0 hHeld S3
  obtain ⟨y0,y1⟩:=CB
  go_wp2_with (go_at_call 53;(refine HR.out (k1,k2) q1 q2 (d+1) v7 (l++lt.toks++[(k1,k2)]) EB BR H8 ?_);intro v9 w9 H9 I9)
  have FIN:=L_ (HH.out v9 w9 (by rw [show l++(Sq.T.node lt (k1,k2) rt).toks=l++lt.toks++[(k1,k2)]++rt.toks from by simp [Sq.T.toks]];exact EN9.out _ _ _ H9) (J8.trans I9))
  first | exact FIN.out | exact bodyPost_ret (v:=v9) (by simp [results,Tryz.results53,go_sem]) rfl FIN.out
 ·go_simp
  have HN:=Kd.new (.cells #[.int .i64 k1,.int .i64 k2] 29)
  have S1:=And.intro (tk2 HN.right.right.right) (And.intro (nd8 HN.right).2.2.1 (nd8 HN.right).2.2.2.1)
  refine hK.out _ _ (by exact S1) fun hHeld=>?_
  clear hK K
  try simp only [sp]
  skip
  refine rd [6] (rc fun K hK=>?_)
  go_simp
  go_at_call 53;(refine HL.out (k1,k2) p1 p2 (d+1) v l EA BL (HN.of_eq (show _=zar v l*(zav x (some M)*(pts w5.drew.heap.size (.cells #[.int .i64 k1,.int .i64 k2] 29 (0,0))*(pts bn (.cells #[.int .i64 u1,.int .i64 u2,.int .i64 p1,.int .i64 p2,.int .i64 q1,.int .i64 q2,.int .i64 ct,.int .i64 ht] 85 (0,0))*(pts bx (.cells #[.int .i64 k1,.int .i64 k2] 29 (0,0))*F)))) from by unfold zar;ac_rfl)) ?_);intro v6 w6 H6 I6
  have S2:=And.intro (tk2 H6.right.right.right.right) (And.intro (nd8 H6.right.right.right).2.2.1 (nd8 H6.right.right.right).2.2.2.1)
  refine hK.out _ _ (by exact S2) fun hHeld=>?_
  clear hK K
  try simp only [sp]
  refine rd [9] (rc fun K hK=>?_)
  refine zgu zlf zbq rfl (.tmp 35) (.tmp 37) rfl rfl H6 LN.out (by simp) rfl (z9y.imp (F:=pts w5.drew.heap.size (.cells #[.int .i64 k1,.int .i64 k2] 29 (0,0))*(zav x (some M)*(pts bn (.cells #[.int .i64 u1,.int .i64 u2,.int .i64 p1,.int .i64 p2,.int .i64 q1,.int .i64 q2,.int .i64 ct,.int .i64 ht] 85 (0,0))*(pts bx (.cells #[.int .i64 k1,.int .i64 k2] 29 (0,0))*F)))) (fun _ hw=>hw.of_eq (by ac_rfl))) ?_
  intro v7 w8 H8 I8
  have S3:=And.intro (tk2 H8.right.right.right.right) (And.intro (nd8 H8.right.right.right).2.2.1 (nd8 H8.right.right.right).2.2.2.1)
  refine hK.out _ _ (by exact S3) fun hHeld=>?_
  clear hK K
  try simp only [sp]
  have CB:w8.cell? ⟨bn,4,none⟩=some (.int .i64 q1)∧w8.cell? ⟨bn,5,none⟩=some (.int .i64 q2):=⟨(nd8 H8.right.right.right).2.2.2.2.1,(nd8 H8.right.right.right).2.2.2.2.2.1⟩
  have J8:=((Jd.alloc (.cells #[.int .i64 k1,.int .i64 k2] 29)).trans I6).trans I8
  have EN9:∀ (v9:Value) (w9:World) (m:List Tk),Sat (zar v9 m*(zav x (some M)*(pts w5.drew.heap.size (.cells #[.int .i64 k1,.int .i64 k2] 29 (0,0))*(pts bn (.cells #[.int .i64 u1,.int .i64 u2,.int .i64 p1,.int .i64 p2,.int .i64 q1,.int .i64 q2,.int .i64 ct,.int .i64 ht] 85 (0,0))*(pts bx (.cells #[.int .i64 k1,.int .i64 k2] 29 (0,0))*F))))) w9→Sat (zar v9 m*(zav x (some M)*F)) w9:=fun _ _ _ H=>(H.of_eq (show _=(pts w5.drew.heap.size (.cells #[.int .i64 k1,.int .i64 k2] 29 (0,0))*(pts bn (.cells #[.int .i64 u1,.int .i64 u2,.int .i64 p1,.int .i64 p2,.int .i64 q1,.int .i64 q2,.int .i64 ct,.int .i64 ht] 85 (0,0))*pts bx (.cells #[.int .i64 k1,.int .i64 k2] 29 (0,0))))*(zar _ _*(zav x (some M)*F)) from by unfold zar;ac_rfl)).right
  have EN9:=L_ EN9
  clear Kd Jd H6 I6 HN I8 S1 S2
  refine rd [10] (rc fun K hK=>?_)
  go_simp
  refine hK.out _ _ (by exact S3) fun hHeld=>?_
  clear hK K
  try simp only [sp]
  refine wpAnyH_done (by kernel_rfl) ?_ _
  clear S0 hHeld S3
  obtain ⟨y0,y1⟩:=CB
  go_wp2_with (go_at_call 53;(refine HR.out (k1,k2) q1 q2 (d+1) v7 (l++lt.toks++[(k1,k2)]) EB BR H8 ?_);intro v9 w9 H9 I9)
  have FIN:=L_ (HH.out v9 w9 (by rw [show l++(Sq.T.node lt (k1,k2) rt).toks=l++lt.toks++[(k1,k2)]++rt.toks from by simp [Sq.T.toks]];exact EN9.out _ _ _ H9) (J8.trans I9))
  first | exact FIN.out | exact bodyPost_ret (v:=v9) (by simp [results,Tryz.results53,go_sem]) rfl FIN.out
end
end Go.Proofs.YtfknjmoekbabcaaGreatDoor
namespace Go.Proofs.YtfknjmoekbabcaaGreatDoor
open Go.RowKit Go.Lib
open Sq (Tk Nd Mp zca InT Fr)
section
variable {x:Sx} {M:Mp} {F:Asn} {w:World} {R:Ending→World→Prop}
theorem z6v (hx:Hid x.Ok) (t:Sq.T):ziv x M t:=by
 induction t with
 | nil=>exact z6u hx
 | node l k r hl hr=>exact z1b hx l r k hl hr
theorem xdw {A:Asn} (H:Sat (A*F) w):Sat (A*F) w:=H
theorem z4l {A B:Asn} (H:Sat (A*(B*F)) w):Sat (B*(A*F)) w:=H.of_eq (by ac_rfl)
theorem li_in {A B:Asn} (H:Sat (A*(B*F)) w):Sat (B*(A*F)) w:=H.of_eq (by ac_rfl)
theorem z18 (tr:Tk→Sq.T) (a b:Int) (hT:Hid (Sq.TF M tr)) (hx:Hid x.Ok) (H:Sat (zav x (some M)*F) w)
  (h:∀ v l e w',Hid ((e=Sq.zfw M (a,b)∧e≠0∧l=[])∨(Sq.zfw M (a,b)=0∧e=0∧l=(tr (a,b)).toks))→Sat (zar v l*(zav x (some M)*F)) w'→Io w w'→R (.returned (.tuple #[v,.int .i64 e])) w') :
  Calls Tryz.prog 17 #[.pointer (some ⟨x.s,0,none⟩),tkA a b] w R:=by
 have HH:=L_ h
 have H1:=li_in (H.new (.cells #[.int .i64 a,.int .i64 b] 29))
 have I1:=io1 H1 (Io.refl w)
 clear h H
 go_enter Tryz.func17,Tryz.ntmps17
 go_upto_region 1 with fail
 generalize w.alloc _=w1 at *
 generalize w.heap.size=bx at *
 obtain ⟨y0,y1⟩:=tk2 H1.right
 obtain ⟨f0,f1⟩:=zgf H1.right
 go_upto_region 2 with (go_at_call 47;(with_reducible refine zef tr a b hT hx H1 ?_);intro r1 r2 v1 v2 v3 v4 v5 v6 v7 v8 e w2 hr H2 I2;have HA:=(H2.new (.cells #[.int .i64 0,.int .i64 0,.int .i64 0,.int .i64 0,.int .i64 0,.int .i64 0,.int .i64 0,.int .i64 0] 85)).of_eq (show _=pts bx (.cells #[.int .i64 a,.int .i64 b] 29 (0,0))*(pts w2.heap.size (.cells #[.int .i64 0,.int .i64 0,.int .i64 0,.int .i64 0,.int .i64 0,.int .i64 0,.int .i64 0,.int .i64 0] 85 (0,0))*(zav x (some M)*F)) from by ac_rfl);obtain ⟨g0,g1⟩:=tk2 HA;obtain ⟨g2,g3⟩:=zgf HA;have KE:=z4l (zc2 (.int .i64 r1) (.int .i64 r2) HA);have G:=zb0 (xdw KE);obtain ⟨j0,j1,j2,j3,j4,j5,j6,j7⟩:=G;have G2:=nd8 KE;obtain ⟨i0,i1,i2,i3,i4,i5,i6,i7⟩:=G2;have KN:=zaz (.int .i64 v1) (.int .i64 v2) (.int .i64 v3) (.int .i64 v4) (.int .i64 v5) (.int .i64 v6) (.int .i64 v7) (.int .i64 v8) (xdw KE);have JN:=zac (b:=w2.heap.size) (.int .i64 v1) (.int .i64 v2) (.int .i64 v3) (.int .i64 v4) (.int .i64 v5) (.int .i64 v6) (.int .i64 v7) (.int .i64 v8) (zay (b:=bx) (.int .i64 r1) (.int .i64 r2) ((I1.trans I2).alloc (.cells #[.int .i64 0,.int .i64 0,.int .i64 0,.int .i64 0,.int .i64 0,.int .i64 0,.int .i64 0,.int .i64 0] 85))))
 clear y0 y1 f0 f1 g0 g1 g2 g3 j0 j1 j2 j3 j4 j5 j6 j7 i0 i1 i2 i3 i4 i5 i6 i7 HA KE H1 I1 H2 I2
 generalize ((((((((((w2.alloc _).setCell ⟨bx,0,none⟩ (.int .i64 r1)).setCell ⟨bx,1,none⟩ (.int .i64 r2)).setCell ⟨w2.heap.size,0,none⟩ (.int .i64 v1)).setCell ⟨w2.heap.size,1,none⟩ (.int .i64 v2)).setCell ⟨w2.heap.size,2,none⟩ (.int .i64 v3)).setCell ⟨w2.heap.size,3,none⟩ (.int .i64 v4)).setCell ⟨w2.heap.size,4,none⟩ (.int .i64 v5)).setCell ⟨w2.heap.size,5,none⟩ (.int .i64 v6)).setCell ⟨w2.heap.size,6,none⟩ (.int .i64 v7)).setCell ⟨w2.heap.size,7,none⟩ (.int .i64 v8)=w3 at *
 generalize w2.heap.size=b6 at *
 have K3:Sat (zav x (some M)*(pts b6 (.cells #[.int .i64 v1,.int .i64 v2,.int .i64 v3,.int .i64 v4,.int .i64 v5,.int .i64 v6,.int .i64 v7,.int .i64 v8] 85 (0,0))*(pts bx (.cells #[.int .i64 r1,.int .i64 r2] 29 (0,0))*F))) w3:=KN.of_eq (by ac_rfl)
 clear KN
 rcases hr.out with ⟨h1,h2,h3,h4⟩ | ⟨h1,h2,h3,h4,h5,h6⟩
 ·have FIN:=L_ (HH.out (.slice none 0 0) [] e w3 (L_ (.inl ⟨h1,h2,rfl⟩)) (za5 (K3.of_eq (show _=(pts b6 (.cells #[.int .i64 v1,.int .i64 v2,.int .i64 v3,.int .i64 v4,.int .i64 v5,.int .i64 v6,.int .i64 v7,.int .i64 v8] 85 (0,0))*pts bx (.cells #[.int .i64 r1,.int .i64 r2] 29 (0,0)))*(zav x (some M)*F) from by ac_rfl)).right) JN)
  have he:e=30∨e=181:=by
   rcases zd6 M (a,b) with ⟨q1,q2⟩ | ⟨q1,q2,q3⟩ | ⟨q1,q2,q3⟩
   ·exact .inl (h1.trans q1)
   ·exact .inr (h1.trans q1)
   ·exact absurd (h1.trans q1) h2
  clear h1 h2 h3 h4 hr HH K3 JN
  rcases he with rfl | rfl
  ·go_wp2_with fail
   first | exact FIN.out | exact bodyPost_ret (v:=.tuple #[.slice none 0 0,.int .i64 30]) (by simp [results,Tryz.results17,go_sem]) rfl FIN.out
  ·go_wp2_with fail
   first | exact FIN.out | exact bodyPost_ret (v:=.tuple #[.slice none 0 0,.int .i64 181]) (by simp [results,Tryz.results17,go_sem]) rfl FIN.out
 ·subst h2
  have ht:=hT.out _ h3
  have HR:Hid ((r1,r2)=(tr (a,b)).top):=L_ h5
  have BS:Hid (xct M (tr (a,b)) Sq.nob [] 0):=L_ ⟨ht.hold,ht.ok,by have:=ht.cnt;simp only [List.length_nil];omega,by omega,by have:=ht.cnt;have:=(tr (a,b)).zec;omega⟩
  have HB:=L_ h1
  have HK:=za5 (sz:=2) (enc:=zlh) (e:=29) K3
  obtain ⟨y0,y1⟩:=tk2 K3.right.right
  clear h1 h3 h4 h5 h6 hr ht
  go_upto_region 5 with (go_at_call 53;(refine z6v hx (tr (a,b)) Sq.nob r1 r2 0 (.slice none 0 0) [] HR BS HK ?_);intro v9 w9 H9 I9)
  clear y0 y1 HK K3
  obtain ⟨y0,y1⟩:=zb5 H9.right
  have FIN:=L_ (HH.out v9 _ 0 w9 (L_ (.inr ⟨HB.out,rfl,rfl⟩)) ((H9.of_eq (show _=(pts b6 (.cells #[.int .i64 v1,.int .i64 v2,.int .i64 v3,.int .i64 v4,.int .i64 v5,.int .i64 v6,.int .i64 v7,.int .i64 v8] 85 (0,0))*pts bx (.cells #[.int .i64 r1,.int .i64 r2] 29 (0,0)))*(zar v9 (tr (a,b)).toks*(zav x (some M)*F)) from by rw [List.nil_append];unfold zar;ac_rfl)).right) (JN.trans I9))
  go_wp2_with fail
  first | exact FIN.out | exact bodyPost_ret (v:=.tuple #[v9,.int .i64 0]) (by simp [results,Tryz.results17,go_sem]) rfl FIN.out
end
namespace Sq
theorem Fr.two {M:Mp} {l r:T} (hl:zc8 M l nob) (hr:zc8 M r nob) (nd:(l.toks++r.toks).Nodup) (ok:∀ y∈l.toks++r.toks,OkT y) (hc:(l.toks++r.toks).length≤255):Fr (some M) (some M) (l.toks++r.toks) [l,r] [] where
 nodup:=by rw [zei,List.append_nil];exact nd
 ok:=fun y hy=>by rw [zei,List.append_nil] at hy;exact ok y hy
 cnt:=by rw [zei,List.append_nil];exact hc
 sub:=fun y hy=>by rw [zei,List.append_nil] at hy;exact hy
 own:=fun M' e=>by
  cases e
  refine ⟨M,rfl,fun t ht=>?_,fun k hk=>by simp at hk,fun _ _=>rfl⟩
  simp only [List.mem_cons,List.not_mem_nil,or_false] at ht
  rcases ht with rfl | rfl
  ·exact ⟨_,hl⟩
  ·exact ⟨_,hr⟩
end Sq
section
variable {x:Sx} {M:Mp} {F:Asn} {w:World} {R:Ending→World→Prop}
theorem xfj {A B C:Asn} (H:Sat (A*(B*(C*F))) w):Sat (C*(A*(B*F))) w:=H.of_eq (by ac_rfl)
theorem zty {A B C:Asn} (H:Sat (C*(A*(B*F))) w):Sat (C*F) w:=(H.of_eq (show _=(A*B)*(C*F) from by ac_rfl)).right
theorem zyc (tr:Tk→Sq.T) (a1 b1 a2 b2:Int) {e:Int} (he:Hid ((e≠0∧e=Sq.ze0 M (a1,b1) (a2,b2))∨(Sq.ze0 M (a1,b1) (a2,b2)=0∧e=1∧(tr (a1,b1)).top=(tr (a2,b2)).top))) (hT:Hid (Sq.TF M tr)) (hx:Hid x.Ok) (H:Sat (zav x (some M)*F) w)
  (h:∀ w',Sat (zav x (some M)*F) w'→Io w w'→R (.returned (.int .i64 e)) w') :
  Calls Tryz.prog 14 #[.pointer (some ⟨x.s,0,none⟩),tkA a1 b1,tkA a2 b2] w R:=by
 have HH:=L_ h
 have H1:=xfj (((H.new (.cells #[.int .i64 a1,.int .i64 b1] 29)).new (.cells #[.int .i64 a2,.int .i64 b2] 29)).of_eq (show _=pts (w.alloc (.cells #[.int .i64 a1,.int .i64 b1] 29)).heap.size (.cells #[.int .i64 a2,.int .i64 b2] 29 (0,0))*(pts w.heap.size (.cells #[.int .i64 a1,.int .i64 b1] 29 (0,0))*(zav x (some M)*F)) from by ac_rfl))
 have I1:=io2 H1 (Io.refl w)
 rw [World.size_alloc] at H1
 clear h H
 go_enter Tryz.func14,Tryz.ntmps14
 go_upto_region 1 with fail
 generalize (w.alloc _).alloc _=w1 at *
 generalize w.heap.size=bx at *
 obtain ⟨y0,y1⟩:=tk2 H1.right.right
 obtain ⟨y2,y3⟩:=tk2 H1.right
 rcases zke M (a1,b1) (a2,b2) with ⟨q1,q2⟩ | ⟨q1,q2,q3⟩
 ·have hee:e=Sq.ze0 M (a1,b1) (a2,b2):=by
   rcases he.out with h1 | h1
   ·exact h1.2
   ·exact absurd h1.1 q1
  have HD:Hid ((false=false∧e≠0∧e=Sq.ze0 M (a1,b1) (a2,b2))∨(Sq.ze0 M (a1,b1) (a2,b2)=0∧e=0∧false=decide ((tr (a1,b1)).top=(tr (a2,b2)).top))):=L_ (.inl ⟨rfl,hee ▸ q1,hee⟩)
  have hq:e=30∨e=181:=by rw [hee];exact q2
  clear q1 q2 he hee
  rcases hq with rfl | rfl
  ·go_wp2_with (go_at_call 27;(with_reducible refine zi2 tr a1 b1 a2 b2 HD hT hx H1 ?_);intro w2 H2 I2)
   have FIN:=L_ (HH.out w2 (zty H2) (I1.trans I2))
   first | exact FIN.out | exact bodyPost_ret (v:=.int .i64 30) (by simp [results,Tryz.results14,go_sem]) rfl FIN.out
  ·go_wp2_with (go_at_call 27;(with_reducible refine zi2 tr a1 b1 a2 b2 HD hT hx H1 ?_);intro w2 H2 I2)
   have FIN:=L_ (HH.out w2 (zty H2) (I1.trans I2))
   first | exact FIN.out | exact bodyPost_ret (v:=.int .i64 181) (by simp [results,Tryz.results14,go_sem]) rfl FIN.out
 ·obtain ⟨rfl,htop⟩:e=1∧(tr (a1,b1)).top=(tr (a2,b2)).top:=by
   rcases he.out with h1 | h1
   ·exact absurd (h1.2.trans q1) h1.1
   ·exact h1.2
  have HD:Hid ((true=false∧(0:Int)≠0∧(0:Int)=Sq.ze0 M (a1,b1) (a2,b2))∨(Sq.ze0 M (a1,b1) (a2,b2)=0∧(0:Int)=0∧true=decide ((tr (a1,b1)).top=(tr (a2,b2)).top))):=L_ (.inr ⟨q1,rfl,(decide_eq_true htop).symm⟩)
  clear q1 q2 q3 he htop
  go_wp2_with (go_at_call 27;(with_reducible refine zi2 tr a1 b1 a2 b2 HD hT hx H1 ?_);intro w2 H2 I2)
  have FIN:=L_ (HH.out w2 (zty H2) (I1.trans I2))
  first | exact FIN.out | exact bodyPost_ret (v:=.int .i64 1) (by simp [results,Tryz.results14,go_sem]) rfl FIN.out
theorem sq_err {m:Option Mp} (H:Sat (zav x m*F) w):w.cell? ⟨x.s,0,none⟩=some (.pointer (some ⟨x.c.tr,0,none⟩))∧w.cell? ⟨x.s,1,none⟩=some (.int .i64 (zi3 m)):=(zeg H).1
theorem z2a (tr:Tk→Sq.T) (a1 b1 a2 b2:Int) (he:Hid (Sq.ze0 M (a1,b1) (a2,b2)=0∧(tr (a1,b1)).top≠(tr (a2,b2)).top)) (hd:Hid (((tr (a1,b1)).toks++(tr (a2,b2)).toks).Nodup∧((tr (a1,b1)).toks++(tr (a2,b2)).toks).length≤255)) (hT:Hid (Sq.TF M tr)) (hx:Hid x.Ok) (H:Sat (zav x (some M)*F) w)
  (h:∀ m' t w',Hid (t.toks=(tr (a1,b1)).toks++(tr (a2,b2)).toks∧t.Bal∧∀ M',m'=some M'→Sq.zc8 M' t Sq.nob∧∀ y,y∉t.toks→M' y=M y)→Sat (zav x m'*F) w'→Io w w'→R (.returned (.int .i64 (zi3 m'))) w') :
  Calls Tryz.prog 14 #[.pointer (some ⟨x.s,0,none⟩),tkA a1 b1,tkA a2 b2] w R:=by
 have HH:=L_ h
 have H1:=xfj (((H.new (.cells #[.int .i64 a1,.int .i64 b1] 29)).new (.cells #[.int .i64 a2,.int .i64 b2] 29)).of_eq (show _=pts (w.alloc (.cells #[.int .i64 a1,.int .i64 b1] 29)).heap.size (.cells #[.int .i64 a2,.int .i64 b2] 29 (0,0))*(pts w.heap.size (.cells #[.int .i64 a1,.int .i64 b1] 29 (0,0))*(zav x (some M)*F)) from by ac_rfl))
 have I1:=io2 H1 (Io.refl w)
 rw [World.size_alloc] at H1
 clear h H
 go_enter Tryz.func14,Tryz.ntmps14
 go_upto_region 1 with fail
 generalize (w.alloc _).alloc _=w1 at *
 generalize w.heap.size=bx at *
 obtain ⟨y0,y1⟩:=tk2 H1.right.right
 obtain ⟨y2,y3⟩:=tk2 H1.right
 rcases zke M (a1,b1) (a2,b2) with ⟨q1,q2⟩ | ⟨q1,q2,q3⟩
 ·exact absurd he.out.1 q1
 have HD:Hid ((false=false∧(0:Int)≠0∧(0:Int)=Sq.ze0 M (a1,b1) (a2,b2))∨(Sq.ze0 M (a1,b1) (a2,b2)=0∧(0:Int)=0∧false=decide ((tr (a1,b1)).top=(tr (a2,b2)).top))):=L_ (.inr ⟨q1,rfl,(decide_eq_false he.out.2).symm⟩)
 have Q2:=L_ q2
 have Q3:=L_ q3
 clear q1 q2 q3 he
 go_upto_region 6 with (go_at_call 27;(with_reducible refine zi2 tr a1 b1 a2 b2 HD hT hx H1 ?_);intro w2 H2 I2;have J2:=I1.trans I2)
 clear y0 y1 y2 y3 H1 I1 I2 HD
 obtain ⟨y0,y1⟩:=tk2 H2.right.right
 go_upto_region 7 with (go_at_call 47;(with_reducible refine zef tr a1 b1 hT hx H2 ?_;intro r1 r2 v1 v2 v3 v4 v5 v6 v7 v8 er w2 hrr H2r I2r;have KNr:=(H2r.new (.cells #[.int .i64 r1,.int .i64 r2] 29)).new (.cells #[.int .i64 v1,.int .i64 v2,.int .i64 v3,.int .i64 v4,.int .i64 v5,.int .i64 v6,.int .i64 v7,.int .i64 v8] 85);have JNr:=((J2.trans I2r).alloc (.cells #[.int .i64 r1,.int .i64 r2] 29)).alloc (.cells #[.int .i64 v1,.int .i64 v2,.int .i64 v3,.int .i64 v4,.int .i64 v5,.int .i64 v6,.int .i64 v7,.int .i64 v8] 85)))
 rw [World.size_alloc] at KNr
 clear H2r I2r
 generalize (w2.alloc _).alloc _=w3 at *
 generalize w2.heap.size=br at *
 obtain ⟨rfl,ER1⟩:er=0∧Hid ((r1,r2)=(tr (a1,b1)).top∧M (a1,b1)≠none):=by
  rcases hrr.out with ⟨h1,h2,_⟩ | ⟨_,h2,h3,_,h5,_⟩
  ·exact absurd (h1.trans Q2.out) h2
  ·exact ⟨h2,L_ ⟨h5,h3⟩⟩
 clear y0 y1 hrr
 have K3:Sat (zav x (some M)*(pts (bx+1) (.cells #[.int .i64 a2,.int .i64 b2] 29 (0,0))*(pts bx (.cells #[.int .i64 a1,.int .i64 b1] 29 (0,0))*(pts br (.cells #[.int .i64 r1,.int .i64 r2] 29 (0,0))*(pts (br+1) (.cells #[.int .i64 v1,.int .i64 v2,.int .i64 v3,.int .i64 v4,.int .i64 v5,.int .i64 v6,.int .i64 v7,.int .i64 v8] 85 (0,0))*F))))) w3:=KNr.of_eq (by ac_rfl)
 clear KNr
 obtain ⟨y2,y3⟩:=tk2 K3.right
 go_upto_region 8 with (go_at_call 47;(with_reducible refine zef tr a2 b2 hT hx K3 ?_;intro s1 s2 u1 u2 u3 u4 u5 u6 u7 u8 es w4 hrs H2s I2s;have KNs:=(H2s.new (.cells #[.int .i64 s1,.int .i64 s2] 29)).new (.cells #[.int .i64 u1,.int .i64 u2,.int .i64 u3,.int .i64 u4,.int .i64 u5,.int .i64 u6,.int .i64 u7,.int .i64 u8] 85);have JNs:=((JNr.trans I2s).alloc (.cells #[.int .i64 s1,.int .i64 s2] 29)).alloc (.cells #[.int .i64 u1,.int .i64 u2,.int .i64 u3,.int .i64 u4,.int .i64 u5,.int .i64 u6,.int .i64 u7,.int .i64 u8] 85)))
 rw [World.size_alloc] at KNs
 clear H2s I2s
 generalize (w4.alloc _).alloc _=w5 at *
 generalize w4.heap.size=bs at *
 obtain ⟨rfl,ER2⟩:es=0∧Hid ((s1,s2)=(tr (a2,b2)).top∧M (a2,b2)≠none):=by
  rcases hrs.out with ⟨h1,h2,_⟩ | ⟨_,h2,h3,_,h5,_⟩
  ·exact absurd (h1.trans Q3.out) h2
  ·exact ⟨h2,L_ ⟨h5,h3⟩⟩
 clear y2 y3 hrs K3 JNr
 have K5:Sat (zav x (some M)*(pts bs (.cells #[.int .i64 s1,.int .i64 s2] 29 (0,0))*(pts br (.cells #[.int .i64 r1,.int .i64 r2] 29 (0,0))*(pts (bs+1) (.cells #[.int .i64 u1,.int .i64 u2,.int .i64 u3,.int .i64 u4,.int .i64 u5,.int .i64 u6,.int .i64 u7,.int .i64 u8] 85 (0,0))*(pts (br+1) (.cells #[.int .i64 v1,.int .i64 v2,.int .i64 v3,.int .i64 v4,.int .i64 v5,.int .i64 v6,.int .i64 v7,.int .i64 v8] 85 (0,0))*(pts (bx+1) (.cells #[.int .i64 a2,.int .i64 b2] 29 (0,0))*(pts bx (.cells #[.int .i64 a1,.int .i64 b1] 29 (0,0))*F))))))) w5:=KNs.of_eq (by ac_rfl)
 clear KNs Q2 Q3
 have TL:=hT.out _ ER1.out.2
 have TR:=hT.out _ ER2.out.2
 have ok:∀ y∈(tr (a1,b1)).toks++(tr (a2,b2)).toks,Sq.OkT y:=fun y hy=>by
  rcases List.mem_append.1 hy with h | h
  ·exact TL.ok y h
  ·exact TR.ok y h
 have FR:=L_ (Sq.Fr.two TL.hold TR.hold hd.out.1 ok hd.out.2)
 have NE:Hid (tr (a1,b1)≠.nil∧tr (a2,b2)≠.nil):=L_ ⟨fun e=>by have:=TL.mem;rw [e] at this;simp [Sq.T.toks] at this,fun e=>by have:=TR.mem;rw [e] at this;simp [Sq.T.toks] at this⟩
 have BB:Hid ((tr (a1,b1)).Bal∧(tr (a2,b2)).Bal):=L_ ⟨TL.bal,TR.bal⟩
 have E1:Hid ((r1,r2)=(tr (a1,b1)).top):=L_ ER1.out.1
 have E2:Hid ((s1,s2)=(tr (a2,b2)).top):=L_ ER2.out.1
 clear TL TR ok ER1 ER2
 obtain ⟨y4,y5⟩:=tk2 K5.right
 obtain ⟨y6,y7⟩:=tk2 K5.right.right
 go_upto_region 9 with (first | (go_at_call 49;(with_reducible refine z2d (tr (a1,b1)) (tr (a2,b2)) r1 r2 s1 s2 E1 E2 FR NE BB hx K5 ?_);intro m6 g1 g2 t w6 D6 H6 I6;have AL:=L_ (fun M' hM=>(D6.out.2.2.2 M' hM).1)) | (go_at_call 48;(with_reducible refine zl5 t g1 g2 AL (L_ D6.out.2.2.1) hx H6 ?_);intro m7 w7 D7 H7 I7))
 obtain ⟨z0,z1⟩:=sq_err H7
 have FIN:=L_ (HH.out m7 t w7 (L_ ⟨D6.out.1,D6.out.2.1,fun M' hM=>⟨D7.out.2 M' hM,fun y hy=>by
  obtain ⟨M0,e0,_,_,h4⟩:=D7.out.1.own M' hM
  cases e0
  exact h4 y (by rw [←D6.out.1];exact hy)⟩⟩) (H7.of_eq (show _=(pts bs (.cells #[.int .i64 s1,.int .i64 s2] 29 (0,0))*(pts br (.cells #[.int .i64 r1,.int .i64 r2] 29 (0,0))*(pts (bs+1) (.cells #[.int .i64 u1,.int .i64 u2,.int .i64 u3,.int .i64 u4,.int .i64 u5,.int .i64 u6,.int .i64 u7,.int .i64 u8] 85 (0,0))*(pts (br+1) (.cells #[.int .i64 v1,.int .i64 v2,.int .i64 v3,.int .i64 v4,.int .i64 v5,.int .i64 v6,.int .i64 v7,.int .i64 v8] 85 (0,0))*(pts (bx+1) (.cells #[.int .i64 a2,.int .i64 b2] 29 (0,0))*pts bx (.cells #[.int .i64 a1,.int .i64 b1] 29 (0,0)))))))*(zav x m7*F) from by ac_rfl)).right ((JNs.trans I6).trans I7))
 generalize zi3 m7=em at *
 go_wp2_with fail
 first | exact FIN.out | exact bodyPost_ret (v:=.int .i64 em) (by simp [results,Tryz.results14,go_sem]) rfl FIN.out
end
end Go.Proofs.YtfknjmoekbabcaaGreatDoor
namespace Go.Proofs.YtfknjmoekbabcaaGreatDoor
namespace Sq
def Z.sides:Z→List T
 | .top=>[]
 | .inl _ r z=>r::z.sides
 | .inr l _ z=>l::z.sides
def Z.keys:Z→List Tk
 | .top=>[]
 | .inl x _ z=>x::z.keys
 | .inr _ x z=>x::z.keys
variable {m0 m m':Option Mp} {all:List Tk} {ts:List T} {ks:List Tk}
theorem fr_z:∀ (z:Z) (t:T),Fr m0 m all (z.zcm t::ts) ks→Fr m0 m all (t::(z.sides++ts)) (z.keys++ks)
 | .top,t,h=>h
 | .inl x r z,t,h=>(fr_z z (.node t x r) h).open
 | .inr l x z,t,h=>((fr_z z (.node l x t) h).open).perm (List.Perm.swap _ _ _) (List.Perm.refl _)
structure zhc (m0 m:Option Mp) (all A B:List Tk) (z:Z) (l r:T):Prop where
 fr:Fr m0 m all (l::r::z.sides) z.keys
 ball:l.Bal
 balr:r.Bal
 balz:z.BalZ
 left:z.ahead++l.toks=A
 right:r.toks++z.behind=B
variable {A B:List Tk} {z:Z} {l r s t:T} {x v:Tk}
theorem zhc.frl (h:zhc m0 m all A B (.inl x s z) l r):Fr m0 m all (r::s::(l::z.sides)) (x::z.keys) :=
 h.fr.perm ((List.Perm.swap _ _ _).trans (List.Perm.cons _ (List.Perm.swap _ _ _))) (List.Perm.refl _)
theorem zhc.frr (h:zhc m0 m all A B (.inr s x z) l r):Fr m0 m all (s::l::(r::z.sides)) (x::z.keys) :=
 h.fr.perm (((List.Perm.cons _ (List.Perm.swap _ _ _))).trans (List.Perm.swap _ _ _)) (List.Perm.refl _)
theorem zhc.inl (h:zhc m0 m all A B (.inl x s z) l r) (d:Done m0 m' all (l::z.sides) z.keys r s t x v):zhc m0 m' all A B z l t where
 fr:=d.2.1.perm (List.Perm.swap _ _ _) (List.Perm.refl _)
 ball:=h.ball
 balr:=d.1.bal
 balz:=h.balz.2
 left:=h.left
 right:=by have:=h.right;simp only [Z.behind] at this;rw [d.1.toks,←this];simp
theorem zhc.inr (h:zhc m0 m all A B (.inr s x z) l r) (d:Done m0 m' all (r::z.sides) z.keys s l t x v):zhc m0 m' all A B z t r where
 fr:=d.2.1
 ball:=d.1.bal
 balr:=h.balr
 balz:=h.balz.2
 left:=by have:=h.left;simp only [Z.ahead] at this;rw [d.1.toks,←this];simp
 right:=h.right
end Sq
namespace Sq
structure zr1 (M:Mp) (t:T) (u:Tk) (i:Nat) (res:Tk):Prop where
 hold:zc8 M t u
 ok:∀ y∈t.toks,OkT y
 get:t.toks[i]?=some res
variable {M:Mp} {l r:T} {k u res:Tk} {i:Nat}
theorem zr1.ne {t:T} (h:zr1 M t u i res):∃ l k r,t=.node l k r:=by
 cases t with
 | nil=>have:=h.get;simp [T.toks] at this
 | node l k r=>exact ⟨l,k,r,rfl⟩
theorem zr1.here (h:zr1 M (.node l k r) u i res) (e:i=l.cnt):res=k:=by
 have:=h.get
 rw [T.toks,e,←T.zbn,List.getElem?_append_right (Nat.le_refl _),Nat.sub_self] at this
 exact (Option.some.inj this).symm
theorem zr1.left (h:zr1 M (.node l k r) u i res) (e:i<l.cnt):zr1 M l k i res where
 hold:=h.hold.2.1
 ok:=fun y hy=>h.ok y (by simp [T.toks,hy])
 get:=by
  have:=h.get
  rw [T.toks,List.getElem?_append_left (by rw [T.zbn];exact e)] at this
  exact this
theorem zr1.right (h:zr1 M (.node l k r) u i res) (e:l.cnt<i):zr1 M r k (i - l.cnt - 1) res where
 hold:=h.hold.2.2
 ok:=fun y hy=>h.ok y (by simp [T.toks,hy])
 get:=by
  have:=h.get
  rw [T.toks,List.getElem?_append_right (by rw [T.zbn];omega),T.zbn] at this
  rw [show i - l.cnt=(i - l.cnt - 1)+1 from by omega,List.getElem?_cons_succ] at this
  exact this
end Sq
end Go.Proofs.YtfknjmoekbabcaaGreatDoor
namespace Go.Proofs.YtfknjmoekbabcaaGreatDoor
open Go.RowKit Go.Lib
open Sq (Tk Nd Mp zca InT Fr)
section
variable {x:Sx} {M:Mp} {F:Asn} {w:World} {R:Ending→World→Prop}
theorem xdg (tr:Tk→Sq.T) (a b i:Int) {e:Int} (he:Hid ((e=Sq.zfw M (a,b)∧e≠0)∨(Sq.zfw M (a,b)=0∧e=1∧(i<0∨((tr (a,b)).cnt:Int)≤i)))) (hT:Hid (Sq.TF M tr)) (hx:Hid x.Ok) (H:Sat (zav x (some M)*F) w)
  (h:∀ w',Sat (zav x (some M)*F) w'→Io w w'→R (.returned (.tuple #[tkA 0 0,.int .i64 e])) w') :
  Calls Tryz.prog 39 #[.pointer (some ⟨x.s,0,none⟩),tkA a b,.int .i64 i] w R:=by
 have HH:=L_ h
 have H1:=(((H.new (.cells #[.int .i64 a,.int .i64 b] 29)).new (.cells #[.int .i64 0,.int .i64 0] 29)).of_eq (show _=zav x (some M)*(pts w.heap.size (.cells #[.int .i64 a,.int .i64 b] 29 (0,0))*(pts (w.alloc (.cells #[.int .i64 a,.int .i64 b] 29)).heap.size (.cells #[.int .i64 0,.int .i64 0] 29 (0,0))*F)) from by ac_rfl))
 have I1:=io2 H1 (Io.refl w)
 rw [World.size_alloc] at H1
 clear h H
 go_enter Tryz.func39,Tryz.ntmps39
 go_upto_region 1 with fail
 generalize (w.alloc _).alloc _=w1 at *
 generalize w.heap.size=bx at *
 obtain ⟨y0,y1⟩:=tk2 H1.right
 go_upto_region 2 with (go_at_call 47;(with_reducible refine zef tr a b hT hx H1 ?_);intro r1 r2 v1 v2 v3 v4 v5 v6 v7 v8 e2 w2 hr H2 I2;have HA:=(H2.new (.cells #[.int .i64 0,.int .i64 0,.int .i64 0,.int .i64 0,.int .i64 0,.int .i64 0,.int .i64 0,.int .i64 0] 85)).of_eq (show _=pts bx (.cells #[.int .i64 a,.int .i64 b] 29 (0,0))*(pts w2.heap.size (.cells #[.int .i64 0,.int .i64 0,.int .i64 0,.int .i64 0,.int .i64 0,.int .i64 0,.int .i64 0,.int .i64 0] 85 (0,0))*(zav x (some M)*(pts (bx+1) (.cells #[.int .i64 0,.int .i64 0] 29 (0,0))*F))) from by ac_rfl);obtain ⟨g0,g1⟩:=tk2 HA;obtain ⟨g2,g3⟩:=zgf HA;have KE:=z4l (zc2 (.int .i64 r1) (.int .i64 r2) HA);have G:=zb0 KE;obtain ⟨j0,j1,j2,j3,j4,j5,j6,j7⟩:=G;have G2:=nd8 KE;obtain ⟨i0,i1,i2,i3,i4,i5,i6,i7⟩:=G2;have KN:=zaz (.int .i64 v1) (.int .i64 v2) (.int .i64 v3) (.int .i64 v4) (.int .i64 v5) (.int .i64 v6) (.int .i64 v7) (.int .i64 v8) KE;have JN:=zac (b:=w2.heap.size) (.int .i64 v1) (.int .i64 v2) (.int .i64 v3) (.int .i64 v4) (.int .i64 v5) (.int .i64 v6) (.int .i64 v7) (.int .i64 v8) (zay (b:=bx) (.int .i64 r1) (.int .i64 r2) ((I1.trans I2).alloc (.cells #[.int .i64 0,.int .i64 0,.int .i64 0,.int .i64 0,.int .i64 0,.int .i64 0,.int .i64 0,.int .i64 0] 85))))
 clear y0 y1 g0 g1 g2 g3 j0 j1 j2 j3 j4 j5 j6 j7 i0 i1 i2 i3 i4 i5 i6 i7 HA KE H1 I1 H2 I2
 generalize ((((((((((w2.alloc _).setCell ⟨bx,0,none⟩ (.int .i64 r1)).setCell ⟨bx,1,none⟩ (.int .i64 r2)).setCell ⟨w2.heap.size,0,none⟩ (.int .i64 v1)).setCell ⟨w2.heap.size,1,none⟩ (.int .i64 v2)).setCell ⟨w2.heap.size,2,none⟩ (.int .i64 v3)).setCell ⟨w2.heap.size,3,none⟩ (.int .i64 v4)).setCell ⟨w2.heap.size,4,none⟩ (.int .i64 v5)).setCell ⟨w2.heap.size,5,none⟩ (.int .i64 v6)).setCell ⟨w2.heap.size,6,none⟩ (.int .i64 v7)).setCell ⟨w2.heap.size,7,none⟩ (.int .i64 v8)=w3 at *
 generalize w2.heap.size=b6 at *
 have K3:Sat (pts (bx+1) (.cells #[.int .i64 0,.int .i64 0] 29 (0,0))*(zav x (some M)*(pts b6 (.cells #[.int .i64 v1,.int .i64 v2,.int .i64 v3,.int .i64 v4,.int .i64 v5,.int .i64 v6,.int .i64 v7,.int .i64 v8] 85 (0,0))*(pts bx (.cells #[.int .i64 r1,.int .i64 r2] 29 (0,0))*F)))) w3:=KN.of_eq (by ac_rfl)
 clear KN
 obtain ⟨f0,f1⟩:=zgf K3
 obtain ⟨y0,y1⟩:=tk2 K3
 have KE:=zc2 (.int .i64 0) (.int .i64 0) K3
 have JE:=zay (b:=bx+1) (.int .i64 0) (.int .i64 0) JN
 obtain ⟨z0,z1⟩:=tk2 KE
 have FIN:=L_ (HH.out _ ((KE.right).of_eq (show _=(pts b6 (.cells #[.int .i64 v1,.int .i64 v2,.int .i64 v3,.int .i64 v4,.int .i64 v5,.int .i64 v6,.int .i64 v7,.int .i64 v8] 85 (0,0))*pts bx (.cells #[.int .i64 r1,.int .i64 r2] 29 (0,0)))*(zav x (some M)*F) from by ac_rfl)).right JE)
 have Z7:w3.cell? ⟨b6,6,none⟩=some (.int .i64 v7):=(nd8 K3.right.right).2.2.2.2.2.2.1
 have hag:=Tryz.isAgg29
 have hsz:=Tryz.sizeOf29
 rcases zd6 M (a,b) with ⟨q1,q2⟩ | ⟨q1,q2,q3⟩ | ⟨q1,q2,q3⟩
 ·obtain ⟨rfl,rfl⟩:e2=30∧e=30:=by
   refine ⟨?_,?_⟩
   ·rcases hr.out with h1 | h1
    ·exact h1.1.trans q1
    ·rw [q1] at h1;exact absurd h1.1 (by decide)
   ·rcases he.out with h1 | h1
    ·exact h1.1.trans q1
    ·rw [q1] at h1;exact absurd h1.1 (by decide)
  clear q1 q2 he hr HH K3 KE JE JN
  go_wp2_with fail
  exact bodyPost_ret (v:=.tuple #[tkA 0 0,.int .i64 30]) (by simp [results,Tryz.results39,go_sem,z0,z1]) rfl FIN.out
 ·obtain ⟨rfl,rfl⟩:e2=181∧e=181:=by
   refine ⟨?_,?_⟩
   ·rcases hr.out with h1 | h1
    ·exact h1.1.trans q1
    ·rw [q1] at h1;exact absurd h1.1 (by decide)
   ·rcases he.out with h1 | h1
    ·exact h1.1.trans q1
    ·rw [q1] at h1;exact absurd h1.1 (by decide)
  clear q1 q2 q3 he hr HH K3 KE JE JN
  go_wp2_with fail
  exact bodyPost_ret (v:=.tuple #[tkA 0 0,.int .i64 181]) (by simp [results,Tryz.results39,go_sem,z0,z1]) rfl FIN.out
 ·obtain ⟨rfl,rfl,hi,hv⟩:e2=0∧e=1∧(i<0∨((tr (a,b)).cnt:Int)≤i)∧v7=((tr (a,b)).cnt:Int):=by
   rcases hr.out with h1 | ⟨_,h2,h3,_,h5,h6⟩
   ·exact absurd (h1.1.trans q1) h1.2.1
   ·rcases he.out with g1 | g1
    ·exact absurd (g1.1.trans q1) g1.2
    ·refine ⟨h2,g1.2.1,g1.2.2,?_⟩
     have hm:=(hT.out _ h3).mem
     cases ht:tr (a,b) with
     | nil=>rw [ht] at hm;simp [Sq.T.toks] at hm
     | node l k r=>have h7:v7=_:=congrArg Nd.count h6;rw [ht] at h7;exact h7
  rw [←hv] at hi
  clear q1 q2 q3 he hr HH K3 KE JE JN hv
  by_cases c:i<0
  ·go_wp2_with fail
   exact bodyPost_ret (v:=.tuple #[tkA 0 0,.int .i64 1]) (by simp [results,Tryz.results39,go_sem,z0,z1]) rfl FIN.out
  ·have hi2:v7≤i:=hi.resolve_left c
   clear hi
   go_wp2_with fail
   exact bodyPost_ret (v:=.tuple #[tkA 0 0,.int .i64 1]) (by simp [results,Tryz.results39,go_sem,z0,z1]) rfl FIN.out
end
end Go.Proofs.YtfknjmoekbabcaaGreatDoor
namespace Go.Proofs.YtfknjmoekbabcaaGreatDoor
namespace Sq
structure ze2 (m0 m:Option Mp) (all A B:List Tk) (way:List Z.Step) (i:Nat) (L R:T):Prop where
 ex:∃ z t,way.drop i=Z.anc z t nob∧(∃ s,way[i - 1]?=some s∧s.k=t.top)∧t≠.nil∧(z.zcm t).toks.Nodup∧(∀ y∈(z.zcm t).toks,OkT y)∧zhc m0 m all A B z L R
 pos:0<i
variable {m0 m m':Option Mp} {all A B:List Tk} {way:List Z.Step} {i:Nat} {L R t:T}
structure xd0 (m0 m:Option Mp) (all A B:List Tk) (way:List Z.Step) (i:Nat) (L R:T) (x rt:Tk):Prop where
 ex:∃ s ts ks,rt=s.top∧Fr m0 m all (R::s::ts) (x::ks)∧R.Bal∧s.Bal∧∀ m' t v,Done m0 m' all ts ks R s t x v→ze2 m0 m' all A B way (i+1) L t
structure xd1 (m0 m:Option Mp) (all A B:List Tk) (way:List Z.Step) (i:Nat) (L R:T) (x lt:Tk):Prop where
 ex:∃ s ts ks,lt=s.top∧Fr m0 m all (s::L::ts) (x::ks)∧s.Bal∧L.Bal∧∀ m' t v,Done m0 m' all ts ks s L t x v→ze2 m0 m' all A B way (i+1) t R
theorem drop_cons {α:Type} {l:List α} {i:Nat} {x:α} {r:List α} (h:l.drop i=x::r):l[i]?=some x∧l.drop (i+1)=r:=by
 refine ⟨?_,?_⟩
 ·have:(l.drop i)[0]?=some x:=by rw [h];rfl
  rw [List.getElem?_drop] at this
  exact this
 ·have:(l.drop i).drop 1=r:=by rw [h];rfl
  rw [List.drop_drop] at this
  exact this
theorem ze2.step (h:ze2 m0 m all A B way i L R) (hi:i<way.length):∃ p x,way[i - 1]?=some p∧way[i]?=some x ∧
  ((p.k=x.n.left∧xd0 m0 m all A B way i L R x.k x.n.right)∨(p.k≠x.n.left∧xd1 m0 m all A B way i L R x.k x.n.left)):=by
 obtain ⟨⟨z,t,h1,⟨p,h2,h3⟩,h4,h5,h6,h7⟩,pos⟩:=h
 cases z with
 | top =>
  have:=congrArg List.length h1
  rw [List.length_drop] at this
  simp only [Z.anc,List.length_nil] at this
  omega
 | inl x s z =>
  obtain ⟨e1,e2⟩:=drop_cons h1
  refine ⟨p,_,h2,e1,.inl ⟨h3,⟨s,_,_,rfl,h7.frl,h7.balr,h7.balz.1,fun m' t' v d=>⟨⟨z,_,e2,⟨_,e1,rfl⟩,by simp,h5,h6,h7.inl d⟩,by omega⟩⟩⟩⟩
 | inr s x z =>
  obtain ⟨e1,e2⟩:=drop_cons h1
  refine ⟨p,_,h2,e1,.inr ⟨fun e=>?_,⟨s,_,_,rfl,h7.frr,h7.balz.1,h7.ball,fun m' t' v d=>⟨⟨z,_,e2,⟨_,e1,rfl⟩,by simp,h5,h6,h7.inr d⟩,by omega⟩⟩⟩⟩
  have e:t.top=s.top:=h3.symm.trans e
  have ht:=T.zeo h4
  have sub:∀ y∈(T.node s x t).toks,y∈(Z.zcm (.inr s x z) t).toks:=fun y hy=>by
   simp only [Z.zcm]
   rw [Z.zb2]
   simp [hy]
  have hn:(T.node s x t).toks.Nodup:=by
   simp only [Z.zcm] at h5
   rw [Z.zb2] at h5
   exact (List.nodup_append.1 (List.nodup_append.1 h5).2.1).1
  by_cases hs:s=.nil
  ·subst hs
   have:=(T.zot (t:=t) fun k hk=>h6 k (sub k (by simp [T.toks,hk]))).1 e
   exact h4 this
  ·have h8:=T.zeo hs
   rw [T.toks] at hn
   exact (List.nodup_append.1 hn).2.2 _ h8 _ (List.mem_cons_of_mem _ ht) e.symm
theorem ze2.fr (h:ze2 m0 m all A B way i L R):∃ ts ks,Fr m0 m all (L::R::ts) ks:=by
 obtain ⟨⟨z,t,h1,⟨p,h2,h3⟩,h4,h5,h6,h7⟩,pos⟩:=h
 exact ⟨_,_,h7.fr⟩
theorem ze2.done (h:ze2 m0 m all A B way i L R) (hi:way.length≤i):L.toks=A∧R.toks=B∧L.Bal∧R.Bal∧Fr m0 m all [L,R] []:=by
 obtain ⟨⟨z,t,h1,⟨p,h2,h3⟩,h4,h5,h6,h7⟩,pos⟩:=h
 have:z=.top:=by
  rw [List.drop_eq_nil_of_le hi] at h1
  cases z with
  | top=>rfl
  | inl x r z=>simp [Z.anc] at h1
  | inr l x z=>simp [Z.anc] at h1
 subst this
 refine ⟨?_,?_,h7.ball,h7.balr,h7.fr⟩
 ·have:=h7.left;simpa [Z.ahead] using this
 ·have:=h7.right;simpa [Z.behind] using this
theorem Fr.nil {ts:List T} {ks:List Tk} (f:Fr m0 m all ts ks):Fr m0 m all (.nil::ts) ks:=by
 have e:flat (.nil::ts)=flat ts:=by rw [zdh];rfl
 refine ⟨by rw [e];exact f.nodup,by rw [e];exact f.ok,by rw [e];exact f.cnt,by rw [e];exact f.sub,fun M hM=>?_⟩
 obtain ⟨M0,e0,a,b,c⟩:=f.own M hM
 refine ⟨M0,e0,fun t ht=>?_,b,c⟩
 rcases List.mem_cons.1 ht with rfl | ht
 ·exact ⟨nob,trivial⟩
 ·exact a t ht
theorem Fr.one {M:Mp} {t:T} (hl:zc8 M t nob) (nd:t.toks.Nodup) (ok:∀ y∈t.toks,OkT y) (hc:t.toks.length≤255):Fr (some M) (some M) t.toks [t] [] where
 nodup:=by rw [zck,List.append_nil];exact nd
 ok:=fun y hy=>by rw [zck,List.append_nil] at hy;exact ok y hy
 cnt:=by rw [zck,List.append_nil];exact hc
 sub:=fun y hy=>by rw [zck,List.append_nil] at hy;exact hy
 own:=fun M' e=>by
  cases e
  refine ⟨M,rfl,fun s hs=>?_,fun k hk=>by simp at hk,fun _ _=>rfl⟩
  simp only [List.mem_cons,List.not_mem_nil,or_false] at hs
  subst hs
  exact ⟨_,hl⟩
section
variable {M:Mp} {z:Z} {l r:T} {k:Tk}
theorem zy2 (h:zed M (z.zcm (.node l k r)) k):Fr (some M) (some M) (z.zcm (.node l k r)).toks (l::r::z.sides) (k::z.keys):=by
 have h1:=Fr.one h.hold h.nodup h.ok (by have:=h.cnt;rw [T.zbn];omega)
 have h2:=fr_z z _ h1
 simp only [List.append_nil] at h2
 exact h2.open
theorem zgb (h:zed M (z.zcm (.node l k r)) k):l.Bal∧r.Bal∧z.BalZ:=⟨(Z.zh9 h.bal).1,(Z.zh9 h.bal).2.1,Z.znb h.bal⟩
theorem zwb (h:zed M (z.zcm (.node l k r)) k):Fr (some M) (some M) (z.zcm (.node l k r)).toks (.nil::r::(l::z.sides)) (k::z.keys) :=
 ((zy2 h).perm (List.Perm.swap _ _ _) (List.Perm.refl _)).nil
theorem z9f (h:zed M (z.zcm (.node l k r)) k) {t:T} {v:Tk} (d:Done (some M) m' (z.zcm (.node l k r)).toks (l::z.sides) z.keys .nil r t k v) :
  ze2 (some M) m' (z.zcm (.node l k r)).toks (z.ahead++l.toks) ((k::r.toks)++z.behind) (z.way l k r nob) 1 l t where
 pos:=by omega
 ex:=⟨z,.node l k r,rfl,⟨_,rfl,rfl⟩,by simp,h.nodup,h.ok,
  ⟨d.2.1.perm (List.Perm.swap _ _ _) (List.Perm.refl _),(zgb h).1,d.1.bal,(zgb h).2.2,rfl,by rw [d.1.toks];rfl⟩⟩
theorem zxy (h:zed M (z.zcm (.node l k r)) k):Fr (some M) (some M) (z.zcm (.node l k r)).toks (l::.nil::(r::z.sides)) (k::z.keys) :=
 ((zy2 h).nil).perm (List.Perm.swap _ _ _) (List.Perm.refl _)
theorem xcq (h:zed M (z.zcm (.node l k r)) k) {t:T} {v:Tk} (d:Done (some M) m' (z.zcm (.node l k r)).toks (r::z.sides) z.keys l .nil t k v) :
  ze2 (some M) m' (z.zcm (.node l k r)).toks (z.ahead++(l.toks++[k])) (r.toks++z.behind) (z.way l k r nob) 1 t r where
 pos:=by omega
 ex:=⟨z,.node l k r,rfl,⟨_,rfl,rfl⟩,by simp,h.nodup,h.ok,
  ⟨d.2.1,d.1.bal,(zgb h).2.1,(zgb h).2.2,by rw [d.1.toks];rfl,rfl⟩⟩
end
end Sq
namespace Sq
def Ls (M:Mp) (L:LL):Prop:=∃ ts,For M ts∧ts.map T.toks=L
variable {M M':Mp} {L:LL} {k a b:Tk}
theorem Ls.nodup (h:Ls M L):L.flatten.Nodup:=by obtain ⟨ts,f,rfl⟩:=h;exact f.nodup
theorem Ls.ok (h:Ls M L):∀ y∈L.flatten,OkT y:=by obtain ⟨ts,f,rfl⟩:=h;exact f.ok
theorem Ls.there (h:Ls M L):there L k↔M k≠none:=by
 obtain ⟨ts,f,rfl⟩:=h
 rw [f.here]
 exact zao
theorem Ls.ne (h:Ls M L):∀ l∈L,l≠[]:=by
 obtain ⟨ts,f,rfl⟩:=h
 intro l hl
 obtain ⟨t,ht,rfl⟩:=List.mem_map.1 hl
 intro e
 have:=T.zeo (f.ne t ht)
 rw [e] at this
 simp at this
theorem Ls.beg (h:Ls M L) (k:Tk):zfw M k=zcz L k:=by
 unfold zfw zcz
 by_cases h1:OkT k
 ·rw [if_neg (not_not_intro h1),if_neg (not_not_intro h1)]
  by_cases h2:M k=none
  ·rw [if_pos h2,if_neg (fun h3=>(h.there.1 h3) h2)]
  ·rw [if_neg h2,if_pos (h.there.2 h2)]
 ·rw [if_pos h1,if_pos h1]
theorem zv6 (L:LL) (a b:Tk):(two L a b).2=if ¬ OkT a∨¬ OkT b then 30 else if ¬ there L a∨¬ there L b then 181 else 0:=by
 unfold two zcz
 by_cases h1:OkT a<;>by_cases h2:OkT b<;>by_cases h3:Sq.there L a<;>by_cases h4:Sq.there L b<;>simp [h1,h2,h3,h4]
theorem Ls.beg2 (h:Ls M L) (a b:Tk):ze0 M a b=(two L a b).2:=by
 rw [zv6]
 unfold ze0
 have ha:=h.there (k:=a)
 have hb:=h.there (k:=b)
 by_cases h1:OkT a<;>by_cases h2:OkT b<;>by_cases h3:M a=none<;>by_cases h4:M b=none<;>simp [h1,h2,h3,h4,ha,hb]
theorem zxv:zcz L k=0↔OkT k∧Sq.there L k:=by
 unfold zcz
 by_cases h1:OkT k<;>by_cases h2:Sq.there L k<;>simp [h1,h2]
theorem xdb:(two L a b).2=0↔(OkT a∧Sq.there L a)∧(OkT b∧Sq.there L b):=by
 rw [zv6]
 by_cases h1:OkT a<;>by_cases h2:OkT b<;>by_cases h3:Sq.there L a<;>by_cases h4:Sq.there L b<;>simp [h1,h2,h3,h4]
theorem two1 (h:(two L a b).2=0):(two L a b).1=decide (fi L a=fi L b):=by
 obtain ⟨⟨h1,h2⟩,h3,h4⟩:=xdb.1 h
 unfold two zcz
 simp [h1,h2,h3,h4]
theorem Ls.make (h:Ls M L) (ok:OkT k) (hk:M k=none) (h1:zc8 M' (.node .nil k .nil) nob) (fr:∀ x,x≠k→M' x=M x):Ls M' (L++[[k]]):=by
 obtain ⟨ts,f,rfl⟩:=h
 exact ⟨_,f.make ok (fun h=>absurd hk (f.here.2 h)) h1 fr,by simp [T.toks]⟩
theorem For.zic {ts : List T} (f : For M ts) (ha : a ∈ flat ts) : ∃ (hi : fi (ts.map T.toks) a < ts.length), zd8 ts a = ts[fi (ts.map T.toks) a]'hi ∧ (zd8 ts a).toks = rowOf (ts.map T.toks) a := by
 obtain ⟨hi,hm,e⟩:=f.tree ha
 have e2 : zd8 ts a = ts[fi (ts.map T.toks) a]'hi := by unfold zd8; rw [List.getElem?_eq_getElem hi]; rfl
 exact ⟨hi,e2,by rw [e2,e]⟩
theorem For.zp6 {ts:List T} (f:For M ts) (ha:a∈flat ts) (hb:b∈flat ts):(zd8 ts a).top=(zd8 ts b).top↔fi (ts.map T.toks) a=fi (ts.map T.toks) b:=by
 obtain ⟨hi,ea,_⟩:=f.zic ha
 obtain ⟨hj,eb,_⟩:=f.zic hb
 constructor
 ·intro e
  rw [ea,eb] at e
  have h1:=T.zeo (f.ne _ (List.getElem_mem hi))
  have h2:=T.zeo (f.ne _ (List.getElem_mem hj))
  rw [e] at h1
  exact zmj (k := (ts[fi (ts.map T.toks) b]'hj).top) f.z3p (by simpa using hi) (by simpa using hj) (by simpa using h1) (by simpa using h2)
 ·intro e
  unfold zd8
  rw [e]
theorem Ls.ztx {ts:List T} (f:For M ts) (h:(two (ts.map T.toks) a b).2=0):(zd8 ts a).top=(zd8 ts b).top↔(two (ts.map T.toks) a b).1=true:=by
 obtain ⟨⟨h1,h2⟩,h3,h4⟩:=xdb.1 h
 rw [two1 h,f.zp6 (zao.1 h2) (zao.1 h4),decide_eq_true_iff]
theorem row_nodup {L:LL} (hn:L.flatten.Nodup) {a b:Tk} (ha:Sq.there L a) (hb:Sq.there L b) (hne:fi L a≠fi L b):(rowOf L a++rowOf L b).Nodup:=by
 have h1:=zf4 ha
 have h2:=zf4 hb
 rw [List.nodup_append]
 refine ⟨?_,?_,fun x hx y hy e=>?_⟩
 ·exact hn.sublist (List.sublist_flatten_of_mem (row_in ha))
 ·exact hn.sublist (List.sublist_flatten_of_mem (row_in hb))
 ·subst e
  rw [h1] at hx
  rw [h2] at hy
  exact hne (zmj hn ha hb hx hy)
theorem For.xba {ts:List T} (f:For M ts) (ha:a∈flat ts) (hb:b∈flat ts) (hne:fi (ts.map T.toks) a≠fi (ts.map T.toks) b):((zd8 ts a).toks++(zd8 ts b).toks).Nodup∧((zd8 ts a).toks++(zd8 ts b).toks).length≤(flat ts).length:=by
 obtain ⟨hi,ea,e1⟩:=f.zic ha
 obtain ⟨hj,eb,e2⟩:=f.zic hb
 have nd:=row_nodup f.z3p (zao.2 ha) (zao.2 hb) hne
 rw [e1,e2]
 refine ⟨nd,?_⟩
 have h1:=(zdg hi).length_eq
 have hmem : ts[fi (ts.map T.toks) b]'hj ∈ ts.eraseIdx (fi (ts.map T.toks) a) := by
  refine List.mem_iff_getElem.2 ?_
  rcases Nat.lt_or_gt_of_ne hne with c | c
  ·exact ⟨fi (ts.map T.toks) b - 1,by rw [List.length_eraseIdx];split<;>omega,by rw [List.getElem_eraseIdx];rw [dif_neg (by omega)];congr 1;omega⟩
  ·exact ⟨fi (ts.map T.toks) b,by rw [List.length_eraseIdx];split<;>omega,by rw [List.getElem_eraseIdx];rw [dif_pos (by omega)]⟩
 have h2 : (ts[fi (ts.map T.toks) b]'hj).toks.length ≤ (flat (ts.eraseIdx (fi (ts.map T.toks) a))).length := (List.sublist_flatten_of_mem (List.mem_map.2 ⟨_, hmem, rfl⟩)).length_le
 rw [←e1,←e2,ea,eb,List.length_append]
 rw [List.length_append] at h1
 omega
theorem Ls.join {ts:List T} (f:For M ts) (h:(two (ts.map T.toks) a b).2=0) (hne:(zd8 ts a).top≠(zd8 ts b).top) {t:T} (ht:t.toks=(zd8 ts a).toks++(zd8 ts b).toks) (bt:t.Bal) (ot:zc8 M' t nob) (fr:∀ x,x∉t.toks→M' x=M x):Ls M' (joined (ts.map T.toks) a b):=by
 obtain ⟨⟨h1,h2⟩,h3,h4⟩:=xdb.1 h
 obtain ⟨_,_,e1⟩:=f.zic (zao.1 h2)
 obtain ⟨_,_,e2⟩:=f.zic (zao.1 h4)
 have:=f.join (zao.1 h2) (zao.1 h4) (fun e=>hne ((f.zp6 (zao.1 h2) (zao.1 h4)).2 e)) (by rw [ht,e1,e2]) bt ot fr
 exact this
theorem Ls.remove {ts:List T} (f:For M ts) (h:a∈flat ts) (h1:(rowOf (ts.map T.toks) a).length=1):Ls (del M a) ((ts.map T.toks).eraseIdx (fi (ts.map T.toks) a)):=by
 refine ⟨_,f.remove h h1 (M':=del M a) ?_ ?_,zf8 _ _ _⟩
 ·simp [del]
 ·intro x hx;simp [del,hx]
theorem For.alone {ts:List T} (f:For M ts) (ha:a∈flat ts) {n:Nd} (hn:M a=some n):(n.count=1∧n.up=nob)↔(rowOf (ts.map T.toks) a).length=1:=by
 obtain ⟨hi,hm,e⟩:=f.tree ha
 generalize ht : ts[fi (ts.map T.toks) a]'hi = t at *
 have hmem:t∈ts:=ht ▸ List.getElem_mem hi
 have hold:=f.hold t hmem
 rw [e]
 obtain ⟨l,r,z,hz⟩:=Z.find t .top hm
 simp only [Z.zcm] at hz
 rw [hz] at hold
 have h1:=(Z.zg8 hold).1
 have h2:M a=_:=h1.1
 rw [hn] at h2
 have h2:=Option.some.inj h2
 subst h2
 rw [hz,Z.zb2]
 simp only [nod,T.toks,List.length_append,List.length_cons,T.zbn]
 constructor
 ·rintro ⟨c1,c2⟩
  have hz0:z=.top:=by
   cases z with
   | top=>rfl
   | inl x s z=>exact absurd c2 (f.ok x (zdv.2 ⟨t,hmem,by rw [hz];simp only [Z.zcm];rw [Z.zb2];simp [T.toks]⟩)).ne
   | inr s x z=>exact absurd c2 (f.ok x (zdv.2 ⟨t,hmem,by rw [hz];simp only [Z.zcm];rw [Z.zb2];simp [T.toks]⟩)).ne
  subst hz0
  simp only [Z.ahead,Z.behind,List.length_nil]
  omega
 ·intro c
  have h3:z.ahead=[]:=List.length_eq_zero_iff.1 (by omega)
  have h4:z.behind=[]:=List.length_eq_zero_iff.1 (by omega)
  refine ⟨by omega,?_⟩
  cases z with
  | top=>rfl
  | inl x s z=>simp [Z.behind] at h4
  | inr s x z=>simp [Z.ahead] at h3
end Sq
end Go.Proofs.YtfknjmoekbabcaaGreatDoor
