/-
  A part of a proof. It proves no statement by itself.
-/
import Derived.Test.YtfknjmoekbabcaaGreatDoorC46
import Derived.Test.YtfknjmoekbabcaaGreatDoorC44
import Derived.Deep.CutBlock
set_option linter.unusedSimpArgs false
set_option linter.unusedVariables false
set_option linter.unusedSectionVars false
set_option maxRecDepth 100000
set_option maxHeartbeats 64000000
namespace Go.Proofs.YtfknjmoekbabcaaGreatDoor
open Go.RowKit Go.Lib
open Sq (Tk Nd Mp LL)
section
variable {s:Nat} {c:Cq} {k:Nat} {x:Dl} {L:LL} {F:Asn} {w:World} {R:Ending→World→Prop}
theorem xio {X A B:Asn} (H:Sat (X*(A*(B*F))) w):Sat (B*(X*(A*F))) w:=H.of_eq (by ac_rfl)
theorem xgx {A:Asn} {b:Nat} {t:TypeId} {x1 x2:Value} (H:Sat (A*(pts b (.cells #[x1,x2] t (0,0))*F)) w):w.cell? ⟨b,0,none⟩=some x1∧w.cell? ⟨b,1,none⟩=some x2:=tk2 H.right
theorem xhh {X A B:Asn} (H:Sat (X*(A*(B*F))) w):Sat (A*(B*(X*F))) w:=H.of_eq (by ac_rfl)
theorem xh6 {r1 r2:Int} (h:(r1,r2)=((0,0):Tk)):r1=0∧r2=0:=⟨congrArg Prod.fst h,congrArg Prod.snd h⟩
theorem xht {A:Asn} {b1 b2 b3:Nat} {t1 t2 t3:TypeId} {x1 x2 x3 x4 x5 x6:Value} (H:Sat (A*(pts b1 (.cells #[x1,x2] t1 (0,0))*(pts b2 (.cells #[x3,x4] t2 (0,0))*(pts b3 (.cells #[x5,x6] t3 (0,0))*F)))) w):(w.cell? ⟨b1,0,none⟩=some x1∧w.cell? ⟨b1,1,none⟩=some x2)∧(w.cell? ⟨b2,0,none⟩=some x3∧w.cell? ⟨b2,1,none⟩=some x4)∧(w.cell? ⟨b3,0,none⟩=some x5∧w.cell? ⟨b3,1,none⟩=some x6):=⟨tk2 H.right,tk2 H.right.right,tk2 H.right.right.right⟩
theorem xic {A B1 B2 B3:Asn} (H:Sat (A*(B1*(B2*(B3*F)))) w):Sat (A*F) w:=(H.of_eq (show _=(B1*(B2*B3))*(A*F) from by ac_rfl)).right
theorem xib (a b:Int) {e:Int} (he:Hid (Sq.zcz L (a,b)=e∧e≠0)) (ok:x.Ok L) (H:Sat (DLt x*F) w) (h:∀ v w',zp0 (Pool x.P) v []→Sat (DLt x*F) w'→Io w w'→R (.returned (.tuple #[v,.int .i64 0,.int .i64 e])) w') :
  Calls Tryz.prog 55 #[xhm x.a,tkA a b] w R:=by
 have h0:¬ Sq.zcz L (a,b)=0:=by rw [he.out.1];exact he.out.2
 refine xg5 a b ok H fun v w' hv H' I=>?_
 rw [if_neg h0] at hv
 rw [if_neg h0,he.out.1]
 exact h v w' hv H' I
theorem xie (a b:Int) {l:List Tk} {j:Int} (he:Hid (Sq.zcz L (a,b)=0)) (hj:Hid (Sq.zcz L (a,b)=0∧(if Sq.zcz L (a,b)=0 then (Sq.fj (Sq.rowOf L (a,b)) (a,b):Int) else 0)=j)) (hl:Hid (Sq.rowOf L (a,b)=l)) (ok:x.Ok L) (H:Sat (DLt x*F) w) (h:∀ v w',zp0 (Pool x.P) v l→Sat (DLt x*F) w'→Io w w'→R (.returned (.tuple #[v,.int .i64 j,.int .i64 0])) w') :
  Calls Tryz.prog 55 #[xhm x.a,tkA a b] w R:=by
 refine xg5 a b ok H fun v w' hv H' I=>?_
 rw [if_pos he.out,hl.out] at hv
 rw [hj.out.2,he.out]
 exact h v w' hv H' I
theorem as_at {a b i:Int} {l:List Tk} {n:Nat} {ae t1 t2:Int} (he:Sq.zcz L (a,b)=0) (hl:l=Sq.rowOf L (a,b)) (hn:n=l.length) (h:atE L (a,b) i=ae∧atT L (a,b) i=(t1,t2)):(¬ (0≤i∧i<(n:Int))∧ae=1∧t1=0∧t2=0)∨(0≤i∧i<(n:Int)∧ae=0∧l[i.toNat]?=some (t1,t2)):=by
 obtain ⟨h1,h2⟩:=h
 unfold atE at h1
 rw [if_neg (not_not_intro he),←hl,←hn] at h1
 by_cases hc:0≤i∧i<(n:Int)
 ·right
  rw [if_pos hc] at h1
  have hlt:i.toNat<l.length:=by omega
  refine ⟨hc.1,hc.2,h1.symm,?_⟩
  unfold atT atE at h2
  rw [if_neg (not_not_intro he),←hl,←hn,if_pos hc,if_pos rfl,List.getElem?_eq_getElem hlt] at h2
  rw [List.getElem?_eq_getElem hlt]
  exact congrArg some h2
 ·left
  rw [if_neg hc] at h1
  unfold atT atE at h2
  rw [if_neg (not_not_intro he),←hl,←hn,if_neg hc,if_neg (by decide)] at h2
  exact ⟨hc,h1.symm,(congrArg Prod.fst h2).symm,(congrArg Prod.snd h2).symm⟩
def AsB (s:Nat) (c:Cq) (k:Nat) (L:LL) (bx bp bt bz:Nat) (a b r1 r2 t1 t2 z1 z2:Int):Asn:=SqL (Sx.at s c [] 60 0 k) L*(pts bx (.cells #[.int .i64 a,.int .i64 b] 29 (0,0))*(pts bp (.cells #[.int .i64 r1,.int .i64 r2] 29 (0,0))*(pts bt (.cells #[.int .i64 t1,.int .i64 t2] 29 (0,0))*pts bz (.cells #[.int .i64 z1,.int .i64 z2] 29 (0,0)))))
variable {bx bp bt bz:Nat} {a0 b0 r1 r2 t1 t2 z1 z2:Int} {v0:Value} {l0:List Tk}
theorem xid (H:Sat (pts bz (.cells #[.int .i64 z1,.int .i64 z2] 29 (0,0))*(SqL (Sx.at s c [] 60 0 k) L*(pts bx (.cells #[.int .i64 a0,.int .i64 b0] 29 (0,0))*(pts bp (.cells #[.int .i64 r1,.int .i64 r2] 29 (0,0))*(pts bt (.cells #[.int .i64 t1,.int .i64 t2] 29 (0,0))*(zar v0 l0*(DLt x*F))))))) w):Sat (zar v0 l0*(AsB s c k L bx bp bt bz a0 b0 r1 r2 t1 t2 z1 z2*(DLt x*F))) w:=H.of_eq (by unfold AsB zar;ac_rfl)
theorem xg2 (H:Sat (zar v0 l0*(AsB s c k L bx bp bt bz a0 b0 r1 r2 t1 t2 z1 z2*(DLt x*F))) w):Sat (pts bz (.cells #[.int .i64 z1,.int .i64 z2] 29 (0,0))*(SqL (Sx.at s c [] 60 0 k) L*(pts bx (.cells #[.int .i64 a0,.int .i64 b0] 29 (0,0))*(pts bp (.cells #[.int .i64 r1,.int .i64 r2] 29 (0,0))*(pts bt (.cells #[.int .i64 t1,.int .i64 t2] 29 (0,0))*(zar v0 l0*(DLt x*F))))))) w:=H.of_eq (by unfold AsB zar;ac_rfl)
theorem xg4 {A B:Asn} (H:Sat (A*(B*(DLt x*F))) w):Sat (Pool x.P) w:=((H.of_eq (show _=(A*(B*(pts x.a (.cells #[x.v] 52 (0,0))*(xgp x.v x.ss*F))))*Pool x.P from by unfold DLt;ac_rfl))).right
theorem as_bz (H:Sat (zar v0 l0*(AsB s c k L bx bp bt bz a0 b0 r1 r2 t1 t2 z1 z2*(DLt x*F))) w):w.cell? ⟨bz,0,none⟩=some (.int .i64 z1)∧w.cell? ⟨bz,1,none⟩=some (.int .i64 z2)∧w.frozen? ⟨bz,0,none⟩=false∧w.frozen? ⟨bz,1,none⟩=false:=by
 have K:=xg2 H
 exact ⟨Sat.read K.left.at 0,Sat.read K.left.at 1,Sat.free K.left.at 0,Sat.free K.left.at 1⟩
theorem xhy (H:Sat (zar v0 l0*(AsB s c k L bx bp bt bz a0 b0 r1 r2 t1 t2 z1 z2*(DLt x*F))) w):w.cell? ⟨bp,0,none⟩=some (.int .i64 r1)∧w.cell? ⟨bp,1,none⟩=some (.int .i64 r2):=tk2 (xg2 H).right.right.right
theorem xip (H:Sat (zar v0 l0*(AsB s c k L bx bp bt bz a0 b0 r1 r2 t1 t2 z1 z2*(DLt x*F))) w):(w.cell? ⟨bt,0,none⟩=some (.int .i64 t1)∧w.cell? ⟨bt,1,none⟩=some (.int .i64 t2))∧(w.cell? ⟨bz,0,none⟩=some (.int .i64 z1)∧w.cell? ⟨bz,1,none⟩=some (.int .i64 z2)):=⟨tk2 (xg2 H).right.right.right.right,tk2 (xg2 H)⟩
theorem as_fin (H:Sat (zar v0 l0*(AsB s c k L bx bp bt bz a0 b0 r1 r2 t1 t2 z1 z2*(DLt x*F))) w):Sat (SqL (Sx.at s c [] 60 0 k) L*(DLt x*F)) w:=by
 have K:=(xg2 H).right
 exact (K.of_eq (show _=(pts bx (.cells #[.int .i64 a0,.int .i64 b0] 29 (0,0))*(pts bp (.cells #[.int .i64 r1,.int .i64 r2] 29 (0,0))*(pts bt (.cells #[.int .i64 t1,.int .i64 t2] 29 (0,0))*zar v0 l0)))*(SqL (Sx.at s c [] 60 0 k) L*(DLt x*F)) from by unfold zar;ac_rfl)).right
theorem as_put {u1 u2:Int} (H:Sat (zar v0 l0*(AsB s c k L bx bp bt bz a0 b0 r1 r2 t1 t2 z1 z2*(DLt x*F))) w):Sat (zar v0 l0*(AsB s c k L bx bp bt bz a0 b0 r1 r2 t1 t2 u1 u2*(DLt x*F))) ((w.setCell ⟨bz,0,none⟩ (.int .i64 u1)).setCell ⟨bz,1,none⟩ (.int .i64 u2)):=xid (((xg2 H).cell 0 (.int .i64 u1)).cell 1 (.int .i64 u2))
theorem as_mv {A B C:Asn} {v:Value} {l:List Tk} (H:Sat (A*(zar v l*(B*(C*F)))) w):Sat (A*(B*(C*(zar v l*F)))) w:=H.of_eq (by unfold zar;ac_rfl)
theorem xho (a b:Int) {e:Int} (hm:Hid (Sq.zcz L (a,b)=e)) (hc:Hid (L.flatten.length≤250)) (hr:Hid (zcl c 60 0 k)) (H:Sat (SqL (Sx.at s c [] 60 0 k) L*F) w)
  (h:∀ r1 r2 w',Hid ((e≠0→(r1,r2)=((0,0):Tk))∧(e=0→(r1,r2)∈Sq.rowOf L (a,b)))→Sat (SqL (Sx.at s c [] 60 0 k) L*F) w'→Io w w'→R (.returned (.tuple #[tkA r1 r2,.int .i64 e])) w') :
  Calls Tryz.prog 61 #[.pointer (some ⟨s,0,none⟩),tkA a b] w R :=
 xih (x:=Sx.at s c [] 60 0 k) a b hc (L_ hr.out.ok) H fun r1 r2 w' hq H' I=>by
  rw [hm.out] at hq ⊢
  exact h r1 r2 w' hq H' I
theorem xh0 (a b:Int) {d:Bool} {e:Int} (hm:Hid (decide (Sq.zcz L (a,b)=0)=d∧(if Sq.zcz L (a,b)=30 then (30:Int) else 0)=e)) (hr:Hid (zcl c 60 0 k)) (H:Sat (SqL (Sx.at s c [] 60 0 k) L*F) w)
  (h:∀ w',Sat (SqL (Sx.at s c [] 60 0 k) L*F) w'→Io w w'→R (.returned (.tuple #[.bool d,.int .i64 e])) w') :
  Calls Tryz.prog 62 #[.pointer (some ⟨s,0,none⟩),tkA a b] w R :=
 lq_has (x:=Sx.at s c [] 60 0 k) a b (L_ hr.out.ok) H fun w' H' I=>by
  rw [hm.out.1,hm.out.2]
  exact h w' H' I
theorem zcb (a b i:Int) {e g:Int} (hv:(e=30∧g=30)∨(e=181∧g=0)) (he:Hid (Sq.zcz L (a,b)=e)) (hc:Hid (L.flatten.length≤250)) (hr:Hid (zcl c 60 0 k)) (ok:Hid (x.Ok L)) (H:Sat (SqL (Sx.at s c [] 60 0 k) L*(DLt x*F)) w)
  (h:∀ w',Sat (SqL (Sx.at s c [] 60 0 k) L*(DLt x*F)) w'→Io w w'→R (.returned (.bool true)) w') :
  Calls Tryz.prog 29 #[.pointer (some ⟨s,0,none⟩),xhm x.a,tkA a b,.int .i64 i] w R:=by
 have HH:=L_ h
 have h0:e≠0:=by rcases hv with ⟨rfl,-⟩ | ⟨rfl,-⟩<;>decide
 have hne:¬ Sq.zcz L (a,b)=0:=by rw [he.out];exact h0
 have M0:Hid (Sq.zcz L (a,b)=e∧(e:Int)≠0):=L_ ⟨he.out,h0⟩
 have M1:Hid (Sq.zcz L (a,b)=e∧((Sq.lst L (a,b)).length:Int)=0):=L_ ⟨he.out,by rw [Sq.xdv hne];rfl⟩
 have M2:Hid (Sq.zcz L (a,b)=e∧(if Sq.zcz L (a,b)=0 then (Sq.fj (Sq.rowOf L (a,b)) (a,b):Int) else 0)=0):=L_ ⟨he.out,if_neg hne⟩
 have a1:atE L (a,b) i=e:=by unfold atE;rw [if_pos hne];exact he.out
 have M3:Hid (atE L (a,b) i=e∧atT L (a,b) i=(0,0)):=L_ ⟨a1,by unfold atT;rw [a1];exact if_neg h0⟩
 have M4:Hid (Sq.zcz L (a,b)=e∧Sq.lst L (a,b)=[]):=L_ ⟨he.out,Sq.xdv hne⟩
 have M6:Hid (Sq.zcz L (a,b)=e):=he
 have M5:Hid (decide (Sq.zcz L (a,b)=0)=false∧(if Sq.zcz L (a,b)=30 then (30:Int) else 0)=g):=L_ ⟨decide_eq_false hne,by rw [he.out];rcases hv with ⟨rfl,rfl⟩ | ⟨rfl,rfl⟩<;>rfl⟩
 have H1:=xio (H.new (.cells #[.int .i64 a,.int .i64 b] 29))
 have I1:=io1 H1 (Io.refl w)
 clear h H hne a1 h0
 rcases hv with ⟨rfl,rfl⟩ | ⟨rfl,rfl⟩
 all_goals
  go_enter Tryz.func29,Tryz.ntmps29
  go_upto_region 1 with fail
  generalize w.alloc _=w1 at *
  generalize w.heap.size=bx at *
  obtain ⟨y0,y1⟩:=tk2 H1.right
  go_upto_region 2 with (go_at_call 55;(refine xib a b M0 ok.out H1 ?_);intro v2 w2 RV H2 I2)
  have H3:Sat (SqL (Sx.at s c [] 60 0 k) L*(pts bx (.cells #[.int .i64 a,.int .i64 b] 29 (0,0))*(DLt x*F))) w2:=H2.of_eq (by ac_rfl)
  have J2:=I1.trans I2
  have RV2:=L_ RV
  clear y0 y1 H1 H2 I1 I2 RV
  obtain ⟨y0,y1⟩:=xgx H3
  go_upto_region 5 with (first
   | (go_at_call 38;(with_reducible refine xav (k:=k) a b M1 hc hr H3 ?_);intro w4 H4 I4;have Z4:=xgx H4;obtain ⟨z0,z1⟩:=Z4)
   | (go_at_call 37;(with_reducible refine xfa (k:=k) a b M2 hc hr H4 ?_);intro w5 H5 I5;have Z5:=xgx H5;obtain ⟨f0,f1⟩:=Z5)
   | (go_at_call 39;(with_reducible refine xh9 (k:=k) a b i M3 hc hr H5 ?_);intro w6 H6 I6)
   | fail)
  have H7:=xhh (H6.new (.cells #[.int .i64 0,.int .i64 0] 29))
  have J7:=io1 H7 (((J2.trans I4).trans I5).trans I6)
  generalize w6.alloc _=w7 at *
  generalize w6.heap.size=bt at *
  clear y0 y1 z0 z1 f0 f1 H3 H4 H5 H6 J2 I4 I5 I6
  obtain ⟨y0,y1⟩:=xgx H7
  go_upto_region 8 with (first
   | (go_at_call 17;(with_reducible refine zio (k:=k) a b M4 hc hr H7 ?_);intro v8 w8 H8 I8;have E8:=zg1 H8;obtain ⟨a8,c8,e8⟩:=E8;subst e8;have K8:=H8.right;have Z8:=xgx K8;obtain ⟨z0,z1⟩:=Z8)
   | (go_at_call 18;(with_reducible refine z4d (k:=k) a b M6 hc hr K8 ?_);intro q w9 hq H9 I9;have Z9:=xgx H9;obtain ⟨f0,f1⟩:=Z9;obtain rfl:q=0:=hq.out.1 (by decide))
   | (go_at_call 61;(with_reducible refine xho (k:=k) a b M6 hc hr H9 ?_);intro r1 r2 w10 hq2 H10 I10;obtain ⟨rfl,rfl⟩:=xh6 (hq2.out.1 (by decide)))
   | fail)
  have H11:=xhh (H10.new (.cells #[.int .i64 0,.int .i64 0] 29))
  have J11:=io1 H11 (((J7.trans I8).trans I9).trans I10)
  generalize w10.alloc _=w11 at *
  generalize w10.heap.size=bp at *
  clear y0 y1 z0 z1 f0 f1 H7 H8 K8 H9 H10 J7 I8 I9 I10 hq hq2
  obtain ⟨y0,y1⟩:=xgx H11
  have EQ:=fun W=>zci 0 0 0 0 W
  simp only [decide_true] at EQ
  go_wp2_with (go_at_call 62;(with_reducible refine xh0 (k:=k) a b M5 hr H11 ?_);intro w12 H12 I12;have Z12:=xht H12;obtain ⟨⟨p0,p1⟩,⟨p2,p3⟩,⟨p4,p5⟩⟩:=Z12)
  exact HH.out _ (xic H12) (J11.trans I12)
theorem xhq (a b i:Int) (he:Hid (Sq.zcz L (a,b)=0)) (hc:Hid (L.flatten.length≤250)) (hr:Hid (zcl c 60 0 k)) (ok:Hid (x.Ok L)) (H:Sat (SqL (Sx.at s c [] 60 0 k) L*(DLt x*F)) w)
  (h:∀ w',Sat (SqL (Sx.at s c [] 60 0 k) L*(DLt x*F)) w'→Io w w'→R (.returned (.bool true)) w') :
  Calls Tryz.prog 29 #[.pointer (some ⟨s,0,none⟩),xhm x.a,tkA a b,.int .i64 i] w R:=by
 have HH:=L_ h
 obtain ⟨l,hl⟩:∃ l,l=Sq.rowOf L (a,b):=⟨_,rfl⟩
 obtain ⟨j,hj⟩:∃ j:Nat,j=Sq.fj (Sq.rowOf L (a,b)) (a,b):=⟨_,rfl⟩
 obtain ⟨n,hn⟩:∃ n,n=l.length:=⟨_,rfl⟩
 have hth:=(Sq.zxv.1 he.out).2
 have hb:=ok.out.big.2 _ (Sq.row_in hth)
 rw [←hl] at hb
 have HNL:Hid (n=l.length∧n≤1000∧l.length≤1000000):=L_ ⟨hn,by omega,by omega⟩
 have M1:Hid (Sq.zcz L (a,b)=0∧((Sq.lst L (a,b)).length:Int)=(n:Int)):=L_ ⟨he.out,by rw [Sq.zj7 he.out,←hl,hn]⟩
 have M2:Hid (Sq.zcz L (a,b)=0∧(if Sq.zcz L (a,b)=0 then (Sq.fj (Sq.rowOf L (a,b)) (a,b):Int) else 0)=(j:Int)):=L_ ⟨he.out,by rw [if_pos he.out,hj]⟩
 have M4:Hid (Sq.zcz L (a,b)=0∧Sq.lst L (a,b)=l):=L_ ⟨he.out,(Sq.zj7 he.out).trans hl.symm⟩
 have M5:Hid (decide (Sq.zcz L (a,b)=0)=true∧(if Sq.zcz L (a,b)=30 then (30:Int) else 0)=0):=L_ ⟨decide_eq_true he.out,by rw [he.out];rfl⟩
 have HRW:Hid (Sq.rowOf L (a,b)=l):=L_ hl.symm
 obtain ⟨ae,te1,te2,hat⟩:∃ ae t1 t2,atE L (a,b) i=ae∧atT L (a,b) i=(t1,t2):=⟨_,_,_,rfl,rfl⟩
 have M3:=L_ hat
 have HAT:Hid ((¬ (0≤i∧i<(n:Int))∧ae=1∧te1=0∧te2=0)∨(0≤i∧i<(n:Int)∧ae=0∧l[i.toNat]?=some (te1,te2))):=L_ (as_at he.out hl hn hat)
 have H1:=xio (H.new (.cells #[.int .i64 a,.int .i64 b] 29))
 have I1:=io1 H1 (Io.refl w)
 have hn0:(n:Int)≤1000:=by omega
 have hj0:(j:Int)≤1000:=by have:=Sq.z5v (Sq.row_mem hth);rw [←hj,←hl] at this;omega
 clear h H hl hj hn hth hb hat
 go_enter Tryz.func29,Tryz.ntmps29
 go_upto_region 1 with fail
 generalize w.alloc _=w1 at *
 generalize w.heap.size=bx at *
 obtain ⟨y0,y1⟩:=tk2 H1.right
 go_upto_region 2 with (go_at_call 55;(refine xie a b he M2 HRW ok.out H1 ?_);intro v2 w2 RV H2 I2;have E2:=zo6 RV;obtain ⟨a2,c2,e2,b2⟩:=E2;rw [←HNL.out.1] at e2;subst e2)
 have H3:Sat (SqL (Sx.at s c [] 60 0 k) L*(pts bx (.cells #[.int .i64 a,.int .i64 b] 29 (0,0))*(DLt x*F))) w2:=H2.of_eq (by ac_rfl)
 have J2:=I1.trans I2
 have RV2:=L_ RV
 clear y0 y1 H1 H2 I1 I2 RV b2
 obtain ⟨y0,y1⟩:=xgx H3
 go_upto_region 5 with (first
  | (go_at_call 38;(with_reducible refine xav (k:=k) a b M1 hc hr H3 ?_);intro w4 H4 I4;have Z4:=xgx H4;obtain ⟨z0,z1⟩:=Z4)
  | (go_at_call 37;(with_reducible refine xfa (k:=k) a b M2 hc hr H4 ?_);intro w5 H5 I5;have Z5:=xgx H5;obtain ⟨f0,f1⟩:=Z5)
  | (go_at_call 39;(with_reducible refine xh9 (k:=k) a b i M3 hc hr H5 ?_);intro w6 H6 I6)
  | fail)
 have H7:=xhh (H6.new (.cells #[.int .i64 te1,.int .i64 te2] 29))
 have J7:=io1 H7 (((J2.trans I4).trans I5).trans I6)
 generalize w6.alloc _=w7 at *
 generalize w6.heap.size=bt at *
 clear y0 y1 z0 z1 f0 f1 H3 H4 H5 H6 J2 I4 I5 I6
 obtain ⟨y0,y1⟩:=xgx H7
 go_upto_region 8 with (first
  | (go_at_call 17;(with_reducible refine zio (k:=k) a b M4 hc hr H7 ?_);intro v8 w8 H8 I8;have K8:=zai H8;have Z8:=xgx (as_mv K8);obtain ⟨z0,z1⟩:=Z8;have K8:=as_mv K8)
  | (go_at_call 18;(with_reducible refine z4d (k:=k) a b he hc hr K8 ?_);intro q w9 hq H9 I9;have Z9:=xgx H9;obtain ⟨f0,f1⟩:=Z9)
  | (go_at_call 61;(with_reducible refine xho (k:=k) a b he hc hr H9 ?_);intro r1 r2 w10 hq2 H10 I10)
  | fail)
 have H11:=xhh (H10.new (.cells #[.int .i64 r1,.int .i64 r2] 29))
 have J11:=io1 H11 (((J7.trans I8).trans I9).trans I10)
 generalize w10.alloc _=w11 at *
 generalize w10.heap.size=bp at *
 clear y0 y1 z0 z1 f0 f1 H7 H8 K8 H9 H10 J7 I8 I9 I10
 obtain ⟨y0,y1⟩:=xgx H11
 have HQ:Hid (1≤q∧q≤1000∧Sq.least q≤n):=L_ (by have h:1≤q∧q≤(Sq.rowOf L (a,b)).length∧Sq.least q≤(Sq.rowOf L (a,b)).length:=(by first | exact hq.out.2 rfl | exact hq.out.2 trivial);rw [HRW.out,←HNL.out.1] at h;have:=HNL.out.2.1;omega)
 have HTP:Hid ((r1,r2)∈l):=L_ (by have h:(r1,r2)∈Sq.rowOf L (a,b):=(by first | exact hq2.out.2 rfl | exact hq2.out.2 trivial);rw [HRW.out] at h;exact h)
 clear hq hq2
 go_upto_region 16 with (go_at_call 62;(with_reducible refine xh0 (k:=k) a b M5 hr H11 ?_);intro w12 H12 I12)
 have H13:=xid (H12.new (.cells #[.int .i64 0,.int .i64 0] 29))
 have J13:=io1 H13 (J11.trans I12)
 clear y0 y1 H11 H12 J11 I12
 go_upto_region 17 with fail
 generalize w12.alloc _=w13 at *
 generalize w12.heap.size=bz at *
 rcases HAT.out with ⟨h1,h2,h3,h4⟩ | ⟨h1,h2,h3,h4⟩
 ·subst h2 h3 h4
  rcases (show i<0∨(¬ i<0∧¬ i<(n:Int)) from by omega) with hi | ⟨hi,hin⟩
  all_goals
   clear h1
   go_upto_region 20 with fail
   have Hc:=H13
   have Jc:=J13
   clear H13 J13
   go_upto_region 21 with (go_at_call 19;(refine zdo (l:=l) (m:=l) (d:=true) (Reads.zau Hc HNL.out.2.2) ((xgy RV2.out).with.with) (L_ (decide_eq_true rfl).symm) Hc ?_);intro w20 H20 I20)
   have J20:=Jc.trans I20
   clear Hc Jc I20
   go_wp2_with fail
   go_loopw [31,32] (fun vin vq wr=>∃ (m:Nat) (d:Bool),vin=.bool d∧m≤n∧vq=.int .i64 (m:Int)∧Hid (d=true∨(r1,r2)∈l.drop m)∧Sat (zar v8 l*(AsB s c k L bx bp bt bz a b r1 r2 0 0 0 0*(DLt x*F))) wr∧Io w wr) (fun _ vq _=>2000 - (RowKit.intOf vq).toNat)
   case atStart=>exact ⟨0,false,rfl,by omega,rfl,L_ (.inr (by rw [List.drop_zero];exact HTP.out)),H20,J20⟩
   case round =>
    obtain ⟨m,d,rfl,hm,rfl,hd,Hk,Ik⟩:=hrel
    clear H20 J20
    have hm0:(0:Int)≤(m:Int):=by omega
    have hm1:(m:Int)≤1000:=by omega
    by_cases hlt:(m:Int)<(n:Int)
    ·have hlm:m<l.length:=by have:=HNL.out.1;omega
     have hln:m<n:=by omega
     have HKL:Hid (m+1≤n):=L_ hln
     have HGN:Hid (Value.int IntKind.i64 ((m:Int)+1)=Value.int IntKind.i64 ((m+1:Nat):Int)):=L_ (by go_num)
     obtain ⟨bq,oq,z1,z2,e5,e6,e7⟩:=zo7 RV2.out m hlm
     cases e5
     have HE6:Hid (l.drop m=(z1,z2)::l.drop (m+1)):=L_ (by rw [List.drop_eq_getElem_cons hlm,e6])
     clear e6 hlm hm
     go_upto_region 25 with fail
     have Kd:=Hk.drew
     have Jd:=Ik.drew
     clear Hk Ik
     cases d with
     | true =>
      refine wp_region_held_drew (S:=fun _=>True) (by kernel_rfl) True.intro (fun hHeld=>?_)
      refine tk ?_ ?_ [0,1,2,3,4,5,6,7,8,9] ?_ hHeld ?_;rotate_left 2;exact tt
      refine wpAnyH_done (by kernel_rfl) ?_ _
      clear hHeld
      go_wp2_with fail
      go_roundw
      case rel=>exact ⟨m+1,true,rfl,HKL.out,HGN.out,L_ (.inl rfl),Kd,Jd⟩
      case measure=>simp [RowKit.intOf];omega
     | false =>
      have EQ:=fun W=>zci z1 z2 r1 r2 W
      by_cases e9:((z1:Int),(z2:Int))=(r1,r2)
      ·rw [decide_eq_true e9] at EQ
       clear e9
       refine rh Kd (fun W Kd=>And.intro (e7 W (xg4 Kd)) (xhy Kd)) fun hHeld=>?_
       refine tk ?_ ?_ [0,1,2,3,4,5,6,7,8,9] ?_ hHeld ?_;rotate_left 2;exact tt
       refine wpAnyH_done (by kernel_rfl) ?_ _
       clear hHeld
       go_wp2_with fail
       go_roundw
       case rel=>exact ⟨m+1,true,rfl,HKL.out,HGN.out,L_ (.inl rfl),Kd,Jd⟩
       case measure=>simp [RowKit.intOf];omega
      ·rw [decide_eq_false e9] at EQ
       have HDR:Hid ((r1,r2)∈l.drop (m+1)):=L_ (by
        rcases hd.out with h | h
        ·cases h
        ·rw [HE6.out] at h
         rcases List.mem_cons.1 h with h | h
         ·exact absurd h.symm e9
         ·exact h)
       clear e9
       refine rh Kd (fun W Kd=>And.intro (e7 W (xg4 Kd)) (xhy Kd)) fun hHeld=>?_
       refine tk ?_ ?_ [0,1,2,3,4,5,6,7,8,9] ?_ hHeld ?_;rotate_left 2;exact tt
       refine wpAnyH_done (by kernel_rfl) ?_ _
       clear hHeld
       go_wp2_with fail
       go_roundw
       case rel=>exact ⟨m+1,false,rfl,HKL.out,HGN.out,L_ (.inr HDR.out),Kd,Jd⟩
       case measure=>simp [RowKit.intOf];omega
    ·obtain rfl:m=n:=by omega
     have hge:¬ (m:Int)<(m:Int):=by omega
     obtain rfl:d=true:=by
      rcases hd.out with h | h
      ·exact h
      ·rw [List.drop_of_length_le (by have:=HNL.out.1;omega)] at h;cases h
     have EQ:=fun W=>zci 0 0 0 0 W
     simp only [decide_true] at EQ
     obtain ⟨⟨p0,p1⟩,⟨p2,p3⟩⟩:=xip Hk
     obtain ⟨lq,hlq⟩:∃ lq,lq=Sq.least q:=⟨_,rfl⟩
     have hql:(lq:Int)≤(m:Int):=by have:=HQ.out.2.2;omega
     have hq1:(1:Int)≤(q:Int):=by have:=HQ.out.1;omega
     have HQ3:Hid (1≤q∧q≤1000∧Sq.least q≤1000):=L_ (by have:=HQ.out;have:=HNL.out.2.1;omega)
     have HLQ:=L_ hlq
     clear hlq hd
     go_wp2_with (go_at_call 20;(refine z4m q HQ3 Hk ?_);rw [←HLQ.out];intro w30 H30 I30)
     exact HH.out _ (as_fin H30) (Ik.trans I30)
 ·subst h3
  have hlt:i.toNat<l.length:=by have:=HNL.out.1;omega
  obtain ⟨bq,oq,t1',t2',e5,e6,e7⟩:=zo7 RV2.out i.toNat hlt
  have e8:(t1',t2')=(te1,te2):=by rw [List.getElem?_eq_getElem hlt,e6] at h4;exact Option.some.inj h4
  obtain ⟨rfl,rfl⟩:t1'=te1∧t2'=te2:=⟨congrArg Prod.fst e8,congrArg Prod.snd e8⟩
  have g0:=e7 w13 (xg4 H13)
  obtain ⟨g0,g1⟩:=g0
  obtain ⟨p0,p1,p2,p3⟩:=as_bz H13
  subst e5
  clear h4 e6 e7 e8 hlt
  go_upto_region 20 with fail
  have Hc:=as_put (u1:=t1') (u2:=t2') H13
  have Jc:=(J13.setCell ⟨bz,0,none⟩ (.int .i64 t1')).setCell ⟨bz,1,none⟩ (.int .i64 t2')
  clear H13 J13
  generalize (w13.setCell _ _).setCell _ _=w14 at *
  go_upto_region 21 with (go_at_call 19;(refine zdo (l:=l) (m:=l) (d:=true) (Reads.zau Hc HNL.out.2.2) ((xgy RV2.out).with.with) (L_ (decide_eq_true rfl).symm) Hc ?_);intro w20 H20 I20)
  have J20:=Jc.trans I20
  clear Hc Jc I20
  go_wp2_with fail
  go_loopw [31,32] (fun vin vq wr=>∃ (m:Nat) (d:Bool),vin=.bool d∧m≤n∧vq=.int .i64 (m:Int)∧Hid (d=true∨(r1,r2)∈l.drop m)∧Sat (zar v8 l*(AsB s c k L bx bp bt bz a b r1 r2 t1' t2' t1' t2'*(DLt x*F))) wr∧Io w wr) (fun _ vq _=>2000 - (RowKit.intOf vq).toNat)
  case atStart=>exact ⟨0,false,rfl,by omega,rfl,L_ (.inr (by rw [List.drop_zero];exact HTP.out)),H20,J20⟩
  case round =>
   obtain ⟨m,d,rfl,hm,rfl,hd,Hk,Ik⟩:=hrel
   clear H20 J20
   have hm0:(0:Int)≤(m:Int):=by omega
   have hm1:(m:Int)≤1000:=by omega
   by_cases hlt:(m:Int)<(n:Int)
   ·have hlm:m<l.length:=by have:=HNL.out.1;omega
    have hln:m<n:=by omega
    have HKL:Hid (m+1≤n):=L_ hln
    have HGN:Hid (Value.int IntKind.i64 ((m:Int)+1)=Value.int IntKind.i64 ((m+1:Nat):Int)):=L_ (by go_num)
    obtain ⟨bq,oq,z1,z2,e5,e6,e7⟩:=zo7 RV2.out m hlm
    cases e5
    have HE6:Hid (l.drop m=(z1,z2)::l.drop (m+1)):=L_ (by rw [List.drop_eq_getElem_cons hlm,e6])
    clear e6 hlm hm
    go_upto_region 25 with fail
    have Kd:=Hk.drew
    have Jd:=Ik.drew
    clear Hk Ik
    cases d with
    | true =>
     refine wp_region_held_drew (S:=fun _=>True) (by kernel_rfl) True.intro (fun hHeld=>?_)
     refine tk ?_ ?_ [0,1,2,3,4,5,6,7,8,9] ?_ hHeld ?_;rotate_left 2;exact tt
     refine wpAnyH_done (by kernel_rfl) ?_ _
     clear hHeld
     go_wp2_with fail
     go_roundw
     case rel=>exact ⟨m+1,true,rfl,HKL.out,HGN.out,L_ (.inl rfl),Kd,Jd⟩
     case measure=>simp [RowKit.intOf];omega
    | false =>
     have EQ:=fun W=>zci z1 z2 r1 r2 W
     by_cases e9:((z1:Int),(z2:Int))=(r1,r2)
     ·rw [decide_eq_true e9] at EQ
      clear e9
      refine rh Kd (fun W Kd=>And.intro (e7 W (xg4 Kd)) (xhy Kd)) fun hHeld=>?_
      refine tk ?_ ?_ [0,1,2,3,4,5,6,7,8,9] ?_ hHeld ?_;rotate_left 2;exact tt
      refine wpAnyH_done (by kernel_rfl) ?_ _
      clear hHeld
      go_wp2_with fail
      go_roundw
      case rel=>exact ⟨m+1,true,rfl,HKL.out,HGN.out,L_ (.inl rfl),Kd,Jd⟩
      case measure=>simp [RowKit.intOf];omega
     ·rw [decide_eq_false e9] at EQ
      have HDR:Hid ((r1,r2)∈l.drop (m+1)):=L_ (by
       rcases hd.out with h | h
       ·cases h
       ·rw [HE6.out] at h
        rcases List.mem_cons.1 h with h | h
        ·exact absurd h.symm e9
        ·exact h)
      clear e9
      refine rh Kd (fun W Kd=>And.intro (e7 W (xg4 Kd)) (xhy Kd)) fun hHeld=>?_
      refine tk ?_ ?_ [0,1,2,3,4,5,6,7,8,9] ?_ hHeld ?_;rotate_left 2;exact tt
      refine wpAnyH_done (by kernel_rfl) ?_ _
      clear hHeld
      go_wp2_with fail
      go_roundw
      case rel=>exact ⟨m+1,false,rfl,HKL.out,HGN.out,L_ (.inr HDR.out),Kd,Jd⟩
      case measure=>simp [RowKit.intOf];omega
   ·obtain rfl:m=n:=by omega
    have hge:¬ (m:Int)<(m:Int):=by omega
    obtain rfl:d=true:=by
     rcases hd.out with h | h
     ·exact h
     ·rw [List.drop_of_length_le (by have:=HNL.out.1;omega)] at h;cases h
    have EQ:=fun W=>zci t1' t2' t1' t2' W
    simp only [decide_true] at EQ
    obtain ⟨⟨p0,p1⟩,⟨p2,p3⟩⟩:=xip Hk
    obtain ⟨lq,hlq⟩:∃ lq,lq=Sq.least q:=⟨_,rfl⟩
    have hql:(lq:Int)≤(m:Int):=by have:=HQ.out.2.2;omega
    have hq1:(1:Int)≤(q:Int):=by have:=HQ.out.1;omega
    have HQ3:Hid (1≤q∧q≤1000∧Sq.least q≤1000):=L_ (by have:=HQ.out;have:=HNL.out.2.1;omega)
    have HLQ:=L_ hlq
    clear hlq hd
    go_wp2_with (go_at_call 20;(refine z4m q HQ3 Hk ?_);rw [←HLQ.out];intro w30 H30 I30)
    exact HH.out _ (as_fin H30) (Ik.trans I30)
end
section
variable {s:Nat} {c:Cq} {j k:Nat} {x:Dl} {L:LL} {F:Asn} {w:World} {R:Ending→World→Prop}
structure xh7 (x:Dl) (L:LL) (j k:Nat):Prop where
 ok:x.Ok L
 nd:L.flatten.Nodup
 len:L.flatten.length≤j
 le:j≤k
theorem ne_len {L:LL} (h:∀ l∈L,l≠[]):L.length≤L.flatten.length:=by
 induction L with
 | nil=>simp
 | cons a L ih =>
  have h1:=ih fun l hl=>h l (List.mem_cons_of_mem _ hl)
  have h2:0<a.length:=List.length_pos_iff.2 (h a (by simp))
  simp only [List.flatten_cons,List.length_append,List.length_cons]
  omega
theorem xg8 (H:Sat (SqL (Sx.at s c [] 60 0 j) L*F) w):(∀ l∈L,l≠[])∧L.flatten.Nodup:=by
 obtain ⟨M,hl,_⟩:=za7.1 H
 exact ⟨hl.ne,hl.nodup⟩
theorem dl_nil (a:Nat):(⟨a,.slice none 0 0,[],[]⟩:Dl).Ok []:=⟨rfl,fun i h=>absurd h (Nat.not_lt_zero i),by simp,by simp⟩
theorem xia {a:Nat} (H:Sat (pts a (.cells #[.slice none 0 0] 52 (0,0))*F) w):Sat (DLt ⟨a,.slice none 0 0,[],[]⟩*F) w:=by
 have K:=za5 (enc:=xh2) (sz:=1) (e:=39) H
 exact K.of_eq (show _=(pts a (.cells #[.slice none 0 0] 52 (0,0))*(xgp (.slice none 0 0) []*emp))*F from by rw [zlz];unfold xgp;ac_rfl)
theorem xgo (a b i:Int) {ba:Nat} (ha:x.a=ba) (hc:Hid (L.flatten.length≤250)) (hr:Hid (zcl c 60 0 k)) (ok:Hid (x.Ok L)) (H:Sat (SqL (Sx.at s c [] 60 0 k) L*(DLt x*F)) w)
  (h:∀ w',Sat (SqL (Sx.at s c [] 60 0 k) L*(DLt x*F)) w'→Io w w'→R (.returned (.bool true)) w') :
  Calls Tryz.prog 29 #[.pointer (some ⟨s,0,none⟩),xhm ba,tkA a b,.int .i64 i] w R:=by
 subst ha
 rcases Sq.ask_cases L (a,b) with ⟨q1,_⟩ | ⟨q1,_,_⟩ | ⟨q1,_,_⟩
 ·exact zcb a b i (.inl ⟨rfl,rfl⟩) (L_ q1) hc hr ok H h
 ·exact zcb a b i (.inr ⟨rfl,rfl⟩) (L_ q1) hc hr ok H h
 ·exact xhq a b i (L_ q1) hc hr ok H h
theorem xif (a1 b1 a2 b2:Int) {d:Bool} {e:Int} (hm:Hid (Sq.two L (a1,b1) (a2,b2)=(d,e))) (hc:Hid (L.flatten.length≤250)) (hr:Hid (zcl c 60 0 k)) (H:Sat (SqL (Sx.at s c [] 60 0 k) L*F) w)
  (h:∀ w',Sat (SqL (Sx.at s c [] 60 0 k) L*F) w'→Io w w'→R (.returned (.tuple #[.bool d,.int .i64 e])) w') :
  Calls Tryz.prog 27 #[.pointer (some ⟨s,0,none⟩),tkA a1 b1,tkA a2 b2] w R :=
 xig (x:=Sx.at s c [] 60 0 k) a1 b1 a2 b2 hc (L_ hr.out.ok) H fun w' H' I=>by
  rw [hm.out]
  exact h w' H' I
theorem xg3 {X A B:Asn} (H:Sat (A*(B*(X*F))) w):Sat (A*(B*F)) w:=(H.of_eq (show _=X*(A*(B*F)) from by ac_rfl)).right
theorem do_in {X A B:Asn} (H:Sat (X*(A*(B*F))) w):Sat (A*(B*(X*F))) w:=H.of_eq (by ac_rfl)
theorem xgn {A B:Asn} {b:Nat} {t:TypeId} {v0 v1 v2 v3 v4 v5:Value} (H:Sat (A*(B*(pts b (.cells #[v0,v1,v2,v3,v4,v5] t (0,0))*F))) w):w.cell? ⟨b,0,none⟩=some v0∧w.cell? ⟨b,1,none⟩=some v1∧w.cell? ⟨b,2,none⟩=some v2∧w.cell? ⟨b,3,none⟩=some v3∧w.cell? ⟨b,4,none⟩=some v4∧w.cell? ⟨b,5,none⟩=some v5:=zjw H.right.right
theorem xhl {l:List zx0} {v:Value} (hv:Reads zko F v l) (H:Sat F w) (h:∀ w',Sat F w'→Io w w'→R (.returned (.bool true)) w') :
  Calls Tryz.prog 6 #[v] w R:=by
 have HH:=L_ h
 obtain ⟨a0,c0,rfl,hm'⟩:=zkk hv
 have HV:=L_ (fun k hk=>zkl hv k hk)
 clear h hv
 go_enter Tryz.func6,Tryz.ntmps6
 go_upto_region 4 with (first
  | (go_at_call 9;(with_reducible refine zij H ?_);intro w1 H1 I1)
  | fail)
 by_cases hl:(120:Int)<(l.length:Int)
 ·have FIN:=L_ (HH.out _ H1 I1)
  clear HV
  go_wp2_with fail
  exact FIN.out
 ·have HL:Hid (l.length≤120):=L_ (by omega)
  go_upto_region 7 with (first
   | (go_at_call 10;(with_reducible refine zjh (s:=3000) (L_ (by decide)) (L_ (by decide)) H1 ?_);intro c w3 hn H3 I3;have HC:=L_ (show c.k.n=3000 from hn.out);clear hn)
   | (go_at_call 11;(refine zlp (c:=c) (O:=[]) (L_ ⟨by constructor<;>simp,by simp⟩) H3 ?_);intro s w4 H4 I4)
   | fail)
  have H5:=H4.new (.cells #[.slice none 0 0] 52)
  have J5:=io1 H5 ((I1.trans I3).trans I4)
  go_upto_region 8 with fail
  have H6:Sat (SqL (Sx.at s c [] 60 0 0) []*(DLt ⟨w4.heap.size,.slice none 0 0,[],[]⟩*F)) (w4.alloc (.cells #[.slice none 0 0] 52)):=by rw [Sx.zrp];exact zai (xia H5)
  clear H H1 H3 H4 H5 I1 I3 I4
  generalize w4.alloc _=w5 at *
  generalize w4.heap.size=bm at *
  go_wp2_with fail
  go_loopw [6] (fun vi wr=>∃ (k j:Nat) (L:LL) (x:Dl),x.a=bm∧k≤l.length∧vi=.int .i64 (k:Int)∧Hid (xh7 x L j k)∧Sat (SqL (Sx.at s c [] 60 0 j) L*(DLt x*F)) wr∧Io w wr) (fun vi _=>l.length - (RowKit.intOf vi).toNat)
  case atStart=>exact ⟨0,0,[],_,rfl,by omega,rfl,L_ ⟨dl_nil bm,by simp,by simp,by omega⟩,H6,J5⟩
  case round =>
   obtain ⟨k,j,L,x,rfl,hk,rfl,hd,Hk,Ik⟩:=hrel
   clear H6 J5
   by_cases hlt:k<l.length
   ·have zph:(k:Int)<(l.length:Int):=by omega
    have hk0:(0:Int)≤(k:Int):=by omega
    have hk1:(k:Int)≤200:=by omega
    have HKL:Hid (k+1≤l.length):=L_ (by omega)
    have HGN:Hid (Value.int IntKind.i64 ((k:Int)+1)=Value.int IntKind.i64 ((k+1:Nat):Int)):=L_ (by go_num)
    have HJ:Hid (j+1≤122):=L_ (by have:=hd.out.le;omega)
    have RM0:Hid (zcl c 60 0 j):=zp9 HC (by have:=HJ.out;omega)
    have RM1:Hid (zcl c 60 0 (j+1)):=zp9 HC HJ.out
    have HLN:Hid (L.flatten.length≤250):=L_ (by have:=hd.out.len;have:=HJ.out;omega)
    have HLB:Hid (L.length+1≤1000):=L_ (by have:=ne_len (xg8 Hk).1;have:=HLN.out;omega)
    have HLF:Hid (L.flatten.length≤1000):=L_ (by have:=HLN.out;omega)
    have OK:=L_ hd.out.ok
    have ND:=L_ hd.out.nd
    obtain ⟨b1,o1,x0,x1,x2,x3,x4,x5,rfl,hx,hc⟩:=HV.out k hlt
    obtain ⟨g0,g1,g2,g3,g4,g5⟩:=hc _ Hk.right.right
    have H2:=do_in (Hk.new (.cells #[.int .i64 x0,.int .i64 x1,.int .i64 x2,.int .i64 x3,.int .i64 x4,.int .i64 x5] 31))
    have I2:=io1 H2 Ik
    clear hc hx
    go_upto_region 12 with fail
    generalize wr.alloc _=w2 at *
    generalize wr.heap.size=bz at *
    clear g0 g1 g2 g3 g4 g5 Hk Ik
    obtain ⟨y0,y1,y2,y3,y4,y5⟩:=xgn H2
    by_cases r0:x0.tmod 10=0∨x0.tmod 10=1
    ·obtain ⟨e,L',hm⟩:∃ e L',Sq.zdl L (x1,x2)=(e,L'):=⟨_,_,rfl⟩
     have HM:=L_ hm
     clear hm
     rcases r0 with r0 | r0
     all_goals
      go_upto_region 15 with fail
      have Kd:=H2.drew
      have Jd:=I2.drew
      clear y0 y1 y2 y3 y4 y5 H2 I2
      refine rh Kd (fun W Kd=>xgn Kd) fun hHeld=>?_
      refine tk ?_ ?_ [0,1,2,4,5,6] ?_ hHeld ?_;rotate_left 2;exact tt
      refine rd [3] (rc fun K hK=>?_)
      go_simp
      go_at_call 13;(refine zew (k:=j) x1 x2 HM RM1 Kd ?_);intro w5 H5 I5
      refine hK.out _ _ (by exact xgn H5) fun hHeld=>?_
      clear hK K
      try simp only [sp]
      refine rd [7] (rc fun K hK=>?_)
      go_simp
      go_at_call 21;(refine xhc x1 x2 HM OK HLB (zai H5) ?_);intro x' w6 ha ok6 H6 I6
      refine hK.out _ _ (by exact xgn (zai H6)) fun hHeld=>?_
      clear hK K
      try simp only [sp]
      refine tk ?_ ?_ [8] ?_ hHeld ?_;rotate_left 2;exact tt
      refine wpAnyH_done (by kernel_rfl) ?_ _
      have K6:=zai H6
      have J6:=(Jd.trans I5).trans I6
      clear hHeld Kd Jd H5 I5 H6 I6
      have HD2:Hid (xh7 x' L' (j+1) (k+1)):=L_ ⟨ok6,(xg8 K6).2,(by have h:L'.flatten.length≤L.flatten.length+1:=(by have:=Sq.xa3 (L:=L) (k:=(x1,x2));rw [HM.out] at this;exact this);have:=hd.out.len;omega),by have:=hd.out.le;omega⟩
      have LN2:Hid (L'.flatten.length≤250):=L_ (by have:=HD2.out.len;have:=HJ.out;omega)
      have OK2:=L_ HD2.out.ok
      obtain ⟨y0,y1,y2,y3,y4,y5⟩:=xgn K6
      go_wp2_with (go_at_call 29;(with_reducible refine xgo x1 x2 x5 ha LN2 RM1 OK2 K6 ?_);intro w7 H7 I7)
      go_roundw
      case rel=>exact ⟨k+1,(j+1),L',x',ha,HKL.out,HGN.out,HD2,xg3 H7,J6.trans I7⟩
      case measure=>simp [RowKit.intOf];omega
    ·obtain ⟨r0,r1⟩:=not_or.1 r0
     by_cases r2:x0.tmod 10=2∨x0.tmod 10=3
     ·obtain ⟨e,L',hm⟩:∃ e L',Sq.zcw L (x1,x2) (x3,x4)=(e,L'):=⟨_,_,rfl⟩
      have HM:=L_ hm
      clear hm
      rcases r2 with r2 | r2
      all_goals
       go_upto_region 19 with fail
       have Kd:=H2.drew
       have Jd:=I2.drew
       clear y0 y1 y2 y3 y4 y5 H2 I2
       refine rh Kd (fun W Kd=>xgn Kd) fun hHeld=>?_
       refine tk ?_ ?_ [0,1,2,3,4,6,7,8,9,10] ?_ hHeld ?_;rotate_left 2;exact tt
       refine rd [5] (rc fun K hK=>?_)
       go_simp
       go_at_call 14;(refine zg6 (k:=j) x1 x2 x3 x4 HM HLN RM0 Kd ?_);intro w5 H5 I5
       refine hK.out _ _ (by exact xgn H5) fun hHeld=>?_
       clear hK K
       try simp only [sp]
       refine rd [11] (rc fun K hK=>?_)
       go_simp
       go_at_call 22;(refine xhd x1 x2 x3 x4 HM ND HLF OK (zai H5) ?_);intro x' w6 ha ok6 H6 I6
       refine hK.out _ _ (by exact xgn (zai H6)) fun hHeld=>?_
       clear hK K
       try simp only [sp]
       refine tk ?_ ?_ [12] ?_ hHeld ?_;rotate_left 2;exact tt
       refine wpAnyH_done (by kernel_rfl) ?_ _
       have K6:=zai H6
       have J6:=(Jd.trans I5).trans I6
       clear hHeld Kd Jd H5 I5 H6 I6
       have HD2:Hid (xh7 x' L' j (k+1)):=L_ ⟨ok6,(xg8 K6).2,(by have h:=(Sq.ztb (a:=(x1,x2)) (b:=(x3,x4)) ND.out).length_eq;rw [HM.out] at h;have:=hd.out.len;(try simp only at h);omega),by have:=hd.out.le;omega⟩
       have LN2:Hid (L'.flatten.length≤250):=L_ (by have:=HD2.out.len;have:=HJ.out;omega)
       have OK2:=L_ HD2.out.ok
       obtain ⟨y0,y1,y2,y3,y4,y5⟩:=xgn K6
       go_wp2_with (go_at_call 29;(with_reducible refine xgo x1 x2 x5 ha LN2 RM0 OK2 K6 ?_);intro w7 H7 I7)
       go_roundw
       case rel=>exact ⟨k+1,j,L',x',ha,HKL.out,HGN.out,HD2,xg3 H7,J6.trans I7⟩
       case measure=>simp [RowKit.intOf];omega
     ·obtain ⟨r2,r3⟩:=not_or.1 r2
      by_cases r4:x0.tmod 10=4
      ·obtain ⟨e,L',hm⟩:∃ e L',Sq.zdw L (x1,x2) 0=(e,L'):=⟨_,_,rfl⟩
       have HM:=L_ hm
       clear hm
       go_upto_region 22 with fail
       have Kd:=H2.drew
       have Jd:=I2.drew
       clear y0 y1 y2 y3 y4 y5 H2 I2
       refine rh Kd (fun W Kd=>xgn Kd) fun hHeld=>?_
       refine tk ?_ ?_ [0,1,2,4,5,6] ?_ hHeld ?_;rotate_left 2;exact tt
       refine rd [3] (rc fun K hK=>?_)
       go_simp
       go_at_call 15;(refine zqz (k:=j) x1 x2 HM HLN RM0 Kd ?_);intro w5 H5 I5
       refine hK.out _ _ (by exact xgn H5) fun hHeld=>?_
       clear hK K
       try simp only [sp]
       refine rd [7] (rc fun K hK=>?_)
       go_simp
       go_at_call 23;(refine xhg x1 x2 0 (L_ (by decide)) HM HLB OK (zai H5) ?_);intro x' w6 ha ok6 H6 I6
       refine hK.out _ _ (by exact xgn (zai H6)) fun hHeld=>?_
       clear hK K
       try simp only [sp]
       refine tk ?_ ?_ [8] ?_ hHeld ?_;rotate_left 2;exact tt
       refine wpAnyH_done (by kernel_rfl) ?_ _
       have K6:=zai H6
       have J6:=(Jd.trans I5).trans I6
       clear hHeld Kd Jd H5 I5 H6 I6
       have HD2:Hid (xh7 x' L' j (k+1)):=L_ ⟨ok6,(xg8 K6).2,(by have h:=(Sq.zjc (L:=L) (k:=(x1,x2)) (n:=0)).length_eq;rw [HM.out] at h;have:=hd.out.len;(try simp only at h);omega),by have:=hd.out.le;omega⟩
       have LN2:Hid (L'.flatten.length≤250):=L_ (by have:=HD2.out.len;have:=HJ.out;omega)
       have OK2:=L_ HD2.out.ok
       obtain ⟨y0,y1,y2,y3,y4,y5⟩:=xgn K6
       go_wp2_with (go_at_call 29;(with_reducible refine xgo x1 x2 x5 ha LN2 RM0 OK2 K6 ?_);intro w7 H7 I7)
       go_roundw
       case rel=>exact ⟨k+1,j,L',x',ha,HKL.out,HGN.out,HD2,xg3 H7,J6.trans I7⟩
       case measure=>simp [RowKit.intOf];omega
      ·skip
       by_cases r5:x0.tmod 10=5
       ·obtain ⟨e,L',hm⟩:∃ e L',Sq.zdw L (x1,x2) 1=(e,L'):=⟨_,_,rfl⟩
        have HM:=L_ hm
        clear hm
        go_upto_region 25 with fail
        have Kd:=H2.drew
        have Jd:=I2.drew
        clear y0 y1 y2 y3 y4 y5 H2 I2
        refine rh Kd (fun W Kd=>xgn Kd) fun hHeld=>?_
        refine tk ?_ ?_ [0,1,2,4,5,6] ?_ hHeld ?_;rotate_left 2;exact tt
        refine rd [3] (rc fun K hK=>?_)
        go_simp
        go_at_call 24;(refine xaw (k:=j) x1 x2 HM HLN RM0 Kd ?_);intro w5 H5 I5
        refine hK.out _ _ (by exact xgn H5) fun hHeld=>?_
        clear hK K
        try simp only [sp]
        refine rd [7] (rc fun K hK=>?_)
        go_simp
        go_at_call 23;(refine xhg x1 x2 1 (L_ (by decide)) HM HLB OK (zai H5) ?_);intro x' w6 ha ok6 H6 I6
        refine hK.out _ _ (by exact xgn (zai H6)) fun hHeld=>?_
        clear hK K
        try simp only [sp]
        refine tk ?_ ?_ [8] ?_ hHeld ?_;rotate_left 2;exact tt
        refine wpAnyH_done (by kernel_rfl) ?_ _
        have K6:=zai H6
        have J6:=(Jd.trans I5).trans I6
        clear hHeld Kd Jd H5 I5 H6 I6
        have HD2:Hid (xh7 x' L' j (k+1)):=L_ ⟨ok6,(xg8 K6).2,(by have h:=(Sq.zjc (L:=L) (k:=(x1,x2)) (n:=1)).length_eq;rw [HM.out] at h;have:=hd.out.len;(try simp only at h);omega),by have:=hd.out.le;omega⟩
        have LN2:Hid (L'.flatten.length≤250):=L_ (by have:=HD2.out.len;have:=HJ.out;omega)
        have OK2:=L_ HD2.out.ok
        obtain ⟨y0,y1,y2,y3,y4,y5⟩:=xgn K6
        go_wp2_with (go_at_call 29;(with_reducible refine xgo x1 x2 x5 ha LN2 RM0 OK2 K6 ?_);intro w7 H7 I7)
        go_roundw
        case rel=>exact ⟨k+1,j,L',x',ha,HKL.out,HGN.out,HD2,xg3 H7,J6.trans I7⟩
        case measure=>simp [RowKit.intOf];omega
       ·skip
        by_cases r6:x0.tmod 10=6
        ·obtain ⟨e,L',hm⟩:∃ e L',Sq.zft L (x1,x2)=(e,L'):=⟨_,_,rfl⟩
         have HM:=L_ hm
         clear hm
         go_upto_region 28 with fail
         have Kd:=H2.drew
         have Jd:=I2.drew
         clear y0 y1 y2 y3 y4 y5 H2 I2
         refine rh Kd (fun W Kd=>xgn Kd) fun hHeld=>?_
         refine tk ?_ ?_ [0,1,2,4,5,6] ?_ hHeld ?_;rotate_left 2;exact tt
         refine rd [3] (rc fun K hK=>?_)
         go_simp
         go_at_call 25;(refine ztq (k:=j) x1 x2 HM RM0 Kd ?_);intro w5 H5 I5
         refine hK.out _ _ (by exact xgn H5) fun hHeld=>?_
         clear hK K
         try simp only [sp]
         refine rd [7] (rc fun K hK=>?_)
         go_simp
         go_at_call 26;(refine xhj x1 x2 HM OK (zai H5) ?_);intro x' w6 ha ok6 H6 I6
         refine hK.out _ _ (by exact xgn (zai H6)) fun hHeld=>?_
         clear hK K
         try simp only [sp]
         refine tk ?_ ?_ [8] ?_ hHeld ?_;rotate_left 2;exact tt
         refine wpAnyH_done (by kernel_rfl) ?_ _
         have K6:=zai H6
         have J6:=(Jd.trans I5).trans I6
         clear hHeld Kd Jd H5 I5 H6 I6
         have HD2:Hid (xh7 x' L' j (k+1)):=L_ ⟨ok6,(xg8 K6).2,(by have h:=Sq.xhv (L:=L) (k:=(x1,x2));rw [HM.out] at h;have:=hd.out.len;(try simp only at h);omega),by have:=hd.out.le;omega⟩
         have LN2:Hid (L'.flatten.length≤250):=L_ (by have:=HD2.out.len;have:=HJ.out;omega)
         have OK2:=L_ HD2.out.ok
         obtain ⟨y0,y1,y2,y3,y4,y5⟩:=xgn K6
         go_wp2_with (go_at_call 29;(with_reducible refine xgo x1 x2 x5 ha LN2 RM0 OK2 K6 ?_);intro w7 H7 I7)
         go_roundw
         case rel=>exact ⟨k+1,j,L',x',ha,HKL.out,HGN.out,HD2,xg3 H7,J6.trans I7⟩
         case measure=>simp [RowKit.intOf];omega
        ·skip
         by_cases r7:x0.tmod 10=7
         ·obtain ⟨d,e,hm⟩:∃ d e,Sq.two L (x1,x2) (x3,x4)=(d,e):=⟨_,_,rfl⟩
          have HM:=L_ hm
          clear hm
          have HD2:Hid (xh7 x L j (k+1)):=L_ ⟨hd.out.ok,hd.out.nd,hd.out.len,by have:=hd.out.le;omega⟩
          go_upto_region 32 with (go_at_call 27;(with_reducible refine xif (k:=j) x1 x2 x3 x4 HM HLN RM0 H2 ?_);intro w5 H5 I5)
          have J5:=I2.trans I5
          clear y0 y1 y2 y3 y4 y5 H2 I2 I5
          obtain ⟨y0,y1,y2,y3,y4,y5⟩:=xgn H5
          go_upto_region 33 with (go_at_call 28;(with_reducible refine xg0 x1 x2 x3 x4 HM OK (zai H5) ?_);intro w6 H6 I6)
          have K6:=zai H6
          have J6:=J5.trans I6
          clear y0 y1 y2 y3 y4 y5 H5 H6 J5 I6
          obtain ⟨y0,y1,y2,y3,y4,y5⟩:=xgn K6
          cases d
          all_goals
           go_wp2_with (go_at_call 29;(with_reducible refine xgo x1 x2 x5 rfl HLN RM0 OK K6 ?_);intro w7 H7 I7)
           go_roundw
           case rel=>exact ⟨k+1,j,L,x,rfl,HKL.out,HGN.out,HD2,xg3 H7,J6.trans I7⟩
           case measure=>simp [RowKit.intOf];omega
         ·have HD2:Hid (xh7 x L j (k+1)):=L_ ⟨hd.out.ok,hd.out.nd,hd.out.len,by have:=hd.out.le;omega⟩
          go_wp2_with (go_at_call 29;(with_reducible refine xgo x1 x2 x5 rfl HLN RM0 OK H2 ?_);intro w7 H7 I7)
          go_roundw
          case rel=>exact ⟨k+1,j,L,x,rfl,HKL.out,HGN.out,HD2,xg3 H7,I2.trans I7⟩
          case measure=>simp [RowKit.intOf];omega
   ·obtain rfl:k=l.length:=by omega
    have hge:¬ (l.length:Int)<(l.length:Int):=by omega
    have OK:=L_ hd.out.ok
    have HLN:Hid (L.flatten.length≤250):=L_ (by have:=hd.out.len;have:=hd.out.le;have:=HL.out;omega)
    have RM0:Hid (zcl c 60 0 j):=zp9 HC (by have:=hd.out.le;have:=HL.out;omega)
    obtain ⟨va,vc,hv⟩:=xg1 Hk.right
    have HVA:=L_ hv
    obtain ⟨sn,hsn⟩:∃ sn,sn=x.ss.length:=⟨_,rfl⟩
    have HSN:=L_ hsn
    have hb:(sn:Int)≤1000:=by have:=OK.out.big.1;have:=OK.out.len;omega
    rw [←hsn] at hv
    have HV2:=L_ hv
    clear HV hsn hv
    go_wp2_with fail
    go_loopw [13,14] (fun xi xj wr=>∃ (i:Nat),i≤sn∧xi=.int .i64 (i:Int)∧Sat (SqL (Sx.at s c [] 60 0 j) L*(DLt x*F)) wr∧Io w wr) (fun xi _ _=>2000 - (RowKit.intOf xi).toNat)
    case atStart=>exact ⟨0,by omega,rfl,Hk,Ik⟩
    case round =>
     obtain ⟨i,hi,rfl,Hp,Ip⟩:=hrel
     clear Hk Ik hge
     have hi0:(0:Int)≤(i:Int):=by omega
     have hi1:(i:Int)≤1000:=by omega
     obtain ⟨y0,-⟩:=xgm Hp.right
     rw [HV2.out] at y0
     by_cases hlt:(i:Int)<(sn:Int)
     ·have h1:i<x.ss.length:=by have:=HSN.out;omega
      have h2:i<L.length:=by have:=OK.out.len;omega
      obtain ⟨sa,sc,hs⟩:=xhs OK.out i h1 h2
      obtain ⟨g,c0,hg⟩:=xgv Hp.right (by omega)
      rw [HVA.out] at hg
      cases hg
      obtain ⟨ln,hln⟩:∃ ln,ln=L[i].length:=⟨_,rfl⟩
      have hlb:(ln:Int)≤1000:=by have:=OK.out.big.2 _ (List.getElem_mem h2);omega
      have HS:Hid (x.ss[i]=(sa,ln,sc)):=L_ (by rw [hs,hln])
      have HLI:=L_ hln
      have HKI:Hid (i+1≤sn):=L_ (by omega)
      have HGI:Hid (Value.int IntKind.i64 ((i:Int)+1)=Value.int IntKind.i64 ((i+1:Nat):Int)):=L_ (by go_num)
      have HI1:=L_ h1
      have HI2:=L_ h2
      clear hs hln
      go_wp2_with fail
      go_loopw [14] (fun xj wq=>∃ (m:Nat),m≤ln∧xj=.int .i64 (m:Int)∧Sat (SqL (Sx.at s c [] 60 0 j) L*(DLt x*F)) wq∧Io w wq) (fun xj _=>2000 - (RowKit.intOf xj).toNat)
      case atStart=>exact ⟨0,by omega,rfl,Hp,Ip⟩
      case round =>
       obtain ⟨m,hm,rfl,Hq,Iq⟩:=hrel
       clear Hp Ip y0
       have hm0:(0:Int)≤(m:Int):=by omega
       have hm1:(m:Int)≤1000:=by omega
       obtain ⟨y0,-⟩:=xgm Hq.right
       rw [HV2.out] at y0
       have z0:_:=xgz (n:=sn) (c:=vc) HV2.out Hq.right i HI1.out
       rw [HS.out] at z0
       dsimp only [slv] at z0
       by_cases hml:(m:Int)<(ln:Int)
       ·by_cases h40:(m:Int)<40
        ·have hmn : m < (L[i]'HI2.out).length := by have := HLI.out; omega
         obtain ⟨b1,off,c1,z1,z2,e,h3,h4⟩:=xh3 OK.out i HI1.out HI2.out m hmn
         rw [HS.out] at e
         simp only [Prod.mk.injEq] at e
         obtain ⟨rfl,-,rfl⟩:=e
         obtain ⟨c0',c1'⟩:=h4 _ _ Hq.right
         have HKM:Hid (m+1≤ln):=L_ (by omega)
         have HGM:Hid (Value.int IntKind.i64 ((m:Int)+1)=Value.int IntKind.i64 ((m+1:Nat):Int)):=L_ (by go_num)
         clear h3 h4 hmn
         go_wp2_with (go_at_call 29;(with_reducible refine xgo z1 z2 (m:Int) rfl HLN RM0 OK Hq ?_);intro w7 H7 I7)
         go_roundw
         case rel=>exact ⟨m+1,HKM.out,HGM.out,H7,Iq.trans I7⟩
         case measure=>simp [RowKit.intOf];omega
        ·go_wp2_with fail
         go_roundw
         case rel=>exact ⟨i+1,HKI.out,HGI.out,Hq,Iq⟩
         case measure=>simp [RowKit.intOf];omega
       ·go_wp2_with fail
        go_roundw
        case rel=>exact ⟨i+1,HKI.out,HGI.out,Hq,Iq⟩
        case measure=>simp [RowKit.intOf];omega
     ·have FIN:=L_ (HH.out _ Hp.right.right Ip)
      go_wp2_with fail
      exact FIN.out
end
end Go.Proofs.YtfknjmoekbabcaaGreatDoor
