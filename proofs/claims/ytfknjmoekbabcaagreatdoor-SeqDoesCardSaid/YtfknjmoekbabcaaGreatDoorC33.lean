/-
  A part of a proof. It proves no statement by itself.
-/
import Derived.Test.YtfknjmoekbabcaaGreatDoorC31
import Derived.Test.YtfknjmoekbabcaaGreatDoorC32
import Derived.Deep.CutRange
set_option linter.unusedSimpArgs false
set_option linter.unusedVariables false
set_option linter.unusedSectionVars false
set_option maxRecDepth 100000
set_option maxHeartbeats 64000000
namespace Go.Proofs.YtfknjmoekbabcaaGreatDoor
open Go.RowKit Go.Lib
open Sq (Tk Nd Mp zca InT)
section
variable {x:Sx} {M:Mp} {F:Asn} {w:World} {R:Ending→World→Prop}
theorem zt5 {m:Option Mp} {A:Asn} (H:Sat (A*(zav (x.grow 0) m*F)) w):Sat (A*(zav x m*F)) w:=by
 have e:x.grow 0=x:=by cases x;simp [Sx.grow]
 rw [e] at H
 exact H
theorem xfn {A B C D:Asn} (H:Sat (A*(B*(C*(D*F)))) w):Sat (D*(A*(B*(C*F)))) w:=H.of_eq (by ac_rfl)
theorem zt4 {N A B C D:Asn} (H:Sat (A*(N*(D*(B*(C*F))))) w):Sat (D*F) w:=(H.of_eq (show _=(A*(N*(B*C)))*(D*F) from by ac_rfl)).right
theorem zt3 {N A B C D:Asn} (H:Sat (N*(D*(A*(B*(C*F))))) w):Sat (A*(N*(D*(B*(C*F))))) w:=H.of_eq (by ac_rfl)
theorem z5d {N:Asn} {b:Nat} {t:TypeId} {y0 y1 y2 y3 y4 y5 y6 y7:Value} (x0 x1:Value) (H:Sat (pts b (.cells #[y0,y1,y2,y3,y4,y5,y6,y7] t (0,0))*F) w) :
  Sat (pts b (.cells #[x0,x1,y2,y3,y4,y5,y6,y7] t (0,0))*F) ((w.setCell ⟨b,0,none⟩ x0).setCell ⟨b,1,none⟩ x1):=(H.cell 0 x0).cell 1 x1
theorem z2c {m:Option Mp} (v1 v2:Int) (H:Sat (zav x m*F) w) (h:∀ w',Sat (zav x m*F) w'→Io w w'→R (.returned (ndA 0 0 0 0 0 0 0 0)) w') :
  Calls Tryz.prog 78 #[.pointer (some ⟨x.s,0,none⟩),tkA 4294967295 4294967295,tkA v1 v2] w R:=by
 have HH:=L_ h
 have H1:=xfn (((H.new (.cells #[.int .i64 4294967295,.int .i64 4294967295] 29)).new (.cells #[.int .i64 v1,.int .i64 v2] 29)).new (.cells #[.int .i64 0,.int .i64 0,.int .i64 0,.int .i64 0,.int .i64 0,.int .i64 0,.int .i64 0,.int .i64 0] 85))
 have I1:=io3 H1 (Io.refl w)
 simp only [World.size_alloc,Nat.add_assoc,Nat.reduceAdd] at H1
 clear h H
 go_enter Tryz.func78,Tryz.ntmps78
 go_upto_region 1 with fail
 generalize ((w.alloc _).alloc _).alloc _=w1 at *
 generalize w.heap.size=bx at *
 obtain ⟨y0,y1⟩:=tk2 H1.right.right.right
 go_upto_region 2 with (go_at_call 58;(with_reducible refine zqd H1 ?_);intro w2 H2 I2;have K2:=H2.new (.cells #[.int .i64 0,.int .i64 0,.int .i64 0,.int .i64 0,.int .i64 0,.int .i64 0,.int .i64 0,.int .i64 0] 85);have J2:=(I1.trans I2).alloc (.cells #[.int .i64 0,.int .i64 0,.int .i64 0,.int .i64 0,.int .i64 0,.int .i64 0,.int .i64 0,.int .i64 0] 85))
 clear y0 y1 H1 I1 H2 I2
 generalize w2.alloc _=w3 at *
 generalize w2.heap.size=bn at *
 have Kd:=K2.drew
 have Jd:=J2.drew
 clear K2 J2
 have EQ:=fun W=>zds 4294967295 4294967295 4294967295 4294967295 W
 simp only [decide_true,Bool.not_true] at EQ
 have S0:=And.intro (tk2 Kd.right.right.right.right) (And.intro (tk2 Kd.right.right.right) (And.intro (nd8 Kd).1 (nd8 Kd).2.1))
 refine rh Kd (fun W Kd=>And.intro (tk2 Kd.right.right.right.right) (And.intro (tk2 Kd.right.right.right) (And.intro (nd8 Kd).1 (nd8 Kd).2.1))) fun hHeld=>?_
 refine tk ?_ ?_ [0] ?_ hHeld ?_;rotate_left 2;exact tt
 refine rd [1] (rc fun K hK=>?_)
 go_simp
 go_at_call 46;(with_reducible refine zan Kd ?_);intro w4 H4 I4;have S1:=And.intro (tk2 H4.right.right.right.right) (And.intro (tk2 H4.right.right.right) (And.intro (nd8 H4).1 (nd8 H4).2.1))
 refine hK.out _ _ (by exact S1) fun hHeld=>?_
 clear hK K
 try simp only [sp]
 refine tk ?_ ?_ [2,3,4,5,6,7,8] ?_ hHeld ?_;rotate_left 2;exact tt
 refine wpAnyH_done (by kernel_rfl) ?_ _
 have KR:=zt3 H4
 have FF:=zb0 KR
 obtain ⟨f0,f1,f2,f3,f4,f5,f6,f7⟩:=FF
 have QQ:=nd8 KR
 obtain ⟨q0,q1,q2,q3,q4,q5,q6,q7⟩:=QQ
 have NN:=nd8 KR.right
 obtain ⟨n0,n1,n2,n3,n4,n5,n6,n7⟩:=NN
 have KE:=zaz (.int .i64 0) (.int .i64 0) (.int .i64 0) (.int .i64 0) (.int .i64 0) (.int .i64 0) (.int .i64 0) (.int .i64 0) KR
 have JE:=zac (b:=bx+2) (.int .i64 0) (.int .i64 0) (.int .i64 0) (.int .i64 0) (.int .i64 0) (.int .i64 0) (.int .i64 0) (.int .i64 0) (Jd.trans I4)
 have ZZ:=nd8 KE
 obtain ⟨z0,z1,z2,z3,z4,z5,z6,z7⟩:=ZZ
 have FIN:=L_ (HH.out _ (zt4 KE) JE)
 go_wp2_with fail
 have hag:=Tryz.isAgg85
 have hsz:=Tryz.sizeOf85
 exact bodyPost_ret (v:=ndA (0) (0) (0) (0) (0) (0) (0) (0)) (by simp [results,Tryz.results78,go_sem,z0,z1,z2,z3,z4,z5,z6,z7]) rfl FIN.out
theorem zsn (k1 k2 v1 v2:Int) (hne:Hid ((k1,k2)≠Sq.nob)) (hx:Hid x.Ok) (H:Sat (zav x none*F) w) (h:∀ u1 u2 w',Sat (zav x none*F) w'→Io w w'→R (.returned (ndA u1 u2 0 0 0 0 0 0)) w') :
  Calls Tryz.prog 78 #[.pointer (some ⟨x.s,0,none⟩),tkA k1 k2,tkA v1 v2] w R:=by
 have HH:=L_ h
 have H1:=xfn (((H.new (.cells #[.int .i64 k1,.int .i64 k2] 29)).new (.cells #[.int .i64 v1,.int .i64 v2] 29)).new (.cells #[.int .i64 0,.int .i64 0,.int .i64 0,.int .i64 0,.int .i64 0,.int .i64 0,.int .i64 0,.int .i64 0] 85))
 have I1:=io3 H1 (Io.refl w)
 simp only [World.size_alloc,Nat.add_assoc,Nat.reduceAdd] at H1
 clear h H
 go_enter Tryz.func78,Tryz.ntmps78
 go_upto_region 1 with fail
 generalize ((w.alloc _).alloc _).alloc _=w1 at *
 generalize w.heap.size=bx at *
 obtain ⟨y0,y1⟩:=tk2 H1.right.right.right
 go_upto_region 2 with (go_at_call 58;(with_reducible refine zyd k1 k2 hne H1 ?_);intro w2 H2 I2;have K2:=H2.new (.cells #[.int .i64 0,.int .i64 0,.int .i64 0,.int .i64 0,.int .i64 0,.int .i64 0,.int .i64 0,.int .i64 0] 85);have J2:=(I1.trans I2).alloc (.cells #[.int .i64 0,.int .i64 0,.int .i64 0,.int .i64 0,.int .i64 0,.int .i64 0,.int .i64 0,.int .i64 0] 85))
 clear y0 y1 H1 I1 H2 I2
 generalize w2.alloc _=w3 at *
 generalize w2.heap.size=bn at *
 have Kd:=K2.drew
 have Jd:=J2.drew
 clear K2 J2
 have EQ:=fun W=>zds k1 k2 4294967295 4294967295 W
 rw [show decide ((k1,k2)=((4294967295:Int),(4294967295:Int)))=false from decide_eq_false hne.out] at EQ
 simp only [Bool.not_false] at EQ
 have EQ2:=fun W=>zds 0 0 v1 v2 W
 by_cases hu:((0:Int),(0:Int))=(v1,v2)
 ·rw [decide_eq_true hu] at EQ2
  simp only [Bool.not_true] at EQ2
  have S0:=And.intro (tk2 Kd.right.right.right.right) (And.intro (tk2 Kd.right.right.right) (And.intro (nd8 Kd).1 (nd8 Kd).2.1))
  refine rh Kd (fun W Kd=>And.intro (tk2 Kd.right.right.right.right) (And.intro (tk2 Kd.right.right.right) (And.intro (nd8 Kd).1 (nd8 Kd).2.1))) fun hHeld=>?_
  refine tk ?_ ?_ [0] ?_ hHeld ?_;rotate_left 2;exact tt
  refine rd [1] (rc fun K hK=>?_)
  go_simp
  go_at_call 46;(with_reducible refine zan Kd ?_);intro w4 H4 I4;have S1:=And.intro (tk2 H4.right.right.right.right) (And.intro (tk2 H4.right.right.right) (And.intro (nd8 H4).1 (nd8 H4).2.1))
  refine hK.out _ _ (by exact S1) fun hHeld=>?_
  clear hK K
  try simp only [sp]
  refine tk ?_ ?_ [2,3,4,5,6,7,8] ?_ hHeld ?_;rotate_left 2;exact tt
  refine wpAnyH_done (by kernel_rfl) ?_ _
  have KR:=zt3 H4
  have FF:=zb0 KR
  obtain ⟨f0,f1,f2,f3,f4,f5,f6,f7⟩:=FF
  have QQ:=nd8 KR
  obtain ⟨q0,q1,q2,q3,q4,q5,q6,q7⟩:=QQ
  have NN:=nd8 KR.right
  obtain ⟨n0,n1,n2,n3,n4,n5,n6,n7⟩:=NN
  have KE:=zaz (.int .i64 0) (.int .i64 0) (.int .i64 0) (.int .i64 0) (.int .i64 0) (.int .i64 0) (.int .i64 0) (.int .i64 0) KR
  have JE:=zac (b:=bx+2) (.int .i64 0) (.int .i64 0) (.int .i64 0) (.int .i64 0) (.int .i64 0) (.int .i64 0) (.int .i64 0) (.int .i64 0) (Jd.trans I4)
  have ZZ:=nd8 KE
  obtain ⟨z0,z1,z2,z3,z4,z5,z6,z7⟩:=ZZ
  have FIN:=L_ (HH.out 0 0 _ (zt4 KE) JE)
  go_wp2_with fail
  have hag:=Tryz.isAgg85
  have hsz:=Tryz.sizeOf85
  exact bodyPost_ret (v:=ndA (0) (0) (0) (0) (0) (0) (0) (0)) (by simp [results,Tryz.results78,go_sem,z0,z1,z2,z3,z4,z5,z6,z7]) rfl FIN.out
 ·rw [decide_eq_false hu] at EQ2
  simp only [Bool.not_false] at EQ2
  have HNO:Hid (∀ M0,(none:Option Mp)=some M0→Sq.OkT (k1,k2)∧Sq.OkN ⟨(v1,v2),(0,0),(0,0),0,0⟩∧((M0 (k1,k2)≠none∧(0:Nat)=0)∨(0:Nat)=40)):=L_ fun M0 h=>nomatch h
  have S0:=And.intro (tk2 Kd.right.right.right.right) (And.intro (tk2 Kd.right.right.right) (And.intro (nd8 Kd).1 (nd8 Kd).2.1))
  refine rh Kd (fun W Kd=>And.intro (tk2 Kd.right.right.right.right) (And.intro (tk2 Kd.right.right.right) (And.intro (nd8 Kd).1 (nd8 Kd).2.1))) fun hHeld=>?_
  refine tk ?_ ?_ [0] ?_ hHeld ?_;rotate_left 2;exact tt
  refine rd [1] (rc fun K hK=>?_)
  go_simp
  go_at_call 46;(with_reducible refine zan Kd ?_);intro w4 H4 I4;have S1:=And.intro (tk2 H4.right.right.right.right) (And.intro (tk2 H4.right.right.right) (And.intro (nd8 H4).1 (nd8 H4).2.1))
  refine hK.out _ _ (by exact S1) fun hHeld=>?_
  clear hK K
  try simp only [sp]
  refine tk ?_ ?_ [2,3,4,5,6,7,8] ?_ hHeld ?_;rotate_left 2;exact tt
  refine wpAnyH_done (by kernel_rfl) ?_ _
  obtain ⟨p0,p1⟩:=tk2 H4.right.right.right
  obtain ⟨g0,g1,-⟩:=zb0 H4
  obtain ⟨n0,n1,n2,n3,n4,n5,n6,n7⟩:=nd8 H4
  have K5:=z5d (N:=emp) (.int .i64 v1) (.int .i64 v2) H4
  have J5:=zay (b:=bn) (.int .i64 v1) (.int .i64 v2) (Jd.trans I4)
  go_upto_region 4 with fail
  clear p0 p1 g0 g1 n0 n1 n2 n3 n4 n5 n6 n7 H4 I4 Kd Jd
  generalize (w4.setCell ⟨bn,0,none⟩ (.int .i64 v1)).setCell ⟨bn,1,none⟩ (.int .i64 v2)=w5 at *
  obtain ⟨p0,p1⟩:=tk2 K5.right.right.right.right
  obtain ⟨n0,n1,n2,n3,n4,n5,n6,n7⟩:=nd8 K5
  go_upto_region 5 with (go_at_call 79;(with_reducible refine zln k1 k2 (v1) (v2) (0) (0) (0) (0) (0) (0) 0 HNO hx (zai K5) ?_);intro m6 w6 hm6 H6 I6;have K6:=zai H6)
  clear p0 p1 n0 n1 n2 n3 n4 n5 n6 n7
  obtain rfl:m6=none:=by
   cases m6 with
   | none=>rfl
   | some M'=>obtain ⟨M,h,_⟩:=hm6.out M' rfl;cases h
  have K7:=zt5 K6
  have KR:=zt3 K7
  have FF:=zb0 KR
  obtain ⟨f0,f1,f2,f3,f4,f5,f6,f7⟩:=FF
  have QQ:=nd8 KR
  obtain ⟨q0,q1,q2,q3,q4,q5,q6,q7⟩:=QQ
  have NN:=nd8 KR.right
  obtain ⟨n0,n1,n2,n3,n4,n5,n6,n7⟩:=NN
  have KE:=zaz (.int .i64 v1) (.int .i64 v2) (.int .i64 0) (.int .i64 0) (.int .i64 0) (.int .i64 0) (.int .i64 0) (.int .i64 0) KR
  have JE:=zac (b:=bx+2) (.int .i64 v1) (.int .i64 v2) (.int .i64 0) (.int .i64 0) (.int .i64 0) (.int .i64 0) (.int .i64 0) (.int .i64 0) (J5.trans I6)
  have ZZ:=nd8 KE
  obtain ⟨z0,z1,z2,z3,z4,z5,z6,z7⟩:=ZZ
  have FIN:=L_ (HH.out v1 v2 _ (zt4 KE) JE)
  go_wp2_with fail
  have hag:=Tryz.isAgg85
  have hsz:=Tryz.sizeOf85
  exact bodyPost_ret (v:=ndA (v1) (v2) (0) (0) (0) (0) (0) (0)) (by simp [results,Tryz.results78,go_sem,z0,z1,z2,z3,z4,z5,z6,z7]) rfl FIN.out
theorem zzz {M:Mp} (k1 k2 v1 v2:Int) {u1 u2 l1 l2 r1 r2 ct ht:Int} (hk:Hid (M (k1,k2)=some ⟨(u1,u2),(l1,l2),(r1,r2),ct,ht⟩)) (ok:Hid (Sq.OkT (k1,k2)∧Sq.OkN ⟨(v1,v2),(l1,l2),(r1,r2),ct,ht⟩)) (hx:Hid x.Ok) (H:Sat (zav x (some M)*F) w)
  (h:∀ m' w',Hid (∀ M',m'=some M'→M'=M∧(u1,u2)=(v1,v2)∨M'=Sq.upd M (k1,k2) ⟨(v1,v2),(l1,l2),(r1,r2),ct,ht⟩)→Sat (zav x m'*F) w'→Io w w'→R (.returned (ndA v1 v2 l1 l2 r1 r2 ct ht)) w') :
  Calls Tryz.prog 78 #[.pointer (some ⟨x.s,0,none⟩),tkA k1 k2,tkA v1 v2] w R:=by
 have hne:(k1,k2)≠Sq.nob:=ok.out.1.ne
 have HH:=L_ h
 have H1:=xfn (((H.new (.cells #[.int .i64 k1,.int .i64 k2] 29)).new (.cells #[.int .i64 v1,.int .i64 v2] 29)).new (.cells #[.int .i64 0,.int .i64 0,.int .i64 0,.int .i64 0,.int .i64 0,.int .i64 0,.int .i64 0,.int .i64 0] 85))
 have I1:=io3 H1 (Io.refl w)
 simp only [World.size_alloc,Nat.add_assoc,Nat.reduceAdd] at H1
 clear h H
 go_enter Tryz.func78,Tryz.ntmps78
 go_upto_region 1 with fail
 generalize ((w.alloc _).alloc _).alloc _=w1 at *
 generalize w.heap.size=bx at *
 obtain ⟨y0,y1⟩:=tk2 H1.right.right.right
 go_upto_region 2 with (go_at_call 58;(with_reducible refine zd2 k1 k2 hk hx H1 ?_);intro w2 H2 I2;have K2:=H2.new (.cells #[.int .i64 u1,.int .i64 u2,.int .i64 l1,.int .i64 l2,.int .i64 r1,.int .i64 r2,.int .i64 ct,.int .i64 ht] 85);have J2:=(I1.trans I2).alloc (.cells #[.int .i64 u1,.int .i64 u2,.int .i64 l1,.int .i64 l2,.int .i64 r1,.int .i64 r2,.int .i64 ct,.int .i64 ht] 85))
 clear y0 y1 H1 I1 H2 I2
 generalize w2.alloc _=w3 at *
 generalize w2.heap.size=bn at *
 have Kd:=K2.drew
 have Jd:=J2.drew
 clear K2 J2
 have EQ:=fun W=>zds k1 k2 4294967295 4294967295 W
 rw [show decide ((k1,k2)=((4294967295:Int),(4294967295:Int)))=false from decide_eq_false hne] at EQ
 simp only [Bool.not_false] at EQ
 have EQ2:=fun W=>zds u1 u2 v1 v2 W
 by_cases hu:((u1:Int),(u2:Int))=(v1,v2)
 ·rw [decide_eq_true hu] at EQ2
  simp only [Bool.not_true] at EQ2
  obtain ⟨rfl,rfl⟩:u1=v1∧u2=v2:=by rw [Prod.mk.injEq] at hu;exact hu
  have S0:=And.intro (tk2 Kd.right.right.right.right) (And.intro (tk2 Kd.right.right.right) (And.intro (nd8 Kd).1 (nd8 Kd).2.1))
  refine rh Kd (fun W Kd=>And.intro (tk2 Kd.right.right.right.right) (And.intro (tk2 Kd.right.right.right) (And.intro (nd8 Kd).1 (nd8 Kd).2.1))) fun hHeld=>?_
  refine tk ?_ ?_ [0] ?_ hHeld ?_;rotate_left 2;exact tt
  refine rd [1] (rc fun K hK=>?_)
  go_simp
  go_at_call 46;(with_reducible refine zan Kd ?_);intro w4 H4 I4;have S1:=And.intro (tk2 H4.right.right.right.right) (And.intro (tk2 H4.right.right.right) (And.intro (nd8 H4).1 (nd8 H4).2.1))
  refine hK.out _ _ (by exact S1) fun hHeld=>?_
  clear hK K
  try simp only [sp]
  refine tk ?_ ?_ [2,3,4,5,6,7,8] ?_ hHeld ?_;rotate_left 2;exact tt
  refine wpAnyH_done (by kernel_rfl) ?_ _
  have KR:=zt3 H4
  have FF:=zb0 KR
  obtain ⟨f0,f1,f2,f3,f4,f5,f6,f7⟩:=FF
  have QQ:=nd8 KR
  obtain ⟨q0,q1,q2,q3,q4,q5,q6,q7⟩:=QQ
  have NN:=nd8 KR.right
  obtain ⟨n0,n1,n2,n3,n4,n5,n6,n7⟩:=NN
  have KE:=zaz (.int .i64 u1) (.int .i64 u2) (.int .i64 l1) (.int .i64 l2) (.int .i64 r1) (.int .i64 r2) (.int .i64 ct) (.int .i64 ht) KR
  have JE:=zac (b:=bx+2) (.int .i64 u1) (.int .i64 u2) (.int .i64 l1) (.int .i64 l2) (.int .i64 r1) (.int .i64 r2) (.int .i64 ct) (.int .i64 ht) (Jd.trans I4)
  have ZZ:=nd8 KE
  obtain ⟨z0,z1,z2,z3,z4,z5,z6,z7⟩:=ZZ
  have FIN:=L_ (HH.out (some M) _ (L_ fun M' h=>.inl ⟨(Option.some.inj h).symm,rfl⟩) (zt4 KE) JE)
  go_wp2_with fail
  have hag:=Tryz.isAgg85
  have hsz:=Tryz.sizeOf85
  exact bodyPost_ret (v:=ndA (u1) (u2) (l1) (l2) (r1) (r2) (ct) (ht)) (by simp [results,Tryz.results78,go_sem,z0,z1,z2,z3,z4,z5,z6,z7]) rfl FIN.out
 ·rw [decide_eq_false hu] at EQ2
  simp only [Bool.not_false] at EQ2
  have HOK:Hid (∀ M0,some M=some M0→Sq.OkT (k1,k2)∧Sq.OkN ⟨(v1,v2),(l1,l2),(r1,r2),ct,ht⟩∧((M0 (k1,k2)≠none∧(0:Nat)=0)∨(0:Nat)=40)):=L_ fun M0 h=>by
   cases h
   exact ⟨ok.out.1,ok.out.2,.inl ⟨by rw [hk.out];simp,rfl⟩⟩
  have S0:=And.intro (tk2 Kd.right.right.right.right) (And.intro (tk2 Kd.right.right.right) (And.intro (nd8 Kd).1 (nd8 Kd).2.1))
  refine rh Kd (fun W Kd=>And.intro (tk2 Kd.right.right.right.right) (And.intro (tk2 Kd.right.right.right) (And.intro (nd8 Kd).1 (nd8 Kd).2.1))) fun hHeld=>?_
  refine tk ?_ ?_ [0] ?_ hHeld ?_;rotate_left 2;exact tt
  refine rd [1] (rc fun K hK=>?_)
  go_simp
  go_at_call 46;(with_reducible refine zan Kd ?_);intro w4 H4 I4;have S1:=And.intro (tk2 H4.right.right.right.right) (And.intro (tk2 H4.right.right.right) (And.intro (nd8 H4).1 (nd8 H4).2.1))
  refine hK.out _ _ (by exact S1) fun hHeld=>?_
  clear hK K
  try simp only [sp]
  refine tk ?_ ?_ [2,3,4,5,6,7,8] ?_ hHeld ?_;rotate_left 2;exact tt
  refine wpAnyH_done (by kernel_rfl) ?_ _
  obtain ⟨p0,p1⟩:=tk2 H4.right.right.right
  obtain ⟨g0,g1,-⟩:=zb0 H4
  obtain ⟨n0,n1,n2,n3,n4,n5,n6,n7⟩:=nd8 H4
  have K5:=z5d (N:=emp) (.int .i64 v1) (.int .i64 v2) H4
  have J5:=zay (b:=bn) (.int .i64 v1) (.int .i64 v2) (Jd.trans I4)
  go_upto_region 4 with fail
  clear p0 p1 g0 g1 n0 n1 n2 n3 n4 n5 n6 n7 H4 I4 Kd Jd
  generalize (w4.setCell ⟨bn,0,none⟩ (.int .i64 v1)).setCell ⟨bn,1,none⟩ (.int .i64 v2)=w5 at *
  obtain ⟨p0,p1⟩:=tk2 K5.right.right.right.right
  obtain ⟨n0,n1,n2,n3,n4,n5,n6,n7⟩:=nd8 K5
  go_upto_region 5 with (go_at_call 79;(with_reducible refine zln k1 k2 (v1) (v2) (l1) (l2) (r1) (r2) (ct) (ht) 0 HOK hx (zai K5) ?_);intro m6 w6 hm6 H6 I6;have K6:=zai H6)
  clear p0 p1 n0 n1 n2 n3 n4 n5 n6 n7
  have K7:=zt5 K6
  have KR:=zt3 K7
  have FF:=zb0 KR
  obtain ⟨f0,f1,f2,f3,f4,f5,f6,f7⟩:=FF
  have QQ:=nd8 KR
  obtain ⟨q0,q1,q2,q3,q4,q5,q6,q7⟩:=QQ
  have NN:=nd8 KR.right
  obtain ⟨n0,n1,n2,n3,n4,n5,n6,n7⟩:=NN
  have KE:=zaz (.int .i64 v1) (.int .i64 v2) (.int .i64 l1) (.int .i64 l2) (.int .i64 r1) (.int .i64 r2) (.int .i64 ct) (.int .i64 ht) KR
  have JE:=zac (b:=bx+2) (.int .i64 v1) (.int .i64 v2) (.int .i64 l1) (.int .i64 l2) (.int .i64 r1) (.int .i64 r2) (.int .i64 ct) (.int .i64 ht) (J5.trans I6)
  have ZZ:=nd8 KE
  obtain ⟨z0,z1,z2,z3,z4,z5,z6,z7⟩:=ZZ
  have FIN:=L_ (HH.out m6 _ (L_ fun M' h=>.inr (by obtain ⟨M0,h0,h1⟩:=hm6.out M' h;cases h0;exact h1)) (zt4 KE) JE)
  go_wp2_with fail
  have hag:=Tryz.isAgg85
  have hsz:=Tryz.sizeOf85
  exact bodyPost_ret (v:=ndA (v1) (v2) (l1) (l2) (r1) (r2) (ct) (ht)) (by simp [results,Tryz.results78,go_sem,z0,z1,z2,z3,z4,z5,z6,z7]) rfl FIN.out
end
namespace Sq
theorem zp7 {t:T} (h:∀ y∈t.toks,OkT y):InT t.top:=by
 by_cases e:t=.nil
 ·subst e;exact zwv
 ·exact (h _ (T.zeo e)).inT
theorem nod_ok {l r:T} {u:Tk} (hl:∀ y∈l.toks,OkT y) (hr:∀ y∈r.toks,OkT y) (hu:InT u) (hc:l.cnt+r.cnt+1≤255):OkN (nod l r u) where
 up:=hu
 left:=zp7 hl
 right:=zp7 hr
 count:=by unfold nod zca;simp only;omega
 height:=by
  have:=l.zec
  have:=r.zec
  unfold nod
  simp only
  omega
end Sq
section
variable {x:Sx} {M:Mp} {F:Asn} {w:World} {R:Ending→World→Prop}
theorem zbr {m:Option Mp} (t:Sq.T) (k1 k2 v1 v2:Int) (hk:Hid ((k1,k2)=t.top)) (hv:Hid (InT (v1,v2))) (hh:Hid (∀ M,m=some M→∃ u,Sq.zc8 M t u)) (ok:Hid ((∀ y∈t.toks,Sq.OkT y)∧t.cnt≤255)) (hx:Hid x.Ok) (H:Sat (zav x m*F) w)
  (h:∀ m' u1 u2 l1 l2 r1 r2 ct ht w',Hid ((∀ M',m'=some M'→∃ M,m=some M∧M'=Sq.zxa M t (v1,v2))∧((ct=(t.cnt:Int)∧ht=(t.ht:Int))∨(m'=none∧ct=0∧ht=0)))→Sat (zav x m'*F) w'→Io w w'→R (.returned (ndA u1 u2 l1 l2 r1 r2 ct ht)) w') :
  Calls Tryz.prog 78 #[.pointer (some ⟨x.s,0,none⟩),tkA k1 k2,tkA v1 v2] w R:=by
 cases t with
 | nil =>
  have e:=hk.out
  unfold Sq.T.top Sq.nob at e
  rw [Prod.mk.injEq] at e
  obtain ⟨rfl,rfl⟩:=e
  exact z2c v1 v2 H fun w' H' I=>h m 0 0 0 0 0 0 0 0 w' (L_ ⟨fun M' hM=>⟨M',hM,rfl⟩,.inl ⟨rfl,rfl⟩⟩) H' I
 | node l k r =>
  obtain ⟨okt,hc⟩:=ok.out
  have okl:∀ y∈l.toks,Sq.OkT y:=fun y hy=>okt y (by simp [Sq.T.toks,hy])
  have okr:∀ y∈r.toks,Sq.OkT y:=fun y hy=>okt y (by simp [Sq.T.toks,hy])
  have okk:Sq.OkT (k1,k2):=by rw [hk.out];exact okt k (by simp [Sq.T.toks])
  cases m with
  | none=>exact zsn k1 k2 v1 v2 (L_ okk.ne) hx H fun u1 u2 w' H' I=>h none u1 u2 0 0 0 0 0 0 w' (L_ ⟨(fun M' h=>nomatch h),.inr ⟨rfl,rfl,rfl⟩⟩) H' I
  | some M =>
   obtain ⟨u,hu⟩:=hh.out M rfl
   have e1:M (k1,k2)=some (Sq.nod l r u):=by rw [hk.out];exact hu.1
   have okn:Sq.OkN (Sq.nod l r (v1,v2)):=Sq.nod_ok okl okr hv.out (by simpa [Sq.T.cnt] using hc)
   refine zzz (u1:=u.1) (u2:=u.2) (l1:=l.top.1) (l2:=l.top.2) (r1:=r.top.1) (r2:=r.top.2) (ct:=((l.cnt+r.cnt+1:Nat):Int)) (ht:=((max l.ht r.ht+1:Nat):Int)) k1 k2 v1 v2 (L_ e1) (L_ ⟨okk,okn⟩) hx H fun m' w' hm H' I=>h m' _ _ _ _ _ _ _ _ w' (L_ ⟨fun M' h=>⟨M,rfl,?_⟩,.inl ⟨rfl,rfl⟩⟩) H' I
   rcases hm.out M' h with ⟨rfl,e⟩ | rfl
   ·have e':u=(v1,v2):=e
    subst e'
    exact (Sq.z0r hu).symm
   ·rw [hk.out]
    rfl
theorem fr2 {A B C:Asn} (H:Sat (A*(B*(C*F))) w):Sat (C*(A*(B*F))) w:=H.of_eq (by ac_rfl)
theorem bk2 {A B C:Asn} (H:Sat (C*(A*(B*F))) w):Sat (A*(B*(C*F))) w:=H.of_eq (by ac_rfl)
theorem z2f {A B C D E:Asn} (H:Sat (A*(B*(C*(D*(E*F))))) w):Sat (E*(A*(B*(C*(D*F))))) w:=H.of_eq (by ac_rfl)
theorem zaa {A:Asn} {b0 b1 b2 b3:Nat} {t0 t1 t2 t3:TypeId} {x0 x1 x2 x3 x4 x5 x6 x7:Value} (H:Sat (A*(pts b3 (.cells #[x6,x7] t3 (0,0))*(pts b2 (.cells #[x4,x5] t2 (0,0))*(pts b1 (.cells #[x2,x3] t1 (0,0))*(pts b0 (.cells #[x0,x1] t0 (0,0))*F))))) w) :
  (w.cell? ⟨b0,0,none⟩=some x0∧w.cell? ⟨b0,1,none⟩=some x1)∧(w.cell? ⟨b1,0,none⟩=some x2∧w.cell? ⟨b1,1,none⟩=some x3)∧(w.cell? ⟨b2,0,none⟩=some x4∧w.cell? ⟨b2,1,none⟩=some x5) :=
 ⟨tk2 H.right.right.right.right,tk2 H.right.right.right,tk2 H.right.right⟩
def zkr (m:Option Mp) (l r:Sq.T) (k:Tk) (d:Nat):Prop:=∀ M,m=some M→(∃ u,Sq.zc8 M l u)∧(∃ u,Sq.zc8 M r u)∧((M k≠none∧d=0)∨d=40)
structure zkf (l r:Sq.T) (k:Tk):Prop where
 nodup:(l.toks++k::r.toks).Nodup
 ok:∀ y∈l.toks++k::r.toks,Sq.OkT y
 cnt:l.cnt+r.cnt+1≤255
def Made (m m':Option Mp) (l r:Sq.T) (k:Tk) (t:Sq.T):Prop:=∀ M',m'=some M'→∃ M,m=some M∧Sq.zc8 M' t Sq.nob∧∀ y,y∉l.toks++k::r.toks→M' y=M y
theorem xel {l r:Sq.T} {k:Tk} (h:zkf l r k):(∀ y∈l.toks,Sq.OkT y)∧l.cnt≤255:=⟨fun y hy=>h.ok y (by simp [hy]),by have:=h.cnt;omega⟩
theorem xek {l r:Sq.T} {k:Tk} (h:zkf l r k):(∀ y∈r.toks,Sq.OkT y)∧r.cnt≤255:=⟨fun y hy=>h.ok y (by simp [hy]),by have:=h.cnt;omega⟩
theorem z2e {l r:Sq.T} {k:Tk} (h:zkf l r k):Sq.OkT k:=h.ok k (by simp)
theorem z2g {m:Option Mp} {l r:Sq.T} {k:Tk} {d:Nat} (h:zkf l r k) (p:zkr m l r k d):∀ M,m=some M→∃ u,Sq.zc8 M l u:=fun M hM=>(p M hM).1
theorem zye {l r:Sq.T} {k:Tk} (h:zkf l r k):(l.toks.Nodup∧r.toks.Nodup)∧(∀ y∈l.toks,y∉r.toks)∧k∉l.toks∧k∉r.toks:=by
 obtain ⟨h1,h2,h3⟩:=List.nodup_append.1 h.nodup
 obtain ⟨h4,h5⟩:=List.nodup_cons.1 h2
 exact ⟨⟨h1,h5⟩,fun y hy hr=>h3 y hy y (by simp [hr]) rfl,fun hl=>h3 k hl k (by simp) rfl,h4⟩
abbrev Hung (m m':Option Mp) (t:Sq.T) (v:Tk):Prop:=∀ M',m'=some M'→∃ M,m=some M∧M'=Sq.zxa M t v
theorem zgz {m m1:Option Mp} {l r:Sq.T} {k:Tk} {d:Nat} (h:zkf l r k) (p:zkr m l r k d) (h1:Hung m m1 l k):∀ M,m1=some M→∃ u,Sq.zc8 M r u:=fun M1 hM=>by
 obtain ⟨M,rfl,rfl⟩:=h1 M1 hM
 obtain ⟨u,hu⟩:=(p M rfl).2.1
 obtain ⟨_,n2,_,_⟩:=zye h
 exact ⟨u,hu.congr fun y hy=>Sq.ze9 fun hl=>n2 y hl hy⟩
def zzg (m m2:Option Mp) (l r:Sq.T) (k:Tk) (c1 h1 c2 h2:Int):Prop :=
 (∀ M2,m2=some M2→∃ M,m=some M∧Sq.zc8 M2 l k∧Sq.zc8 M2 r k∧(∀ y,y∉l.toks→y∉r.toks→M2 y=M y)∧c1=(l.cnt:Int)∧h1=(l.ht:Int)∧c2=(r.cnt:Int)∧h2=(r.ht:Int))∧(0≤c1∧c1≤255∧0≤c2∧c2≤255∧0≤h1∧h1≤255∧0≤h2∧h2≤255)
theorem set_mid {m m1 m2:Option Mp} {l r:Sq.T} {k:Tk} {d:Nat} {c1 h1 c2 h2:Int} (h:zkf l r k) (p:zkr m l r k d) (a1:Hung m m1 l k∧((c1=(l.cnt:Int)∧h1=(l.ht:Int))∨(m1=none∧c1=0∧h1=0))) (a2:Hung m1 m2 r k∧((c2=(r.cnt:Int)∧h2=(r.ht:Int))∨(m2=none∧c2=0∧h2=0))):zzg m m2 l r k c1 h1 c2 h2:=by
 obtain ⟨b1,n1⟩:=a1
 obtain ⟨b2,n2⟩:=a2
 have q1:=l.zec
 have q2:=r.zec
 have q3:=h.cnt
 constructor
 ·intro M2 hM2
  obtain ⟨M1,e1,rfl⟩:=b2 M2 hM2
  obtain ⟨M,e0,rfl⟩:=b1 M1 e1
  obtain ⟨⟨u,hu⟩,⟨v,hv⟩,_⟩:=p M e0
  obtain ⟨⟨d1,d2⟩,d3,d4,d5⟩:=zye h
  refine ⟨M,e0,?_,?_,?_,?_⟩
  ·exact (Sq.zh5 hu d1).congr fun y hy=>Sq.ze9 fun hr=>d3 y hy hr
  ·exact Sq.zh5 (hv.congr fun y hy=>Sq.ze9 fun hl=>d3 y hl hy) d2
  ·intro y y1 y2
   rw [Sq.ze9 y2,Sq.ze9 y1]
  ·rcases n1 with ⟨rfl,rfl⟩ | ⟨e,_⟩
   ·rcases n2 with ⟨rfl,rfl⟩ | ⟨e,_⟩
    ·exact ⟨rfl,rfl,rfl,rfl⟩
    ·rw [e] at hM2;cases hM2
   ·rw [e] at e1;cases e1
 ·rcases n1 with ⟨rfl,rfl⟩ | ⟨_,rfl,rfl⟩<;>rcases n2 with ⟨rfl,rfl⟩ | ⟨_,rfl,rfl⟩<;>omega
theorem xej {m m2:Option Mp} {l r:Sq.T} {k1 k2 l1 l2 r1 r2:Int} {d:Nat} {c1 h1 c2 h2:Int} (il:InT (l1,l2)) (ir:InT (r1,r2)) (h:zkf l r (k1,k2)) (p:zkr m l r (k1,k2) d) (q:zzg m m2 l r (k1,k2) c1 h1 c2 h2) :
  ∀ M,m2=some M→Sq.OkT (k1,k2)∧Sq.OkN ⟨(4294967295,4294967295),(l1,l2),(r1,r2),c1+c2+1,max h1 h2+1⟩∧((M (k1,k2)≠none∧d=0)∨d=40):=by
 intro M2 hM
 obtain ⟨M,e,_,_,fr,q1,q2,q3,q4⟩:=q.1 M2 hM
 obtain ⟨_,_,n1,n2⟩:=zye h
 have a1:=l.zec
 have a2:=r.zec
 have a3:=h.cnt
 refine ⟨z2e h,⟨Sq.zwv,il,ir,?_,?_⟩,?_⟩
 ·unfold zca;simp only;omega
 ·simp only;omega
 ·rw [fr _ n1 n2]
  exact (p M e).2.2
theorem zyf {m m2 m3:Option Mp} {l r:Sq.T} {k1 k2 l1 l2 r1 r2:Int} {d:Nat} {c1 h1 c2 h2:Int} (h:zkf l r (k1,k2)) (p:zkr m l r (k1,k2) d) (q:zzg m m2 l r (k1,k2) c1 h1 c2 h2)
  (e:∀ M',m3=some M'→∃ M,m2=some M∧M'=Sq.upd M (k1,k2) ⟨(4294967295,4294967295),(l1,l2),(r1,r2),c1+c2+1,max h1 h2+1⟩) (el:(l1,l2)=l.top) (er:(r1,r2)=r.top):Made m m3 l r (k1,k2) (.node l (k1,k2) r):=by
 intro M3 hM3
 obtain ⟨M2,e2,rfl⟩:=e M3 hM3
 obtain ⟨M,e0,hl,hr,fr,rfl,rfl,rfl,rfl⟩:=q.1 M2 e2
 obtain ⟨_,_,n1,n2⟩:=zye h
 refine ⟨M,e0,⟨?_,hl.congr fun y hy=>Sq.upd_ne (by rintro rfl;exact n1 hy),hr.congr fun y hy=>Sq.upd_ne (by rintro rfl;exact n2 hy)⟩,fun y hy=>?_⟩
 ·rw [Sq.zlk,el,er]
  unfold Sq.nod Sq.nob
  congr 1
  congr 1
  omega
 ·have y1:y∉l.toks:=fun h=>hy (by simp [h])
  have y2:y∉r.toks:=fun h=>hy (by simp [h])
  have y3:y≠(k1,k2):=fun h=>hy (by simp [h])
  rw [Sq.upd_ne y3,fr y y1 y2]
theorem zd3 {A:Asn} {b0 b1 b2 b3 b9 b10:Nat} {t0 t1 t2 t3 t9 t10:TypeId} {x0 x1 x2 x3 x4 x5 x6 x7 y0 y1 y2 y3 y4 y5 y6 y7 z0 z1 z2 z3 z4 z5 z6 z7:Value} (H:Sat (pts b9 (.cells #[y0,y1,y2,y3,y4,y5,y6,y7] t9 (0,0))*(pts b10 (.cells #[z0,z1,z2,z3,z4,z5,z6,z7] t10 (0,0))*(A*(pts b3 (.cells #[x6,x7] t3 (0,0))*(pts b2 (.cells #[x4,x5] t2 (0,0))*(pts b1 (.cells #[x2,x3] t1 (0,0))*(pts b0 (.cells #[x0,x1] t0 (0,0))*F))))))) w) :
  ((w.cell? ⟨b0,0,none⟩=some x0∧w.cell? ⟨b0,1,none⟩=some x1)∧(w.cell? ⟨b1,0,none⟩=some x2∧w.cell? ⟨b1,1,none⟩=some x3)∧(w.cell? ⟨b2,0,none⟩=some x4∧w.cell? ⟨b2,1,none⟩=some x5))∧(w.cell? ⟨b9,6,none⟩=some y6∧w.cell? ⟨b9,7,none⟩=some y7)∧(w.cell? ⟨b10,6,none⟩=some z6∧w.cell? ⟨b10,7,none⟩=some z7):=by
 have a:=nd8 H
 have b:=nd8 H.right
 exact ⟨zaa H.right.right,⟨a.2.2.2.2.2.2.1,a.2.2.2.2.2.2.2⟩,⟨b.2.2.2.2.2.2.1,b.2.2.2.2.2.2.2⟩⟩
theorem zfq {A B C D E G:Asn} (H:Sat (A*(B*(C*(D*(E*(G*F)))))) w):Sat (D*(A*(B*(C*(E*(G*F)))))) w:=H.of_eq (by ac_rfl)
theorem zqe {A B C D E G I:Asn} (H:Sat (D*(A*(B*(C*(E*(G*(I*F))))))) w):Sat (C*F) w:=(H.of_eq (show _=(D*(A*(B*(E*(G*I)))))*(C*F) from by ac_rfl)).right
theorem wrap_in {n:Int} (h1:-1000000≤n) (h2:n≤1000000):IntKind.i64.wrap n=n:=by
 rw [IntKind.wrap_i64]
 omega
theorem zx7 {m:Option Mp} (l r:Sq.T) (k1 k2 l1 l2 r1 r2:Int) (d:Nat) (hl:Hid ((l1,l2)=l.top)) (hr:Hid ((r1,r2)=r.top)) (ok:Hid (zkf l r (k1,k2))) (pre:Hid (zkr m l r (k1,k2) d)) (hx:Hid x.Ok) (H:Sat (zav x m*F) w)
  (h:∀ m' w',Hid (Made m m' l r (k1,k2) (.node l (k1,k2) r))→Sat (zav (x.grow d) m'*F) w'→Io w w'→R (.returned (tkA k1 k2)) w') :
  Calls Tryz.prog 45 #[.pointer (some ⟨x.s,0,none⟩),tkA k1 k2,tkA l1 l2,tkA r1 r2] w R:=by
 have HH:=L_ h
 have PL:=L_ (z2g ok.out pre.out)
 have PLO:=L_ (xel ok.out)
 have PRO:=L_ (xek ok.out)
 have IK:Hid (InT (k1,k2)):=L_ (z2e ok.out).inT
 have IL:Hid (InT (l1,l2)):=L_ (by rw [hl.out];exact Sq.zp7 PLO.out.1)
 have IR:Hid (InT (r1,r2)):=L_ (by rw [hr.out];exact Sq.zp7 PRO.out.1)
 have H1:=z2f ((((H.new (.cells #[.int .i64 k1,.int .i64 k2] 29)).new (.cells #[.int .i64 l1,.int .i64 l2] 29)).new (.cells #[.int .i64 r1,.int .i64 r2] 29)).new (.cells #[.int .i64 0,.int .i64 0] 29))
 have I1:=io4 H1 (Io.refl w)
 simp only [World.size_alloc,Nat.add_assoc,Nat.reduceAdd] at H1
 clear h H
 go_enter Tryz.func45,Tryz.ntmps45
 go_upto_region 1 with fail
 generalize (((w.alloc _).alloc _).alloc _).alloc _=w1 at *
 generalize w.heap.size=bx at *
 go_cut [9,10] from 11 to 18 (fun p q wc=>∃ b9 b10 m2 i1 i2 i3 i4 i5 i6 ct1 ht1 j1 j2 j3 j4 j5 j6 ct2 ht2,p=.pointer (some ⟨b9,0,none⟩)∧q=.pointer (some ⟨b10,0,none⟩)∧Hid (zzg m m2 l r (k1,k2) ct1 ht1 ct2 ht2)∧Sat (pts b9 (.cells #[.int .i64 i1,.int .i64 i2,.int .i64 i3,.int .i64 i4,.int .i64 i5,.int .i64 i6,.int .i64 ct1,.int .i64 ht1] 85 (0,0))*(pts b10 (.cells #[.int .i64 j1,.int .i64 j2,.int .i64 j3,.int .i64 j4,.int .i64 j5,.int .i64 j6,.int .i64 ct2,.int .i64 ht2] 85 (0,0))*(zav x m2*(pts (bx+3) (.cells #[.int .i64 0,.int .i64 0] 29 (0,0))*(pts (bx+2) (.cells #[.int .i64 r1,.int .i64 r2] 29 (0,0))*(pts (bx+1) (.cells #[.int .i64 l1,.int .i64 l2] 29 (0,0))*(pts bx (.cells #[.int .i64 k1,.int .i64 k2] 29 (0,0))*F))))))) wc∧Io w wc)
 case first =>
  have Kd:=H1.drew
  have Jd:=I1.drew
  clear H1 I1
  refine rh Kd (fun W Kd=>zaa Kd) fun hHeld=>?_
  refine tk ?_ ?_ [0,1,2,4,5,6] ?_ hHeld ?_;rotate_left 2;exact tt
  generalize w1.drew=wd at *
  refine rd [3,8,9] (rn (fun K hK=>?_) ?_)
  ·go_simp
   go_at_call 78;(with_reducible refine zbr l l1 l2 k1 k2 hl IK PL PLO hx Kd ?_);intro m1 i1 i2 i3 i4 i5 i6 ct1 ht1 wpc hm1 Xpc IXpc;have PR:=L_ (zgz ok.out pre.out hm1.out.1)
   have Hpc:=Xpc
   have Jpc:=(Jd).trans IXpc
   refine hK.out _ _ (by exact zaa Hpc) fun hHeld=>?_
   clear hK K
   try simp only [sp]
   refine rd [7,8,9] (rn (fun K hK=>?_) ?_)
   ·go_simp
    go_at_call 78;(with_reducible refine zbr r r1 r2 k1 k2 hr IK PR PRO hx Hpc ?_);intro m2 j1 j2 j3 j4 j5 j6 ct2 ht2 zx2 hm2 Xpcc z8h
    have z8k:=Xpcc
    have xd2:=(Jpc).trans z8h
    refine hK.out _ _ (by exact zaa z8k) fun hHeld=>?_
    clear hK K
    try simp only [sp]
    refine rd [8,9] (rn (fun K hK=>?_) ?_)
    ·go_simp
     have zof:=z8k.new (.cells #[.int .i64 0,.int .i64 0,.int .i64 0,.int .i64 0,.int .i64 0,.int .i64 0,.int .i64 0,.int .i64 0] 85)
     have z7v:=io1 zof xd2
     refine hK.out _ _ (by exact zaa (zof.right)) fun hHeld=>?_
     clear hK K
     try simp only [sp]
     generalize World.alloc zx2 (.cells #[.int .i64 0,.int .i64 0,.int .i64 0,.int .i64 0,.int .i64 0,.int .i64 0,.int .i64 0,.int .i64 0] 85)=zr5 at *
     generalize zx2.heap.size=zuy at *
     refine rd [9] (rc fun K hK=>?_)
     go_simp
     have zhe:=zof.new (.cells #[.int .i64 0,.int .i64 0,.int .i64 0,.int .i64 0,.int .i64 0,.int .i64 0,.int .i64 0,.int .i64 0] 85)
     have zvd:=io1 zhe z7v
     refine hK.out _ _ (by exact zaa (zhe.right.right)) fun hHeld=>?_
     clear hK K
     try simp only [sp]
     generalize World.alloc zr5 (.cells #[.int .i64 0,.int .i64 0,.int .i64 0,.int .i64 0,.int .i64 0,.int .i64 0,.int .i64 0,.int .i64 0] 85)=xcw at *
     generalize zr5.heap.size=znc at *
     have zhk:=(zai zhe)
     have FA:=zb0 zhk
     obtain ⟨f0,f1,f2,f3,f4,f5,f6,f7⟩:=FA
     have QA:=nd8 zhk
     obtain ⟨q0,q1,q2,q3,q4,q5,q6,q7⟩:=QA
     have zfe:=zaz (.int .i64 i1) (.int .i64 i2) (.int .i64 i3) (.int .i64 i4) (.int .i64 i5) (.int .i64 i6) (.int .i64 ct1) (.int .i64 ht1) zhk
     have FB:=zb0 zfe.right
     obtain ⟨g0,g1,g2,g3,g4,g5,g6,g7⟩:=FB
     have QB:=nd8 zfe.right
     obtain ⟨r0,r1',r2',r3,r4,r5,r6,r7⟩:=QB
     have zk0:=zai (zaz (.int .i64 j1) (.int .i64 j2) (.int .i64 j3) (.int .i64 j4) (.int .i64 j5) (.int .i64 j6) (.int .i64 ct2) (.int .i64 ht2) (zai zfe))
     have znx:=zac (b:=zuy) (.int .i64 i1) (.int .i64 i2) (.int .i64 i3) (.int .i64 i4) (.int .i64 i5) (.int .i64 i6) (.int .i64 ct1) (.int .i64 ht1) (zvd)
     have znl:=zac (b:=znc) (.int .i64 j1) (.int .i64 j2) (.int .i64 j3) (.int .i64 j4) (.int .i64 j5) (.int .i64 j6) (.int .i64 ct2) (.int .i64 ht2) znx
     refine rd [10] (rc fun K hK=>?_)
     go_simp
     refine hK.out _ _ (by exact zaa (zfe.right.right)) fun hHeld=>?_
     clear hK K
     try simp only [sp]
     refine rd [11] (rc fun K hK=>?_)
     go_simp
     refine hK.out _ _ (by exact zaa (zk0.right.right)) fun hHeld=>?_
     clear hK K
     try simp only [sp]
     refine wpAnyH_done (by kernel_rfl) ?_ _
     go_wp2_with fail
     go_meet
     exact ⟨_,_,_,i1,i2,i3,i4,i5,i6,ct1,ht1,j1,j2,j3,j4,j5,j6,ct2,ht2,rfl,rfl,L_ (set_mid ok.out pre.out hm1.out hm2.out),zk0,znl⟩
    refine rc fun K hK=>?_
    go_simp
    have zoe:=z8k.new (.cells #[.int .i64 0,.int .i64 0,.int .i64 0,.int .i64 0,.int .i64 0,.int .i64 0,.int .i64 0,.int .i64 0] 85)
    have z7u:=io1 zoe xd2
    refine hK.out _ _ (by exact zaa (zoe.right)) fun hHeld=>?_
    clear hK K
    try simp only [sp]
    generalize World.alloc zx2 (.cells #[.int .i64 0,.int .i64 0,.int .i64 0,.int .i64 0,.int .i64 0,.int .i64 0,.int .i64 0,.int .i64 0] 85)=zr4 at *
    generalize zx2.heap.size=zuu at *
    refine rd [8] (rc fun K hK=>?_)
    go_simp
    have zhd:=zoe.new (.cells #[.int .i64 0,.int .i64 0,.int .i64 0,.int .i64 0,.int .i64 0,.int .i64 0,.int .i64 0,.int .i64 0] 85)
    have zvc:=io1 zhd z7u
    refine hK.out _ _ (by exact zaa (zhd.right.right)) fun hHeld=>?_
    clear hK K
    try simp only [sp]
    generalize World.alloc zr4 (.cells #[.int .i64 0,.int .i64 0,.int .i64 0,.int .i64 0,.int .i64 0,.int .i64 0,.int .i64 0,.int .i64 0] 85)=xcv at *
    generalize zr4.heap.size=znf at *
    have zhj:=zhd
    have FA:=zb0 zhj
    obtain ⟨f0,f1,f2,f3,f4,f5,f6,f7⟩:=FA
    have QA:=nd8 zhj
    obtain ⟨q0,q1,q2,q3,q4,q5,q6,q7⟩:=QA
    have zfd:=zaz (.int .i64 i1) (.int .i64 i2) (.int .i64 i3) (.int .i64 i4) (.int .i64 i5) (.int .i64 i6) (.int .i64 ct1) (.int .i64 ht1) zhj
    have FB:=zb0 zfd.right
    obtain ⟨g0,g1,g2,g3,g4,g5,g6,g7⟩:=FB
    have QB:=nd8 zfd.right
    obtain ⟨r0,r1',r2',r3,r4,r5,r6,r7⟩:=QB
    have zkz:=zai (zaz (.int .i64 j1) (.int .i64 j2) (.int .i64 j3) (.int .i64 j4) (.int .i64 j5) (.int .i64 j6) (.int .i64 ct2) (.int .i64 ht2) (zai zfd))
    have znw:=zac (b:=znf) (.int .i64 i1) (.int .i64 i2) (.int .i64 i3) (.int .i64 i4) (.int .i64 i5) (.int .i64 i6) (.int .i64 ct1) (.int .i64 ht1) (zvc)
    have znk:=zac (b:=zuu) (.int .i64 j1) (.int .i64 j2) (.int .i64 j3) (.int .i64 j4) (.int .i64 j5) (.int .i64 j6) (.int .i64 ct2) (.int .i64 ht2) znw
    refine rd [10] (rc fun K hK=>?_)
    go_simp
    refine hK.out _ _ (by exact zaa (zfd.right.right)) fun hHeld=>?_
    clear hK K
    try simp only [sp]
    refine rd [11] (rc fun K hK=>?_)
    go_simp
    refine hK.out _ _ (by exact zaa (zkz.right.right)) fun hHeld=>?_
    clear hK K
    try simp only [sp]
    refine wpAnyH_done (by kernel_rfl) ?_ _
    go_wp2_with fail
    go_meet
    exact ⟨_,_,_,i1,i2,i3,i4,i5,i6,ct1,ht1,j1,j2,j3,j4,j5,j6,ct2,ht2,rfl,rfl,L_ (set_mid ok.out pre.out hm1.out hm2.out),zkz,znk⟩
   refine rn (fun K hK=>?_) ?_
   ·go_simp
    have zzk:=Hpc.new (.cells #[.int .i64 0,.int .i64 0,.int .i64 0,.int .i64 0,.int .i64 0,.int .i64 0,.int .i64 0,.int .i64 0] 85)
    have xd4:=io1 zzk Jpc
    refine hK.out _ _ (by exact zaa (zzk.right)) fun hHeld=>?_
    clear hK K
    try simp only [sp]
    generalize World.alloc wpc (.cells #[.int .i64 0,.int .i64 0,.int .i64 0,.int .i64 0,.int .i64 0,.int .i64 0,.int .i64 0,.int .i64 0] 85)=xc2 at *
    generalize wpc.heap.size=zu0 at *
    refine rd [7,9] (rn (fun K hK=>?_) ?_)
    ·go_simp
     go_at_call 78;(with_reducible refine zbr r r1 r2 k1 k2 hr IK PR PRO hx (zai zzk) ?_);intro m2 j1 j2 j3 j4 j5 j6 ct2 ht2 zr7 hm2 z7o zvp
     have zvv:=(zai z7o)
     have z7y:=(xd4).trans zvp
     refine hK.out _ _ (by exact zaa (zvv.right)) fun hHeld=>?_
     clear hK K
     try simp only [sp]
     refine rd [9] (rc fun K hK=>?_)
     go_simp
     have zhg:=zvv.new (.cells #[.int .i64 0,.int .i64 0,.int .i64 0,.int .i64 0,.int .i64 0,.int .i64 0,.int .i64 0,.int .i64 0] 85)
     have zvg:=io1 zhg z7y
     refine hK.out _ _ (by exact zaa (zhg.right.right)) fun hHeld=>?_
     clear hK K
     try simp only [sp]
     generalize World.alloc zr7 (.cells #[.int .i64 0,.int .i64 0,.int .i64 0,.int .i64 0,.int .i64 0,.int .i64 0,.int .i64 0,.int .i64 0] 85)=xc0 at *
     generalize zr7.heap.size=znd at *
     have zhn:=(zai zhg)
     have FA:=zb0 zhn
     obtain ⟨f0,f1,f2,f3,f4,f5,f6,f7⟩:=FA
     have QA:=nd8 zhn
     obtain ⟨q0,q1,q2,q3,q4,q5,q6,q7⟩:=QA
     have zfh:=zaz (.int .i64 i1) (.int .i64 i2) (.int .i64 i3) (.int .i64 i4) (.int .i64 i5) (.int .i64 i6) (.int .i64 ct1) (.int .i64 ht1) zhn
     have FB:=zb0 zfh.right
     obtain ⟨g0,g1,g2,g3,g4,g5,g6,g7⟩:=FB
     have QB:=nd8 zfh.right
     obtain ⟨r0,r1',r2',r3,r4,r5,r6,r7⟩:=QB
     have zk3:=zai (zaz (.int .i64 j1) (.int .i64 j2) (.int .i64 j3) (.int .i64 j4) (.int .i64 j5) (.int .i64 j6) (.int .i64 ct2) (.int .i64 ht2) (zai zfh))
     have zn0:=zac (b:=zu0) (.int .i64 i1) (.int .i64 i2) (.int .i64 i3) (.int .i64 i4) (.int .i64 i5) (.int .i64 i6) (.int .i64 ct1) (.int .i64 ht1) (zvg)
     have zno:=zac (b:=znd) (.int .i64 j1) (.int .i64 j2) (.int .i64 j3) (.int .i64 j4) (.int .i64 j5) (.int .i64 j6) (.int .i64 ct2) (.int .i64 ht2) zn0
     refine rd [10] (rc fun K hK=>?_)
     go_simp
     refine hK.out _ _ (by exact zaa (zfh.right.right)) fun hHeld=>?_
     clear hK K
     try simp only [sp]
     refine rd [11] (rc fun K hK=>?_)
     go_simp
     refine hK.out _ _ (by exact zaa (zk3.right.right)) fun hHeld=>?_
     clear hK K
     try simp only [sp]
     refine wpAnyH_done (by kernel_rfl) ?_ _
     go_wp2_with fail
     go_meet
     exact ⟨_,_,_,i1,i2,i3,i4,i5,i6,ct1,ht1,j1,j2,j3,j4,j5,j6,ct2,ht2,rfl,rfl,L_ (set_mid ok.out pre.out hm1.out hm2.out),zk3,zno⟩
    refine rc fun K hK=>?_
    go_simp
    have zoh:=zzk.new (.cells #[.int .i64 0,.int .i64 0,.int .i64 0,.int .i64 0,.int .i64 0,.int .i64 0,.int .i64 0,.int .i64 0] 85)
    have z7z:=io1 zoh xd4
    refine hK.out _ _ (by exact zaa (zoh.right.right)) fun hHeld=>?_
    clear hK K
    try simp only [sp]
    generalize World.alloc xc2 (.cells #[.int .i64 0,.int .i64 0,.int .i64 0,.int .i64 0,.int .i64 0,.int .i64 0,.int .i64 0,.int .i64 0] 85)=wpcab at *
    generalize xc2.heap.size=zuw at *
    refine rd [7] (rc fun K hK=>?_)
    go_simp
    go_at_call 78;(with_reducible refine zbr r r1 r2 k1 k2 hr IK PR PRO hx (fr2 zoh) ?_);intro m2 j1 j2 j3 j4 j5 j6 ct2 ht2 xc1 hm2 zu6 zn9
    have zku:=(bk2 zu6)
    have zvh:=(z7z).trans zn9
    refine hK.out _ _ (by exact zaa (zku.right.right)) fun hHeld=>?_
    clear hK K
    try simp only [sp]
    have zho:=(zai zku)
    have FA:=zb0 zho
    obtain ⟨f0,f1,f2,f3,f4,f5,f6,f7⟩:=FA
    have QA:=nd8 zho
    obtain ⟨q0,q1,q2,q3,q4,q5,q6,q7⟩:=QA
    have zfi:=zaz (.int .i64 i1) (.int .i64 i2) (.int .i64 i3) (.int .i64 i4) (.int .i64 i5) (.int .i64 i6) (.int .i64 ct1) (.int .i64 ht1) zho
    have FB:=zb0 zfi.right
    obtain ⟨g0,g1,g2,g3,g4,g5,g6,g7⟩:=FB
    have QB:=nd8 zfi.right
    obtain ⟨r0,r1',r2',r3,r4,r5,r6,r7⟩:=QB
    have zk4:=zai (zaz (.int .i64 j1) (.int .i64 j2) (.int .i64 j3) (.int .i64 j4) (.int .i64 j5) (.int .i64 j6) (.int .i64 ct2) (.int .i64 ht2) (zai zfi))
    have zn1:=zac (b:=zu0) (.int .i64 i1) (.int .i64 i2) (.int .i64 i3) (.int .i64 i4) (.int .i64 i5) (.int .i64 i6) (.int .i64 ct1) (.int .i64 ht1) (zvh)
    have znp:=zac (b:=zuw) (.int .i64 j1) (.int .i64 j2) (.int .i64 j3) (.int .i64 j4) (.int .i64 j5) (.int .i64 j6) (.int .i64 ct2) (.int .i64 ht2) zn1
    refine rd [10] (rc fun K hK=>?_)
    go_simp
    refine hK.out _ _ (by exact zaa (zfi.right.right)) fun hHeld=>?_
    clear hK K
    try simp only [sp]
    refine rd [11] (rc fun K hK=>?_)
    go_simp
    refine hK.out _ _ (by exact zaa (zk4.right.right)) fun hHeld=>?_
    clear hK K
    try simp only [sp]
    refine wpAnyH_done (by kernel_rfl) ?_ _
    go_wp2_with fail
    go_meet
    exact ⟨_,_,_,i1,i2,i3,i4,i5,i6,ct1,ht1,j1,j2,j3,j4,j5,j6,ct2,ht2,rfl,rfl,L_ (set_mid ok.out pre.out hm1.out hm2.out),zk4,znp⟩
   refine rc fun K hK=>?_
   go_simp
   have zzj:=Hpc.new (.cells #[.int .i64 0,.int .i64 0,.int .i64 0,.int .i64 0,.int .i64 0,.int .i64 0,.int .i64 0,.int .i64 0] 85)
   have xd3:=io1 zzj Jpc
   refine hK.out _ _ (by exact zaa (zzj.right)) fun hHeld=>?_
   clear hK K
   try simp only [sp]
   generalize World.alloc wpc (.cells #[.int .i64 0,.int .i64 0,.int .i64 0,.int .i64 0,.int .i64 0,.int .i64 0,.int .i64 0,.int .i64 0] 85)=xcz at *
   generalize wpc.heap.size=zuv at *
   refine rd [7,8] (rn (fun K hK=>?_) ?_)
   ·go_simp
    go_at_call 78;(with_reducible refine zbr r r1 r2 k1 k2 hr IK PR PRO hx (zai zzj) ?_);intro m2 j1 j2 j3 j4 j5 j6 ct2 ht2 zr6 hm2 z7n zvo
    have zvu:=(zai z7n)
    have z7w:=(xd3).trans zvo
    refine hK.out _ _ (by exact zaa (zvu.right)) fun hHeld=>?_
    clear hK K
    try simp only [sp]
    refine rd [8] (rc fun K hK=>?_)
    go_simp
    have zhf:=zvu.new (.cells #[.int .i64 0,.int .i64 0,.int .i64 0,.int .i64 0,.int .i64 0,.int .i64 0,.int .i64 0,.int .i64 0] 85)
    have zve:=io1 zhf z7w
    refine hK.out _ _ (by exact zaa (zhf.right.right)) fun hHeld=>?_
    clear hK K
    try simp only [sp]
    generalize World.alloc zr6 (.cells #[.int .i64 0,.int .i64 0,.int .i64 0,.int .i64 0,.int .i64 0,.int .i64 0,.int .i64 0,.int .i64 0] 85)=xcx at *
    generalize zr6.heap.size=zng at *
    have zhl:=zhf
    have FA:=zb0 zhl
    obtain ⟨f0,f1,f2,f3,f4,f5,f6,f7⟩:=FA
    have QA:=nd8 zhl
    obtain ⟨q0,q1,q2,q3,q4,q5,q6,q7⟩:=QA
    have zff:=zaz (.int .i64 i1) (.int .i64 i2) (.int .i64 i3) (.int .i64 i4) (.int .i64 i5) (.int .i64 i6) (.int .i64 ct1) (.int .i64 ht1) zhl
    have FB:=zb0 zff.right
    obtain ⟨g0,g1,g2,g3,g4,g5,g6,g7⟩:=FB
    have QB:=nd8 zff.right
    obtain ⟨r0,r1',r2',r3,r4,r5,r6,r7⟩:=QB
    have zk1:=zai (zaz (.int .i64 j1) (.int .i64 j2) (.int .i64 j3) (.int .i64 j4) (.int .i64 j5) (.int .i64 j6) (.int .i64 ct2) (.int .i64 ht2) (zai zff))
    have zny:=zac (b:=zng) (.int .i64 i1) (.int .i64 i2) (.int .i64 i3) (.int .i64 i4) (.int .i64 i5) (.int .i64 i6) (.int .i64 ct1) (.int .i64 ht1) (zve)
    have znm:=zac (b:=zuv) (.int .i64 j1) (.int .i64 j2) (.int .i64 j3) (.int .i64 j4) (.int .i64 j5) (.int .i64 j6) (.int .i64 ct2) (.int .i64 ht2) zny
    refine rd [10] (rc fun K hK=>?_)
    go_simp
    refine hK.out _ _ (by exact zaa (zff.right.right)) fun hHeld=>?_
    clear hK K
    try simp only [sp]
    refine rd [11] (rc fun K hK=>?_)
    go_simp
    refine hK.out _ _ (by exact zaa (zk1.right.right)) fun hHeld=>?_
    clear hK K
    try simp only [sp]
    refine wpAnyH_done (by kernel_rfl) ?_ _
    go_wp2_with fail
    go_meet
    exact ⟨_,_,_,i1,i2,i3,i4,i5,i6,ct1,ht1,j1,j2,j3,j4,j5,j6,ct2,ht2,rfl,rfl,L_ (set_mid ok.out pre.out hm1.out hm2.out),zk1,znm⟩
   refine rc fun K hK=>?_
   go_simp
   have zog:=zzj.new (.cells #[.int .i64 0,.int .i64 0,.int .i64 0,.int .i64 0,.int .i64 0,.int .i64 0,.int .i64 0,.int .i64 0] 85)
   have z7x:=io1 zog xd3
   refine hK.out _ _ (by exact zaa (zog.right.right)) fun hHeld=>?_
   clear hK K
   try simp only [sp]
   generalize World.alloc xcz (.cells #[.int .i64 0,.int .i64 0,.int .i64 0,.int .i64 0,.int .i64 0,.int .i64 0,.int .i64 0,.int .i64 0] 85)=wpcba at *
   generalize xcz.heap.size=zuz at *
   refine rd [7] (rc fun K hK=>?_)
   go_simp
   go_at_call 78;(with_reducible refine zbr r r1 r2 k1 k2 hr IK PR PRO hx (fr2 zog) ?_);intro m2 j1 j2 j3 j4 j5 j6 ct2 ht2 xcy hm2 zu5 zn8
   have zkt:=(bk2 zu5)
   have zvf:=(z7x).trans zn8
   refine hK.out _ _ (by exact zaa (zkt.right.right)) fun hHeld=>?_
   clear hK K
   try simp only [sp]
   have zhm:=zkt
   have FA:=zb0 zhm
   obtain ⟨f0,f1,f2,f3,f4,f5,f6,f7⟩:=FA
   have QA:=nd8 zhm
   obtain ⟨q0,q1,q2,q3,q4,q5,q6,q7⟩:=QA
   have zfg:=zaz (.int .i64 i1) (.int .i64 i2) (.int .i64 i3) (.int .i64 i4) (.int .i64 i5) (.int .i64 i6) (.int .i64 ct1) (.int .i64 ht1) zhm
   have FB:=zb0 zfg.right
   obtain ⟨g0,g1,g2,g3,g4,g5,g6,g7⟩:=FB
   have QB:=nd8 zfg.right
   obtain ⟨r0,r1',r2',r3,r4,r5,r6,r7⟩:=QB
   have zk2:=zai (zaz (.int .i64 j1) (.int .i64 j2) (.int .i64 j3) (.int .i64 j4) (.int .i64 j5) (.int .i64 j6) (.int .i64 ct2) (.int .i64 ht2) (zai zfg))
   have znz:=zac (b:=zuz) (.int .i64 i1) (.int .i64 i2) (.int .i64 i3) (.int .i64 i4) (.int .i64 i5) (.int .i64 i6) (.int .i64 ct1) (.int .i64 ht1) (zvf)
   have znn:=zac (b:=zuv) (.int .i64 j1) (.int .i64 j2) (.int .i64 j3) (.int .i64 j4) (.int .i64 j5) (.int .i64 j6) (.int .i64 ct2) (.int .i64 ht2) znz
   refine rd [10] (rc fun K hK=>?_)
   go_simp
   refine hK.out _ _ (by exact zaa (zfg.right.right)) fun hHeld=>?_
   clear hK K
   try simp only [sp]
   refine rd [11] (rc fun K hK=>?_)
   go_simp
   refine hK.out _ _ (by exact zaa (zk2.right.right)) fun hHeld=>?_
   clear hK K
   try simp only [sp]
   refine wpAnyH_done (by kernel_rfl) ?_ _
   go_wp2_with fail
   go_meet
   exact ⟨_,_,_,i1,i2,i3,i4,i5,i6,ct1,ht1,j1,j2,j3,j4,j5,j6,ct2,ht2,rfl,rfl,L_ (set_mid ok.out pre.out hm1.out hm2.out),zk2,znn⟩
  refine rn (fun K hK=>?_) ?_
  ·go_simp
   have Hpa:=Kd.new (.cells #[.int .i64 0,.int .i64 0,.int .i64 0,.int .i64 0,.int .i64 0,.int .i64 0,.int .i64 0,.int .i64 0] 85)
   have Jpa:=io1 Hpa Jd
   refine hK.out _ _ (by exact zaa (Hpa.right)) fun hHeld=>?_
   clear hK K
   try simp only [sp]
   generalize World.alloc wd (.cells #[.int .i64 0,.int .i64 0,.int .i64 0,.int .i64 0,.int .i64 0,.int .i64 0,.int .i64 0,.int .i64 0] 85)=wpa at *
   generalize wd.heap.size=z7d at *
   refine rd [3,9] (rn (fun K hK=>?_) ?_)
   ·go_simp
    go_at_call 78;(with_reducible refine zbr l l1 l2 k1 k2 hl IK PL PLO hx (zai Hpa) ?_);intro m1 i1 i2 i3 i4 i5 i6 ct1 ht1 xc9 hm1 Xpac z8j;have PR:=L_ (zgz ok.out pre.out hm1.out.1)
    have z8n:=(zai Xpac)
    have xd6:=(Jpa).trans z8j
    refine hK.out _ _ (by exact zaa (z8n.right)) fun hHeld=>?_
    clear hK K
    try simp only [sp]
    refine rd [7,9] (rn (fun K hK=>?_) ?_)
    ·go_simp
     go_at_call 78;(with_reducible refine zbr r r1 r2 k1 k2 hr IK PR PRO hx (zai z8n) ?_);intro m2 j1 j2 j3 j4 j5 j6 ct2 ht2 zr9 hm2 z7r zvs
     have zvy:=(zai z7r)
     have z8d:=(xd6).trans zvs
     refine hK.out _ _ (by exact zaa (zvy.right)) fun hHeld=>?_
     clear hK K
     try simp only [sp]
     refine rd [9] (rc fun K hK=>?_)
     go_simp
     have zhi:=zvy.new (.cells #[.int .i64 0,.int .i64 0,.int .i64 0,.int .i64 0,.int .i64 0,.int .i64 0,.int .i64 0,.int .i64 0] 85)
     have zvl:=io1 zhi z8d
     refine hK.out _ _ (by exact zaa (zhi.right.right)) fun hHeld=>?_
     clear hK K
     try simp only [sp]
     generalize World.alloc zr9 (.cells #[.int .i64 0,.int .i64 0,.int .i64 0,.int .i64 0,.int .i64 0,.int .i64 0,.int .i64 0,.int .i64 0] 85)=xc7 at *
     generalize zr9.heap.size=zne at *
     have zhs:=(zai zhi)
     have FA:=zb0 zhs
     obtain ⟨f0,f1,f2,f3,f4,f5,f6,f7⟩:=FA
     have QA:=nd8 zhs
     obtain ⟨q0,q1,q2,q3,q4,q5,q6,q7⟩:=QA
     have zfm:=zaz (.int .i64 i1) (.int .i64 i2) (.int .i64 i3) (.int .i64 i4) (.int .i64 i5) (.int .i64 i6) (.int .i64 ct1) (.int .i64 ht1) zhs
     have FB:=zb0 zfm.right
     obtain ⟨g0,g1,g2,g3,g4,g5,g6,g7⟩:=FB
     have QB:=nd8 zfm.right
     obtain ⟨r0,r1',r2',r3,r4,r5,r6,r7⟩:=QB
     have zk8:=zai (zaz (.int .i64 j1) (.int .i64 j2) (.int .i64 j3) (.int .i64 j4) (.int .i64 j5) (.int .i64 j6) (.int .i64 ct2) (.int .i64 ht2) (zai zfm))
     have zn5:=zac (b:=z7d) (.int .i64 i1) (.int .i64 i2) (.int .i64 i3) (.int .i64 i4) (.int .i64 i5) (.int .i64 i6) (.int .i64 ct1) (.int .i64 ht1) (zvl)
     have znt:=zac (b:=zne) (.int .i64 j1) (.int .i64 j2) (.int .i64 j3) (.int .i64 j4) (.int .i64 j5) (.int .i64 j6) (.int .i64 ct2) (.int .i64 ht2) zn5
     refine rd [10] (rc fun K hK=>?_)
     go_simp
     refine hK.out _ _ (by exact zaa (zfm.right.right)) fun hHeld=>?_
     clear hK K
     try simp only [sp]
     refine rd [11] (rc fun K hK=>?_)
     go_simp
     refine hK.out _ _ (by exact zaa (zk8.right.right)) fun hHeld=>?_
     clear hK K
     try simp only [sp]
     refine wpAnyH_done (by kernel_rfl) ?_ _
     go_wp2_with fail
     go_meet
     exact ⟨_,_,_,i1,i2,i3,i4,i5,i6,ct1,ht1,j1,j2,j3,j4,j5,j6,ct2,ht2,rfl,rfl,L_ (set_mid ok.out pre.out hm1.out hm2.out),zk8,znt⟩
    refine rc fun K hK=>?_
    go_simp
    have zoj:=z8n.new (.cells #[.int .i64 0,.int .i64 0,.int .i64 0,.int .i64 0,.int .i64 0,.int .i64 0,.int .i64 0,.int .i64 0] 85)
    have z8e:=io1 zoj xd6
    refine hK.out _ _ (by exact zaa (zoj.right.right)) fun hHeld=>?_
    clear hK K
    try simp only [sp]
    generalize World.alloc xc9 (.cells #[.int .i64 0,.int .i64 0,.int .i64 0,.int .i64 0,.int .i64 0,.int .i64 0,.int .i64 0,.int .i64 0] 85)=wpacb at *
    generalize xc9.heap.size=zux at *
    refine rd [7] (rc fun K hK=>?_)
    go_simp
    go_at_call 78;(with_reducible refine zbr r r1 r2 k1 k2 hr IK PR PRO hx (fr2 zoj) ?_);intro m2 j1 j2 j3 j4 j5 j6 ct2 ht2 xc8 hm2 zu9 zoc
    have zkx:=(bk2 zu9)
    have zvm:=(z8e).trans zoc
    refine hK.out _ _ (by exact zaa (zkx.right.right)) fun hHeld=>?_
    clear hK K
    try simp only [sp]
    have zht:=(zai zkx)
    have FA:=zb0 zht
    obtain ⟨f0,f1,f2,f3,f4,f5,f6,f7⟩:=FA
    have QA:=nd8 zht
    obtain ⟨q0,q1,q2,q3,q4,q5,q6,q7⟩:=QA
    have zfn:=zaz (.int .i64 i1) (.int .i64 i2) (.int .i64 i3) (.int .i64 i4) (.int .i64 i5) (.int .i64 i6) (.int .i64 ct1) (.int .i64 ht1) zht
    have FB:=zb0 zfn.right
    obtain ⟨g0,g1,g2,g3,g4,g5,g6,g7⟩:=FB
    have QB:=nd8 zfn.right
    obtain ⟨r0,r1',r2',r3,r4,r5,r6,r7⟩:=QB
    have zk9:=zai (zaz (.int .i64 j1) (.int .i64 j2) (.int .i64 j3) (.int .i64 j4) (.int .i64 j5) (.int .i64 j6) (.int .i64 ct2) (.int .i64 ht2) (zai zfn))
    have zn6:=zac (b:=z7d) (.int .i64 i1) (.int .i64 i2) (.int .i64 i3) (.int .i64 i4) (.int .i64 i5) (.int .i64 i6) (.int .i64 ct1) (.int .i64 ht1) (zvm)
    have znu:=zac (b:=zux) (.int .i64 j1) (.int .i64 j2) (.int .i64 j3) (.int .i64 j4) (.int .i64 j5) (.int .i64 j6) (.int .i64 ct2) (.int .i64 ht2) zn6
    refine rd [10] (rc fun K hK=>?_)
    go_simp
    refine hK.out _ _ (by exact zaa (zfn.right.right)) fun hHeld=>?_
    clear hK K
    try simp only [sp]
    refine rd [11] (rc fun K hK=>?_)
    go_simp
    refine hK.out _ _ (by exact zaa (zk9.right.right)) fun hHeld=>?_
    clear hK K
    try simp only [sp]
    refine wpAnyH_done (by kernel_rfl) ?_ _
    go_wp2_with fail
    go_meet
    exact ⟨_,_,_,i1,i2,i3,i4,i5,i6,ct1,ht1,j1,j2,j3,j4,j5,j6,ct2,ht2,rfl,rfl,L_ (set_mid ok.out pre.out hm1.out hm2.out),zk9,znu⟩
   refine rc fun K hK=>?_
   go_simp
   have z8o:=Hpa.new (.cells #[.int .i64 0,.int .i64 0,.int .i64 0,.int .i64 0,.int .i64 0,.int .i64 0,.int .i64 0,.int .i64 0] 85)
   have Jpab:=io1 z8o Jpa
   refine hK.out _ _ (by exact zaa (z8o.right.right)) fun hHeld=>?_
   clear hK K
   try simp only [sp]
   generalize World.alloc wpa (.cells #[.int .i64 0,.int .i64 0,.int .i64 0,.int .i64 0,.int .i64 0,.int .i64 0,.int .i64 0,.int .i64 0] 85)=wpab at *
   generalize wpa.heap.size=z7b at *
   refine rd [3] (rc fun K hK=>?_)
   go_simp
   go_at_call 78;(with_reducible refine zbr l l1 l2 k1 k2 hl IK PL PLO hx (fr2 z8o) ?_);intro m1 i1 i2 i3 i4 i5 i6 ct1 ht1 wpabc hm1 z7s zvt;have PR:=L_ (zgz ok.out pre.out hm1.out.1)
   have zvz:=(bk2 z7s)
   have z8f:=(Jpab).trans zvt
   refine hK.out _ _ (by exact zaa (zvz.right.right)) fun hHeld=>?_
   clear hK K
   try simp only [sp]
   refine rd [7] (rc fun K hK=>?_)
   go_simp
   go_at_call 78;(with_reducible refine zbr r r1 r2 k1 k2 hr IK PR PRO hx (fr2 zvz) ?_);intro m2 j1 j2 j3 j4 j5 j6 ct2 ht2 xda hm2 zva zod
   have zky:=(bk2 zva)
   have zvn:=(z8f).trans zod
   refine hK.out _ _ (by exact zaa (zky.right.right)) fun hHeld=>?_
   clear hK K
   try simp only [sp]
   have zhu:=(zai zky)
   have FA:=zb0 zhu
   obtain ⟨f0,f1,f2,f3,f4,f5,f6,f7⟩:=FA
   have QA:=nd8 zhu
   obtain ⟨q0,q1,q2,q3,q4,q5,q6,q7⟩:=QA
   have zfo:=zaz (.int .i64 i1) (.int .i64 i2) (.int .i64 i3) (.int .i64 i4) (.int .i64 i5) (.int .i64 i6) (.int .i64 ct1) (.int .i64 ht1) zhu
   have FB:=zb0 zfo.right
   obtain ⟨g0,g1,g2,g3,g4,g5,g6,g7⟩:=FB
   have QB:=nd8 zfo.right
   obtain ⟨r0,r1',r2',r3,r4,r5,r6,r7⟩:=QB
   have zla:=zai (zaz (.int .i64 j1) (.int .i64 j2) (.int .i64 j3) (.int .i64 j4) (.int .i64 j5) (.int .i64 j6) (.int .i64 ct2) (.int .i64 ht2) (zai zfo))
   have zn7:=zac (b:=z7d) (.int .i64 i1) (.int .i64 i2) (.int .i64 i3) (.int .i64 i4) (.int .i64 i5) (.int .i64 i6) (.int .i64 ct1) (.int .i64 ht1) (zvn)
   have znv:=zac (b:=z7b) (.int .i64 j1) (.int .i64 j2) (.int .i64 j3) (.int .i64 j4) (.int .i64 j5) (.int .i64 j6) (.int .i64 ct2) (.int .i64 ht2) zn7
   refine rd [10] (rc fun K hK=>?_)
   go_simp
   refine hK.out _ _ (by exact zaa (zfo.right.right)) fun hHeld=>?_
   clear hK K
   try simp only [sp]
   refine rd [11] (rc fun K hK=>?_)
   go_simp
   refine hK.out _ _ (by exact zaa (zla.right.right)) fun hHeld=>?_
   clear hK K
   try simp only [sp]
   refine wpAnyH_done (by kernel_rfl) ?_ _
   go_wp2_with fail
   go_meet
   exact ⟨_,_,_,i1,i2,i3,i4,i5,i6,ct1,ht1,j1,j2,j3,j4,j5,j6,ct2,ht2,rfl,rfl,L_ (set_mid ok.out pre.out hm1.out hm2.out),zla,znv⟩
  refine rc fun K hK=>?_
  go_simp
  have Hpb:=Kd.new (.cells #[.int .i64 0,.int .i64 0,.int .i64 0,.int .i64 0,.int .i64 0,.int .i64 0,.int .i64 0,.int .i64 0] 85)
  have Jpb:=io1 Hpb Jd
  refine hK.out _ _ (by exact zaa (Hpb.right)) fun hHeld=>?_
  clear hK K
  try simp only [sp]
  generalize World.alloc wd (.cells #[.int .i64 0,.int .i64 0,.int .i64 0,.int .i64 0,.int .i64 0,.int .i64 0,.int .i64 0,.int .i64 0] 85)=wpb at *
  generalize wd.heap.size=z7a at *
  refine rd [3,8] (rn (fun K hK=>?_) ?_)
  ·go_simp
   go_at_call 78;(with_reducible refine zbr l l1 l2 k1 k2 hl IK PL PLO hx (zai Hpb) ?_);intro m1 i1 i2 i3 i4 i5 i6 ct1 ht1 xc5 hm1 Xpbc z8i;have PR:=L_ (zgz ok.out pre.out hm1.out.1)
   have z8l:=(zai Xpbc)
   have xd5:=(Jpb).trans z8i
   refine hK.out _ _ (by exact zaa (z8l.right)) fun hHeld=>?_
   clear hK K
   try simp only [sp]
   refine rd [7,8] (rn (fun K hK=>?_) ?_)
   ·go_simp
    go_at_call 78;(with_reducible refine zbr r r1 r2 k1 k2 hr IK PR PRO hx (zai z8l) ?_);intro m2 j1 j2 j3 j4 j5 j6 ct2 ht2 zr8 hm2 z7p zvq
    have zvw:=(zai z7p)
    have z8a:=(xd5).trans zvq
    refine hK.out _ _ (by exact zaa (zvw.right)) fun hHeld=>?_
    clear hK K
    try simp only [sp]
    refine rd [8] (rc fun K hK=>?_)
    go_simp
    have zhh:=zvw.new (.cells #[.int .i64 0,.int .i64 0,.int .i64 0,.int .i64 0,.int .i64 0,.int .i64 0,.int .i64 0,.int .i64 0] 85)
    have zvi:=io1 zhh z8a
    refine hK.out _ _ (by exact zaa (zhh.right.right)) fun hHeld=>?_
    clear hK K
    try simp only [sp]
    generalize World.alloc zr8 (.cells #[.int .i64 0,.int .i64 0,.int .i64 0,.int .i64 0,.int .i64 0,.int .i64 0,.int .i64 0,.int .i64 0] 85)=xc3 at *
    generalize zr8.heap.size=znh at *
    have zhp:=zhh
    have FA:=zb0 zhp
    obtain ⟨f0,f1,f2,f3,f4,f5,f6,f7⟩:=FA
    have QA:=nd8 zhp
    obtain ⟨q0,q1,q2,q3,q4,q5,q6,q7⟩:=QA
    have zfj:=zaz (.int .i64 i1) (.int .i64 i2) (.int .i64 i3) (.int .i64 i4) (.int .i64 i5) (.int .i64 i6) (.int .i64 ct1) (.int .i64 ht1) zhp
    have FB:=zb0 zfj.right
    obtain ⟨g0,g1,g2,g3,g4,g5,g6,g7⟩:=FB
    have QB:=nd8 zfj.right
    obtain ⟨r0,r1',r2',r3,r4,r5,r6,r7⟩:=QB
    have zk5:=zai (zaz (.int .i64 j1) (.int .i64 j2) (.int .i64 j3) (.int .i64 j4) (.int .i64 j5) (.int .i64 j6) (.int .i64 ct2) (.int .i64 ht2) (zai zfj))
    have zn2:=zac (b:=znh) (.int .i64 i1) (.int .i64 i2) (.int .i64 i3) (.int .i64 i4) (.int .i64 i5) (.int .i64 i6) (.int .i64 ct1) (.int .i64 ht1) (zvi)
    have znq:=zac (b:=z7a) (.int .i64 j1) (.int .i64 j2) (.int .i64 j3) (.int .i64 j4) (.int .i64 j5) (.int .i64 j6) (.int .i64 ct2) (.int .i64 ht2) zn2
    refine rd [10] (rc fun K hK=>?_)
    go_simp
    refine hK.out _ _ (by exact zaa (zfj.right.right)) fun hHeld=>?_
    clear hK K
    try simp only [sp]
    refine rd [11] (rc fun K hK=>?_)
    go_simp
    refine hK.out _ _ (by exact zaa (zk5.right.right)) fun hHeld=>?_
    clear hK K
    try simp only [sp]
    refine wpAnyH_done (by kernel_rfl) ?_ _
    go_wp2_with fail
    go_meet
    exact ⟨_,_,_,i1,i2,i3,i4,i5,i6,ct1,ht1,j1,j2,j3,j4,j5,j6,ct2,ht2,rfl,rfl,L_ (set_mid ok.out pre.out hm1.out hm2.out),zk5,znq⟩
   refine rc fun K hK=>?_
   go_simp
   have zoi:=z8l.new (.cells #[.int .i64 0,.int .i64 0,.int .i64 0,.int .i64 0,.int .i64 0,.int .i64 0,.int .i64 0,.int .i64 0] 85)
   have z8b:=io1 zoi xd5
   refine hK.out _ _ (by exact zaa (zoi.right.right)) fun hHeld=>?_
   clear hK K
   try simp only [sp]
   generalize World.alloc xc5 (.cells #[.int .i64 0,.int .i64 0,.int .i64 0,.int .i64 0,.int .i64 0,.int .i64 0,.int .i64 0,.int .i64 0] 85)=wpbca at *
   generalize xc5.heap.size=zu1 at *
   refine rd [7] (rc fun K hK=>?_)
   go_simp
   go_at_call 78;(with_reducible refine zbr r r1 r2 k1 k2 hr IK PR PRO hx (fr2 zoi) ?_);intro m2 j1 j2 j3 j4 j5 j6 ct2 ht2 xc4 hm2 zu7 zoa
   have zkv:=(bk2 zu7)
   have zvj:=(z8b).trans zoa
   refine hK.out _ _ (by exact zaa (zkv.right.right)) fun hHeld=>?_
   clear hK K
   try simp only [sp]
   have zhq:=zkv
   have FA:=zb0 zhq
   obtain ⟨f0,f1,f2,f3,f4,f5,f6,f7⟩:=FA
   have QA:=nd8 zhq
   obtain ⟨q0,q1,q2,q3,q4,q5,q6,q7⟩:=QA
   have zfk:=zaz (.int .i64 i1) (.int .i64 i2) (.int .i64 i3) (.int .i64 i4) (.int .i64 i5) (.int .i64 i6) (.int .i64 ct1) (.int .i64 ht1) zhq
   have FB:=zb0 zfk.right
   obtain ⟨g0,g1,g2,g3,g4,g5,g6,g7⟩:=FB
   have QB:=nd8 zfk.right
   obtain ⟨r0,r1',r2',r3,r4,r5,r6,r7⟩:=QB
   have zk6:=zai (zaz (.int .i64 j1) (.int .i64 j2) (.int .i64 j3) (.int .i64 j4) (.int .i64 j5) (.int .i64 j6) (.int .i64 ct2) (.int .i64 ht2) (zai zfk))
   have zn3:=zac (b:=zu1) (.int .i64 i1) (.int .i64 i2) (.int .i64 i3) (.int .i64 i4) (.int .i64 i5) (.int .i64 i6) (.int .i64 ct1) (.int .i64 ht1) (zvj)
   have znr:=zac (b:=z7a) (.int .i64 j1) (.int .i64 j2) (.int .i64 j3) (.int .i64 j4) (.int .i64 j5) (.int .i64 j6) (.int .i64 ct2) (.int .i64 ht2) zn3
   refine rd [10] (rc fun K hK=>?_)
   go_simp
   refine hK.out _ _ (by exact zaa (zfk.right.right)) fun hHeld=>?_
   clear hK K
   try simp only [sp]
   refine rd [11] (rc fun K hK=>?_)
   go_simp
   refine hK.out _ _ (by exact zaa (zk6.right.right)) fun hHeld=>?_
   clear hK K
   try simp only [sp]
   refine wpAnyH_done (by kernel_rfl) ?_ _
   go_wp2_with fail
   go_meet
   exact ⟨_,_,_,i1,i2,i3,i4,i5,i6,ct1,ht1,j1,j2,j3,j4,j5,j6,ct2,ht2,rfl,rfl,L_ (set_mid ok.out pre.out hm1.out hm2.out),zk6,znr⟩
  refine rc fun K hK=>?_
  go_simp
  have z8m:=Hpb.new (.cells #[.int .i64 0,.int .i64 0,.int .i64 0,.int .i64 0,.int .i64 0,.int .i64 0,.int .i64 0,.int .i64 0] 85)
  have Jpba:=io1 z8m Jpb
  refine hK.out _ _ (by exact zaa (z8m.right.right)) fun hHeld=>?_
  clear hK K
  try simp only [sp]
  generalize World.alloc wpb (.cells #[.int .i64 0,.int .i64 0,.int .i64 0,.int .i64 0,.int .i64 0,.int .i64 0,.int .i64 0,.int .i64 0] 85)=wpba at *
  generalize wpb.heap.size=z7c at *
  refine rd [3] (rc fun K hK=>?_)
  go_simp
  go_at_call 78;(with_reducible refine zbr l l1 l2 k1 k2 hl IK PL PLO hx (fr2 z8m) ?_);intro m1 i1 i2 i3 i4 i5 i6 ct1 ht1 wpbac hm1 z7q zvr;have PR:=L_ (zgz ok.out pre.out hm1.out.1)
  have zvx:=(bk2 z7q)
  have z8c:=(Jpba).trans zvr
  refine hK.out _ _ (by exact zaa (zvx.right.right)) fun hHeld=>?_
  clear hK K
  try simp only [sp]
  refine rd [7] (rc fun K hK=>?_)
  go_simp
  go_at_call 78;(with_reducible refine zbr r r1 r2 k1 k2 hr IK PR PRO hx (fr2 zvx) ?_);intro m2 j1 j2 j3 j4 j5 j6 ct2 ht2 xc6 hm2 zu8 zob
  have zkw:=(bk2 zu8)
  have zvk:=(z8c).trans zob
  refine hK.out _ _ (by exact zaa (zkw.right.right)) fun hHeld=>?_
  clear hK K
  try simp only [sp]
  have zhr:=zkw
  have FA:=zb0 zhr
  obtain ⟨f0,f1,f2,f3,f4,f5,f6,f7⟩:=FA
  have QA:=nd8 zhr
  obtain ⟨q0,q1,q2,q3,q4,q5,q6,q7⟩:=QA
  have zfl:=zaz (.int .i64 i1) (.int .i64 i2) (.int .i64 i3) (.int .i64 i4) (.int .i64 i5) (.int .i64 i6) (.int .i64 ct1) (.int .i64 ht1) zhr
  have FB:=zb0 zfl.right
  obtain ⟨g0,g1,g2,g3,g4,g5,g6,g7⟩:=FB
  have QB:=nd8 zfl.right
  obtain ⟨r0,r1',r2',r3,r4,r5,r6,r7⟩:=QB
  have zk7:=zai (zaz (.int .i64 j1) (.int .i64 j2) (.int .i64 j3) (.int .i64 j4) (.int .i64 j5) (.int .i64 j6) (.int .i64 ct2) (.int .i64 ht2) (zai zfl))
  have zn4:=zac (b:=z7c) (.int .i64 i1) (.int .i64 i2) (.int .i64 i3) (.int .i64 i4) (.int .i64 i5) (.int .i64 i6) (.int .i64 ct1) (.int .i64 ht1) (zvk)
  have zns:=zac (b:=z7a) (.int .i64 j1) (.int .i64 j2) (.int .i64 j3) (.int .i64 j4) (.int .i64 j5) (.int .i64 j6) (.int .i64 ct2) (.int .i64 ht2) zn4
  refine rd [10] (rc fun K hK=>?_)
  go_simp
  refine hK.out _ _ (by exact zaa (zfl.right.right)) fun hHeld=>?_
  clear hK K
  try simp only [sp]
  refine rd [11] (rc fun K hK=>?_)
  go_simp
  refine hK.out _ _ (by exact zaa (zk7.right.right)) fun hHeld=>?_
  clear hK K
  try simp only [sp]
  refine wpAnyH_done (by kernel_rfl) ?_ _
  go_wp2_with fail
  go_meet
  exact ⟨_,_,_,i1,i2,i3,i4,i5,i6,ct1,ht1,j1,j2,j3,j4,j5,j6,ct2,ht2,rfl,rfl,L_ (set_mid ok.out pre.out hm1.out hm2.out),zk7,zns⟩
 case rest =>
  obtain ⟨b9,b10,m2,i1,i2,i3,i4,i5,i6,ct1,ht1,j1,j2,j3,j4,j5,j6,ct2,ht2,rfl,rfl,hmid,K2,J2⟩:=hcut
  obtain ⟨z1,z2,z3,z4,z5,z6,z7,z8⟩:=hmid.out.2
  have wr1:IntKind.i64.wrap (ct1+ct2)=ct1+ct2:=wrap_in (by omega) (by omega)
  have wr2:IntKind.i64.wrap (ct1+ct2+1)=ct1+ct2+1:=wrap_in (by omega) (by omega)
  have wr3:IntKind.i64.wrap (max ht1 ht2+1)=max ht1 ht2+1:=wrap_in (by omega) (by omega)
  have HOK:=L_ (xej IL.out IR.out ok.out pre.out hmid.out)
  have Kd:=K2.drew
  have Jd:=J2.drew
  have S0:=zd3 Kd
  clear K2 J2 z1 z2 z3 z4 z5 z6 z7 z8 PL PLO PRO
  go_upto_region 2 with fail
  refine rh Kd (fun W Kd=>zd3 Kd) fun hHeld=>?_
  refine tk ?_ ?_ [0,1,3,4,5,6,7,8,9,10,11,12,13,14] ?_ hHeld ?_;rotate_left 2;exact tt
  refine rd [2,15] (rn (fun K hK=>?_) ?_)
  ·go_simp
   go_at_call 46;(with_reducible refine zan Kd ?_);intro w3 H3 I3
   refine hK.out _ _ (by exact zd3 H3) fun hHeld=>?_
   clear hK K
   try simp only [sp]
   refine rd [15] (rc fun K hK=>?_)
   go_simp
   refine hK.out _ _ (by exact zd3 H3) fun hHeld=>?_
   clear hK K
   try simp only [sp]
   refine tk ?_ ?_ [16,17] ?_ hHeld ?_;rotate_left 2;exact tt
   refine rd [18] (rc fun K hK=>?_)
   go_simp
   go_at_call 79;(with_reducible refine zln k1 k2 4294967295 4294967295 l1 l2 r1 r2 (ct1+ct2+1) (max ht1 ht2+1) d HOK hx (fr2 H3) ?_);intro m3 w4 hm3 X4 I4;have H4:=bk2 X4
   refine hK.out _ _ (by exact zd3 H4) fun hHeld=>?_
   clear hK K
   try simp only [sp]
   refine wpAnyH_done (by kernel_rfl) ?_ _
   go_upto_region 3 with fail
   obtain ⟨f0,f1⟩:=zgf H4.right.right.right
   obtain ⟨g0,g1⟩:=tk2 H4.right.right.right
   obtain ⟨e0,e1⟩:=tk2 H4.right.right.right.right.right.right
   have KE:=zc2 (.int .i64 k1) (.int .i64 k2) (zfq H4)
   have JE:=zay (b:=bx+3) (.int .i64 k1) (.int .i64 k2) ((Jd.trans I3).trans I4)
   obtain ⟨q0,q1⟩:=tk2 KE
   have FIN:=L_ (HH.out m3 _ (L_ (zyf ok.out pre.out hmid.out hm3.out hl.out hr.out)) (zqe KE) JE)
   go_wp2_with fail
   have hag:=Tryz.isAgg29
   have hsz:=Tryz.sizeOf29
   exact bodyPost_ret (v:=tkA k1 k2) (by simp [results,Tryz.results45,go_sem,q0,q1]) rfl FIN.out
  ·refine rc fun K hK=>?_
   go_simp
   refine hK.out _ _ (by exact zd3 Kd) fun hHeld=>?_
   clear hK K
   try simp only [sp]
   refine tk ?_ ?_ [16] ?_ hHeld ?_;rotate_left 2;exact tt
   refine rd [2] (rc fun K hK=>?_)
   go_simp
   go_at_call 46;(with_reducible refine zan Kd ?_);intro w3 H3 I3
   refine hK.out _ _ (by exact zd3 H3) fun hHeld=>?_
   clear hK K
   try simp only [sp]
   refine tk ?_ ?_ [17] ?_ hHeld ?_;rotate_left 2;exact tt
   refine rd [18] (rc fun K hK=>?_)
   go_simp
   go_at_call 79;(with_reducible refine zln k1 k2 4294967295 4294967295 l1 l2 r1 r2 (ct1+ct2+1) (max ht1 ht2+1) d HOK hx (fr2 H3) ?_);intro m3 w4 hm3 X4 I4;have H4:=bk2 X4
   refine hK.out _ _ (by exact zd3 H4) fun hHeld=>?_
   clear hK K
   try simp only [sp]
   refine wpAnyH_done (by kernel_rfl) ?_ _
   go_upto_region 3 with fail
   obtain ⟨f0,f1⟩:=zgf H4.right.right.right
   obtain ⟨g0,g1⟩:=tk2 H4.right.right.right
   obtain ⟨e0,e1⟩:=tk2 H4.right.right.right.right.right.right
   have KE:=zc2 (.int .i64 k1) (.int .i64 k2) (zfq H4)
   have JE:=zay (b:=bx+3) (.int .i64 k1) (.int .i64 k2) ((Jd.trans I3).trans I4)
   obtain ⟨q0,q1⟩:=tk2 KE
   have FIN:=L_ (HH.out m3 _ (L_ (zyf ok.out pre.out hmid.out hm3.out hl.out hr.out)) (zqe KE) JE)
   go_wp2_with fail
   have hag:=Tryz.isAgg29
   have hsz:=Tryz.sizeOf29
   exact bodyPost_ret (v:=tkA k1 k2) (by simp [results,Tryz.results45,go_sem,q0,q1]) rfl FIN.out
end
end Go.Proofs.YtfknjmoekbabcaaGreatDoor
namespace Go.Proofs.YtfknjmoekbabcaaGreatDoor
open Sq (Tk Nd Mp T)
namespace Sq
theorem zdh (t:T) (ts:List T):flat (t::ts)=t.toks++flat ts:=by unfold flat;simp
theorem z5u {ts ts':List T} (h:List.Perm ts ts'):List.Perm (flat ts) (flat ts'):=by
 unfold flat
 exact (h.map T.toks).flatten
structure Fr (m0 m:Option Mp) (all:List Tk) (ts:List T) (ks:List Tk):Prop where
 nodup:(flat ts++ks).Nodup
 ok:∀ y∈flat ts++ks,OkT y
 cnt:(flat ts++ks).length≤255
 sub:∀ y∈flat ts++ks,y∈all
 own:∀ M,m=some M→∃ M0,m0=some M0∧(∀ t∈ts,∃ u,zc8 M t u)∧(∀ k∈ks,M k≠none)∧∀ y,y∉all→M y=M0 y
variable {m0 m m':Option Mp} {all:List Tk} {ts ts':List T} {ks ks':List Tk} {l r:T} {k x:Tk}
theorem Fr.perm (f:Fr m0 m all ts ks) (h1:List.Perm ts ts') (h2:List.Perm ks ks'):Fr m0 m all ts' ks':=by
 have p:List.Perm (flat ts++ks) (flat ts'++ks'):=(z5u h1).append h2
 refine ⟨p.nodup_iff.1 f.nodup,fun y hy=>f.ok y (p.mem_iff.2 hy),by rw [←p.length_eq];exact f.cnt,fun y hy=>f.sub y (p.mem_iff.2 hy),fun M hM=>?_⟩
 obtain ⟨M0,e,a,b,c⟩:=f.own M hM
 exact ⟨M0,e,fun t ht=>a t (h1.mem_iff.2 ht),fun k hk=>b k (h2.mem_iff.2 hk),c⟩
theorem zka (l r:T) (k:Tk) (ts:List T) (ks:List Tk):List.Perm (flat (l::r::ts)++(k::ks)) ((l.toks++k::r.toks)++(flat ts++ks)):=by
 rw [zdh,zdh]
 have h:List.Perm (r.toks++(flat ts++(k::ks))) (k::(r.toks++(flat ts++ks))):=by
  refine (List.Perm.append_left _ List.perm_middle).trans ?_
  exact List.perm_middle
 simp only [List.append_assoc,List.cons_append]
 exact List.Perm.append_left _ h
theorem Fr.parts (f:Fr m0 m all (l::r::ts) (k::ks)):(l.toks++k::r.toks).Nodup∧(flat ts++ks).Nodup∧∀ y∈flat ts++ks,y∉l.toks++k::r.toks:=by
 have h:=(zka l r k ts ks).nodup_iff.1 f.nodup
 obtain ⟨h1,h2,h3⟩:=List.nodup_append.1 h
 exact ⟨h1,h2,fun y hy hn=>h3 y hn y hy rfl⟩
theorem Fr.setOk (f:Fr m0 m all (l::r::ts) (k::ks)):zkf l r k where
 nodup:=f.parts.1
 ok:=fun y hy=>f.ok y ((zka l r k ts ks).mem_iff.2 (List.mem_append_left _ hy))
 cnt:=by
  have h:=f.cnt
  rw [(zka l r k ts ks).length_eq] at h
  simp only [List.length_append,List.length_cons,T.zbn] at h
  omega
theorem Fr.setPre (f:Fr m0 m all (l::r::ts) (k::ks)):zkr m l r k 0:=fun M hM=>by
 obtain ⟨M0,e,a,b,c⟩:=f.own M hM
 exact ⟨a l (by simp),a r (by simp),.inl ⟨b k (by simp),rfl⟩⟩
theorem Fr.put (f:Fr m0 m all (l::r::ts) (k::ks)) {t:T} (ht:t.toks=l.toks++k::r.toks) (own:∀ M',m'=some M'→∃ M,m=some M∧zc8 M' t nob∧∀ y,y∉l.toks++k::r.toks→M' y=M y):Fr m0 m' all (t::ts) ks:=by
 have p:List.Perm (flat (l::r::ts)++(k::ks)) (flat (t::ts)++ks):=by
  rw [zdh t,ht,List.append_assoc]
  exact zka l r k ts ks
 refine ⟨p.nodup_iff.1 f.nodup,fun y hy=>f.ok y (p.mem_iff.2 hy),by rw [←p.length_eq];exact f.cnt,fun y hy=>f.sub y (p.mem_iff.2 hy),fun M' hM'=>?_⟩
 obtain ⟨M,e,h1,h2⟩:=own M' hM'
 obtain ⟨M0,e0,a,b,c⟩:=f.own M e
 obtain ⟨_,_,n3⟩:=f.parts
 refine ⟨M0,e0,fun s hs=>?_,fun y hy=>?_,fun y hy=>?_⟩
 ·rcases List.mem_cons.1 hs with rfl | hs
  ·exact ⟨_,h1⟩
  ·obtain ⟨u,hu⟩:=a s (by simp [hs])
   exact ⟨u,hu.congr fun y hy=>h2 y (n3 y (List.mem_append_left _ (zdv.2 ⟨s,hs,hy⟩)))⟩
 ·rw [h2 y (n3 y (List.mem_append_right _ hy))]
  exact b y (by simp [hy])
 ·rw [h2 y fun hn=>hy (f.sub y ((zka l r k ts ks).mem_iff.2 (List.mem_append_left _ hn)))]
  exact c y hy
theorem Fr.set (f:Fr m0 m all (l::r::ts) (k::ks)) (h:Made m m' l r k (.node l k r)):Fr m0 m' all (.node l k r::ts) ks:=f.put rfl h
theorem Fr.open (f:Fr m0 m all (.node l k r::ts) ks):Fr m0 m all (l::r::ts) (k::ks):=by
 have p:List.Perm (flat (.node l k r::ts)++ks) (flat (l::r::ts)++(k::ks)):=by
  refine List.Perm.trans ?_ (zka l r k ts ks).symm
  rw [zdh,List.append_assoc]
  exact List.Perm.refl _
 refine ⟨p.nodup_iff.1 f.nodup,fun y hy=>f.ok y (p.mem_iff.2 hy),by rw [←p.length_eq];exact f.cnt,fun y hy=>f.sub y (p.mem_iff.2 hy),fun M hM=>?_⟩
 obtain ⟨M0,e,a,b,c⟩:=f.own M hM
 obtain ⟨u,hu⟩:=a (.node l k r) (by simp)
 refine ⟨M0,e,fun s hs=>?_,fun y hy=>?_,c⟩
 ·simp only [List.mem_cons] at hs
  rcases hs with rfl | rfl | hs
  ·exact ⟨_,hu.2.1⟩
  ·exact ⟨_,hu.2.2⟩
  ·exact a s (by simp [hs])
 ·rcases List.mem_cons.1 hy with rfl | hy
  ·rw [hu.1];simp
  ·exact b y hy
theorem Fr.hold (f:Fr m0 m all ts ks) {M:Mp} (e:m=some M) {t:T} (h:t∈ts):∃ u,zc8 M t u:=by
 obtain ⟨_,_,a,_⟩:=f.own M e
 exact a t h
theorem Fr.toks (f:Fr m0 m all ts ks) {t:T} (h:t∈ts):(∀ y∈t.toks,OkT y)∧t.cnt≤255∧t.toks.Nodup:=by
 have h1:∀ y∈t.toks,y∈flat ts:=fun y hy=>zdv.2 ⟨t,h,hy⟩
 have h2:List.Sublist t.toks (flat ts):=by
  unfold flat
  exact List.sublist_flatten_of_mem (List.mem_map.2 ⟨t,h,rfl⟩)
 refine ⟨fun y hy=>f.ok y (List.mem_append_left _ (h1 y hy)),?_,(List.nodup_append.1 f.nodup).1.sublist h2⟩
 have:=f.cnt
 have h3:=h2.length_le
 rw [List.length_append] at this
 rw [T.zbn] at h3
 omega
theorem z6y (l:T) (k:Tk) (r:T) (bl:l.Bal) (br:r.Bal) (h1:l.ht≤r.ht+2) (h2:r.ht≤l.ht+2):∃ t,Lk l k r t:=by
 by_cases c1:r.ht+1<l.ht
 ·cases l with
  | nil=>simp [T.ht] at c1
  | node a x b =>
   by_cases c:b.ht≤a.ht
   ·exact ⟨_,Lk.left1 bl br (by omega) c⟩
   ·cases b with
    | nil=>simp [T.ht] at c
    | node c1 y d=>exact ⟨_,Lk.left2 bl br (by omega) (by omega)⟩
 ·by_cases c2:l.ht+1<r.ht
  ·cases r with
   | nil=>simp [T.ht] at c2
   | node a x b =>
    by_cases c:a.ht≤b.ht
    ·exact ⟨_,Lk.xdl bl br (by omega) c⟩
    ·cases a with
     | nil=>simp [T.ht] at c
     | node c1 y d=>exact ⟨_,Lk.xdk bl br (by omega) (by omega)⟩
  ·exact ⟨_,Lk.set bl br (by omega) (by omega)⟩
theorem zw0 (k:Tk):∀ (n:Nat) (l r:T),l.ht+r.ht≤n→l.Bal→r.Bal→∃ t,Lk l k r t
 | n,l,r,hn,bl,br=>by
  by_cases c1:r.ht+1<l.ht
  ·cases l with
   | nil=>simp [T.ht] at c1
   | node a x b =>
    have hb:=bl
    simp only [T.Bal] at hb
    match n,hn with
    | 0,hn=>simp only [T.ht] at hn;omega
    | n+1,hn =>
     obtain ⟨t',h'⟩:=zw0 k n b r (by simp only [T.ht] at hn;omega) hb.2.1 br
     obtain ⟨d1,d2⟩:=Lk.zuk bl c1 h'
     obtain ⟨t,ht⟩:=z6y a x t' hb.1 h'.bal d1 d2
     exact ⟨t,Lk.zsg bl c1 h' ht⟩
  ·by_cases c2:l.ht+1<r.ht
   ·cases r with
    | nil=>simp [T.ht] at c2
    | node a x b =>
     have hb:=br
     simp only [T.Bal] at hb
     match n,hn with
     | 0,hn=>simp only [T.ht] at hn;omega
     | n+1,hn =>
      obtain ⟨t',h'⟩:=zw0 k n l a (by simp only [T.ht] at hn;omega) bl hb.1
      obtain ⟨d1,d2⟩:=Lk.zpo br c2 h'
      obtain ⟨t,ht⟩:=z6y t' x b h'.bal hb.2.1 d2 d1
      exact ⟨t,Lk.zov br c2 h' ht⟩
   ·exact ⟨_,Lk.set bl br (by omega) (by omega)⟩
end Sq
end Go.Proofs.YtfknjmoekbabcaaGreatDoor
