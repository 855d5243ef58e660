/-
  A part of a proof. It proves no statement by itself.
-/
import Derived.Test.YtfknjmoekbabcaaGreatDoorC34
set_option linter.unusedSimpArgs false
set_option linter.unusedVariables false
set_option linter.unusedSectionVars false
set_option maxRecDepth 100000
set_option maxHeartbeats 64000000
namespace Go.Proofs.YtfknjmoekbabcaaGreatDoor
open Go.RowKit Go.Lib
open Sq (Tk Nd Mp zca InT Fr)
namespace Sq
theorem Fr.drop_nil {m0 m:Option Mp} {all:List Tk} {ts:List T} {ks:List Tk} {l:T} (f:Fr m0 m all (l::.nil::ts) ks):Fr m0 m all (l::ts) ks:=by
 have e:flat (l::.nil::ts)=flat (l::ts):=by rw [zdh,zdh,zdh];simp [T.toks]
 exact ⟨e ▸ f.nodup,fun y hy=>f.ok y (by rw [e];exact hy),by rw [←e];exact f.cnt,fun y hy=>f.sub y (by rw [e];exact hy),fun M hM=>by
  obtain ⟨M0,h0,a,b,c⟩:=f.own M hM
  refine ⟨M0,h0,fun t ht=>a t ?_,b,c⟩
  rcases List.mem_cons.1 ht with rfl | h
  ·simp
  ·simp [h]⟩
end Sq
abbrev zzi (t:Sq.T):Prop:=∀ {x:Sx} {M:Mp} {F:Asn} {w:World} {R:Ending→World→Prop} {m0:Option Mp} {all:List Tk} {ts:List Sq.T} {ks:List Tk} (k1 k2:Int) (al:Hid ((k1,k2)=t.top)) (fr:Hid (Fr m0 (some M) all (t::ts) ks)) (bal:Hid (t≠.nil∧t.Bal)) (hx:Hid x.Ok) (H:Sat (zav x (some M)*F) w)
  (h:∀ m' v1 v2 e1 e2 rest w',Hid (Sq.La t rest (e1,e2)∧Fr m0 m' all (rest::ts) ((e1,e2)::ks)∧∀ M',m'=some M'→(v1,v2)=rest.top)→Sat (zav x m'*F) w'→Io w w'→R (.returned (.tuple #[tkA v1 v2,tkA e1 e2])) w'),
  Calls Tryz.prog 81 #[.pointer (some ⟨x.s,0,none⟩),tkA k1 k2] w R
section
variable {x:Sx} {M:Mp} {F:Asn} {w:World} {R:Ending→World→Prop} {m0:Option Mp} {all:List Tk} {ts:List Sq.T} {ks:List Tk}
theorem la_in {A B C D:Asn} (H:Sat (A*(B*(C*(D*F)))) w):Sat (D*(A*(B*(C*F)))) w:=H.of_eq (by ac_rfl)
theorem zfu {A:Asn} {b0 b1 b2 b6:Nat} {t0 t1 t2 t6:TypeId} {x0 x1 z0 z1 z2 z3 y0 y1 y2 y3 y4 y5 y6 y7:Value} (H:Sat (pts b6 (.cells #[y0,y1,y2,y3,y4,y5,y6,y7] t6 (0,0))*(A*(pts b2 (.cells #[z0,z1] t2 (0,0))*(pts b1 (.cells #[z2,z3] t1 (0,0))*(pts b0 (.cells #[x0,x1] t0 (0,0))*F))))) w) :
  (w.cell? ⟨b0,0,none⟩=some x0∧w.cell? ⟨b0,1,none⟩=some x1)∧(w.cell? ⟨b6,2,none⟩=some y2∧w.cell? ⟨b6,3,none⟩=some y3∧w.cell? ⟨b6,4,none⟩=some y4∧w.cell? ⟨b6,5,none⟩=some y5):=by
 have a:=nd8 H
 exact ⟨tk2 H.right.right.right.right,⟨a.2.2.1,a.2.2.2.1,a.2.2.2.2.1,a.2.2.2.2.2.1⟩⟩
theorem zji {A:Asn} {b0 b1 b2 b6 b7:Nat} {t0 t1 t2 t6 t7:TypeId} {x0 x1 z0 z1 z2 z3 y0 y1 y2 y3 y4 y5 y6 y7 v0 v1:Value} (H:Sat (pts b7 (.cells #[v0,v1] t7 (0,0))*(pts b6 (.cells #[y0,y1,y2,y3,y4,y5,y6,y7] t6 (0,0))*(A*(pts b2 (.cells #[z0,z1] t2 (0,0))*(pts b1 (.cells #[z2,z3] t1 (0,0))*(pts b0 (.cells #[x0,x1] t0 (0,0))*F)))))) w) :
  ((w.cell? ⟨b0,0,none⟩=some x0∧w.cell? ⟨b0,1,none⟩=some x1)∧(w.cell? ⟨b6,2,none⟩=some y2∧w.cell? ⟨b6,3,none⟩=some y3∧w.cell? ⟨b6,4,none⟩=some y4∧w.cell? ⟨b6,5,none⟩=some y5))∧(w.cell? ⟨b7,0,none⟩=some v0∧w.cell? ⟨b7,1,none⟩=some v1)∧(w.cell? ⟨b2,0,none⟩=some z0∧w.cell? ⟨b2,1,none⟩=some z1) :=
 ⟨zfu H.right,tk2 H,tk2 H.right.right.right⟩
theorem la_res {A B C D:Asn} (H:Sat (A*(B*(C*(D*F)))) w):Sat (D*(C*(A*(B*F)))) w:=H.of_eq (by ac_rfl)
theorem z4q {A B C D:Asn} (H:Sat (D*(C*(A*(B*F)))) w):Sat (A*(B*(C*(D*F)))) w:=H.of_eq (by ac_rfl)
theorem xdx {A B C D E:Asn} (H:Sat (A*(B*(C*(D*(E*F))))) w):Sat (B*F) w:=(H.of_eq (show _=(A*(C*(D*E)))*(B*F) from by ac_rfl)).right
theorem xfh {A A7 B C D E:Asn} (H:Sat (A7*(A*(B*(C*(D*(E*F)))))) w):Sat (B*F) w:=xdx H.right
theorem z4p {A B:Asn} {b1 b2:Nat} {t1 t2:TypeId} {y0 y1 z0 z1:Value} (x0 x1 u0 u1:Value) (H:Sat (A*(B*(pts b2 (.cells #[z0,z1] t2 (0,0))*(pts b1 (.cells #[y0,y1] t1 (0,0))*F)))) w) :
  Sat (A*(B*(pts b2 (.cells #[z0,z1] t2 (0,0))*(pts b1 (.cells #[x0,x1] t1 (0,0))*F)))) ((w.setCell ⟨b1,0,none⟩ x0).setCell ⟨b1,1,none⟩ x1) ∧
  Sat (A*(B*(pts b2 (.cells #[u0,u1] t2 (0,0))*(pts b1 (.cells #[x0,x1] t1 (0,0))*F)))) ((((w.setCell ⟨b1,0,none⟩ x0).setCell ⟨b1,1,none⟩ x1).setCell ⟨b2,0,none⟩ u0).setCell ⟨b2,1,none⟩ u1):=by
 have k1:=zc2 x0 x1 (la_res H)
 have k2:=zc2 u0 u1 (zai k1)
 exact ⟨z4q k1,z4q (zai k2)⟩
theorem xa7 {A A7 B:Asn} {b1 b2:Nat} {t1 t2:TypeId} {y0 y1 z0 z1:Value} (x0 x1 u0 u1:Value) (H:Sat (A7*(A*(B*(pts b2 (.cells #[z0,z1] t2 (0,0))*(pts b1 (.cells #[y0,y1] t1 (0,0))*F))))) w) :
  Sat (A7*(A*(B*(pts b2 (.cells #[z0,z1] t2 (0,0))*(pts b1 (.cells #[x0,x1] t1 (0,0))*F))))) ((w.setCell ⟨b1,0,none⟩ x0).setCell ⟨b1,1,none⟩ x1) ∧
  Sat (A7*(A*(B*(pts b2 (.cells #[u0,u1] t2 (0,0))*(pts b1 (.cells #[x0,x1] t1 (0,0))*F))))) ((((w.setCell ⟨b1,0,none⟩ x0).setCell ⟨b1,1,none⟩ x1).setCell ⟨b2,0,none⟩ u0).setCell ⟨b2,1,none⟩ u1):=by
 have H2:Sat (A7*((A*B)*(pts b2 (.cells #[z0,z1] t2 (0,0))*(pts b1 (.cells #[y0,y1] t1 (0,0))*F)))) w:=H.of_eq (by ac_rfl)
 have h:=z4p x0 x1 u0 u1 H2
 exact ⟨h.1.of_eq (by ac_rfl),h.2.of_eq (by ac_rfl)⟩
theorem xfi {A7 A B:Asn} {b2:Nat} {t2:TypeId} {z0 z1:Value} (u0 u1:Value) (H:Sat (A7*(A*(B*(pts b2 (.cells #[z0,z1] t2 (0,0))*F)))) w) :
  Sat (A7*(A*(B*(pts b2 (.cells #[u0,u1] t2 (0,0))*F)))) ((w.setCell ⟨b2,0,none⟩ u0).setCell ⟨b2,1,none⟩ u1) :=
 (zc2 u0 u1 (H.of_eq (show _=pts b2 (.cells #[z0,z1] t2 (0,0))*(A7*(A*(B*F))) from by ac_rfl))).of_eq (by ac_rfl)
theorem zzx (l r:Sq.T) (k:Tk) (ih:zzi r):zzi (.node l k r):=by
 intro x M F w R m0 all ts ks k1 k2 al fr bal hx H h
 have HH:=L_ h
 have IH:Hid (zzi r):=L_ ih
 have FO:=L_ fr.out.open
 have HK:Hid ((k1,k2)=k):=L_ al.out
 have AT:Hid (Sq.zlj (some M) (.node l k r) (k1,k2)):=L_ (fr.out.arg (by simp) al.out)
 have H1:=la_in (((H.new (.cells #[.int .i64 k1,.int .i64 k2] 29)).new (.cells #[.int .i64 0,.int .i64 0] 29)).new (.cells #[.int .i64 0,.int .i64 0] 29))
 have I1:=io3 H1 (Io.refl w)
 simp only [World.size_alloc,Nat.add_assoc,Nat.reduceAdd] at H1
 clear h H ih
 go_enter Tryz.func81,Tryz.ntmps81
 go_upto_region 1 with fail
 generalize ((w.alloc _).alloc _).alloc _=w1 at *
 generalize w.heap.size=bx at *
 have ZZ:=tk2 H1.right.right.right
 obtain ⟨y0,y1⟩:=ZZ
 go_upto_region 2 with (go_at_call 58;(with_reducible refine zax (.node l k r) k1 k2 AT hx H1 ?_);intro a1 a2 a3 a4 a5 a6 a7 a8 w2 hA H2 I2;have K2:=H2.new (.cells #[.int .i64 a1,.int .i64 a2,.int .i64 a3,.int .i64 a4,.int .i64 a5,.int .i64 a6,.int .i64 a7,.int .i64 a8] 85);have J2:=(I1.trans I2).alloc (.cells #[.int .i64 a1,.int .i64 a2,.int .i64 a3,.int .i64 a4,.int .i64 a5,.int .i64 a6,.int .i64 a7,.int .i64 a8] 85))
 clear y0 y1 H1 I1 H2 I2
 generalize w2.alloc _=w3 at *
 generalize w2.heap.size=b6 at *
 obtain ⟨kA,kB⟩:=hA.out.kids
 have EL:Hid ((a3,a4)=l.top):=L_ kA
 have ER:Hid ((a5,a6)=r.top):=L_ kB
 have Kd:=K2.drew
 have Jd:=J2.drew
 clear kA kB K2 J2 hA AT
 have S0:=And.intro (zfu Kd) (zb5 (zai Kd)).2
 have hrr:(a5,a6)=Sq.nob↔r=.nil:=by rw [ER.out];exact Sq.T.zot (FO.out.toks (t:=r) (by simp)).1
 have HRR:=L_ hrr
 have EQ:=fun W=>zci a5 a6 4294967295 4294967295 W
 by_cases hn:r=.nil
 ·have h2:decide ((a5,a6)=((4294967295:Int),(4294967295:Int)))=true:=decide_eq_true (hrr.2 hn)
  simp only [h2] at EQ
  subst hn
  refine rh Kd (fun W Kd=>And.intro (zfu Kd) (zb5 (zai Kd)).2) fun hHeld=>?_
  refine tk ?_ ?_ [0,1,2,3,4,5,6,7] ?_ hHeld ?_;rotate_left 2;exact tt
  refine rd [8] (rc fun K hK=>?_)
  go_simp
  go_at_call 46;(with_reducible refine zan Kd ?_);intro w4 H4 I4;have S1:=And.intro (zfu H4) (zb5 (zai H4)).2
  refine hK.out _ _ (by exact S1) fun hHeld=>?_
  clear hK K
  try simp only [sp]
  refine tk ?_ ?_ [9,10] ?_ hHeld ?_;rotate_left 2;exact tt
  refine wpAnyH_done (by kernel_rfl) ?_ _
  go_upto_region 3 with fail
  have Ke:=H4.drew
  have Je:=(Jd.trans I4).drew
  clear EQ S0 h2 hrr
  have S5:=zfu Ke
  have FL:=z4p (.int .i64 a3) (.int .i64 a4) (.int .i64 k1) (.int .i64 k2) Ke
  have F1:=zgf Ke.right.right.right
  obtain ⟨f0,f1⟩:=F1
  have F2:=zgf Ke.right.right
  obtain ⟨f2,f3⟩:=F2
  have G1:=tk2 Ke.right.right.right
  obtain ⟨g0,g1⟩:=G1
  have G2:=tk2 FL.1.right.right
  obtain ⟨g2,g3⟩:=G2
  have F3:=zgf FL.1.right.right
  obtain ⟨f4,f5⟩:=F3
  have JE:=zay (b:=bx+2) (.int .i64 k1) (.int .i64 k2) (zay (b:=bx+1) (.int .i64 a3) (.int .i64 a4) Je)
  refine rh Ke (fun W Ke=>zfu Ke) fun hHeld=>?_
  generalize w4.drew=wd at *
  refine tk ?_ ?_ [0,1,2] ?_ hHeld ?_;rotate_left 2;exact tt
  refine rd [3] (rc fun K hK=>?_)
  go_simp
  refine hK.out _ _ (by exact zfu FL.1) fun hHeld=>?_
  clear hK K
  try simp only [sp]
  refine rd [4] (rc fun K hK=>?_)
  go_simp
  refine hK.out _ _ (by exact zfu FL.2) fun hHeld=>?_
  clear hK K
  try simp only [sp]
  refine wpAnyH_done (by kernel_rfl) ?_ _
  have Q1:=tk2 FL.2.right.right
  obtain ⟨q0,q1⟩:=Q1
  have Q2:=tk2 FL.2.right.right.right
  obtain ⟨q2,q3⟩:=Q2
  have FIN:=L_ (HH.out (some M) a3 a4 k1 k2 l _ (L_ ⟨by rw [HK.out];exact Sq.La.here bal.out.2.1,by rw [HK.out];exact FO.out.drop_nil,fun M' h=>EL.out⟩) (xdx FL.2) JE)
  go_wp2_with fail
  have hag:=Tryz.isAgg29
  have hsz:=Tryz.sizeOf29
  exact bodyPost_ret (v:=.tuple #[tkA a3 a4,tkA k1 k2]) (by simp [results,Tryz.results81,go_sem,q0,q1,q2,q3]) rfl FIN.out
 ·have h2:decide ((a5,a6)=((4294967295:Int),(4294967295:Int)))=false:=decide_eq_false fun e=>hn (hrr.1 e)
  simp only [h2] at EQ
  have HNE:Hid (r≠.nil∧r.Bal):=L_ ⟨hn,bal.out.2.2.1⟩
  have F1:Hid (Fr m0 (some M) all (r::l::ts) (k::ks)):=L_ (FO.out.perm (Sq.pa _ _ _) (List.Perm.refl _))
  refine wp_region_held_drew (S:=(fun W=>((W.cell? ⟨bx,0,none⟩=some (.int .i64 k1)∧W.cell? ⟨bx,1,none⟩=some (.int .i64 k2))∧(W.cell? ⟨b6,2,none⟩=some (.int .i64 a3)∧W.cell? ⟨b6,3,none⟩=some (.int .i64 a4)∧W.cell? ⟨b6,4,none⟩=some (.int .i64 a5)∧W.cell? ⟨b6,5,none⟩=some (.int .i64 a6)))∧W.cell? ⟨x.s,1,none⟩=some (.int .i64 0))) (by kernel_rfl) (by exact S0) (fun hHeld=>?_)
  refine tk ?_ ?_ [0,1,2,3,4,5,6,7] ?_ hHeld ?_;rotate_left 2;exact tt
  refine rd [8] (rc fun K hK=>?_)
  go_simp
  go_at_call 46;(with_reducible refine zan Kd ?_);intro w4 H4 I4;have S1:=And.intro (zfu H4) (zb5 (zai H4)).2
  refine hK.out _ _ (by exact S1) fun hHeld=>?_
  clear hK K
  try simp only [sp]
  refine tk ?_ ?_ [9,10] ?_ hHeld ?_;rotate_left 2;exact tt
  refine wpAnyH_done (by kernel_rfl) ?_ _
  go_upto_region 4 with fail
  clear EQ S0 h2 hrr hn Kd
  have ZZ:=zfu H4
  obtain ⟨-,-,-,z4,z5⟩:=ZZ
  have J4:=Jd.trans I4
  clear Jd I4
  go_upto_region 5 with (go_at_call 81;(refine IH.out a5 a6 ER F1 HNE hx (zai H4) ?_);intro m1 v1 v2 e1 e2 rest w5 d1 X5 I5;have K5:=(zai X5).new (.cells #[.int .i64 v1,.int .i64 v2] 29);have J5:=(J4.trans I5).alloc (.cells #[.int .i64 v1,.int .i64 v2] 29);have F2:=zgf K5.right.right.right;obtain ⟨f2,f3⟩:=F2;have G2:=tk2 K5.right.right.right;obtain ⟨g2,g3⟩:=G2;have K6:=xfi (.int .i64 e1) (.int .i64 e2) K5;have J6:=zay (b:=bx+2) (.int .i64 e1) (.int .i64 e2) J5)
  clear z4 z5 f2 f3 g2 g3 K5 J5 X5 I5 H4 J4
  generalize ((w5.alloc _).setCell ⟨bx+2,0,none⟩ (.int .i64 e1)).setCell ⟨bx+2,1,none⟩ (.int .i64 e2)=w6 at *
  generalize w5.heap.size=b7 at *
  have Ke:=K6.drew
  have Je:=J6.drew
  clear K6 J6
  have S5:=zji Ke
  have F3:Hid (Fr m0 m1 all (l::rest::ts) ((k1,k2)::(e1,e2)::ks)):=L_ (by rw [HK.out];exact d1.out.2.1.perm (Sq.pa _ _ _) (Sq.pa _ _ _))
  have AO:Hid (∀ M',m1=some M'→(a3,a4)=l.top∧(v1,v2)=rest.top):=L_ fun M' h=>⟨EL.out,d1.out.2.2 M' h⟩
  have BO:Hid (l.Bal∧rest.Bal):=L_ ⟨bal.out.2.1,d1.out.1.bal⟩
  refine rh Ke (fun W Ke=>zji Ke) fun hHeld=>?_
  refine tk ?_ ?_ [0,1,2,3,4,6] ?_ hHeld ?_;rotate_left 2;exact tt
  refine rd [5] (rc fun K hK=>?_)
  go_simp
  go_at_call 52;(refine zf2 _ l rest a3 a4 k1 k2 v1 v2 (L_ (Nat.le_refl _)) AO F3 BO hx (fr2 Ke) ?_);intro m2 o1 o2 t w7 d2 X7 I7;have H7:=bk2 X7;have FL:=xa7 (.int .i64 o1) (.int .i64 o2) (.int .i64 e1) (.int .i64 e2) H7;have F1':=zgf H7.right.right.right.right;obtain ⟨f0,f1⟩:=F1';have G1:=tk2 H7.right.right.right.right;obtain ⟨g0,g1⟩:=G1;have F4:=zgf FL.1.right.right.right;obtain ⟨f4,f5⟩:=F4;have G4:=tk2 FL.1.right.right.right;obtain ⟨g4,g5⟩:=G4;have JE:=zay (b:=bx+2) (.int .i64 e1) (.int .i64 e2) (zay (b:=bx+1) (.int .i64 o1) (.int .i64 o2) (Je.trans I7))
  refine hK.out _ _ (by exact zji H7) fun hHeld=>?_
  clear hK K
  try simp only [sp]
  refine rd [7] (rc fun K hK=>?_)
  go_simp
  refine hK.out _ _ (by exact zji FL.1) fun hHeld=>?_
  clear hK K
  try simp only [sp]
  refine rd [8] (rc fun K hK=>?_)
  go_simp
  refine hK.out _ _ (by exact zji FL.2) fun hHeld=>?_
  clear hK K
  try simp only [sp]
  refine wpAnyH_done (by kernel_rfl) ?_ _
  have Q1:=tk2 FL.2.right.right.right
  obtain ⟨q0,q1⟩:=Q1
  have Q2:=tk2 FL.2.right.right.right.right
  obtain ⟨q2,q3⟩:=Q2
  have FIN:=L_ (HH.out m2 o1 o2 e1 e2 t _ (L_ ⟨by have h5:=d2.out.1;rw [HK.out] at h5;exact Sq.La.step bal.out.2 d1.out.1 h5,d2.out.2.1,fun M' h=>(d2.out.2.2 M' h).1⟩) (xfh FL.2) JE)
  go_wp2_with fail
  have hag:=Tryz.isAgg29
  have hsz:=Tryz.sizeOf29
  exact bodyPost_ret (v:=.tuple #[tkA o1 o2,tkA e1 e2]) (by simp [results,Tryz.results81,go_sem,q0,q1,q2,q3]) rfl FIN.out
theorem z19 (t:Sq.T):zzi t:=by
 induction t with
 | nil =>
  intro x M F w R m0 all ts ks k1 k2 al fr bal hx H h
  exact absurd rfl bal.out.1
 | node l k r ihl ihr=>exact zzx l r k ihr
end
namespace Sq
variable {m0 m m':Option Mp} {all:List Tk} {ts:List T} {ks:List Tk} {t:T}
theorem Fr.hang (f:Fr m0 m all (t::ts) ks) {v:Tk} (h:∀ M',m'=some M'→∃ M,m=some M∧M'=zxa M t v):Fr m0 m' all (t::ts) ks∧∀ M',m'=some M'→zc8 M' t v:=by
 have nd:=f.nodup
 rw [zdh,List.append_assoc] at nd
 obtain ⟨n1,n2,n3⟩:=List.nodup_append.1 nd
 have out:∀ y∈flat ts++ks,y∉t.toks:=fun y hy hn=>n3 y hn y hy rfl
 refine ⟨⟨f.nodup,f.ok,f.cnt,f.sub,fun M' hM'=>?_⟩,fun M' hM'=>?_⟩
 ·obtain ⟨M,e,rfl⟩:=h M' hM'
  obtain ⟨M0,e0,a,b,c⟩:=f.own M e
  refine ⟨M0,e0,fun s hs=>?_,fun y hy=>?_,fun y hy=>?_⟩
  ·rcases List.mem_cons.1 hs with rfl | hs
   ·obtain ⟨u,hu⟩:=a s (by simp)
    exact ⟨v,zh5 hu n1⟩
   ·obtain ⟨u,hu⟩:=a s (by simp [hs])
    exact ⟨u,hu.congr fun y hy=>ze9 (out y (List.mem_append_left _ (zdv.2 ⟨s,hs,hy⟩)))⟩
  ·rw [ze9 (out y (List.mem_append_right _ hy))]
   exact b y hy
  ·have:y∉t.toks:=fun hn=>hy (f.sub y (List.mem_append_left _ (zdv.2 ⟨t,by simp,hn⟩)))
   rw [ze9 this]
   exact c y hy
 ·obtain ⟨M,e,rfl⟩:=h M' hM'
  obtain ⟨M0,e0,a,b,c⟩:=f.own M e
  obtain ⟨u,hu⟩:=a t (by simp)
  exact zh5 hu n1
end Sq
section
variable {x:Sx} {M:Mp} {F:Asn} {w:World} {R:Ending→World→Prop} {m0:Option Mp} {all:List Tk} {ts:List Sq.T} {ks:List Tk}
theorem gl_in {A B C D:Asn} (H:Sat (A*(B*(C*(D*F)))) w):Sat (D*(A*(B*(C*F)))) w:=H.of_eq (by ac_rfl)
theorem gl_fr {A B C:Asn} (H:Sat (A*(B*(C*F))) w):Sat (C*(A*(B*F))) w:=H.of_eq (by ac_rfl)
theorem gl_res {A B C D:Asn} (H:Sat (A*(B*(C*(D*F)))) w):Sat (D*(A*(B*(C*F)))) w:=H.of_eq (by ac_rfl)
theorem gl_bk {A B C:Asn} (H:Sat (C*(A*(B*F))) w):Sat (A*(B*(C*F))) w:=H.of_eq (by ac_rfl)
theorem gl_fin {A B C D E G:Asn} (H:Sat (D*(A*(B*(C*(E*(G*F)))))) w):Sat (C*F) w:=(H.of_eq (show _=(D*(A*(B*(E*G))))*(C*F) from by ac_rfl)).right
theorem z2d (l r:Sq.T) (l1 l2 r1 r2:Int) (EL:Hid ((l1,l2)=l.top)) (ER:Hid ((r1,r2)=r.top)) (fr:Hid (Fr m0 (some M) all (l::r::ts) ks)) (ne:Hid (l≠.nil∧r≠.nil)) (bal:Hid (l.Bal∧r.Bal)) (hx:Hid x.Ok) (H:Sat (zav x (some M)*F) w)
  (h:∀ m' v1 v2 t w',Hid (t.toks=l.toks++r.toks∧t.Bal∧Fr m0 m' all (t::ts) ks∧∀ M',m'=some M'→(v1,v2)=t.top∧Sq.zc8 M' t Sq.nob)→Sat (zav x m'*F) w'→Io w w'→R (.returned (tkA v1 v2)) w') :
  Calls Tryz.prog 49 #[.pointer (some ⟨x.s,0,none⟩),tkA l1 l2,tkA r1 r2] w R:=by
 have HH:=L_ h
 have nl:(4294967295,4294967295)≠((l1,l2):Tk):=fun e=>ne.out.1 ((Sq.T.zot (fr.out.toks (t:=l) (by simp)).1).1 (EL.out.symm.trans e.symm))
 have nr:(4294967295,4294967295)≠((r1,r2):Tk):=fun e=>ne.out.2 ((Sq.T.zot (fr.out.toks (t:=r) (by simp)).1).1 (ER.out.symm.trans e.symm))
 have E1:=fun W=>zci 4294967295 4294967295 l1 l2 W
 have E2:=fun W=>zci 4294967295 4294967295 r1 r2 W
 rw [decide_eq_false nl] at E1
 rw [decide_eq_false nr] at E2
 have BL:Hid (l≠.nil∧l.Bal):=L_ ⟨ne.out.1,bal.out.1⟩
 have H1:=gl_in (((H.new (.cells #[.int .i64 l1,.int .i64 l2] 29)).new (.cells #[.int .i64 r1,.int .i64 r2] 29)).new (.cells #[.int .i64 0,.int .i64 0] 29))
 have I1:=io3 H1 (Io.refl w)
 simp only [World.size_alloc,Nat.add_assoc,Nat.reduceAdd] at H1
 clear h H nl nr
 go_enter Tryz.func49,Tryz.ntmps49
 go_upto_region 1 with fail
 generalize ((w.alloc _).alloc _).alloc _=w1 at *
 generalize w.heap.size=bx at *
 go_upto_region 2 with (go_at_call 46;(with_reducible refine zan H1 ?_);intro w2 H2 I2;have Y1:=tk2 H2.right.right.right;obtain ⟨y0,y1⟩:=Y1;have Y2:=tk2 H2.right.right;obtain ⟨y2,y3⟩:=Y2)
 go_upto_region 7 with (go_at_call 81;(refine z19 l l1 l2 EL fr BL hx H2 ?_);intro m1 v1 v2 e1 e2 rest w3 d1 X3 I3;have K3:=(X3.new (.cells #[.int .i64 v1,.int .i64 v2] 29)).new (.cells #[.int .i64 e1,.int .i64 e2] 29);have J3:=(I3.alloc (.cells #[.int .i64 v1,.int .i64 v2] 29)).alloc (.cells #[.int .i64 e1,.int .i64 e2] 29);simp only [World.size_alloc] at K3)
 have FK:Hid (Fr m0 m1 all (rest::r::ts) ((e1,e2)::ks)):=L_ d1.out.2.1
 have AO:Hid (∀ M',m1=some M'→(v1,v2)=rest.top∧(r1,r2)=r.top):=L_ fun M' h=>⟨d1.out.2.2 M' h,ER.out⟩
 have BO:Hid (rest.Bal∧r.Bal):=L_ ⟨d1.out.1.bal,bal.out.2⟩
 have J4:=(I1.trans I2).trans J3
 clear y0 y1 y2 y3 H1 H2 I1 I2 J3 I3 X3
 generalize (w3.alloc _).alloc _=w4 at *
 generalize w3.heap.size=bv at *
 have Z1:=tk2 K3
 obtain ⟨z0,z1⟩:=Z1
 have Z2:=tk2 K3.right
 obtain ⟨z2,z3⟩:=Z2
 have Z3:=tk2 K3.right.right.right.right
 obtain ⟨z4,z5⟩:=Z3
 go_wp2_with (go_at_call 52;(refine zf2 _ rest r v1 v2 e1 e2 r1 r2 (L_ (Nat.le_refl _)) AO FK BO hx (gl_fr K3) ?_);intro m2 o1 o2 t w5 d2 X5 I5;have K5:=gl_res (gl_bk X5);have FF:=zgf K5;obtain ⟨f0,f1⟩:=FF;have GG:=tk2 K5;obtain ⟨g0,g1⟩:=GG;have KE:=zc2 (.int .i64 o1) (.int .i64 o2) K5;have JE:=zay (b:=bx+2) (.int .i64 o1) (.int .i64 o2) (J4.trans I5);have QQ:=tk2 KE;obtain ⟨q0,q1⟩:=QQ)
 have FIN:=L_ (HH.out m2 o1 o2 t _ (L_ ⟨by rw [d2.out.1.toks,d1.out.1.toks];simp,d2.out.1.bal,d2.out.2.1,d2.out.2.2⟩) (gl_fin KE) JE)
 have hag:=Tryz.isAgg29
 have hsz:=Tryz.sizeOf29
 exact bodyPost_ret (v:=tkA o1 o2) (by simp [results,Tryz.results49,go_sem,q0,q1]) rfl FIN.out
theorem zx8 {m:Option Mp} (k1 k2:Int) (e:Hid ((k1,k2)=Sq.nob)) (H:Sat (zav x m*F) w) (h:∀ w',Sat (zav x m*F) w'→Io w w'→R (.returned (.tuple #[])) w') :
  Calls Tryz.prog 48 #[.pointer (some ⟨x.s,0,none⟩),tkA k1 k2] w R:=by
 have HH:=L_ h
 have H1:=zai (H.new (.cells #[.int .i64 k1,.int .i64 k2] 29))
 have I1:=io1 H1 (Io.refl w)
 have EQ:=fun W=>zds k1 k2 4294967295 4294967295 W
 rw [show decide ((k1,k2)=((4294967295:Int),(4294967295:Int)))=true from decide_eq_true e.out] at EQ
 simp only [Bool.not_true] at EQ
 clear h H
 go_enter Tryz.func48,Tryz.ntmps48
 go_upto_region 1 with fail
 generalize w.alloc _=w1 at *
 generalize w.heap.size=bx at *
 have Kd:=H1.drew
 have Jd:=I1.drew
 have S0:=tk2 Kd.right
 refine rh Kd (fun W Kd=>tk2 Kd.right) fun hHeld=>?_
 refine tk ?_ ?_ [0] ?_ hHeld ?_;rotate_left 2;exact tt
 refine rd [1] (rc fun K hK=>?_)
 go_simp
 go_at_call 46;(with_reducible refine zan Kd ?_);intro w2 H2 I2;have S1:=tk2 H2.right
 refine hK.out _ _ (by exact S1) fun hHeld=>?_
 clear hK K
 try simp only [sp]
 refine tk ?_ ?_ [2] ?_ hHeld ?_;rotate_left 2;exact tt
 refine wpAnyH_done (by kernel_rfl) ?_ _
 have FIN:=L_ (HH.out _ (zai H2).right (Jd.trans I2))
 go_wp2_with fail
 go_end0
 exact FIN.out
theorem zsi (k1 k2:Int) (e:Hid ((k1,k2)≠Sq.nob)) (hx:Hid x.Ok) (H:Sat (zav x none*F) w) (h:∀ w',Sat (zav x none*F) w'→Io w w'→R (.returned (.tuple #[])) w') :
  Calls Tryz.prog 48 #[.pointer (some ⟨x.s,0,none⟩),tkA k1 k2] w R:=by
 have HH:=L_ h
 have H1:=zai (H.new (.cells #[.int .i64 k1,.int .i64 k2] 29))
 have I1:=io1 H1 (Io.refl w)
 have EQ:=fun W=>zds k1 k2 4294967295 4294967295 W
 rw [show decide ((k1,k2)=((4294967295:Int),(4294967295:Int)))=false from decide_eq_false e.out] at EQ
 simp only [Bool.not_false] at EQ
 clear h H
 go_enter Tryz.func48,Tryz.ntmps48
 go_upto_region 1 with fail
 generalize w.alloc _=w1 at *
 generalize w.heap.size=bx at *
 have Kd:=H1.drew
 have Jd:=I1.drew
 have S0:=tk2 Kd.right
 refine rh Kd (fun W Kd=>tk2 Kd.right) fun hHeld=>?_
 refine tk ?_ ?_ [0] ?_ hHeld ?_;rotate_left 2;exact tt
 refine rd [1] (rc fun K hK=>?_)
 go_simp
 go_at_call 46;(with_reducible refine zan Kd ?_);intro w2 H2 I2;have S1:=tk2 H2.right
 refine hK.out _ _ (by exact S1) fun hHeld=>?_
 clear hK K
 try simp only [sp]
 refine tk ?_ ?_ [2] ?_ hHeld ?_;rotate_left 2;exact tt
 refine wpAnyH_done (by kernel_rfl) ?_ _
 go_upto_region 2 with fail
 have Ke:=H2.drew
 have Je:=(Jd.trans I2).drew
 have S3:=tk2 Ke.right
 refine rh Ke (fun W Ke=>tk2 Ke.right) fun hHeld=>?_
 refine tk ?_ ?_ [0,1] ?_ hHeld ?_;rotate_left 2;exact tt
 refine rd [2] (rc fun K hK=>?_)
 go_simp
 go_at_call 46;(with_reducible refine zan Ke ?_);intro w4 H4 I4;have S4:=tk2 H4.right
 refine hK.out _ _ (by exact S4) fun hHeld=>?_
 clear hK K
 try simp only [sp]
 refine rd [3] (rc fun K hK=>?_)
 go_simp
 go_at_call 78;(with_reducible refine zsn k1 k2 4294967295 4294967295 e hx H4 ?_);intro _ _ w5 H5 I5;have S5:=tk2 H5.right
 refine hK.out _ _ (by exact S5) fun hHeld=>?_
 clear hK K
 try simp only [sp]
 refine wpAnyH_done (by kernel_rfl) ?_ _
 have FIN:=L_ (HH.out _ (zai H5).right ((Je.trans I4).trans I5))
 go_wp2_with fail
 go_end0
 exact FIN.out
theorem zzr {m:Option Mp} (t:Sq.T) (k1 k2:Int) (ek:Hid ((k1,k2)=t.top)) (e:Hid ((k1,k2)≠Sq.nob)) (fr:Hid (Fr m0 m all (t::ts) ks)) (hx:Hid x.Ok) (H:Sat (zav x m*F) w) (h:∀ m' w',Hid (Fr m0 m' all (t::ts) ks∧∀ M',m'=some M'→Sq.zc8 M' t Sq.nob)→Sat (zav x m'*F) w'→Io w w'→R (.returned (.tuple #[])) w') :
  Calls Tryz.prog 48 #[.pointer (some ⟨x.s,0,none⟩),tkA k1 k2] w R:=by
 have HH:=L_ h
 have H1:=zai (H.new (.cells #[.int .i64 k1,.int .i64 k2] 29))
 have I1:=io1 H1 (Io.refl w)
 have EQ:=fun W=>zds k1 k2 4294967295 4294967295 W
 rw [show decide ((k1,k2)=((4294967295:Int),(4294967295:Int)))=false from decide_eq_false e.out] at EQ
 simp only [Bool.not_false] at EQ
 have HV:Hid (InT (4294967295,4294967295)):=L_ Sq.zwv
 have HO:Hid (∀ M,m=some M→∃ u,Sq.zc8 M t u):=L_ fun M hM=>fr.out.hold hM (by simp)
 have OK:Hid ((∀ y∈t.toks,Sq.OkT y)∧t.cnt≤255):=L_ ⟨(fr.out.toks (t:=t) (by simp)).1,(fr.out.toks (t:=t) (by simp)).2.1⟩
 clear h H
 go_enter Tryz.func48,Tryz.ntmps48
 go_upto_region 1 with fail
 generalize w.alloc _=w1 at *
 generalize w.heap.size=bx at *
 have Kd:=H1.drew
 have Jd:=I1.drew
 have S0:=tk2 Kd.right
 refine rh Kd (fun W Kd=>tk2 Kd.right) fun hHeld=>?_
 refine tk ?_ ?_ [0] ?_ hHeld ?_;rotate_left 2;exact tt
 refine rd [1] (rc fun K hK=>?_)
 go_simp
 go_at_call 46;(with_reducible refine zan Kd ?_);intro w2 H2 I2;have S1:=tk2 H2.right
 refine hK.out _ _ (by exact S1) fun hHeld=>?_
 clear hK K
 try simp only [sp]
 refine tk ?_ ?_ [2] ?_ hHeld ?_;rotate_left 2;exact tt
 refine wpAnyH_done (by kernel_rfl) ?_ _
 go_upto_region 2 with fail
 have Ke:=H2.drew
 have Je:=(Jd.trans I2).drew
 have S3:=tk2 Ke.right
 refine rh Ke (fun W Ke=>tk2 Ke.right) fun hHeld=>?_
 refine tk ?_ ?_ [0,1] ?_ hHeld ?_;rotate_left 2;exact tt
 refine rd [2] (rc fun K hK=>?_)
 go_simp
 go_at_call 46;(with_reducible refine zan Ke ?_);intro w4 H4 I4;have S4:=tk2 H4.right
 refine hK.out _ _ (by exact S4) fun hHeld=>?_
 clear hK K
 try simp only [sp]
 refine rd [3] (rc fun K hK=>?_)
 go_simp
 go_at_call 78;(with_reducible refine zbr t k1 k2 4294967295 4294967295 ek HV HO OK hx H4 ?_);intro m' _ _ _ _ _ _ _ _ w5 hm H5 I5;have S5:=tk2 H5.right
 refine hK.out _ _ (by exact S5) fun hHeld=>?_
 clear hK K
 try simp only [sp]
 refine wpAnyH_done (by kernel_rfl) ?_ _
 have FIN:=L_ (HH.out m' _ (L_ (fr.out.hang hm.out.1)) (zai H5).right ((Je.trans I4).trans I5))
 go_wp2_with fail
 go_end0
 exact FIN.out
theorem zl5 {m:Option Mp} (t:Sq.T) (k1 k2:Int) (al:Hid (∀ M,m=some M→(k1,k2)=t.top)) (fr:Hid (Fr m0 m all (t::ts) ks)) (hx:Hid x.Ok) (H:Sat (zav x m*F) w) (h:∀ m' w',Hid (Fr m0 m' all (t::ts) ks∧∀ M',m'=some M'→Sq.zc8 M' t Sq.nob)→Sat (zav x m'*F) w'→Io w w'→R (.returned (.tuple #[])) w') :
  Calls Tryz.prog 48 #[.pointer (some ⟨x.s,0,none⟩),tkA k1 k2] w R:=by
 by_cases e:(k1,k2)=Sq.nob
 ·refine zx8 k1 k2 (L_ e) H fun w' H' I=>h m w' (L_ ⟨fr.out,fun M' hM=>?_⟩) H' I
  have h1:=(Sq.T.zot (fr.out.toks (t:=t) (by simp)).1).1 ((al.out M' hM).symm.trans e)
  rw [h1]
  trivial
 ·cases m with
  | none=>exact zsi k1 k2 (L_ e) hx H fun w' H' I=>h none w' (L_ ⟨fr.out,fun M' h=>nomatch h⟩) H' I
  | some M=>exact zzr t k1 k2 (L_ (al.out M rfl)) (L_ e) fr hx H h
end
end Go.Proofs.YtfknjmoekbabcaaGreatDoor
