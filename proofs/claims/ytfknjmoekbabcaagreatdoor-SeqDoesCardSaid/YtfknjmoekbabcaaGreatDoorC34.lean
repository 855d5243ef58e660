/-
  A part of a proof. It proves no statement by itself.
-/
import Derived.Test.YtfknjmoekbabcaaGreatDoorC33
set_option linter.unusedSimpArgs false
set_option linter.unusedVariables false
set_option linter.unusedSectionVars false
set_option maxRecDepth 100000
set_option maxHeartbeats 64000000
namespace Go.Proofs.YtfknjmoekbabcaaGreatDoor
open Go.RowKit Go.Lib
open Sq (Tk Nd Mp zca InT Fr)
namespace Sq
theorem pa {α:Type} (a b:α) (l:List α):List.Perm (a::b::l) (b::a::l):=List.Perm.swap b a l
theorem p3 {α:Type} (a b c:α) (l:List α):List.Perm (a::b::c::l) (b::c::a::l):=(List.Perm.swap b a _).trans (List.Perm.cons b (List.Perm.swap c a l))
theorem p4 {α:Type} (a b c d:α) (l:List α):List.Perm (a::b::c::d::l) (b::c::d::a::l):=(p3 a b c (d::l)).trans (List.Perm.cons b (List.Perm.cons c (List.Perm.swap d a l)))
theorem pb {α:Type} (a b c:α) (l:List α):List.Perm (a::b::c::l) (a::c::b::l):=List.Perm.cons a (List.Perm.swap c b l)
def z8q (m:Option Mp) (t:T) (n:Nd):Prop:=(m=none∧n=nd0)∨∃ M u,m=some M∧zc8 M t u∧n=t.nd u
def zlj (m:Option Mp) (t:T) (k:Tk):Prop:=∀ M,m=some M→k=t.top∧(∃ u,zc8 M t u)∧∀ y∈t.toks,OkT y
theorem z8q.ht {M:Mp} {t:T} {n:Nd} (h:z8q (some M) t n):n.height=(t.ht:Int)∧n.count=(t.cnt:Int):=by
 rcases h with ⟨h,_⟩ | ⟨M',u,_,_,rfl⟩
 ·cases h
 ·exact ⟨T.nd_ht t u,T.zyp t u⟩
theorem z8q.kids {M:Mp} {a b:T} {x:Tk} {n:Nd} (h:z8q (some M) (.node a x b) n):n.left=a.top∧n.right=b.top:=by
 rcases h with ⟨h,_⟩ | ⟨M',u,_,_,rfl⟩
 ·cases h
 ·exact ⟨rfl,rfl⟩
theorem Fr.bad {m0:Option Mp} {all:List Tk} {ts:List T} {ks:List Tk} {l r t:T} {k:Tk} {m:Option Mp} (f:Fr m0 m all (l::r::ts) (k::ks)) (h:Lk l k r t):Fr m0 none all (t::ts) ks:=f.put h.toks fun M' h=>nomatch h
theorem Fr.arg {m0 m:Option Mp} {all:List Tk} {ts:List T} {ks:List Tk} (f:Fr m0 m all ts ks) {t:T} (h:t∈ts) {k:Tk} (hk:k=t.top):zlj m t k:=fun M hM=>⟨hk,f.hold hM h,(f.toks h).1⟩
def Done (m0 m':Option Mp) (all:List Tk) (ts:List T) (ks:List Tk) (l r t:T) (k v:Tk):Prop :=
 Lk l k r t∧Fr m0 m' all (t::ts) ks∧∀ M',m'=some M'→v=t.top∧zc8 M' t nob
end Sq
section
variable {x:Sx} {M:Mp} {F:Asn} {w:World} {R:Ending→World→Prop} {m0:Option Mp} {all:List Tk} {ts:List Sq.T} {ks:List Tk}
theorem zax {m:Option Mp} (t:Sq.T) (k1 k2:Int) (ha:Hid (Sq.zlj m t (k1,k2))) (hx:Hid x.Ok) (H:Sat (zav x m*F) w)
  (h:∀ n1 n2 n3 n4 n5 n6 n7 n8 w',Hid (Sq.z8q m t ⟨(n1,n2),(n3,n4),(n5,n6),n7,n8⟩)→Sat (zav x m*F) w'→Io w w'→R (.returned (ndA n1 n2 n3 n4 n5 n6 n7 n8)) w') :
  Calls Tryz.prog 58 #[.pointer (some ⟨x.s,0,none⟩),tkA k1 k2] w R:=by
 by_cases hn:(k1,k2)=Sq.nob
 ·have e:=hn
  unfold Sq.nob at e
  rw [Prod.mk.injEq] at e
  obtain ⟨rfl,rfl⟩:=e
  refine zqd H fun w' H' I=>h 0 0 0 0 0 0 0 0 w' (L_ ?_) H' I
  cases m with
  | none=>exact .inl ⟨rfl,rfl⟩
  | some M =>
   obtain ⟨h1,⟨u,hu⟩,h3⟩:=ha.out M rfl
   have h4:=(Sq.T.zot h3).1 (h1.symm.trans hn)
   subst h4
   exact .inr ⟨M,u,rfl,hu,rfl⟩
 ·cases m with
  | none=>exact zyd k1 k2 (L_ hn) H fun w' H' I=>h 0 0 0 0 0 0 0 0 w' (L_ (.inl ⟨rfl,rfl⟩)) H' I
  | some M =>
   obtain ⟨h1,⟨u,hu⟩,h3⟩:=ha.out M rfl
   cases t with
   | nil=>exact absurd h1 hn
   | node l k r =>
    have e1:M (k1,k2)=some (Sq.nod l r u):=by rw [h1];exact hu.1
    exact zd2 (u1:=u.1) (u2:=u.2) (l1:=l.top.1) (l2:=l.top.2) (r1:=r.top.1) (r2:=r.top.2) (ct:=((l.cnt+r.cnt+1:Nat):Int)) (ht:=((max l.ht r.ht+1:Nat):Int)) k1 k2 (L_ e1) hx H fun w' H' I=>h _ _ _ _ _ _ _ _ w' (L_ (.inr ⟨M,u,rfl,hu,rfl⟩)) H' I
theorem zy3 (n1 n2 n3 n4 n5 n6 n7 n8:Int) (W:World):(Instr.field 85 (.agg #[.int .i64 n1,.int .i64 n2,.int .i64 n3,.int .i64 n4,.int .i64 n5,.int .i64 n6,.int .i64 n7,.int .i64 n8]) 4).run Tryz.prog W=.ok (.int .i64 n8) W:=by kernel_rfl
theorem zgy {M:Mp} (t:Sq.T) (k1 k2:Int) (ha:Hid (Sq.zlj (some M) t (k1,k2))) (hx:Hid x.Ok) (H:Sat (zav x (some M)*F) w)
  (h:∀ n1 n2 n3 n4 n5 n6 n7 w',Hid (Sq.z8q (some M) t ⟨(n1,n2),(n3,n4),(n5,n6),n7,(t.ht:Int)⟩)→Sat (zav x (some M)*F) w'→Io w w'→R (.returned (.agg #[.int .i64 n1,.int .i64 n2,.int .i64 n3,.int .i64 n4,.int .i64 n5,.int .i64 n6,.int .i64 n7,.int .i64 (t.ht:Int)])) w') :
  Calls Tryz.prog 58 #[.pointer (some ⟨x.s,0,none⟩),tkA k1 k2] w R :=
 zax t k1 k2 ha hx H fun n1 n2 n3 n4 n5 n6 n7 n8 w' hg H' I=>by
  obtain rfl:n8=(t.ht:Int):=hg.out.ht.1
  exact h n1 n2 n3 n4 n5 n6 n7 w' hg H' I
theorem z1i {m:Option Mp} (l r:Sq.T) (k1 k2 l1 l2 r1 r2:Int) (hl:Hid ((l1,l2)=l.top)) (hr:Hid ((r1,r2)=r.top)) (fr:Hid (Fr m0 m all (l::r::ts) ((k1,k2)::ks))) (hx:Hid x.Ok) (H:Sat (zav x m*F) w)
  (h:∀ m' w',Hid (Fr m0 m' all (.node l (k1,k2) r::ts) ks∧∀ M',m'=some M'→Sq.zc8 M' (.node l (k1,k2) r) Sq.nob)→Sat (zav x m'*F) w'→Io w w'→R (.returned (tkA k1 k2)) w') :
  Calls Tryz.prog 45 #[.pointer (some ⟨x.s,0,none⟩),tkA k1 k2,tkA l1 l2,tkA r1 r2] w R :=
 zx7 l r k1 k2 l1 l2 r1 r2 0 hl hr (L_ fr.out.setOk) (L_ fr.out.setPre) hx H fun m' w' hm H' I =>
  h m' w' (L_ ⟨fr.out.set hm.out,fun M' hM'=>by obtain ⟨_,_,h1,_⟩:=hm.out M' hM';exact h1⟩) (by
   have e:x.grow 0=x:=by cases x;simp [Sx.grow]
   rw [e] at H'
   exact H') I
theorem zaw {A:Asn} {b0 b1 b2 b3 b9 b10:Nat} {t0 t1 t2 t3 t9 t10:TypeId} {x0 x1 x2 x3 x4 x5 x6 x7 y0 y1 y2 y3 y4 y5 y6 y7 z0 z1 z2 z3 z4 z5 z6 z7:Value} (H:Sat (pts b9 (.cells #[y0,y1,y2,y3,y4,y5,y6,y7] t9 (0,0))*(pts b10 (.cells #[z0,z1,z2,z3,z4,z5,z6,z7] t10 (0,0))*(A*(pts b3 (.cells #[x6,x7] t3 (0,0))*(pts b2 (.cells #[x4,x5] t2 (0,0))*(pts b1 (.cells #[x2,x3] t1 (0,0))*(pts b0 (.cells #[x0,x1] t0 (0,0))*F))))))) w) :
  ((w.cell? ⟨b0,0,none⟩=some x0∧w.cell? ⟨b0,1,none⟩=some x1)∧(w.cell? ⟨b1,0,none⟩=some x2∧w.cell? ⟨b1,1,none⟩=some x3)∧(w.cell? ⟨b2,0,none⟩=some x4∧w.cell? ⟨b2,1,none⟩=some x5))∧(w.cell? ⟨b9,2,none⟩=some y2∧w.cell? ⟨b9,3,none⟩=some y3∧w.cell? ⟨b9,4,none⟩=some y4∧w.cell? ⟨b9,5,none⟩=some y5)∧(w.cell? ⟨b10,2,none⟩=some z2∧w.cell? ⟨b10,3,none⟩=some z3∧w.cell? ⟨b10,4,none⟩=some z4∧w.cell? ⟨b10,5,none⟩=some z5):=by
 have a:=nd8 H
 have b:=nd8 H.right
 exact ⟨zaa H.right.right,⟨a.2.2.1,a.2.2.2.1,a.2.2.2.2.1,a.2.2.2.2.2.1⟩,⟨b.2.2.1,b.2.2.2.1,b.2.2.2.2.1,b.2.2.2.2.2.1⟩⟩
theorem zcg {A:Asn} {b0 b1 b2 b3 b9 b10 b11:Nat} {t0 t1 t2 t3 t9 t10 t11:TypeId} {x0 x1 x2 x3 x4 x5 x6 x7 y0 y1 y2 y3 y4 y5 y6 y7 z0 z1 z2 z3 z4 z5 z6 z7 v0 v1 v2 v3 v4 v5 v6 v7:Value} (H:Sat (pts b11 (.cells #[v0,v1,v2,v3,v4,v5,v6,v7] t11 (0,0))*(pts b9 (.cells #[y0,y1,y2,y3,y4,y5,y6,y7] t9 (0,0))*(pts b10 (.cells #[z0,z1,z2,z3,z4,z5,z6,z7] t10 (0,0))*(A*(pts b3 (.cells #[x6,x7] t3 (0,0))*(pts b2 (.cells #[x4,x5] t2 (0,0))*(pts b1 (.cells #[x2,x3] t1 (0,0))*(pts b0 (.cells #[x0,x1] t0 (0,0))*F)))))))) w) :
  (((w.cell? ⟨b0,0,none⟩=some x0∧w.cell? ⟨b0,1,none⟩=some x1)∧(w.cell? ⟨b1,0,none⟩=some x2∧w.cell? ⟨b1,1,none⟩=some x3)∧(w.cell? ⟨b2,0,none⟩=some x4∧w.cell? ⟨b2,1,none⟩=some x5))∧(w.cell? ⟨b9,2,none⟩=some y2∧w.cell? ⟨b9,3,none⟩=some y3∧w.cell? ⟨b9,4,none⟩=some y4∧w.cell? ⟨b9,5,none⟩=some y5)∧(w.cell? ⟨b10,2,none⟩=some z2∧w.cell? ⟨b10,3,none⟩=some z3∧w.cell? ⟨b10,4,none⟩=some z4∧w.cell? ⟨b10,5,none⟩=some z5))∧(w.cell? ⟨b11,2,none⟩=some v2∧w.cell? ⟨b11,3,none⟩=some v3∧w.cell? ⟨b11,4,none⟩=some v4∧w.cell? ⟨b11,5,none⟩=some v5):=by
 have a:=nd8 H
 exact ⟨zaw H.right,⟨a.2.2.1,a.2.2.2.1,a.2.2.2.2.1,a.2.2.2.2.2.1⟩⟩
theorem fr3 {A B C D:Asn} (H:Sat (A*(B*(C*(D*F)))) w):Sat (D*(A*(B*(C*F)))) w:=H.of_eq (by ac_rfl)
theorem bk3 {A B C D:Asn} (H:Sat (D*(A*(B*(C*F)))) w):Sat (A*(B*(C*(D*F)))) w:=H.of_eq (by ac_rfl)
theorem zh2 {A B C D:Asn} (H:Sat (D*(A*(B*(C*F)))) w):Sat (A*(B*(C*(D*F)))) w:=H.of_eq (by ac_rfl)
theorem res3 {A B C D E:Asn} (H:Sat (A*(B*(C*(D*(E*F))))) w):Sat (E*(A*(B*(C*(D*F))))) w:=H.of_eq (by ac_rfl)
theorem zs6 {A B C D E:Asn} (H:Sat (E*(A*(B*(C*(D*F))))) w):Sat (A*(B*(C*(D*(E*F))))) w:=H.of_eq (by ac_rfl)
theorem end3 {A B C D E G I J:Asn} (H:Sat (A*(B*(C*(D*(E*(G*(I*(J*F)))))))) w):Sat (D*F) w:=(H.of_eq (show _=(A*(B*(C*(E*(G*(I*J))))))*(D*F) from by ac_rfl)).right
theorem end2 {B C D E G I J:Asn} (H:Sat (B*(C*(D*(E*(G*(I*(J*F))))))) w):Sat (D*F) w:=(H.of_eq (show _=(B*(C*(E*(G*(I*J)))))*(D*F) from by ac_rfl)).right
theorem zyg {m:Option Mp} (l r:Sq.T) (k1 k2 l1 l2 r1 r2:Int) (al:Hid (∀ M,m=some M→(l1,l2)=l.top∧(r1,r2)=r.top)) (fr:Hid (Fr m0 m all (l::r::ts) ((k1,k2)::ks))) (bal:Hid (l.Bal∧r.Bal∧l.ht≤r.ht+2∧r.ht≤l.ht+2)) (hx:Hid x.Ok) (H:Sat (zav x m*F) w)
  (h:∀ m' v1 v2 t w',Hid (Sq.Done m0 m' all ts ks l r t (k1,k2) (v1,v2))→Sat (zav x m'*F) w'→Io w w'→R (.returned (tkA v1 v2)) w') :
  Calls Tryz.prog 83 #[.pointer (some ⟨x.s,0,none⟩),tkA k1 k2,tkA l1 l2,tkA r1 r2] w R:=by
 have HH:=L_ h
 have AL:Hid (Sq.zlj m l (l1,l2)):=L_ fun M hM=>(fr.out.arg (by simp) (al.out M hM).1) M hM
 have AR:Hid (Sq.zlj m r (r1,r2)):=L_ fun M hM=>(fr.out.arg (by simp) (al.out M hM).2) M hM
 have H1:=z2f ((((H.new (.cells #[.int .i64 k1,.int .i64 k2] 29)).new (.cells #[.int .i64 l1,.int .i64 l2] 29)).new (.cells #[.int .i64 r1,.int .i64 r2] 29)).new (.cells #[.int .i64 0,.int .i64 0] 29))
 have I1:=io4 H1 (Io.refl w)
 simp only [World.size_alloc,Nat.add_assoc,Nat.reduceAdd] at H1
 clear h H
 go_enter Tryz.func83,Tryz.ntmps83
 go_upto_region 1 with fail
 generalize (((w.alloc _).alloc _).alloc _).alloc _=w1 at *
 generalize w.heap.size=bx at *
 go_cut [9,10] from 13 to 18 (fun p q wc=>∃ b9 b10 a1 a2 a3 a4 a5 a6 a7 a8 c1 c2 c3 c4 c5 c6 c7 c8,p=.pointer (some ⟨b9,0,none⟩)∧q=.pointer (some ⟨b10,0,none⟩)∧Hid (Sq.z8q m l ⟨(a1,a2),(a3,a4),(a5,a6),a7,a8⟩)∧Hid (Sq.z8q m r ⟨(c1,c2),(c3,c4),(c5,c6),c7,c8⟩)∧Sat (pts b9 (.cells #[.int .i64 a1,.int .i64 a2,.int .i64 a3,.int .i64 a4,.int .i64 a5,.int .i64 a6,.int .i64 a7,.int .i64 a8] 85 (0,0))*(pts b10 (.cells #[.int .i64 c1,.int .i64 c2,.int .i64 c3,.int .i64 c4,.int .i64 c5,.int .i64 c6,.int .i64 c7,.int .i64 c8] 85 (0,0))*(zav x m*(pts (bx+3) (.cells #[.int .i64 0,.int .i64 0] 29 (0,0))*(pts (bx+2) (.cells #[.int .i64 r1,.int .i64 r2] 29 (0,0))*(pts (bx+1) (.cells #[.int .i64 l1,.int .i64 l2] 29 (0,0))*(pts bx (.cells #[.int .i64 k1,.int .i64 k2] 29 (0,0))*F))))))) wc∧Io w wc)
 case first =>
  have Kd:=H1.drew
  have Jd:=I1.drew
  clear H1 I1
  refine rh Kd (fun W Kd=>zaa Kd) fun hHeld=>?_
  refine tk ?_ ?_ [0,1,3,4] ?_ hHeld ?_;rotate_left 2;exact tt
  generalize w1.drew=wd at *
  refine rd [2,6,7] (rn (fun K hK=>?_) ?_)
  ·go_simp
   go_at_call 58;(with_reducible refine zax l l1 l2 AL hx Kd ?_);intro a1 a2 a3 a4 a5 a6 a7 a8 wpc hA Xpc IXpc
   have Hpc:=Xpc
   have Jpc:=(Jd).trans IXpc
   refine hK.out _ _ (by exact zaa Hpc) fun hHeld=>?_
   clear hK K
   try simp only [sp]
   refine rd [5,6,7] (rn (fun K hK=>?_) ?_)
   ·go_simp
    go_at_call 58;(with_reducible refine zax r r1 r2 AR hx Hpc ?_);intro c1 c2 c3 c4 c5 c6 c7 c8 zx2 hB Xpcc z8h
    have z8k:=Xpcc
    have xd2:=(Jpc).trans z8h
    refine hK.out _ _ (by exact zaa z8k) fun hHeld=>?_
    clear hK K
    try simp only [sp]
    refine rd [6,7] (rn (fun K hK=>?_) ?_)
    ·go_simp
     have zof:=z8k.new (.cells #[.int .i64 0,.int .i64 0,.int .i64 0,.int .i64 0,.int .i64 0,.int .i64 0,.int .i64 0,.int .i64 0] 85)
     have z7v:=io1 zof xd2
     refine hK.out _ _ (by exact zaa (zof.right)) fun hHeld=>?_
     clear hK K
     try simp only [sp]
     generalize World.alloc zx2 (.cells #[.int .i64 0,.int .i64 0,.int .i64 0,.int .i64 0,.int .i64 0,.int .i64 0,.int .i64 0,.int .i64 0] 85)=zr5 at *
     generalize zx2.heap.size=zuy at *
     refine rd [7] (rc fun K hK=>?_)
     go_simp
     have zhe:=zof.new (.cells #[.int .i64 0,.int .i64 0,.int .i64 0,.int .i64 0,.int .i64 0,.int .i64 0,.int .i64 0,.int .i64 0] 85)
     have zvd:=io1 zhe z7v
     refine hK.out _ _ (by exact zaa (zhe.right.right)) fun hHeld=>?_
     clear hK K
     try simp only [sp]
     generalize World.alloc zr5 (.cells #[.int .i64 0,.int .i64 0,.int .i64 0,.int .i64 0,.int .i64 0,.int .i64 0,.int .i64 0,.int .i64 0] 85)=xcw at *
     generalize zr5.heap.size=znc at *
     have zhk:=(zai zhe)
     have FA:=zb0 zhk
     obtain ⟨f0,f1,f2,f3,f4,f5,f6,f7⟩:=FA
     have QA:=nd8 zhk
     obtain ⟨q0,q1,q2,q3,q4,q5,q6,q7⟩:=QA
     have zfe:=zaz (.int .i64 a1) (.int .i64 a2) (.int .i64 a3) (.int .i64 a4) (.int .i64 a5) (.int .i64 a6) (.int .i64 a7) (.int .i64 a8) zhk
     have FB:=zb0 zfe.right
     obtain ⟨g0,g1,g2,g3,g4,g5,g6,g7⟩:=FB
     have QB:=nd8 zfe.right
     obtain ⟨r0,r1',r2',r3,r4,r5,r6,r7⟩:=QB
     have zk0:=zai (zaz (.int .i64 c1) (.int .i64 c2) (.int .i64 c3) (.int .i64 c4) (.int .i64 c5) (.int .i64 c6) (.int .i64 c7) (.int .i64 c8) (zai zfe))
     have znx:=zac (b:=zuy) (.int .i64 a1) (.int .i64 a2) (.int .i64 a3) (.int .i64 a4) (.int .i64 a5) (.int .i64 a6) (.int .i64 a7) (.int .i64 a8) (zvd)
     have znl:=zac (b:=znc) (.int .i64 c1) (.int .i64 c2) (.int .i64 c3) (.int .i64 c4) (.int .i64 c5) (.int .i64 c6) (.int .i64 c7) (.int .i64 c8) znx
     refine rd [8] (rc fun K hK=>?_)
     go_simp
     refine hK.out _ _ (by exact zaa (zfe.right.right)) fun hHeld=>?_
     clear hK K
     try simp only [sp]
     refine rd [9] (rc fun K hK=>?_)
     go_simp
     refine hK.out _ _ (by exact zaa (zk0.right.right)) fun hHeld=>?_
     clear hK K
     try simp only [sp]
     refine wpAnyH_done (by kernel_rfl) ?_ _
     go_wp2_with fail
     go_meet
     exact ⟨_,_,a1,a2,a3,a4,a5,a6,a7,a8,c1,c2,c3,c4,c5,c6,c7,c8,rfl,rfl,hA,hB,zk0,znl⟩
    refine rc fun K hK=>?_
    go_simp
    have zoe:=z8k.new (.cells #[.int .i64 0,.int .i64 0,.int .i64 0,.int .i64 0,.int .i64 0,.int .i64 0,.int .i64 0,.int .i64 0] 85)
    have z7u:=io1 zoe xd2
    refine hK.out _ _ (by exact zaa (zoe.right)) fun hHeld=>?_
    clear hK K
    try simp only [sp]
    generalize World.alloc zx2 (.cells #[.int .i64 0,.int .i64 0,.int .i64 0,.int .i64 0,.int .i64 0,.int .i64 0,.int .i64 0,.int .i64 0] 85)=zr4 at *
    generalize zx2.heap.size=zuu at *
    refine rd [6] (rc fun K hK=>?_)
    go_simp
    have zhd:=zoe.new (.cells #[.int .i64 0,.int .i64 0,.int .i64 0,.int .i64 0,.int .i64 0,.int .i64 0,.int .i64 0,.int .i64 0] 85)
    have zvc:=io1 zhd z7u
    refine hK.out _ _ (by exact zaa (zhd.right.right)) fun hHeld=>?_
    clear hK K
    try simp only [sp]
    generalize World.alloc zr4 (.cells #[.int .i64 0,.int .i64 0,.int .i64 0,.int .i64 0,.int .i64 0,.int .i64 0,.int .i64 0,.int .i64 0] 85)=xcv at *
    generalize zr4.heap.size=znf at *
    have zhj:=zhd
    have FA:=zb0 zhj
    obtain ⟨f0,f1,f2,f3,f4,f5,f6,f7⟩:=FA
    have QA:=nd8 zhj
    obtain ⟨q0,q1,q2,q3,q4,q5,q6,q7⟩:=QA
    have zfd:=zaz (.int .i64 a1) (.int .i64 a2) (.int .i64 a3) (.int .i64 a4) (.int .i64 a5) (.int .i64 a6) (.int .i64 a7) (.int .i64 a8) zhj
    have FB:=zb0 zfd.right
    obtain ⟨g0,g1,g2,g3,g4,g5,g6,g7⟩:=FB
    have QB:=nd8 zfd.right
    obtain ⟨r0,r1',r2',r3,r4,r5,r6,r7⟩:=QB
    have zkz:=zai (zaz (.int .i64 c1) (.int .i64 c2) (.int .i64 c3) (.int .i64 c4) (.int .i64 c5) (.int .i64 c6) (.int .i64 c7) (.int .i64 c8) (zai zfd))
    have znw:=zac (b:=znf) (.int .i64 a1) (.int .i64 a2) (.int .i64 a3) (.int .i64 a4) (.int .i64 a5) (.int .i64 a6) (.int .i64 a7) (.int .i64 a8) (zvc)
    have znk:=zac (b:=zuu) (.int .i64 c1) (.int .i64 c2) (.int .i64 c3) (.int .i64 c4) (.int .i64 c5) (.int .i64 c6) (.int .i64 c7) (.int .i64 c8) znw
    refine rd [8] (rc fun K hK=>?_)
    go_simp
    refine hK.out _ _ (by exact zaa (zfd.right.right)) fun hHeld=>?_
    clear hK K
    try simp only [sp]
    refine rd [9] (rc fun K hK=>?_)
    go_simp
    refine hK.out _ _ (by exact zaa (zkz.right.right)) fun hHeld=>?_
    clear hK K
    try simp only [sp]
    refine wpAnyH_done (by kernel_rfl) ?_ _
    go_wp2_with fail
    go_meet
    exact ⟨_,_,a1,a2,a3,a4,a5,a6,a7,a8,c1,c2,c3,c4,c5,c6,c7,c8,rfl,rfl,hA,hB,zkz,znk⟩
   refine rn (fun K hK=>?_) ?_
   ·go_simp
    have zzk:=Hpc.new (.cells #[.int .i64 0,.int .i64 0,.int .i64 0,.int .i64 0,.int .i64 0,.int .i64 0,.int .i64 0,.int .i64 0] 85)
    have xd4:=io1 zzk Jpc
    refine hK.out _ _ (by exact zaa (zzk.right)) fun hHeld=>?_
    clear hK K
    try simp only [sp]
    generalize World.alloc wpc (.cells #[.int .i64 0,.int .i64 0,.int .i64 0,.int .i64 0,.int .i64 0,.int .i64 0,.int .i64 0,.int .i64 0] 85)=xc2 at *
    generalize wpc.heap.size=zu0 at *
    refine rd [5,7] (rn (fun K hK=>?_) ?_)
    ·go_simp
     go_at_call 58;(with_reducible refine zax r r1 r2 AR hx (zai zzk) ?_);intro c1 c2 c3 c4 c5 c6 c7 c8 zr7 hB z7o zvp
     have zvv:=(zai z7o)
     have z7y:=(xd4).trans zvp
     refine hK.out _ _ (by exact zaa (zvv.right)) fun hHeld=>?_
     clear hK K
     try simp only [sp]
     refine rd [7] (rc fun K hK=>?_)
     go_simp
     have zhg:=zvv.new (.cells #[.int .i64 0,.int .i64 0,.int .i64 0,.int .i64 0,.int .i64 0,.int .i64 0,.int .i64 0,.int .i64 0] 85)
     have zvg:=io1 zhg z7y
     refine hK.out _ _ (by exact zaa (zhg.right.right)) fun hHeld=>?_
     clear hK K
     try simp only [sp]
     generalize World.alloc zr7 (.cells #[.int .i64 0,.int .i64 0,.int .i64 0,.int .i64 0,.int .i64 0,.int .i64 0,.int .i64 0,.int .i64 0] 85)=xc0 at *
     generalize zr7.heap.size=znd at *
     have zhn:=(zai zhg)
     have FA:=zb0 zhn
     obtain ⟨f0,f1,f2,f3,f4,f5,f6,f7⟩:=FA
     have QA:=nd8 zhn
     obtain ⟨q0,q1,q2,q3,q4,q5,q6,q7⟩:=QA
     have zfh:=zaz (.int .i64 a1) (.int .i64 a2) (.int .i64 a3) (.int .i64 a4) (.int .i64 a5) (.int .i64 a6) (.int .i64 a7) (.int .i64 a8) zhn
     have FB:=zb0 zfh.right
     obtain ⟨g0,g1,g2,g3,g4,g5,g6,g7⟩:=FB
     have QB:=nd8 zfh.right
     obtain ⟨r0,r1',r2',r3,r4,r5,r6,r7⟩:=QB
     have zk3:=zai (zaz (.int .i64 c1) (.int .i64 c2) (.int .i64 c3) (.int .i64 c4) (.int .i64 c5) (.int .i64 c6) (.int .i64 c7) (.int .i64 c8) (zai zfh))
     have zn0:=zac (b:=zu0) (.int .i64 a1) (.int .i64 a2) (.int .i64 a3) (.int .i64 a4) (.int .i64 a5) (.int .i64 a6) (.int .i64 a7) (.int .i64 a8) (zvg)
     have zno:=zac (b:=znd) (.int .i64 c1) (.int .i64 c2) (.int .i64 c3) (.int .i64 c4) (.int .i64 c5) (.int .i64 c6) (.int .i64 c7) (.int .i64 c8) zn0
     refine rd [8] (rc fun K hK=>?_)
     go_simp
     refine hK.out _ _ (by exact zaa (zfh.right.right)) fun hHeld=>?_
     clear hK K
     try simp only [sp]
     refine rd [9] (rc fun K hK=>?_)
     go_simp
     refine hK.out _ _ (by exact zaa (zk3.right.right)) fun hHeld=>?_
     clear hK K
     try simp only [sp]
     refine wpAnyH_done (by kernel_rfl) ?_ _
     go_wp2_with fail
     go_meet
     exact ⟨_,_,a1,a2,a3,a4,a5,a6,a7,a8,c1,c2,c3,c4,c5,c6,c7,c8,rfl,rfl,hA,hB,zk3,zno⟩
    refine rc fun K hK=>?_
    go_simp
    have zoh:=zzk.new (.cells #[.int .i64 0,.int .i64 0,.int .i64 0,.int .i64 0,.int .i64 0,.int .i64 0,.int .i64 0,.int .i64 0] 85)
    have z7z:=io1 zoh xd4
    refine hK.out _ _ (by exact zaa (zoh.right.right)) fun hHeld=>?_
    clear hK K
    try simp only [sp]
    generalize World.alloc xc2 (.cells #[.int .i64 0,.int .i64 0,.int .i64 0,.int .i64 0,.int .i64 0,.int .i64 0,.int .i64 0,.int .i64 0] 85)=wpcab at *
    generalize xc2.heap.size=zuw at *
    refine rd [5] (rc fun K hK=>?_)
    go_simp
    go_at_call 58;(with_reducible refine zax r r1 r2 AR hx (fr2 zoh) ?_);intro c1 c2 c3 c4 c5 c6 c7 c8 xc1 hB zu6 zn9
    have zku:=(bk2 zu6)
    have zvh:=(z7z).trans zn9
    refine hK.out _ _ (by exact zaa (zku.right.right)) fun hHeld=>?_
    clear hK K
    try simp only [sp]
    have zho:=(zai zku)
    have FA:=zb0 zho
    obtain ⟨f0,f1,f2,f3,f4,f5,f6,f7⟩:=FA
    have QA:=nd8 zho
    obtain ⟨q0,q1,q2,q3,q4,q5,q6,q7⟩:=QA
    have zfi:=zaz (.int .i64 a1) (.int .i64 a2) (.int .i64 a3) (.int .i64 a4) (.int .i64 a5) (.int .i64 a6) (.int .i64 a7) (.int .i64 a8) zho
    have FB:=zb0 zfi.right
    obtain ⟨g0,g1,g2,g3,g4,g5,g6,g7⟩:=FB
    have QB:=nd8 zfi.right
    obtain ⟨r0,r1',r2',r3,r4,r5,r6,r7⟩:=QB
    have zk4:=zai (zaz (.int .i64 c1) (.int .i64 c2) (.int .i64 c3) (.int .i64 c4) (.int .i64 c5) (.int .i64 c6) (.int .i64 c7) (.int .i64 c8) (zai zfi))
    have zn1:=zac (b:=zu0) (.int .i64 a1) (.int .i64 a2) (.int .i64 a3) (.int .i64 a4) (.int .i64 a5) (.int .i64 a6) (.int .i64 a7) (.int .i64 a8) (zvh)
    have znp:=zac (b:=zuw) (.int .i64 c1) (.int .i64 c2) (.int .i64 c3) (.int .i64 c4) (.int .i64 c5) (.int .i64 c6) (.int .i64 c7) (.int .i64 c8) zn1
    refine rd [8] (rc fun K hK=>?_)
    go_simp
    refine hK.out _ _ (by exact zaa (zfi.right.right)) fun hHeld=>?_
    clear hK K
    try simp only [sp]
    refine rd [9] (rc fun K hK=>?_)
    go_simp
    refine hK.out _ _ (by exact zaa (zk4.right.right)) fun hHeld=>?_
    clear hK K
    try simp only [sp]
    refine wpAnyH_done (by kernel_rfl) ?_ _
    go_wp2_with fail
    go_meet
    exact ⟨_,_,a1,a2,a3,a4,a5,a6,a7,a8,c1,c2,c3,c4,c5,c6,c7,c8,rfl,rfl,hA,hB,zk4,znp⟩
   refine rc fun K hK=>?_
   go_simp
   have zzj:=Hpc.new (.cells #[.int .i64 0,.int .i64 0,.int .i64 0,.int .i64 0,.int .i64 0,.int .i64 0,.int .i64 0,.int .i64 0] 85)
   have xd3:=io1 zzj Jpc
   refine hK.out _ _ (by exact zaa (zzj.right)) fun hHeld=>?_
   clear hK K
   try simp only [sp]
   generalize World.alloc wpc (.cells #[.int .i64 0,.int .i64 0,.int .i64 0,.int .i64 0,.int .i64 0,.int .i64 0,.int .i64 0,.int .i64 0] 85)=xcz at *
   generalize wpc.heap.size=zuv at *
   refine rd [5,6] (rn (fun K hK=>?_) ?_)
   ·go_simp
    go_at_call 58;(with_reducible refine zax r r1 r2 AR hx (zai zzj) ?_);intro c1 c2 c3 c4 c5 c6 c7 c8 zr6 hB z7n zvo
    have zvu:=(zai z7n)
    have z7w:=(xd3).trans zvo
    refine hK.out _ _ (by exact zaa (zvu.right)) fun hHeld=>?_
    clear hK K
    try simp only [sp]
    refine rd [6] (rc fun K hK=>?_)
    go_simp
    have zhf:=zvu.new (.cells #[.int .i64 0,.int .i64 0,.int .i64 0,.int .i64 0,.int .i64 0,.int .i64 0,.int .i64 0,.int .i64 0] 85)
    have zve:=io1 zhf z7w
    refine hK.out _ _ (by exact zaa (zhf.right.right)) fun hHeld=>?_
    clear hK K
    try simp only [sp]
    generalize World.alloc zr6 (.cells #[.int .i64 0,.int .i64 0,.int .i64 0,.int .i64 0,.int .i64 0,.int .i64 0,.int .i64 0,.int .i64 0] 85)=xcx at *
    generalize zr6.heap.size=zng at *
    have zhl:=zhf
    have FA:=zb0 zhl
    obtain ⟨f0,f1,f2,f3,f4,f5,f6,f7⟩:=FA
    have QA:=nd8 zhl
    obtain ⟨q0,q1,q2,q3,q4,q5,q6,q7⟩:=QA
    have zff:=zaz (.int .i64 a1) (.int .i64 a2) (.int .i64 a3) (.int .i64 a4) (.int .i64 a5) (.int .i64 a6) (.int .i64 a7) (.int .i64 a8) zhl
    have FB:=zb0 zff.right
    obtain ⟨g0,g1,g2,g3,g4,g5,g6,g7⟩:=FB
    have QB:=nd8 zff.right
    obtain ⟨r0,r1',r2',r3,r4,r5,r6,r7⟩:=QB
    have zk1:=zai (zaz (.int .i64 c1) (.int .i64 c2) (.int .i64 c3) (.int .i64 c4) (.int .i64 c5) (.int .i64 c6) (.int .i64 c7) (.int .i64 c8) (zai zff))
    have zny:=zac (b:=zng) (.int .i64 a1) (.int .i64 a2) (.int .i64 a3) (.int .i64 a4) (.int .i64 a5) (.int .i64 a6) (.int .i64 a7) (.int .i64 a8) (zve)
    have znm:=zac (b:=zuv) (.int .i64 c1) (.int .i64 c2) (.int .i64 c3) (.int .i64 c4) (.int .i64 c5) (.int .i64 c6) (.int .i64 c7) (.int .i64 c8) zny
    refine rd [8] (rc fun K hK=>?_)
    go_simp
    refine hK.out _ _ (by exact zaa (zff.right.right)) fun hHeld=>?_
    clear hK K
    try simp only [sp]
    refine rd [9] (rc fun K hK=>?_)
    go_simp
    refine hK.out _ _ (by exact zaa (zk1.right.right)) fun hHeld=>?_
    clear hK K
    try simp only [sp]
    refine wpAnyH_done (by kernel_rfl) ?_ _
    go_wp2_with fail
    go_meet
    exact ⟨_,_,a1,a2,a3,a4,a5,a6,a7,a8,c1,c2,c3,c4,c5,c6,c7,c8,rfl,rfl,hA,hB,zk1,znm⟩
   refine rc fun K hK=>?_
   go_simp
   have zog:=zzj.new (.cells #[.int .i64 0,.int .i64 0,.int .i64 0,.int .i64 0,.int .i64 0,.int .i64 0,.int .i64 0,.int .i64 0] 85)
   have z7x:=io1 zog xd3
   refine hK.out _ _ (by exact zaa (zog.right.right)) fun hHeld=>?_
   clear hK K
   try simp only [sp]
   generalize World.alloc xcz (.cells #[.int .i64 0,.int .i64 0,.int .i64 0,.int .i64 0,.int .i64 0,.int .i64 0,.int .i64 0,.int .i64 0] 85)=wpcba at *
   generalize xcz.heap.size=zuz at *
   refine rd [5] (rc fun K hK=>?_)
   go_simp
   go_at_call 58;(with_reducible refine zax r r1 r2 AR hx (fr2 zog) ?_);intro c1 c2 c3 c4 c5 c6 c7 c8 xcy hB zu5 zn8
   have zkt:=(bk2 zu5)
   have zvf:=(z7x).trans zn8
   refine hK.out _ _ (by exact zaa (zkt.right.right)) fun hHeld=>?_
   clear hK K
   try simp only [sp]
   have zhm:=zkt
   have FA:=zb0 zhm
   obtain ⟨f0,f1,f2,f3,f4,f5,f6,f7⟩:=FA
   have QA:=nd8 zhm
   obtain ⟨q0,q1,q2,q3,q4,q5,q6,q7⟩:=QA
   have zfg:=zaz (.int .i64 a1) (.int .i64 a2) (.int .i64 a3) (.int .i64 a4) (.int .i64 a5) (.int .i64 a6) (.int .i64 a7) (.int .i64 a8) zhm
   have FB:=zb0 zfg.right
   obtain ⟨g0,g1,g2,g3,g4,g5,g6,g7⟩:=FB
   have QB:=nd8 zfg.right
   obtain ⟨r0,r1',r2',r3,r4,r5,r6,r7⟩:=QB
   have zk2:=zai (zaz (.int .i64 c1) (.int .i64 c2) (.int .i64 c3) (.int .i64 c4) (.int .i64 c5) (.int .i64 c6) (.int .i64 c7) (.int .i64 c8) (zai zfg))
   have znz:=zac (b:=zuz) (.int .i64 a1) (.int .i64 a2) (.int .i64 a3) (.int .i64 a4) (.int .i64 a5) (.int .i64 a6) (.int .i64 a7) (.int .i64 a8) (zvf)
   have znn:=zac (b:=zuv) (.int .i64 c1) (.int .i64 c2) (.int .i64 c3) (.int .i64 c4) (.int .i64 c5) (.int .i64 c6) (.int .i64 c7) (.int .i64 c8) znz
   refine rd [8] (rc fun K hK=>?_)
   go_simp
   refine hK.out _ _ (by exact zaa (zfg.right.right)) fun hHeld=>?_
   clear hK K
   try simp only [sp]
   refine rd [9] (rc fun K hK=>?_)
   go_simp
   refine hK.out _ _ (by exact zaa (zk2.right.right)) fun hHeld=>?_
   clear hK K
   try simp only [sp]
   refine wpAnyH_done (by kernel_rfl) ?_ _
   go_wp2_with fail
   go_meet
   exact ⟨_,_,a1,a2,a3,a4,a5,a6,a7,a8,c1,c2,c3,c4,c5,c6,c7,c8,rfl,rfl,hA,hB,zk2,znn⟩
  refine rn (fun K hK=>?_) ?_
  ·go_simp
   have Hpa:=Kd.new (.cells #[.int .i64 0,.int .i64 0,.int .i64 0,.int .i64 0,.int .i64 0,.int .i64 0,.int .i64 0,.int .i64 0] 85)
   have Jpa:=io1 Hpa Jd
   refine hK.out _ _ (by exact zaa (Hpa.right)) fun hHeld=>?_
   clear hK K
   try simp only [sp]
   generalize World.alloc wd (.cells #[.int .i64 0,.int .i64 0,.int .i64 0,.int .i64 0,.int .i64 0,.int .i64 0,.int .i64 0,.int .i64 0] 85)=wpa at *
   generalize wd.heap.size=z7d at *
   refine rd [2,7] (rn (fun K hK=>?_) ?_)
   ·go_simp
    go_at_call 58;(with_reducible refine zax l l1 l2 AL hx (zai Hpa) ?_);intro a1 a2 a3 a4 a5 a6 a7 a8 xc9 hA Xpac z8j
    have z8n:=(zai Xpac)
    have xd6:=(Jpa).trans z8j
    refine hK.out _ _ (by exact zaa (z8n.right)) fun hHeld=>?_
    clear hK K
    try simp only [sp]
    refine rd [5,7] (rn (fun K hK=>?_) ?_)
    ·go_simp
     go_at_call 58;(with_reducible refine zax r r1 r2 AR hx (zai z8n) ?_);intro c1 c2 c3 c4 c5 c6 c7 c8 zr9 hB z7r zvs
     have zvy:=(zai z7r)
     have z8d:=(xd6).trans zvs
     refine hK.out _ _ (by exact zaa (zvy.right)) fun hHeld=>?_
     clear hK K
     try simp only [sp]
     refine rd [7] (rc fun K hK=>?_)
     go_simp
     have zhi:=zvy.new (.cells #[.int .i64 0,.int .i64 0,.int .i64 0,.int .i64 0,.int .i64 0,.int .i64 0,.int .i64 0,.int .i64 0] 85)
     have zvl:=io1 zhi z8d
     refine hK.out _ _ (by exact zaa (zhi.right.right)) fun hHeld=>?_
     clear hK K
     try simp only [sp]
     generalize World.alloc zr9 (.cells #[.int .i64 0,.int .i64 0,.int .i64 0,.int .i64 0,.int .i64 0,.int .i64 0,.int .i64 0,.int .i64 0] 85)=xc7 at *
     generalize zr9.heap.size=zne at *
     have zhs:=(zai zhi)
     have FA:=zb0 zhs
     obtain ⟨f0,f1,f2,f3,f4,f5,f6,f7⟩:=FA
     have QA:=nd8 zhs
     obtain ⟨q0,q1,q2,q3,q4,q5,q6,q7⟩:=QA
     have zfm:=zaz (.int .i64 a1) (.int .i64 a2) (.int .i64 a3) (.int .i64 a4) (.int .i64 a5) (.int .i64 a6) (.int .i64 a7) (.int .i64 a8) zhs
     have FB:=zb0 zfm.right
     obtain ⟨g0,g1,g2,g3,g4,g5,g6,g7⟩:=FB
     have QB:=nd8 zfm.right
     obtain ⟨r0,r1',r2',r3,r4,r5,r6,r7⟩:=QB
     have zk8:=zai (zaz (.int .i64 c1) (.int .i64 c2) (.int .i64 c3) (.int .i64 c4) (.int .i64 c5) (.int .i64 c6) (.int .i64 c7) (.int .i64 c8) (zai zfm))
     have zn5:=zac (b:=z7d) (.int .i64 a1) (.int .i64 a2) (.int .i64 a3) (.int .i64 a4) (.int .i64 a5) (.int .i64 a6) (.int .i64 a7) (.int .i64 a8) (zvl)
     have znt:=zac (b:=zne) (.int .i64 c1) (.int .i64 c2) (.int .i64 c3) (.int .i64 c4) (.int .i64 c5) (.int .i64 c6) (.int .i64 c7) (.int .i64 c8) zn5
     refine rd [8] (rc fun K hK=>?_)
     go_simp
     refine hK.out _ _ (by exact zaa (zfm.right.right)) fun hHeld=>?_
     clear hK K
     try simp only [sp]
     refine rd [9] (rc fun K hK=>?_)
     go_simp
     refine hK.out _ _ (by exact zaa (zk8.right.right)) fun hHeld=>?_
     clear hK K
     try simp only [sp]
     refine wpAnyH_done (by kernel_rfl) ?_ _
     go_wp2_with fail
     go_meet
     exact ⟨_,_,a1,a2,a3,a4,a5,a6,a7,a8,c1,c2,c3,c4,c5,c6,c7,c8,rfl,rfl,hA,hB,zk8,znt⟩
    refine rc fun K hK=>?_
    go_simp
    have zoj:=z8n.new (.cells #[.int .i64 0,.int .i64 0,.int .i64 0,.int .i64 0,.int .i64 0,.int .i64 0,.int .i64 0,.int .i64 0] 85)
    have z8e:=io1 zoj xd6
    refine hK.out _ _ (by exact zaa (zoj.right.right)) fun hHeld=>?_
    clear hK K
    try simp only [sp]
    generalize World.alloc xc9 (.cells #[.int .i64 0,.int .i64 0,.int .i64 0,.int .i64 0,.int .i64 0,.int .i64 0,.int .i64 0,.int .i64 0] 85)=wpacb at *
    generalize xc9.heap.size=zux at *
    refine rd [5] (rc fun K hK=>?_)
    go_simp
    go_at_call 58;(with_reducible refine zax r r1 r2 AR hx (fr2 zoj) ?_);intro c1 c2 c3 c4 c5 c6 c7 c8 xc8 hB zu9 zoc
    have zkx:=(bk2 zu9)
    have zvm:=(z8e).trans zoc
    refine hK.out _ _ (by exact zaa (zkx.right.right)) fun hHeld=>?_
    clear hK K
    try simp only [sp]
    have zht:=(zai zkx)
    have FA:=zb0 zht
    obtain ⟨f0,f1,f2,f3,f4,f5,f6,f7⟩:=FA
    have QA:=nd8 zht
    obtain ⟨q0,q1,q2,q3,q4,q5,q6,q7⟩:=QA
    have zfn:=zaz (.int .i64 a1) (.int .i64 a2) (.int .i64 a3) (.int .i64 a4) (.int .i64 a5) (.int .i64 a6) (.int .i64 a7) (.int .i64 a8) zht
    have FB:=zb0 zfn.right
    obtain ⟨g0,g1,g2,g3,g4,g5,g6,g7⟩:=FB
    have QB:=nd8 zfn.right
    obtain ⟨r0,r1',r2',r3,r4,r5,r6,r7⟩:=QB
    have zk9:=zai (zaz (.int .i64 c1) (.int .i64 c2) (.int .i64 c3) (.int .i64 c4) (.int .i64 c5) (.int .i64 c6) (.int .i64 c7) (.int .i64 c8) (zai zfn))
    have zn6:=zac (b:=z7d) (.int .i64 a1) (.int .i64 a2) (.int .i64 a3) (.int .i64 a4) (.int .i64 a5) (.int .i64 a6) (.int .i64 a7) (.int .i64 a8) (zvm)
    have znu:=zac (b:=zux) (.int .i64 c1) (.int .i64 c2) (.int .i64 c3) (.int .i64 c4) (.int .i64 c5) (.int .i64 c6) (.int .i64 c7) (.int .i64 c8) zn6
    refine rd [8] (rc fun K hK=>?_)
    go_simp
    refine hK.out _ _ (by exact zaa (zfn.right.right)) fun hHeld=>?_
    clear hK K
    try simp only [sp]
    refine rd [9] (rc fun K hK=>?_)
    go_simp
    refine hK.out _ _ (by exact zaa (zk9.right.right)) fun hHeld=>?_
    clear hK K
    try simp only [sp]
    refine wpAnyH_done (by kernel_rfl) ?_ _
    go_wp2_with fail
    go_meet
    exact ⟨_,_,a1,a2,a3,a4,a5,a6,a7,a8,c1,c2,c3,c4,c5,c6,c7,c8,rfl,rfl,hA,hB,zk9,znu⟩
   refine rc fun K hK=>?_
   go_simp
   have z8o:=Hpa.new (.cells #[.int .i64 0,.int .i64 0,.int .i64 0,.int .i64 0,.int .i64 0,.int .i64 0,.int .i64 0,.int .i64 0] 85)
   have Jpab:=io1 z8o Jpa
   refine hK.out _ _ (by exact zaa (z8o.right.right)) fun hHeld=>?_
   clear hK K
   try simp only [sp]
   generalize World.alloc wpa (.cells #[.int .i64 0,.int .i64 0,.int .i64 0,.int .i64 0,.int .i64 0,.int .i64 0,.int .i64 0,.int .i64 0] 85)=wpab at *
   generalize wpa.heap.size=z7b at *
   refine rd [2] (rc fun K hK=>?_)
   go_simp
   go_at_call 58;(with_reducible refine zax l l1 l2 AL hx (fr2 z8o) ?_);intro a1 a2 a3 a4 a5 a6 a7 a8 wpabc hA z7s zvt
   have zvz:=(bk2 z7s)
   have z8f:=(Jpab).trans zvt
   refine hK.out _ _ (by exact zaa (zvz.right.right)) fun hHeld=>?_
   clear hK K
   try simp only [sp]
   refine rd [5] (rc fun K hK=>?_)
   go_simp
   go_at_call 58;(with_reducible refine zax r r1 r2 AR hx (fr2 zvz) ?_);intro c1 c2 c3 c4 c5 c6 c7 c8 xda hB zva zod
   have zky:=(bk2 zva)
   have zvn:=(z8f).trans zod
   refine hK.out _ _ (by exact zaa (zky.right.right)) fun hHeld=>?_
   clear hK K
   try simp only [sp]
   have zhu:=(zai zky)
   have FA:=zb0 zhu
   obtain ⟨f0,f1,f2,f3,f4,f5,f6,f7⟩:=FA
   have QA:=nd8 zhu
   obtain ⟨q0,q1,q2,q3,q4,q5,q6,q7⟩:=QA
   have zfo:=zaz (.int .i64 a1) (.int .i64 a2) (.int .i64 a3) (.int .i64 a4) (.int .i64 a5) (.int .i64 a6) (.int .i64 a7) (.int .i64 a8) zhu
   have FB:=zb0 zfo.right
   obtain ⟨g0,g1,g2,g3,g4,g5,g6,g7⟩:=FB
   have QB:=nd8 zfo.right
   obtain ⟨r0,r1',r2',r3,r4,r5,r6,r7⟩:=QB
   have zla:=zai (zaz (.int .i64 c1) (.int .i64 c2) (.int .i64 c3) (.int .i64 c4) (.int .i64 c5) (.int .i64 c6) (.int .i64 c7) (.int .i64 c8) (zai zfo))
   have zn7:=zac (b:=z7d) (.int .i64 a1) (.int .i64 a2) (.int .i64 a3) (.int .i64 a4) (.int .i64 a5) (.int .i64 a6) (.int .i64 a7) (.int .i64 a8) (zvn)
   have znv:=zac (b:=z7b) (.int .i64 c1) (.int .i64 c2) (.int .i64 c3) (.int .i64 c4) (.int .i64 c5) (.int .i64 c6) (.int .i64 c7) (.int .i64 c8) zn7
   refine rd [8] (rc fun K hK=>?_)
   go_simp
   refine hK.out _ _ (by exact zaa (zfo.right.right)) fun hHeld=>?_
   clear hK K
   try simp only [sp]
   refine rd [9] (rc fun K hK=>?_)
   go_simp
   refine hK.out _ _ (by exact zaa (zla.right.right)) fun hHeld=>?_
   clear hK K
   try simp only [sp]
   refine wpAnyH_done (by kernel_rfl) ?_ _
   go_wp2_with fail
   go_meet
   exact ⟨_,_,a1,a2,a3,a4,a5,a6,a7,a8,c1,c2,c3,c4,c5,c6,c7,c8,rfl,rfl,hA,hB,zla,znv⟩
  refine rc fun K hK=>?_
  go_simp
  have Hpb:=Kd.new (.cells #[.int .i64 0,.int .i64 0,.int .i64 0,.int .i64 0,.int .i64 0,.int .i64 0,.int .i64 0,.int .i64 0] 85)
  have Jpb:=io1 Hpb Jd
  refine hK.out _ _ (by exact zaa (Hpb.right)) fun hHeld=>?_
  clear hK K
  try simp only [sp]
  generalize World.alloc wd (.cells #[.int .i64 0,.int .i64 0,.int .i64 0,.int .i64 0,.int .i64 0,.int .i64 0,.int .i64 0,.int .i64 0] 85)=wpb at *
  generalize wd.heap.size=z7a at *
  refine rd [2,6] (rn (fun K hK=>?_) ?_)
  ·go_simp
   go_at_call 58;(with_reducible refine zax l l1 l2 AL hx (zai Hpb) ?_);intro a1 a2 a3 a4 a5 a6 a7 a8 xc5 hA Xpbc z8i
   have z8l:=(zai Xpbc)
   have xd5:=(Jpb).trans z8i
   refine hK.out _ _ (by exact zaa (z8l.right)) fun hHeld=>?_
   clear hK K
   try simp only [sp]
   refine rd [5,6] (rn (fun K hK=>?_) ?_)
   ·go_simp
    go_at_call 58;(with_reducible refine zax r r1 r2 AR hx (zai z8l) ?_);intro c1 c2 c3 c4 c5 c6 c7 c8 zr8 hB z7p zvq
    have zvw:=(zai z7p)
    have z8a:=(xd5).trans zvq
    refine hK.out _ _ (by exact zaa (zvw.right)) fun hHeld=>?_
    clear hK K
    try simp only [sp]
    refine rd [6] (rc fun K hK=>?_)
    go_simp
    have zhh:=zvw.new (.cells #[.int .i64 0,.int .i64 0,.int .i64 0,.int .i64 0,.int .i64 0,.int .i64 0,.int .i64 0,.int .i64 0] 85)
    have zvi:=io1 zhh z8a
    refine hK.out _ _ (by exact zaa (zhh.right.right)) fun hHeld=>?_
    clear hK K
    try simp only [sp]
    generalize World.alloc zr8 (.cells #[.int .i64 0,.int .i64 0,.int .i64 0,.int .i64 0,.int .i64 0,.int .i64 0,.int .i64 0,.int .i64 0] 85)=xc3 at *
    generalize zr8.heap.size=znh at *
    have zhp:=zhh
    have FA:=zb0 zhp
    obtain ⟨f0,f1,f2,f3,f4,f5,f6,f7⟩:=FA
    have QA:=nd8 zhp
    obtain ⟨q0,q1,q2,q3,q4,q5,q6,q7⟩:=QA
    have zfj:=zaz (.int .i64 a1) (.int .i64 a2) (.int .i64 a3) (.int .i64 a4) (.int .i64 a5) (.int .i64 a6) (.int .i64 a7) (.int .i64 a8) zhp
    have FB:=zb0 zfj.right
    obtain ⟨g0,g1,g2,g3,g4,g5,g6,g7⟩:=FB
    have QB:=nd8 zfj.right
    obtain ⟨r0,r1',r2',r3,r4,r5,r6,r7⟩:=QB
    have zk5:=zai (zaz (.int .i64 c1) (.int .i64 c2) (.int .i64 c3) (.int .i64 c4) (.int .i64 c5) (.int .i64 c6) (.int .i64 c7) (.int .i64 c8) (zai zfj))
    have zn2:=zac (b:=znh) (.int .i64 a1) (.int .i64 a2) (.int .i64 a3) (.int .i64 a4) (.int .i64 a5) (.int .i64 a6) (.int .i64 a7) (.int .i64 a8) (zvi)
    have znq:=zac (b:=z7a) (.int .i64 c1) (.int .i64 c2) (.int .i64 c3) (.int .i64 c4) (.int .i64 c5) (.int .i64 c6) (.int .i64 c7) (.int .i64 c8) zn2
    refine rd [8] (rc fun K hK=>?_)
    go_simp
    refine hK.out _ _ (by exact zaa (zfj.right.right)) fun hHeld=>?_
    clear hK K
    try simp only [sp]
    refine rd [9] (rc fun K hK=>?_)
    go_simp
    refine hK.out _ _ (by exact zaa (zk5.right.right)) fun hHeld=>?_
    clear hK K
    try simp only [sp]
    refine wpAnyH_done (by kernel_rfl) ?_ _
    go_wp2_with fail
    go_meet
    exact ⟨_,_,a1,a2,a3,a4,a5,a6,a7,a8,c1,c2,c3,c4,c5,c6,c7,c8,rfl,rfl,hA,hB,zk5,znq⟩
   refine rc fun K hK=>?_
   go_simp
   have zoi:=z8l.new (.cells #[.int .i64 0,.int .i64 0,.int .i64 0,.int .i64 0,.int .i64 0,.int .i64 0,.int .i64 0,.int .i64 0] 85)
   have z8b:=io1 zoi xd5
   refine hK.out _ _ (by exact zaa (zoi.right.right)) fun hHeld=>?_
   clear hK K
   try simp only [sp]
   generalize World.alloc xc5 (.cells #[.int .i64 0,.int .i64 0,.int .i64 0,.int .i64 0,.int .i64 0,.int .i64 0,.int .i64 0,.int .i64 0] 85)=wpbca at *
   generalize xc5.heap.size=zu1 at *
   refine rd [5] (rc fun K hK=>?_)
   go_simp
   go_at_call 58;(with_reducible refine zax r r1 r2 AR hx (fr2 zoi) ?_);intro c1 c2 c3 c4 c5 c6 c7 c8 xc4 hB zu7 zoa
   have zkv:=(bk2 zu7)
   have zvj:=(z8b).trans zoa
   refine hK.out _ _ (by exact zaa (zkv.right.right)) fun hHeld=>?_
   clear hK K
   try simp only [sp]
   have zhq:=zkv
   have FA:=zb0 zhq
   obtain ⟨f0,f1,f2,f3,f4,f5,f6,f7⟩:=FA
   have QA:=nd8 zhq
   obtain ⟨q0,q1,q2,q3,q4,q5,q6,q7⟩:=QA
   have zfk:=zaz (.int .i64 a1) (.int .i64 a2) (.int .i64 a3) (.int .i64 a4) (.int .i64 a5) (.int .i64 a6) (.int .i64 a7) (.int .i64 a8) zhq
   have FB:=zb0 zfk.right
   obtain ⟨g0,g1,g2,g3,g4,g5,g6,g7⟩:=FB
   have QB:=nd8 zfk.right
   obtain ⟨r0,r1',r2',r3,r4,r5,r6,r7⟩:=QB
   have zk6:=zai (zaz (.int .i64 c1) (.int .i64 c2) (.int .i64 c3) (.int .i64 c4) (.int .i64 c5) (.int .i64 c6) (.int .i64 c7) (.int .i64 c8) (zai zfk))
   have zn3:=zac (b:=zu1) (.int .i64 a1) (.int .i64 a2) (.int .i64 a3) (.int .i64 a4) (.int .i64 a5) (.int .i64 a6) (.int .i64 a7) (.int .i64 a8) (zvj)
   have znr:=zac (b:=z7a) (.int .i64 c1) (.int .i64 c2) (.int .i64 c3) (.int .i64 c4) (.int .i64 c5) (.int .i64 c6) (.int .i64 c7) (.int .i64 c8) zn3
   refine rd [8] (rc fun K hK=>?_)
   go_simp
   refine hK.out _ _ (by exact zaa (zfk.right.right)) fun hHeld=>?_
   clear hK K
   try simp only [sp]
   refine rd [9] (rc fun K hK=>?_)
   go_simp
   refine hK.out _ _ (by exact zaa (zk6.right.right)) fun hHeld=>?_
   clear hK K
   try simp only [sp]
   refine wpAnyH_done (by kernel_rfl) ?_ _
   go_wp2_with fail
   go_meet
   exact ⟨_,_,a1,a2,a3,a4,a5,a6,a7,a8,c1,c2,c3,c4,c5,c6,c7,c8,rfl,rfl,hA,hB,zk6,znr⟩
  refine rc fun K hK=>?_
  go_simp
  have z8m:=Hpb.new (.cells #[.int .i64 0,.int .i64 0,.int .i64 0,.int .i64 0,.int .i64 0,.int .i64 0,.int .i64 0,.int .i64 0] 85)
  have Jpba:=io1 z8m Jpb
  refine hK.out _ _ (by exact zaa (z8m.right.right)) fun hHeld=>?_
  clear hK K
  try simp only [sp]
  generalize World.alloc wpb (.cells #[.int .i64 0,.int .i64 0,.int .i64 0,.int .i64 0,.int .i64 0,.int .i64 0,.int .i64 0,.int .i64 0] 85)=wpba at *
  generalize wpb.heap.size=z7c at *
  refine rd [2] (rc fun K hK=>?_)
  go_simp
  go_at_call 58;(with_reducible refine zax l l1 l2 AL hx (fr2 z8m) ?_);intro a1 a2 a3 a4 a5 a6 a7 a8 wpbac hA z7q zvr
  have zvx:=(bk2 z7q)
  have z8c:=(Jpba).trans zvr
  refine hK.out _ _ (by exact zaa (zvx.right.right)) fun hHeld=>?_
  clear hK K
  try simp only [sp]
  refine rd [5] (rc fun K hK=>?_)
  go_simp
  go_at_call 58;(with_reducible refine zax r r1 r2 AR hx (fr2 zvx) ?_);intro c1 c2 c3 c4 c5 c6 c7 c8 xc6 hB zu8 zob
  have zkw:=(bk2 zu8)
  have zvk:=(z8c).trans zob
  refine hK.out _ _ (by exact zaa (zkw.right.right)) fun hHeld=>?_
  clear hK K
  try simp only [sp]
  have zhr:=zkw
  have FA:=zb0 zhr
  obtain ⟨f0,f1,f2,f3,f4,f5,f6,f7⟩:=FA
  have QA:=nd8 zhr
  obtain ⟨q0,q1,q2,q3,q4,q5,q6,q7⟩:=QA
  have zfl:=zaz (.int .i64 a1) (.int .i64 a2) (.int .i64 a3) (.int .i64 a4) (.int .i64 a5) (.int .i64 a6) (.int .i64 a7) (.int .i64 a8) zhr
  have FB:=zb0 zfl.right
  obtain ⟨g0,g1,g2,g3,g4,g5,g6,g7⟩:=FB
  have QB:=nd8 zfl.right
  obtain ⟨r0,r1',r2',r3,r4,r5,r6,r7⟩:=QB
  have zk7:=zai (zaz (.int .i64 c1) (.int .i64 c2) (.int .i64 c3) (.int .i64 c4) (.int .i64 c5) (.int .i64 c6) (.int .i64 c7) (.int .i64 c8) (zai zfl))
  have zn4:=zac (b:=z7c) (.int .i64 a1) (.int .i64 a2) (.int .i64 a3) (.int .i64 a4) (.int .i64 a5) (.int .i64 a6) (.int .i64 a7) (.int .i64 a8) (zvk)
  have zns:=zac (b:=z7a) (.int .i64 c1) (.int .i64 c2) (.int .i64 c3) (.int .i64 c4) (.int .i64 c5) (.int .i64 c6) (.int .i64 c7) (.int .i64 c8) zn4
  refine rd [8] (rc fun K hK=>?_)
  go_simp
  refine hK.out _ _ (by exact zaa (zfl.right.right)) fun hHeld=>?_
  clear hK K
  try simp only [sp]
  refine rd [9] (rc fun K hK=>?_)
  go_simp
  refine hK.out _ _ (by exact zaa (zk7.right.right)) fun hHeld=>?_
  clear hK K
  try simp only [sp]
  refine wpAnyH_done (by kernel_rfl) ?_ _
  go_wp2_with fail
  go_meet
  exact ⟨_,_,a1,a2,a3,a4,a5,a6,a7,a8,c1,c2,c3,c4,c5,c6,c7,c8,rfl,rfl,hA,hB,zk7,zns⟩
 case rest =>
  obtain ⟨b9,b10,a1,a2,a3,a4,a5,a6,a7,a8,c1,c2,c3,c4,c5,c6,c7,c8,rfl,rfl,hA,hB,K2,J2⟩:=hcut
  cases m with
  | none =>
   obtain ⟨t,ht⟩:=Sq.z6y l (k1,k2) r bal.out.1 bal.out.2.1 bal.out.2.2.1 bal.out.2.2.2
   obtain ⟨y0,y1⟩:=zox (fr2 K2)
   go_upto_region 3 with fail
   clear y0 y1
   go_wp2_with (go_at_call 46;(with_reducible refine zan K2 ?_);intro w3 H3 I3;obtain ⟨f0,f1⟩:=zgf H3.right.right.right;obtain ⟨g0,g1⟩:=tk2 H3.right.right.right;have KE:=zc2 (.int .i64 4294967295) (.int .i64 4294967295) (zfq H3);have JE:=zay (b:=bx+3) (.int .i64 4294967295) (.int .i64 4294967295) (J2.trans I3);obtain ⟨q0,q1⟩:=tk2 KE)
   have FIN:=L_ (HH.out none 4294967295 4294967295 t _ (L_ ⟨ht,fr.out.bad ht,fun M' h=>nomatch h⟩) (zqe KE) JE)
   have hag:=Tryz.isAgg29
   have hsz:=Tryz.sizeOf29
   exact bodyPost_ret (v:=tkA 4294967295 4294967295) (by simp [results,Tryz.results83,go_sem,q0,q1]) rfl FIN.out
  | some M =>
   obtain rfl:a8=(l.ht:Int):=hA.out.ht.1
   obtain rfl:c8=(r.ht:Int):=hB.out.ht.1
   obtain ⟨al1,al2⟩:=al.out M rfl
   have EL:=L_ al1
   have ER:=L_ al2
   clear al1 al2
   have zw9:=(fr.out.toks (t:=l) (by simp)).2.1
   have zw8:=(fr.out.toks (t:=r) (by simp)).2.1
   have hlc:=l.zec
   have hrc:=r.zec
   have wr1:IntKind.i64.wrap ((r.ht:Int)+1)=(r.ht:Int)+1:=wrap_in (by omega) (by omega)
   have wr2:IntKind.i64.wrap ((l.ht:Int)+1)=(l.ht:Int)+1:=wrap_in (by omega) (by omega)
   obtain ⟨y0,y1⟩:=zb5 (fr2 K2)
   have YA:=nd8 K2
   obtain ⟨-,-,-,-,-,-,-,ya⟩:=YA
   have YB:=nd8 K2.right
   obtain ⟨-,-,-,-,-,-,-,yb⟩:=YB
   by_cases c1:r.ht+1<l.ht
   ·have g1:(r.ht:Int)+1<(l.ht:Int):=by omega
    cases l with
    | nil=>simp [Sq.T.ht] at c1
    | node a xx b =>
     obtain ⟨kA,kB⟩:=hA.out.kids
     have EA:Hid ((a3,a4)=a.top):=L_ kA
     have EB:Hid ((a5,a6)=b.top):=L_ kB
     have HX:Hid ((l1,l2)=xx):=L_ EL.out
     have HT:Hid ((Sq.T.node a xx b).ht=r.ht+2):=L_ (by have:=bal.out.2.2.1;omega)
     clear kA kB
     go_upto_region 5 with fail
     clear y0 y1 ya yb wr1 wr2 zw9 zw8 hlc hrc
     have FLD:=zy3
     have F0:Hid (Fr m0 (some M) all (a::b::r::ts) (xx::(k1,k2)::ks)):=L_ (fr.out.open)
     have AA:Hid (Sq.zlj (some M) a (a3,a4)):=L_ (F0.out.arg (by simp) EA.out)
     have AB:Hid (Sq.zlj (some M) b (a5,a6)):=L_ (F0.out.arg (by simp) EB.out)
     have Kd:=K2.drew
     have Jd:=J2.drew
     clear K2 J2 hA hB
     have S0:=zaw Kd
     by_cases hcc:b.ht≤a.ht
     ·have HC:Hid (b.ht≤a.ht):=L_ hcc
      have ci:(b.ht:Int)≤(a.ht:Int):=by omega
      have cd:decide ((b.ht:Int)≤(a.ht:Int))=true:=decide_eq_true (by omega)
      refine rh Kd (fun W Kd=>zaw Kd) fun hHeld=>?_
      refine tk ?_ ?_ [0,1,2,5,6,7] ?_ hHeld ?_;rotate_left 2;exact tt
      refine rd [3] (rc fun K hK=>?_)
      go_simp
      go_at_call 58;(with_reducible refine zgy a a3 a4 AA hx (fr2 Kd) ?_);intro _ _ _ _ _ _ _ w3 _ Xw3 Iw3;have Hw3:=bk2 Xw3
      refine hK.out _ _ (by exact zaw Hw3) fun hHeld=>?_
      clear hK K
      try simp only [sp]
      refine tk ?_ ?_ [4] ?_ hHeld ?_;rotate_left 2;exact tt
      refine rd [8] (rc fun K hK=>?_)
      go_simp
      go_at_call 58;(with_reducible refine zgy b a5 a6 AB hx (fr2 Hw3) ?_);intro _ _ _ _ _ _ _ w4 _ Xw4 Iw4;have Hw4:=bk2 Xw4
      refine hK.out _ _ (by exact zaw Hw4) fun hHeld=>?_
      clear hK K
      try simp only [sp]
      refine tk ?_ ?_ [9,10] ?_ hHeld ?_;rotate_left 2;exact tt
      refine wpAnyH_done (by kernel_rfl) ?_ _
      go_upto_region 6 with fail
      have Ke:=Hw4.drew
      have S5:=zaw Ke
      have F1:Hid (Fr m0 (some M) all (b::r::a::ts) ((k1,k2)::xx::ks)):=L_ ((F0.out.perm (Sq.p3 a b r ts) (Sq.pa _ _ _)))
      clear S0 cd ci hcc
      refine rh Ke (fun W Ke=>zaw Ke) fun hHeld=>?_
      refine tk ?_ ?_ [0,1,2,3,4,5,6,7,8] ?_ hHeld ?_;rotate_left 2;exact tt
      refine rd [9] (rc fun K hK=>?_)
      go_simp
      go_at_call 45;(with_reducible refine z1i b r k1 k2 a5 a6 r1 r2 EB ER F1 hx (fr2 Ke) ?_);intro mw5 w5 xfm Xw5 Iw5;have Hw5:=bk2 Xw5;have F2:Hid (Fr m0 mw5 all (a::Sq.T.node b (k1,k2) r::ts) ((l1,l2)::ks)):=L_ (by rw [HX.out];exact xfm.out.1.perm (Sq.pa _ _ _) (List.Perm.refl _))
      refine hK.out _ _ (by exact zaw Hw5) fun hHeld=>?_
      clear hK K
      try simp only [sp]
      refine rd [10] (rc fun K hK=>?_)
      go_simp
      go_at_call 45;(with_reducible refine z1i a _ l1 l2 a3 a4 k1 k2 EA (L_ rfl) F2 hx (fr2 Hw5) ?_);intro mw6 w6 xbf Xw6 Iw6;have Hw6:=bk2 Xw6;have FF:=zgf Hw6.right.right.right;obtain ⟨f0,f1⟩:=FF;have GG:=tk2 Hw6.right.right.right;obtain ⟨g0,g1⟩:=GG;have KE:=zh2 (zc2 (.int .i64 l1) (.int .i64 l2) (zfq Hw6));have JE:=zay (b:=bx+3) (.int .i64 l1) (.int .i64 l2) (((((Jd.trans Iw3).trans Iw4).drew.trans Iw5).trans Iw6))
      refine hK.out _ _ (by exact zaw Hw6) fun hHeld=>?_
      clear hK K
      try simp only [sp]
      refine rd [11] (rc fun K hK=>?_)
      go_simp
      refine hK.out _ _ (by exact zaw KE) fun hHeld=>?_
      clear hK K
      try simp only [sp]
      refine wpAnyH_done (by kernel_rfl) ?_ _
      have QQ:=tk2 KE.right.right.right
      obtain ⟨q0,q1⟩:=QQ
      have FIN:=L_ (HH.out mw6 l1 l2 (.node a xx (.node b (k1,k2) r)) _ (L_ ⟨Sq.Lk.left1 bal.out.1 bal.out.2.1 HT.out HC.out,(by have:=xbf.out.1;rw [HX.out] at this;exact this),(fun M' h=>⟨HX.out,by have:=xbf.out.2 M' h;rw [HX.out] at this;exact this⟩)⟩) (end2 KE) JE)
      go_wp2_with fail
      have hag:=Tryz.isAgg29
      have hsz:=Tryz.sizeOf29
      exact bodyPost_ret (v:=tkA l1 l2) (by simp [results,Tryz.results83,go_sem,q0,q1]) rfl FIN.out
     ·have HC:Hid (a.ht<b.ht):=L_ (by omega)
      have ci:¬ ((b.ht:Int)≤(a.ht:Int)):=by omega
      have cd:decide ((b.ht:Int)≤(a.ht:Int))=false:=decide_eq_false (by omega)
      refine wp_region_held_drew (S:=(fun W=>(((W.cell? ⟨bx,0,none⟩=some (.int .i64 k1)∧W.cell? ⟨bx,1,none⟩=some (.int .i64 k2))∧(W.cell? ⟨bx+1,0,none⟩=some (.int .i64 l1)∧W.cell? ⟨bx+1,1,none⟩=some (.int .i64 l2))∧(W.cell? ⟨bx+2,0,none⟩=some (.int .i64 r1)∧W.cell? ⟨bx+2,1,none⟩=some (.int .i64 r2)))∧(W.cell? ⟨b9,2,none⟩=some (.int .i64 a3)∧W.cell? ⟨b9,3,none⟩=some (.int .i64 a4)∧W.cell? ⟨b9,4,none⟩=some (.int .i64 a5)∧W.cell? ⟨b9,5,none⟩=some (.int .i64 a6))∧(W.cell? ⟨b10,2,none⟩=some (.int .i64 c3)∧W.cell? ⟨b10,3,none⟩=some (.int .i64 c4)∧W.cell? ⟨b10,4,none⟩=some (.int .i64 c5)∧W.cell? ⟨b10,5,none⟩=some (.int .i64 c6))))) (by kernel_rfl) (by exact S0) (fun hHeld=>?_)
      refine tk ?_ ?_ [0,1,2,5,6,7] ?_ hHeld ?_;rotate_left 2;exact tt
      refine rd [3] (rc fun K hK=>?_)
      go_simp
      go_at_call 58;(with_reducible refine zgy a a3 a4 AA hx (fr2 Kd) ?_);intro _ _ _ _ _ _ _ w3 _ Xw3 Iw3;have Hw3:=bk2 Xw3
      refine hK.out _ _ (by exact zaw Hw3) fun hHeld=>?_
      clear hK K
      try simp only [sp]
      refine tk ?_ ?_ [4] ?_ hHeld ?_;rotate_left 2;exact tt
      refine rd [8] (rc fun K hK=>?_)
      go_simp
      go_at_call 58;(with_reducible refine zgy b a5 a6 AB hx (fr2 Hw3) ?_);intro _ _ _ _ _ _ _ w4 _ Xw4 Iw4;have Hw4:=bk2 Xw4
      refine hK.out _ _ (by exact zaw Hw4) fun hHeld=>?_
      clear hK K
      try simp only [sp]
      refine tk ?_ ?_ [9,10] ?_ hHeld ?_;rotate_left 2;exact tt
      refine wpAnyH_done (by kernel_rfl) ?_ _
      clear cd ci hcc
      cases b with
      | nil=>exact absurd HC.out (Nat.not_lt_zero _)
      | node c y d =>
       have HY:Hid ((a5,a6)=y):=L_ EB.out
       go_upto_region 7 with fail
       have ZZ:=zaw Hw4
       obtain ⟨-,⟨z2,z3,z4,z5⟩,⟨z6,z7,z8,z9⟩⟩:=ZZ
       go_upto_region 8 with (go_at_call 58;(with_reducible refine zax (Sq.T.node c y d) a5 a6 AB hx (fr2 Hw4) ?_);intro e1 e2 e3 e4 e5 e6 e7 e8 w8 hE X8 I8;have K8:=(bk2 X8).new (.cells #[.int .i64 e1,.int .i64 e2,.int .i64 e3,.int .i64 e4,.int .i64 e5,.int .i64 e6,.int .i64 e7,.int .i64 e8] 85);have J8:=I8.alloc (.cells #[.int .i64 e1,.int .i64 e2,.int .i64 e3,.int .i64 e4,.int .i64 e5,.int .i64 e6,.int .i64 e7,.int .i64 e8] 85))
       clear z2 z3 z4 z5 z6 z7 z8 z9 S0
       obtain ⟨kC,kD⟩:=hE.out.kids
       have EC:Hid ((e3,e4)=c.top):=L_ kC
       have ED:Hid ((e5,e6)=d.top):=L_ kD
       have HL2:Hid ((l1,l2)=(Sq.T.node a (l1,l2) c).top):=L_ rfl
       have F1:Hid (Fr m0 (some M) all (a::c::d::r::ts) ((l1,l2)::(k1,k2)::y::ks)):=L_ (by rw [HX.out];exact (((F0.out.perm (Sq.pa _ _ _) (List.Perm.refl _)).open).perm ((List.Perm.trans (Sq.p3 c d a (r::ts)) (Sq.p3 d a c (r::ts))).trans (Sq.pb a c d (r::ts) |>.trans (Sq.pb a d c (r::ts)))) (Sq.p3 y xx (k1,k2) ks)))
       clear kC kD hE X8 I8
       generalize w8.alloc _=w9 at *
       generalize w8.heap.size=b11 at *
       have Ke:=K8.drew
       have S5:=zcg Ke
       clear K8
       refine rh Ke (fun W Ke=>zcg Ke) fun hHeld=>?_
       refine tk ?_ ?_ [0,1,2,3,4,5,6,7,8,10,11,12,13,14] ?_ hHeld ?_;rotate_left 2;exact tt
       refine rd [9] (rc fun K hK=>?_)
       go_simp
       go_at_call 45;(with_reducible refine z1i a c l1 l2 a3 a4 e3 e4 EA EC F1 hx (fr3 Ke) ?_);intro mw5 w5 xfm Xw5 Iw5;have Hw5:=bk3 Xw5;have F2:Hid (Fr m0 mw5 all (d::r::Sq.T.node a (l1,l2) c::ts) ((k1,k2)::y::ks)):=L_ (xfm.out.1.perm (Sq.p3 _ _ _ _) (List.Perm.refl _))
       refine hK.out _ _ (by exact zcg Hw5) fun hHeld=>?_
       clear hK K
       try simp only [sp]
       refine rd [15] (rc fun K hK=>?_)
       go_simp
       go_at_call 45;(with_reducible refine z1i d r k1 k2 e5 e6 r1 r2 ED ER F2 hx (fr3 Hw5) ?_);intro mw6 w6 xbf Xw6 Iw6;have Hw6:=bk3 Xw6;have F3:Hid (Fr m0 mw6 all (Sq.T.node a (l1,l2) c::Sq.T.node d (k1,k2) r::ts) ((a5,a6)::ks)):=L_ (by rw [HY.out];exact xbf.out.1.perm (Sq.pa _ _ _) (List.Perm.refl _))
       refine hK.out _ _ (by exact zcg Hw6) fun hHeld=>?_
       clear hK K
       try simp only [sp]
       refine rd [16] (rc fun K hK=>?_)
       go_simp
       go_at_call 45;(with_reducible refine z1i _ _ a5 a6 l1 l2 k1 k2 HL2 (L_ rfl) F3 hx (fr3 Hw6) ?_);intro mw7 w7 hmw7 Xw7 Iw7;have Hw7:=bk3 Xw7;have FF:=zgf Hw7.right.right.right.right;obtain ⟨f0,f1⟩:=FF;have GG:=tk2 Hw7.right.right.right.right;obtain ⟨g0,g1⟩:=GG;have KE:=zs6 (zc2 (.int .i64 a5) (.int .i64 a6) (res3 Hw7));have JE:=zay (b:=bx+3) (.int .i64 a5) (.int .i64 a6) ((((((Jd.trans Iw3).trans Iw4).trans J8).drew.trans Iw5).trans Iw6).trans Iw7)
       refine hK.out _ _ (by exact zcg Hw7) fun hHeld=>?_
       clear hK K
       try simp only [sp]
       refine rd [17] (rc fun K hK=>?_)
       go_simp
       refine hK.out _ _ (by exact zcg KE) fun hHeld=>?_
       clear hK K
       try simp only [sp]
       refine wpAnyH_done (by kernel_rfl) ?_ _
       have QQ:=tk2 KE.right.right.right.right
       obtain ⟨q0,q1⟩:=QQ
       have FIN:=L_ (HH.out mw7 a5 a6 (.node (.node a xx c) y (.node d (k1,k2) r)) _ (L_ ⟨Sq.Lk.left2 bal.out.1 bal.out.2.1 HT.out HC.out,(by have:=hmw7.out.1;rw [HX.out,HY.out] at this;exact this),(fun M' h=>⟨HY.out,by have:=hmw7.out.2 M' h;rw [HX.out,HY.out] at this;exact this⟩)⟩) (end3 KE) JE)
       go_wp2_with fail
       have hag:=Tryz.isAgg29
       have hsz:=Tryz.sizeOf29
       exact bodyPost_ret (v:=tkA a5 a6) (by simp [results,Tryz.results83,go_sem,q0,q1]) rfl FIN.out
   ·by_cases c2:l.ht+1<r.ht
    ·have g1:¬ (r.ht:Int)+1<(l.ht:Int):=by omega
     have g2:(l.ht:Int)+1<(r.ht:Int):=by omega
     cases r with
     | nil=>simp [Sq.T.ht] at c2
     | node a xx b =>
      obtain ⟨kA,kB⟩:=hB.out.kids
      have EA:Hid ((c3,c4)=a.top):=L_ kA
      have EB:Hid ((c5,c6)=b.top):=L_ kB
      have HX:Hid ((r1,r2)=xx):=L_ ER.out
      have HT:Hid ((Sq.T.node a xx b).ht=l.ht+2):=L_ (by have:=bal.out.2.2.2;omega)
      clear kA kB
      go_upto_region 10 with fail
      clear y0 y1 ya yb wr1 wr2 zw9 zw8 hlc hrc
      have FLD:=zy3
      have F0:Hid (Fr m0 (some M) all (a::b::l::ts) (xx::(k1,k2)::ks)):=L_ ((fr.out.perm (Sq.pa _ _ _) (List.Perm.refl _)).open)
      have AA:Hid (Sq.zlj (some M) a (c3,c4)):=L_ (F0.out.arg (by simp) EA.out)
      have AB:Hid (Sq.zlj (some M) b (c5,c6)):=L_ (F0.out.arg (by simp) EB.out)
      have Kd:=K2.drew
      have Jd:=J2.drew
      clear K2 J2 hA hB
      have S0:=zaw Kd
      by_cases hcc:a.ht≤b.ht
      ·have HC:Hid (a.ht≤b.ht):=L_ hcc
       have ci:(a.ht:Int)≤(b.ht:Int):=by omega
       have cd:decide ((a.ht:Int)≤(b.ht:Int))=true:=decide_eq_true (by omega)
       refine rh Kd (fun W Kd=>zaw Kd) fun hHeld=>?_
       refine tk ?_ ?_ [0,1,2,5,6,7] ?_ hHeld ?_;rotate_left 2;exact tt
       refine rd [3] (rc fun K hK=>?_)
       go_simp
       go_at_call 58;(with_reducible refine zgy b c5 c6 AB hx (fr2 Kd) ?_);intro _ _ _ _ _ _ _ w3 _ Xw3 Iw3;have Hw3:=bk2 Xw3
       refine hK.out _ _ (by exact zaw Hw3) fun hHeld=>?_
       clear hK K
       try simp only [sp]
       refine tk ?_ ?_ [4] ?_ hHeld ?_;rotate_left 2;exact tt
       refine rd [8] (rc fun K hK=>?_)
       go_simp
       go_at_call 58;(with_reducible refine zgy a c3 c4 AA hx (fr2 Hw3) ?_);intro _ _ _ _ _ _ _ w4 _ Xw4 Iw4;have Hw4:=bk2 Xw4
       refine hK.out _ _ (by exact zaw Hw4) fun hHeld=>?_
       clear hK K
       try simp only [sp]
       refine tk ?_ ?_ [9,10] ?_ hHeld ?_;rotate_left 2;exact tt
       refine wpAnyH_done (by kernel_rfl) ?_ _
       go_upto_region 11 with fail
       have Ke:=Hw4.drew
       have S5:=zaw Ke
       have F1:Hid (Fr m0 (some M) all (l::a::b::ts) ((k1,k2)::xx::ks)):=L_ ((F0.out.perm ((Sq.p3 l a b ts).symm) (Sq.pa _ _ _)))
       clear S0 cd ci hcc
       refine rh Ke (fun W Ke=>zaw Ke) fun hHeld=>?_
       refine tk ?_ ?_ [0,1,2,3,4,5,6,8,9] ?_ hHeld ?_;rotate_left 2;exact tt
       refine rd [7] (rc fun K hK=>?_)
       go_simp
       go_at_call 45;(with_reducible refine z1i l a k1 k2 l1 l2 c3 c4 EL EA F1 hx (fr2 Ke) ?_);intro mw5 w5 xfm Xw5 Iw5;have Hw5:=bk2 Xw5;have F2:Hid (Fr m0 mw5 all (Sq.T.node l (k1,k2) a::b::ts) ((r1,r2)::ks)):=L_ (by rw [HX.out];exact xfm.out.1)
       refine hK.out _ _ (by exact zaw Hw5) fun hHeld=>?_
       clear hK K
       try simp only [sp]
       refine rd [10] (rc fun K hK=>?_)
       go_simp
       go_at_call 45;(with_reducible refine z1i _ b r1 r2 k1 k2 c5 c6 (L_ rfl) EB F2 hx (fr2 Hw5) ?_);intro mw6 w6 xbf Xw6 Iw6;have Hw6:=bk2 Xw6;have FF:=zgf Hw6.right.right.right;obtain ⟨f0,f1⟩:=FF;have GG:=tk2 Hw6.right.right.right;obtain ⟨g0,g1⟩:=GG;have KE:=zh2 (zc2 (.int .i64 r1) (.int .i64 r2) (zfq Hw6));have JE:=zay (b:=bx+3) (.int .i64 r1) (.int .i64 r2) (((((Jd.trans Iw3).trans Iw4).drew.trans Iw5).trans Iw6))
       refine hK.out _ _ (by exact zaw Hw6) fun hHeld=>?_
       clear hK K
       try simp only [sp]
       refine rd [11] (rc fun K hK=>?_)
       go_simp
       refine hK.out _ _ (by exact zaw KE) fun hHeld=>?_
       clear hK K
       try simp only [sp]
       refine wpAnyH_done (by kernel_rfl) ?_ _
       have QQ:=tk2 KE.right.right.right
       obtain ⟨q0,q1⟩:=QQ
       have FIN:=L_ (HH.out mw6 r1 r2 (.node (.node l (k1,k2) a) xx b) _ (L_ ⟨Sq.Lk.xdl bal.out.1 bal.out.2.1 HT.out HC.out,(by have:=xbf.out.1;rw [HX.out] at this;exact this),(fun M' h=>⟨HX.out,by have:=xbf.out.2 M' h;rw [HX.out] at this;exact this⟩)⟩) (end2 KE) JE)
       go_wp2_with fail
       have hag:=Tryz.isAgg29
       have hsz:=Tryz.sizeOf29
       exact bodyPost_ret (v:=tkA r1 r2) (by simp [results,Tryz.results83,go_sem,q0,q1]) rfl FIN.out
      ·have HC:Hid (b.ht<a.ht):=L_ (by omega)
       have ci:¬ ((a.ht:Int)≤(b.ht:Int)):=by omega
       have cd:decide ((a.ht:Int)≤(b.ht:Int))=false:=decide_eq_false (by omega)
       refine wp_region_held_drew (S:=(fun W=>(((W.cell? ⟨bx,0,none⟩=some (.int .i64 k1)∧W.cell? ⟨bx,1,none⟩=some (.int .i64 k2))∧(W.cell? ⟨bx+1,0,none⟩=some (.int .i64 l1)∧W.cell? ⟨bx+1,1,none⟩=some (.int .i64 l2))∧(W.cell? ⟨bx+2,0,none⟩=some (.int .i64 r1)∧W.cell? ⟨bx+2,1,none⟩=some (.int .i64 r2)))∧(W.cell? ⟨b9,2,none⟩=some (.int .i64 a3)∧W.cell? ⟨b9,3,none⟩=some (.int .i64 a4)∧W.cell? ⟨b9,4,none⟩=some (.int .i64 a5)∧W.cell? ⟨b9,5,none⟩=some (.int .i64 a6))∧(W.cell? ⟨b10,2,none⟩=some (.int .i64 c3)∧W.cell? ⟨b10,3,none⟩=some (.int .i64 c4)∧W.cell? ⟨b10,4,none⟩=some (.int .i64 c5)∧W.cell? ⟨b10,5,none⟩=some (.int .i64 c6))))) (by kernel_rfl) (by exact S0) (fun hHeld=>?_)
       refine tk ?_ ?_ [0,1,2,5,6,7] ?_ hHeld ?_;rotate_left 2;exact tt
       refine rd [3] (rc fun K hK=>?_)
       go_simp
       go_at_call 58;(with_reducible refine zgy b c5 c6 AB hx (fr2 Kd) ?_);intro _ _ _ _ _ _ _ w3 _ Xw3 Iw3;have Hw3:=bk2 Xw3
       refine hK.out _ _ (by exact zaw Hw3) fun hHeld=>?_
       clear hK K
       try simp only [sp]
       refine tk ?_ ?_ [4] ?_ hHeld ?_;rotate_left 2;exact tt
       refine rd [8] (rc fun K hK=>?_)
       go_simp
       go_at_call 58;(with_reducible refine zgy a c3 c4 AA hx (fr2 Hw3) ?_);intro _ _ _ _ _ _ _ w4 _ Xw4 Iw4;have Hw4:=bk2 Xw4
       refine hK.out _ _ (by exact zaw Hw4) fun hHeld=>?_
       clear hK K
       try simp only [sp]
       refine tk ?_ ?_ [9,10] ?_ hHeld ?_;rotate_left 2;exact tt
       refine wpAnyH_done (by kernel_rfl) ?_ _
       clear cd ci hcc
       cases a with
       | nil=>exact absurd HC.out (Nat.not_lt_zero _)
       | node c y d =>
        have HY:Hid ((c3,c4)=y):=L_ EA.out
        go_upto_region 12 with fail
        have ZZ:=zaw Hw4
        obtain ⟨-,⟨z2,z3,z4,z5⟩,⟨z6,z7,z8,z9⟩⟩:=ZZ
        go_upto_region 13 with (go_at_call 58;(with_reducible refine zax (Sq.T.node c y d) c3 c4 AA hx (fr2 Hw4) ?_);intro e1 e2 e3 e4 e5 e6 e7 e8 w8 hE X8 I8;have K8:=(bk2 X8).new (.cells #[.int .i64 e1,.int .i64 e2,.int .i64 e3,.int .i64 e4,.int .i64 e5,.int .i64 e6,.int .i64 e7,.int .i64 e8] 85);have J8:=I8.alloc (.cells #[.int .i64 e1,.int .i64 e2,.int .i64 e3,.int .i64 e4,.int .i64 e5,.int .i64 e6,.int .i64 e7,.int .i64 e8] 85))
        clear z2 z3 z4 z5 z6 z7 z8 z9 S0
        obtain ⟨kC,kD⟩:=hE.out.kids
        have EC:Hid ((e3,e4)=c.top):=L_ kC
        have ED:Hid ((e5,e6)=d.top):=L_ kD
        have HL2:Hid ((r1,r2)=(Sq.T.node d (r1,r2) b).top):=L_ rfl
        have F1:Hid (Fr m0 (some M) all (l::c::d::b::ts) ((k1,k2)::(r1,r2)::y::ks)):=L_ (by rw [HX.out];exact ((F0.out.open).perm ((Sq.p4 l c d b ts).symm) ((Sq.p3 y xx (k1,k2) ks).trans (Sq.pa _ _ _))))
        clear kC kD hE X8 I8
        generalize w8.alloc _=w9 at *
        generalize w8.heap.size=b11 at *
        have Ke:=K8.drew
        have S5:=zcg Ke
        clear K8
        refine rh Ke (fun W Ke=>zcg Ke) fun hHeld=>?_
        refine tk ?_ ?_ [0,1,2,3,4,5,6,7,9,10,11,12,13,14] ?_ hHeld ?_;rotate_left 2;exact tt
        refine rd [8] (rc fun K hK=>?_)
        go_simp
        go_at_call 45;(with_reducible refine z1i l c k1 k2 l1 l2 e3 e4 EL EC F1 hx (fr3 Ke) ?_);intro mw5 w5 xfm Xw5 Iw5;have Hw5:=bk3 Xw5;have F2:Hid (Fr m0 mw5 all (d::b::Sq.T.node l (k1,k2) c::ts) ((r1,r2)::y::ks)):=L_ (xfm.out.1.perm (Sq.p3 _ _ _ _) (List.Perm.refl _))
        refine hK.out _ _ (by exact zcg Hw5) fun hHeld=>?_
        clear hK K
        try simp only [sp]
        refine rd [15] (rc fun K hK=>?_)
        go_simp
        go_at_call 45;(with_reducible refine z1i d b r1 r2 e5 e6 c5 c6 ED EB F2 hx (fr3 Hw5) ?_);intro mw6 w6 xbf Xw6 Iw6;have Hw6:=bk3 Xw6;have F3:Hid (Fr m0 mw6 all (Sq.T.node l (k1,k2) c::Sq.T.node d (r1,r2) b::ts) ((c3,c4)::ks)):=L_ (by rw [HY.out];exact xbf.out.1.perm (Sq.pa _ _ _) (List.Perm.refl _))
        refine hK.out _ _ (by exact zcg Hw6) fun hHeld=>?_
        clear hK K
        try simp only [sp]
        refine rd [16] (rc fun K hK=>?_)
        go_simp
        go_at_call 45;(with_reducible refine z1i _ _ c3 c4 k1 k2 r1 r2 (L_ rfl) HL2 F3 hx (fr3 Hw6) ?_);intro mw7 w7 hmw7 Xw7 Iw7;have Hw7:=bk3 Xw7;have FF:=zgf Hw7.right.right.right.right;obtain ⟨f0,f1⟩:=FF;have GG:=tk2 Hw7.right.right.right.right;obtain ⟨g0,g1⟩:=GG;have KE:=zs6 (zc2 (.int .i64 c3) (.int .i64 c4) (res3 Hw7));have JE:=zay (b:=bx+3) (.int .i64 c3) (.int .i64 c4) ((((((Jd.trans Iw3).trans Iw4).trans J8).drew.trans Iw5).trans Iw6).trans Iw7)
        refine hK.out _ _ (by exact zcg Hw7) fun hHeld=>?_
        clear hK K
        try simp only [sp]
        refine rd [17] (rc fun K hK=>?_)
        go_simp
        refine hK.out _ _ (by exact zcg KE) fun hHeld=>?_
        clear hK K
        try simp only [sp]
        refine wpAnyH_done (by kernel_rfl) ?_ _
        have QQ:=tk2 KE.right.right.right.right
        obtain ⟨q0,q1⟩:=QQ
        have FIN:=L_ (HH.out mw7 c3 c4 (.node (.node l (k1,k2) c) y (.node d xx b)) _ (L_ ⟨Sq.Lk.xdk bal.out.1 bal.out.2.1 HT.out HC.out,(by have:=hmw7.out.1;rw [HX.out,HY.out] at this;exact this),(fun M' h=>⟨HY.out,by have:=hmw7.out.2 M' h;rw [HX.out,HY.out] at this;exact this⟩)⟩) (end3 KE) JE)
        go_wp2_with fail
        have hag:=Tryz.isAgg29
        have hsz:=Tryz.sizeOf29
        exact bodyPost_ret (v:=tkA c3 c4) (by simp [results,Tryz.results83,go_sem,q0,q1]) rfl FIN.out
    ·have g1:¬ (r.ht:Int)+1<(l.ht:Int):=by omega
     have g2:¬ (l.ht:Int)+1<(r.ht:Int):=by omega
     have N1:Hid (l.ht≤r.ht+1∧r.ht≤l.ht+1):=L_ (by omega)
     go_upto_region 14 with fail
     clear y0 y1 ya yb wr1 wr2 zw9 zw8 hlc hrc c1 c2 g1 g2
     have ZZ:=zaw K2
     obtain ⟨⟨⟨p0,p1⟩,⟨p2,p3⟩,⟨p4,p5⟩⟩,-,-⟩:=ZZ
     go_wp2_with (go_at_call 45;(with_reducible refine z1i l r k1 k2 l1 l2 r1 r2 EL ER fr hx (fr2 K2) ?_);intro m3 w3 hm3 X3 I3;have H3:=bk2 X3;have FF:=zgf H3.right.right.right;obtain ⟨f0,f1⟩:=FF;have GG:=tk2 H3.right.right.right;obtain ⟨g0,g1⟩:=GG;have KE:=zh2 (zc2 (.int .i64 k1) (.int .i64 k2) (zfq H3));have JE:=zay (b:=bx+3) (.int .i64 k1) (.int .i64 k2) (J2.trans I3);have QQ:=tk2 KE.right.right.right;obtain ⟨q0,q1⟩:=QQ)
     have FIN:=L_ (HH.out m3 k1 k2 (.node l (k1,k2) r) _ (L_ ⟨Sq.Lk.set bal.out.1 bal.out.2.1 N1.out.1 N1.out.2,hm3.out.1,fun M' h=>⟨rfl,hm3.out.2 M' h⟩⟩) (end2 KE) JE)
     have hag:=Tryz.isAgg29
     have hsz:=Tryz.sizeOf29
     exact bodyPost_ret (v:=tkA k1 k2) (by simp [results,Tryz.results83,go_sem,q0,q1]) rfl FIN.out
end
abbrev zvb (n:Nat):Prop:=∀ {x:Sx} {F:Asn} {w:World} {R:Ending→World→Prop} {m0 m:Option Mp} {all:List Tk} {ts:List Sq.T} {ks:List Tk} (l r:Sq.T) (l1 l2 k1 k2 r1 r2:Int) (hn:Hid (l.ht+r.ht≤n)) (al:Hid (∀ M,m=some M→(l1,l2)=l.top∧(r1,r2)=r.top)) (fr:Hid (Fr m0 m all (l::r::ts) ((k1,k2)::ks))) (bal:Hid (l.Bal∧r.Bal)) (hx:Hid x.Ok) (H:Sat (zav x m*F) w)
  (h:∀ m' v1 v2 t w',Hid (Sq.Done m0 m' all ts ks l r t (k1,k2) (v1,v2))→Sat (zav x m'*F) w'→Io w w'→R (.returned (tkA v1 v2)) w'),
  Calls Tryz.prog 52 #[.pointer (some ⟨x.s,0,none⟩),tkA l1 l2,tkA k1 k2,tkA r1 r2] w R
theorem z4k {m0 m1 m2:Option Mp} {all:List Tk} {ts:List Sq.T} {ks:List Tk} {a b r t1 t:Sq.T} {xx k v1 v:Tk} (bl:(Sq.T.node a xx b).Bal) (h:r.ht+1<(Sq.T.node a xx b).ht) (d1:Sq.Done m0 m1 all (a::ts) (xx::ks) b r t1 k v1) (d2:Sq.Done m0 m2 all ts ks a t1 t xx v):Sq.Done m0 m2 all ts ks (.node a xx b) r t k v :=
 ⟨Sq.Lk.zsg bl h d1.1 d2.1,d2.2.1,d2.2.2⟩
theorem z0k {m0 m1 m2:Option Mp} {all:List Tk} {ts:List Sq.T} {ks:List Tk} {l a b t1 t:Sq.T} {xx k v1 v:Tk} (br:(Sq.T.node a xx b).Bal) (h:l.ht+1<(Sq.T.node a xx b).ht) (d1:Sq.Done m0 m1 all (b::ts) (xx::ks) l a t1 k v1) (d2:Sq.Done m0 m2 all ts ks t1 b t xx v):Sq.Done m0 m2 all ts ks l (.node a xx b) t k v :=
 ⟨Sq.Lk.zov br h d1.1 d2.1,d2.2.1,d2.2.2⟩
section
variable {x:Sx} {M:Mp} {F:Asn} {w:World} {R:Ending→World→Prop} {m0:Option Mp} {all:List Tk} {ts:List Sq.T} {ks:List Tk}
theorem zzw (n:Nat) (ih:∀ n',n'<n→zvb n'):zvb n:=by
 intro x F w R m0 m all ts ks l r l1 l2 k1 k2 r1 r2 hn al fr bal hx H h
 have HH:=L_ h
 have IH:=L_ ih
 have AL:Hid (Sq.zlj m l (l1,l2)):=L_ fun M hM=>(fr.out.arg (by simp) (al.out M hM).1) M hM
 have AR:Hid (Sq.zlj m r (r1,r2)):=L_ fun M hM=>(fr.out.arg (by simp) (al.out M hM).2) M hM
 clear ih
 have H1:=z2f ((((H.new (.cells #[.int .i64 l1,.int .i64 l2] 29)).new (.cells #[.int .i64 k1,.int .i64 k2] 29)).new (.cells #[.int .i64 r1,.int .i64 r2] 29)).new (.cells #[.int .i64 0,.int .i64 0] 29))
 have I1:=io4 H1 (Io.refl w)
 simp only [World.size_alloc,Nat.add_assoc,Nat.reduceAdd] at H1
 clear h H
 go_enter Tryz.func52,Tryz.ntmps52
 go_upto_region 1 with fail
 generalize (((w.alloc _).alloc _).alloc _).alloc _=w1 at *
 generalize w.heap.size=bx at *
 go_cut [9,10] from 11 to 16 (fun p q wc=>∃ b9 b10 a1 a2 a3 a4 a5 a6 a7 a8 c1 c2 c3 c4 c5 c6 c7 c8,p=.pointer (some ⟨b9,0,none⟩)∧q=.pointer (some ⟨b10,0,none⟩)∧Hid (Sq.z8q m l ⟨(a1,a2),(a3,a4),(a5,a6),a7,a8⟩)∧Hid (Sq.z8q m r ⟨(c1,c2),(c3,c4),(c5,c6),c7,c8⟩)∧Sat (pts b9 (.cells #[.int .i64 a1,.int .i64 a2,.int .i64 a3,.int .i64 a4,.int .i64 a5,.int .i64 a6,.int .i64 a7,.int .i64 a8] 85 (0,0))*(pts b10 (.cells #[.int .i64 c1,.int .i64 c2,.int .i64 c3,.int .i64 c4,.int .i64 c5,.int .i64 c6,.int .i64 c7,.int .i64 c8] 85 (0,0))*(zav x m*(pts (bx+3) (.cells #[.int .i64 0,.int .i64 0] 29 (0,0))*(pts (bx+2) (.cells #[.int .i64 r1,.int .i64 r2] 29 (0,0))*(pts (bx+1) (.cells #[.int .i64 k1,.int .i64 k2] 29 (0,0))*(pts bx (.cells #[.int .i64 l1,.int .i64 l2] 29 (0,0))*F))))))) wc∧Io w wc)
 case first =>
  have Kd:=H1.drew
  have Jd:=I1.drew
  clear H1 I1
  refine rh Kd (fun W Kd=>zaa Kd) fun hHeld=>?_
  refine tk ?_ ?_ [0,1,3,4] ?_ hHeld ?_;rotate_left 2;exact tt
  generalize w1.drew=wd at *
  refine rd [2,6,7] (rn (fun K hK=>?_) ?_)
  ·go_simp
   go_at_call 58;(with_reducible refine zax l l1 l2 AL hx Kd ?_);intro a1 a2 a3 a4 a5 a6 a7 a8 wpc hA Xpc IXpc
   have Hpc:=Xpc
   have Jpc:=(Jd).trans IXpc
   refine hK.out _ _ (by exact zaa Hpc) fun hHeld=>?_
   clear hK K
   try simp only [sp]
   refine rd [5,6,7] (rn (fun K hK=>?_) ?_)
   ·go_simp
    go_at_call 58;(with_reducible refine zax r r1 r2 AR hx Hpc ?_);intro c1 c2 c3 c4 c5 c6 c7 c8 zx2 hB Xpcc z8h
    have z8k:=Xpcc
    have xd2:=(Jpc).trans z8h
    refine hK.out _ _ (by exact zaa z8k) fun hHeld=>?_
    clear hK K
    try simp only [sp]
    refine rd [6,7] (rn (fun K hK=>?_) ?_)
    ·go_simp
     have zof:=z8k.new (.cells #[.int .i64 0,.int .i64 0,.int .i64 0,.int .i64 0,.int .i64 0,.int .i64 0,.int .i64 0,.int .i64 0] 85)
     have z7v:=io1 zof xd2
     refine hK.out _ _ (by exact zaa (zof.right)) fun hHeld=>?_
     clear hK K
     try simp only [sp]
     generalize World.alloc zx2 (.cells #[.int .i64 0,.int .i64 0,.int .i64 0,.int .i64 0,.int .i64 0,.int .i64 0,.int .i64 0,.int .i64 0] 85)=zr5 at *
     generalize zx2.heap.size=zuy at *
     refine rd [7] (rc fun K hK=>?_)
     go_simp
     have zhe:=zof.new (.cells #[.int .i64 0,.int .i64 0,.int .i64 0,.int .i64 0,.int .i64 0,.int .i64 0,.int .i64 0,.int .i64 0] 85)
     have zvd:=io1 zhe z7v
     refine hK.out _ _ (by exact zaa (zhe.right.right)) fun hHeld=>?_
     clear hK K
     try simp only [sp]
     generalize World.alloc zr5 (.cells #[.int .i64 0,.int .i64 0,.int .i64 0,.int .i64 0,.int .i64 0,.int .i64 0,.int .i64 0,.int .i64 0] 85)=xcw at *
     generalize zr5.heap.size=znc at *
     have zhk:=(zai zhe)
     have FA:=zb0 zhk
     obtain ⟨f0,f1,f2,f3,f4,f5,f6,f7⟩:=FA
     have QA:=nd8 zhk
     obtain ⟨q0,q1,q2,q3,q4,q5,q6,q7⟩:=QA
     have zfe:=zaz (.int .i64 a1) (.int .i64 a2) (.int .i64 a3) (.int .i64 a4) (.int .i64 a5) (.int .i64 a6) (.int .i64 a7) (.int .i64 a8) zhk
     have FB:=zb0 zfe.right
     obtain ⟨g0,g1,g2,g3,g4,g5,g6,g7⟩:=FB
     have QB:=nd8 zfe.right
     obtain ⟨r0,r1',r2',r3,r4,r5,r6,r7⟩:=QB
     have zk0:=zai (zaz (.int .i64 c1) (.int .i64 c2) (.int .i64 c3) (.int .i64 c4) (.int .i64 c5) (.int .i64 c6) (.int .i64 c7) (.int .i64 c8) (zai zfe))
     have znx:=zac (b:=zuy) (.int .i64 a1) (.int .i64 a2) (.int .i64 a3) (.int .i64 a4) (.int .i64 a5) (.int .i64 a6) (.int .i64 a7) (.int .i64 a8) (zvd)
     have znl:=zac (b:=znc) (.int .i64 c1) (.int .i64 c2) (.int .i64 c3) (.int .i64 c4) (.int .i64 c5) (.int .i64 c6) (.int .i64 c7) (.int .i64 c8) znx
     refine rd [8] (rc fun K hK=>?_)
     go_simp
     refine hK.out _ _ (by exact zaa (zfe.right.right)) fun hHeld=>?_
     clear hK K
     try simp only [sp]
     refine rd [9] (rc fun K hK=>?_)
     go_simp
     refine hK.out _ _ (by exact zaa (zk0.right.right)) fun hHeld=>?_
     clear hK K
     try simp only [sp]
     refine wpAnyH_done (by kernel_rfl) ?_ _
     go_wp2_with fail
     go_meet
     exact ⟨_,_,a1,a2,a3,a4,a5,a6,a7,a8,c1,c2,c3,c4,c5,c6,c7,c8,rfl,rfl,hA,hB,zk0,znl⟩
    refine rc fun K hK=>?_
    go_simp
    have zoe:=z8k.new (.cells #[.int .i64 0,.int .i64 0,.int .i64 0,.int .i64 0,.int .i64 0,.int .i64 0,.int .i64 0,.int .i64 0] 85)
    have z7u:=io1 zoe xd2
    refine hK.out _ _ (by exact zaa (zoe.right)) fun hHeld=>?_
    clear hK K
    try simp only [sp]
    generalize World.alloc zx2 (.cells #[.int .i64 0,.int .i64 0,.int .i64 0,.int .i64 0,.int .i64 0,.int .i64 0,.int .i64 0,.int .i64 0] 85)=zr4 at *
    generalize zx2.heap.size=zuu at *
    refine rd [6] (rc fun K hK=>?_)
    go_simp
    have zhd:=zoe.new (.cells #[.int .i64 0,.int .i64 0,.int .i64 0,.int .i64 0,.int .i64 0,.int .i64 0,.int .i64 0,.int .i64 0] 85)
    have zvc:=io1 zhd z7u
    refine hK.out _ _ (by exact zaa (zhd.right.right)) fun hHeld=>?_
    clear hK K
    try simp only [sp]
    generalize World.alloc zr4 (.cells #[.int .i64 0,.int .i64 0,.int .i64 0,.int .i64 0,.int .i64 0,.int .i64 0,.int .i64 0,.int .i64 0] 85)=xcv at *
    generalize zr4.heap.size=znf at *
    have zhj:=zhd
    have FA:=zb0 zhj
    obtain ⟨f0,f1,f2,f3,f4,f5,f6,f7⟩:=FA
    have QA:=nd8 zhj
    obtain ⟨q0,q1,q2,q3,q4,q5,q6,q7⟩:=QA
    have zfd:=zaz (.int .i64 a1) (.int .i64 a2) (.int .i64 a3) (.int .i64 a4) (.int .i64 a5) (.int .i64 a6) (.int .i64 a7) (.int .i64 a8) zhj
    have FB:=zb0 zfd.right
    obtain ⟨g0,g1,g2,g3,g4,g5,g6,g7⟩:=FB
    have QB:=nd8 zfd.right
    obtain ⟨r0,r1',r2',r3,r4,r5,r6,r7⟩:=QB
    have zkz:=zai (zaz (.int .i64 c1) (.int .i64 c2) (.int .i64 c3) (.int .i64 c4) (.int .i64 c5) (.int .i64 c6) (.int .i64 c7) (.int .i64 c8) (zai zfd))
    have znw:=zac (b:=znf) (.int .i64 a1) (.int .i64 a2) (.int .i64 a3) (.int .i64 a4) (.int .i64 a5) (.int .i64 a6) (.int .i64 a7) (.int .i64 a8) (zvc)
    have znk:=zac (b:=zuu) (.int .i64 c1) (.int .i64 c2) (.int .i64 c3) (.int .i64 c4) (.int .i64 c5) (.int .i64 c6) (.int .i64 c7) (.int .i64 c8) znw
    refine rd [8] (rc fun K hK=>?_)
    go_simp
    refine hK.out _ _ (by exact zaa (zfd.right.right)) fun hHeld=>?_
    clear hK K
    try simp only [sp]
    refine rd [9] (rc fun K hK=>?_)
    go_simp
    refine hK.out _ _ (by exact zaa (zkz.right.right)) fun hHeld=>?_
    clear hK K
    try simp only [sp]
    refine wpAnyH_done (by kernel_rfl) ?_ _
    go_wp2_with fail
    go_meet
    exact ⟨_,_,a1,a2,a3,a4,a5,a6,a7,a8,c1,c2,c3,c4,c5,c6,c7,c8,rfl,rfl,hA,hB,zkz,znk⟩
   refine rn (fun K hK=>?_) ?_
   ·go_simp
    have zzk:=Hpc.new (.cells #[.int .i64 0,.int .i64 0,.int .i64 0,.int .i64 0,.int .i64 0,.int .i64 0,.int .i64 0,.int .i64 0] 85)
    have xd4:=io1 zzk Jpc
    refine hK.out _ _ (by exact zaa (zzk.right)) fun hHeld=>?_
    clear hK K
    try simp only [sp]
    generalize World.alloc wpc (.cells #[.int .i64 0,.int .i64 0,.int .i64 0,.int .i64 0,.int .i64 0,.int .i64 0,.int .i64 0,.int .i64 0] 85)=xc2 at *
    generalize wpc.heap.size=zu0 at *
    refine rd [5,7] (rn (fun K hK=>?_) ?_)
    ·go_simp
     go_at_call 58;(with_reducible refine zax r r1 r2 AR hx (zai zzk) ?_);intro c1 c2 c3 c4 c5 c6 c7 c8 zr7 hB z7o zvp
     have zvv:=(zai z7o)
     have z7y:=(xd4).trans zvp
     refine hK.out _ _ (by exact zaa (zvv.right)) fun hHeld=>?_
     clear hK K
     try simp only [sp]
     refine rd [7] (rc fun K hK=>?_)
     go_simp
     have zhg:=zvv.new (.cells #[.int .i64 0,.int .i64 0,.int .i64 0,.int .i64 0,.int .i64 0,.int .i64 0,.int .i64 0,.int .i64 0] 85)
     have zvg:=io1 zhg z7y
     refine hK.out _ _ (by exact zaa (zhg.right.right)) fun hHeld=>?_
     clear hK K
     try simp only [sp]
     generalize World.alloc zr7 (.cells #[.int .i64 0,.int .i64 0,.int .i64 0,.int .i64 0,.int .i64 0,.int .i64 0,.int .i64 0,.int .i64 0] 85)=xc0 at *
     generalize zr7.heap.size=znd at *
     have zhn:=(zai zhg)
     have FA:=zb0 zhn
     obtain ⟨f0,f1,f2,f3,f4,f5,f6,f7⟩:=FA
     have QA:=nd8 zhn
     obtain ⟨q0,q1,q2,q3,q4,q5,q6,q7⟩:=QA
     have zfh:=zaz (.int .i64 a1) (.int .i64 a2) (.int .i64 a3) (.int .i64 a4) (.int .i64 a5) (.int .i64 a6) (.int .i64 a7) (.int .i64 a8) zhn
     have FB:=zb0 zfh.right
     obtain ⟨g0,g1,g2,g3,g4,g5,g6,g7⟩:=FB
     have QB:=nd8 zfh.right
     obtain ⟨r0,r1',r2',r3,r4,r5,r6,r7⟩:=QB
     have zk3:=zai (zaz (.int .i64 c1) (.int .i64 c2) (.int .i64 c3) (.int .i64 c4) (.int .i64 c5) (.int .i64 c6) (.int .i64 c7) (.int .i64 c8) (zai zfh))
     have zn0:=zac (b:=zu0) (.int .i64 a1) (.int .i64 a2) (.int .i64 a3) (.int .i64 a4) (.int .i64 a5) (.int .i64 a6) (.int .i64 a7) (.int .i64 a8) (zvg)
     have zno:=zac (b:=znd) (.int .i64 c1) (.int .i64 c2) (.int .i64 c3) (.int .i64 c4) (.int .i64 c5) (.int .i64 c6) (.int .i64 c7) (.int .i64 c8) zn0
     refine rd [8] (rc fun K hK=>?_)
     go_simp
     refine hK.out _ _ (by exact zaa (zfh.right.right)) fun hHeld=>?_
     clear hK K
     try simp only [sp]
     refine rd [9] (rc fun K hK=>?_)
     go_simp
     refine hK.out _ _ (by exact zaa (zk3.right.right)) fun hHeld=>?_
     clear hK K
     try simp only [sp]
     refine wpAnyH_done (by kernel_rfl) ?_ _
     go_wp2_with fail
     go_meet
     exact ⟨_,_,a1,a2,a3,a4,a5,a6,a7,a8,c1,c2,c3,c4,c5,c6,c7,c8,rfl,rfl,hA,hB,zk3,zno⟩
    refine rc fun K hK=>?_
    go_simp
    have zoh:=zzk.new (.cells #[.int .i64 0,.int .i64 0,.int .i64 0,.int .i64 0,.int .i64 0,.int .i64 0,.int .i64 0,.int .i64 0] 85)
    have z7z:=io1 zoh xd4
    refine hK.out _ _ (by exact zaa (zoh.right.right)) fun hHeld=>?_
    clear hK K
    try simp only [sp]
    generalize World.alloc xc2 (.cells #[.int .i64 0,.int .i64 0,.int .i64 0,.int .i64 0,.int .i64 0,.int .i64 0,.int .i64 0,.int .i64 0] 85)=wpcab at *
    generalize xc2.heap.size=zuw at *
    refine rd [5] (rc fun K hK=>?_)
    go_simp
    go_at_call 58;(with_reducible refine zax r r1 r2 AR hx (fr2 zoh) ?_);intro c1 c2 c3 c4 c5 c6 c7 c8 xc1 hB zu6 zn9
    have zku:=(bk2 zu6)
    have zvh:=(z7z).trans zn9
    refine hK.out _ _ (by exact zaa (zku.right.right)) fun hHeld=>?_
    clear hK K
    try simp only [sp]
    have zho:=(zai zku)
    have FA:=zb0 zho
    obtain ⟨f0,f1,f2,f3,f4,f5,f6,f7⟩:=FA
    have QA:=nd8 zho
    obtain ⟨q0,q1,q2,q3,q4,q5,q6,q7⟩:=QA
    have zfi:=zaz (.int .i64 a1) (.int .i64 a2) (.int .i64 a3) (.int .i64 a4) (.int .i64 a5) (.int .i64 a6) (.int .i64 a7) (.int .i64 a8) zho
    have FB:=zb0 zfi.right
    obtain ⟨g0,g1,g2,g3,g4,g5,g6,g7⟩:=FB
    have QB:=nd8 zfi.right
    obtain ⟨r0,r1',r2',r3,r4,r5,r6,r7⟩:=QB
    have zk4:=zai (zaz (.int .i64 c1) (.int .i64 c2) (.int .i64 c3) (.int .i64 c4) (.int .i64 c5) (.int .i64 c6) (.int .i64 c7) (.int .i64 c8) (zai zfi))
    have zn1:=zac (b:=zu0) (.int .i64 a1) (.int .i64 a2) (.int .i64 a3) (.int .i64 a4) (.int .i64 a5) (.int .i64 a6) (.int .i64 a7) (.int .i64 a8) (zvh)
    have znp:=zac (b:=zuw) (.int .i64 c1) (.int .i64 c2) (.int .i64 c3) (.int .i64 c4) (.int .i64 c5) (.int .i64 c6) (.int .i64 c7) (.int .i64 c8) zn1
    refine rd [8] (rc fun K hK=>?_)
    go_simp
    refine hK.out _ _ (by exact zaa (zfi.right.right)) fun hHeld=>?_
    clear hK K
    try simp only [sp]
    refine rd [9] (rc fun K hK=>?_)
    go_simp
    refine hK.out _ _ (by exact zaa (zk4.right.right)) fun hHeld=>?_
    clear hK K
    try simp only [sp]
    refine wpAnyH_done (by kernel_rfl) ?_ _
    go_wp2_with fail
    go_meet
    exact ⟨_,_,a1,a2,a3,a4,a5,a6,a7,a8,c1,c2,c3,c4,c5,c6,c7,c8,rfl,rfl,hA,hB,zk4,znp⟩
   refine rc fun K hK=>?_
   go_simp
   have zzj:=Hpc.new (.cells #[.int .i64 0,.int .i64 0,.int .i64 0,.int .i64 0,.int .i64 0,.int .i64 0,.int .i64 0,.int .i64 0] 85)
   have xd3:=io1 zzj Jpc
   refine hK.out _ _ (by exact zaa (zzj.right)) fun hHeld=>?_
   clear hK K
   try simp only [sp]
   generalize World.alloc wpc (.cells #[.int .i64 0,.int .i64 0,.int .i64 0,.int .i64 0,.int .i64 0,.int .i64 0,.int .i64 0,.int .i64 0] 85)=xcz at *
   generalize wpc.heap.size=zuv at *
   refine rd [5,6] (rn (fun K hK=>?_) ?_)
   ·go_simp
    go_at_call 58;(with_reducible refine zax r r1 r2 AR hx (zai zzj) ?_);intro c1 c2 c3 c4 c5 c6 c7 c8 zr6 hB z7n zvo
    have zvu:=(zai z7n)
    have z7w:=(xd3).trans zvo
    refine hK.out _ _ (by exact zaa (zvu.right)) fun hHeld=>?_
    clear hK K
    try simp only [sp]
    refine rd [6] (rc fun K hK=>?_)
    go_simp
    have zhf:=zvu.new (.cells #[.int .i64 0,.int .i64 0,.int .i64 0,.int .i64 0,.int .i64 0,.int .i64 0,.int .i64 0,.int .i64 0] 85)
    have zve:=io1 zhf z7w
    refine hK.out _ _ (by exact zaa (zhf.right.right)) fun hHeld=>?_
    clear hK K
    try simp only [sp]
    generalize World.alloc zr6 (.cells #[.int .i64 0,.int .i64 0,.int .i64 0,.int .i64 0,.int .i64 0,.int .i64 0,.int .i64 0,.int .i64 0] 85)=xcx at *
    generalize zr6.heap.size=zng at *
    have zhl:=zhf
    have FA:=zb0 zhl
    obtain ⟨f0,f1,f2,f3,f4,f5,f6,f7⟩:=FA
    have QA:=nd8 zhl
    obtain ⟨q0,q1,q2,q3,q4,q5,q6,q7⟩:=QA
    have zff:=zaz (.int .i64 a1) (.int .i64 a2) (.int .i64 a3) (.int .i64 a4) (.int .i64 a5) (.int .i64 a6) (.int .i64 a7) (.int .i64 a8) zhl
    have FB:=zb0 zff.right
    obtain ⟨g0,g1,g2,g3,g4,g5,g6,g7⟩:=FB
    have QB:=nd8 zff.right
    obtain ⟨r0,r1',r2',r3,r4,r5,r6,r7⟩:=QB
    have zk1:=zai (zaz (.int .i64 c1) (.int .i64 c2) (.int .i64 c3) (.int .i64 c4) (.int .i64 c5) (.int .i64 c6) (.int .i64 c7) (.int .i64 c8) (zai zff))
    have zny:=zac (b:=zng) (.int .i64 a1) (.int .i64 a2) (.int .i64 a3) (.int .i64 a4) (.int .i64 a5) (.int .i64 a6) (.int .i64 a7) (.int .i64 a8) (zve)
    have znm:=zac (b:=zuv) (.int .i64 c1) (.int .i64 c2) (.int .i64 c3) (.int .i64 c4) (.int .i64 c5) (.int .i64 c6) (.int .i64 c7) (.int .i64 c8) zny
    refine rd [8] (rc fun K hK=>?_)
    go_simp
    refine hK.out _ _ (by exact zaa (zff.right.right)) fun hHeld=>?_
    clear hK K
    try simp only [sp]
    refine rd [9] (rc fun K hK=>?_)
    go_simp
    refine hK.out _ _ (by exact zaa (zk1.right.right)) fun hHeld=>?_
    clear hK K
    try simp only [sp]
    refine wpAnyH_done (by kernel_rfl) ?_ _
    go_wp2_with fail
    go_meet
    exact ⟨_,_,a1,a2,a3,a4,a5,a6,a7,a8,c1,c2,c3,c4,c5,c6,c7,c8,rfl,rfl,hA,hB,zk1,znm⟩
   refine rc fun K hK=>?_
   go_simp
   have zog:=zzj.new (.cells #[.int .i64 0,.int .i64 0,.int .i64 0,.int .i64 0,.int .i64 0,.int .i64 0,.int .i64 0,.int .i64 0] 85)
   have z7x:=io1 zog xd3
   refine hK.out _ _ (by exact zaa (zog.right.right)) fun hHeld=>?_
   clear hK K
   try simp only [sp]
   generalize World.alloc xcz (.cells #[.int .i64 0,.int .i64 0,.int .i64 0,.int .i64 0,.int .i64 0,.int .i64 0,.int .i64 0,.int .i64 0] 85)=wpcba at *
   generalize xcz.heap.size=zuz at *
   refine rd [5] (rc fun K hK=>?_)
   go_simp
   go_at_call 58;(with_reducible refine zax r r1 r2 AR hx (fr2 zog) ?_);intro c1 c2 c3 c4 c5 c6 c7 c8 xcy hB zu5 zn8
   have zkt:=(bk2 zu5)
   have zvf:=(z7x).trans zn8
   refine hK.out _ _ (by exact zaa (zkt.right.right)) fun hHeld=>?_
   clear hK K
   try simp only [sp]
   have zhm:=zkt
   have FA:=zb0 zhm
   obtain ⟨f0,f1,f2,f3,f4,f5,f6,f7⟩:=FA
   have QA:=nd8 zhm
   obtain ⟨q0,q1,q2,q3,q4,q5,q6,q7⟩:=QA
   have zfg:=zaz (.int .i64 a1) (.int .i64 a2) (.int .i64 a3) (.int .i64 a4) (.int .i64 a5) (.int .i64 a6) (.int .i64 a7) (.int .i64 a8) zhm
   have FB:=zb0 zfg.right
   obtain ⟨g0,g1,g2,g3,g4,g5,g6,g7⟩:=FB
   have QB:=nd8 zfg.right
   obtain ⟨r0,r1',r2',r3,r4,r5,r6,r7⟩:=QB
   have zk2:=zai (zaz (.int .i64 c1) (.int .i64 c2) (.int .i64 c3) (.int .i64 c4) (.int .i64 c5) (.int .i64 c6) (.int .i64 c7) (.int .i64 c8) (zai zfg))
   have znz:=zac (b:=zuz) (.int .i64 a1) (.int .i64 a2) (.int .i64 a3) (.int .i64 a4) (.int .i64 a5) (.int .i64 a6) (.int .i64 a7) (.int .i64 a8) (zvf)
   have znn:=zac (b:=zuv) (.int .i64 c1) (.int .i64 c2) (.int .i64 c3) (.int .i64 c4) (.int .i64 c5) (.int .i64 c6) (.int .i64 c7) (.int .i64 c8) znz
   refine rd [8] (rc fun K hK=>?_)
   go_simp
   refine hK.out _ _ (by exact zaa (zfg.right.right)) fun hHeld=>?_
   clear hK K
   try simp only [sp]
   refine rd [9] (rc fun K hK=>?_)
   go_simp
   refine hK.out _ _ (by exact zaa (zk2.right.right)) fun hHeld=>?_
   clear hK K
   try simp only [sp]
   refine wpAnyH_done (by kernel_rfl) ?_ _
   go_wp2_with fail
   go_meet
   exact ⟨_,_,a1,a2,a3,a4,a5,a6,a7,a8,c1,c2,c3,c4,c5,c6,c7,c8,rfl,rfl,hA,hB,zk2,znn⟩
  refine rn (fun K hK=>?_) ?_
  ·go_simp
   have Hpa:=Kd.new (.cells #[.int .i64 0,.int .i64 0,.int .i64 0,.int .i64 0,.int .i64 0,.int .i64 0,.int .i64 0,.int .i64 0] 85)
   have Jpa:=io1 Hpa Jd
   refine hK.out _ _ (by exact zaa (Hpa.right)) fun hHeld=>?_
   clear hK K
   try simp only [sp]
   generalize World.alloc wd (.cells #[.int .i64 0,.int .i64 0,.int .i64 0,.int .i64 0,.int .i64 0,.int .i64 0,.int .i64 0,.int .i64 0] 85)=wpa at *
   generalize wd.heap.size=z7d at *
   refine rd [2,7] (rn (fun K hK=>?_) ?_)
   ·go_simp
    go_at_call 58;(with_reducible refine zax l l1 l2 AL hx (zai Hpa) ?_);intro a1 a2 a3 a4 a5 a6 a7 a8 xc9 hA Xpac z8j
    have z8n:=(zai Xpac)
    have xd6:=(Jpa).trans z8j
    refine hK.out _ _ (by exact zaa (z8n.right)) fun hHeld=>?_
    clear hK K
    try simp only [sp]
    refine rd [5,7] (rn (fun K hK=>?_) ?_)
    ·go_simp
     go_at_call 58;(with_reducible refine zax r r1 r2 AR hx (zai z8n) ?_);intro c1 c2 c3 c4 c5 c6 c7 c8 zr9 hB z7r zvs
     have zvy:=(zai z7r)
     have z8d:=(xd6).trans zvs
     refine hK.out _ _ (by exact zaa (zvy.right)) fun hHeld=>?_
     clear hK K
     try simp only [sp]
     refine rd [7] (rc fun K hK=>?_)
     go_simp
     have zhi:=zvy.new (.cells #[.int .i64 0,.int .i64 0,.int .i64 0,.int .i64 0,.int .i64 0,.int .i64 0,.int .i64 0,.int .i64 0] 85)
     have zvl:=io1 zhi z8d
     refine hK.out _ _ (by exact zaa (zhi.right.right)) fun hHeld=>?_
     clear hK K
     try simp only [sp]
     generalize World.alloc zr9 (.cells #[.int .i64 0,.int .i64 0,.int .i64 0,.int .i64 0,.int .i64 0,.int .i64 0,.int .i64 0,.int .i64 0] 85)=xc7 at *
     generalize zr9.heap.size=zne at *
     have zhs:=(zai zhi)
     have FA:=zb0 zhs
     obtain ⟨f0,f1,f2,f3,f4,f5,f6,f7⟩:=FA
     have QA:=nd8 zhs
     obtain ⟨q0,q1,q2,q3,q4,q5,q6,q7⟩:=QA
     have zfm:=zaz (.int .i64 a1) (.int .i64 a2) (.int .i64 a3) (.int .i64 a4) (.int .i64 a5) (.int .i64 a6) (.int .i64 a7) (.int .i64 a8) zhs
     have FB:=zb0 zfm.right
     obtain ⟨g0,g1,g2,g3,g4,g5,g6,g7⟩:=FB
     have QB:=nd8 zfm.right
     obtain ⟨r0,r1',r2',r3,r4,r5,r6,r7⟩:=QB
     have zk8:=zai (zaz (.int .i64 c1) (.int .i64 c2) (.int .i64 c3) (.int .i64 c4) (.int .i64 c5) (.int .i64 c6) (.int .i64 c7) (.int .i64 c8) (zai zfm))
     have zn5:=zac (b:=z7d) (.int .i64 a1) (.int .i64 a2) (.int .i64 a3) (.int .i64 a4) (.int .i64 a5) (.int .i64 a6) (.int .i64 a7) (.int .i64 a8) (zvl)
     have znt:=zac (b:=zne) (.int .i64 c1) (.int .i64 c2) (.int .i64 c3) (.int .i64 c4) (.int .i64 c5) (.int .i64 c6) (.int .i64 c7) (.int .i64 c8) zn5
     refine rd [8] (rc fun K hK=>?_)
     go_simp
     refine hK.out _ _ (by exact zaa (zfm.right.right)) fun hHeld=>?_
     clear hK K
     try simp only [sp]
     refine rd [9] (rc fun K hK=>?_)
     go_simp
     refine hK.out _ _ (by exact zaa (zk8.right.right)) fun hHeld=>?_
     clear hK K
     try simp only [sp]
     refine wpAnyH_done (by kernel_rfl) ?_ _
     go_wp2_with fail
     go_meet
     exact ⟨_,_,a1,a2,a3,a4,a5,a6,a7,a8,c1,c2,c3,c4,c5,c6,c7,c8,rfl,rfl,hA,hB,zk8,znt⟩
    refine rc fun K hK=>?_
    go_simp
    have zoj:=z8n.new (.cells #[.int .i64 0,.int .i64 0,.int .i64 0,.int .i64 0,.int .i64 0,.int .i64 0,.int .i64 0,.int .i64 0] 85)
    have z8e:=io1 zoj xd6
    refine hK.out _ _ (by exact zaa (zoj.right.right)) fun hHeld=>?_
    clear hK K
    try simp only [sp]
    generalize World.alloc xc9 (.cells #[.int .i64 0,.int .i64 0,.int .i64 0,.int .i64 0,.int .i64 0,.int .i64 0,.int .i64 0,.int .i64 0] 85)=wpacb at *
    generalize xc9.heap.size=zux at *
    refine rd [5] (rc fun K hK=>?_)
    go_simp
    go_at_call 58;(with_reducible refine zax r r1 r2 AR hx (fr2 zoj) ?_);intro c1 c2 c3 c4 c5 c6 c7 c8 xc8 hB zu9 zoc
    have zkx:=(bk2 zu9)
    have zvm:=(z8e).trans zoc
    refine hK.out _ _ (by exact zaa (zkx.right.right)) fun hHeld=>?_
    clear hK K
    try simp only [sp]
    have zht:=(zai zkx)
    have FA:=zb0 zht
    obtain ⟨f0,f1,f2,f3,f4,f5,f6,f7⟩:=FA
    have QA:=nd8 zht
    obtain ⟨q0,q1,q2,q3,q4,q5,q6,q7⟩:=QA
    have zfn:=zaz (.int .i64 a1) (.int .i64 a2) (.int .i64 a3) (.int .i64 a4) (.int .i64 a5) (.int .i64 a6) (.int .i64 a7) (.int .i64 a8) zht
    have FB:=zb0 zfn.right
    obtain ⟨g0,g1,g2,g3,g4,g5,g6,g7⟩:=FB
    have QB:=nd8 zfn.right
    obtain ⟨r0,r1',r2',r3,r4,r5,r6,r7⟩:=QB
    have zk9:=zai (zaz (.int .i64 c1) (.int .i64 c2) (.int .i64 c3) (.int .i64 c4) (.int .i64 c5) (.int .i64 c6) (.int .i64 c7) (.int .i64 c8) (zai zfn))
    have zn6:=zac (b:=z7d) (.int .i64 a1) (.int .i64 a2) (.int .i64 a3) (.int .i64 a4) (.int .i64 a5) (.int .i64 a6) (.int .i64 a7) (.int .i64 a8) (zvm)
    have znu:=zac (b:=zux) (.int .i64 c1) (.int .i64 c2) (.int .i64 c3) (.int .i64 c4) (.int .i64 c5) (.int .i64 c6) (.int .i64 c7) (.int .i64 c8) zn6
    refine rd [8] (rc fun K hK=>?_)
    go_simp
    refine hK.out _ _ (by exact zaa (zfn.right.right)) fun hHeld=>?_
    clear hK K
    try simp only [sp]
    refine rd [9] (rc fun K hK=>?_)
    go_simp
    refine hK.out _ _ (by exact zaa (zk9.right.right)) fun hHeld=>?_
    clear hK K
    try simp only [sp]
    refine wpAnyH_done (by kernel_rfl) ?_ _
    go_wp2_with fail
    go_meet
    exact ⟨_,_,a1,a2,a3,a4,a5,a6,a7,a8,c1,c2,c3,c4,c5,c6,c7,c8,rfl,rfl,hA,hB,zk9,znu⟩
   refine rc fun K hK=>?_
   go_simp
   have z8o:=Hpa.new (.cells #[.int .i64 0,.int .i64 0,.int .i64 0,.int .i64 0,.int .i64 0,.int .i64 0,.int .i64 0,.int .i64 0] 85)
   have Jpab:=io1 z8o Jpa
   refine hK.out _ _ (by exact zaa (z8o.right.right)) fun hHeld=>?_
   clear hK K
   try simp only [sp]
   generalize World.alloc wpa (.cells #[.int .i64 0,.int .i64 0,.int .i64 0,.int .i64 0,.int .i64 0,.int .i64 0,.int .i64 0,.int .i64 0] 85)=wpab at *
   generalize wpa.heap.size=z7b at *
   refine rd [2] (rc fun K hK=>?_)
   go_simp
   go_at_call 58;(with_reducible refine zax l l1 l2 AL hx (fr2 z8o) ?_);intro a1 a2 a3 a4 a5 a6 a7 a8 wpabc hA z7s zvt
   have zvz:=(bk2 z7s)
   have z8f:=(Jpab).trans zvt
   refine hK.out _ _ (by exact zaa (zvz.right.right)) fun hHeld=>?_
   clear hK K
   try simp only [sp]
   refine rd [5] (rc fun K hK=>?_)
   go_simp
   go_at_call 58;(with_reducible refine zax r r1 r2 AR hx (fr2 zvz) ?_);intro c1 c2 c3 c4 c5 c6 c7 c8 xda hB zva zod
   have zky:=(bk2 zva)
   have zvn:=(z8f).trans zod
   refine hK.out _ _ (by exact zaa (zky.right.right)) fun hHeld=>?_
   clear hK K
   try simp only [sp]
   have zhu:=(zai zky)
   have FA:=zb0 zhu
   obtain ⟨f0,f1,f2,f3,f4,f5,f6,f7⟩:=FA
   have QA:=nd8 zhu
   obtain ⟨q0,q1,q2,q3,q4,q5,q6,q7⟩:=QA
   have zfo:=zaz (.int .i64 a1) (.int .i64 a2) (.int .i64 a3) (.int .i64 a4) (.int .i64 a5) (.int .i64 a6) (.int .i64 a7) (.int .i64 a8) zhu
   have FB:=zb0 zfo.right
   obtain ⟨g0,g1,g2,g3,g4,g5,g6,g7⟩:=FB
   have QB:=nd8 zfo.right
   obtain ⟨r0,r1',r2',r3,r4,r5,r6,r7⟩:=QB
   have zla:=zai (zaz (.int .i64 c1) (.int .i64 c2) (.int .i64 c3) (.int .i64 c4) (.int .i64 c5) (.int .i64 c6) (.int .i64 c7) (.int .i64 c8) (zai zfo))
   have zn7:=zac (b:=z7d) (.int .i64 a1) (.int .i64 a2) (.int .i64 a3) (.int .i64 a4) (.int .i64 a5) (.int .i64 a6) (.int .i64 a7) (.int .i64 a8) (zvn)
   have znv:=zac (b:=z7b) (.int .i64 c1) (.int .i64 c2) (.int .i64 c3) (.int .i64 c4) (.int .i64 c5) (.int .i64 c6) (.int .i64 c7) (.int .i64 c8) zn7
   refine rd [8] (rc fun K hK=>?_)
   go_simp
   refine hK.out _ _ (by exact zaa (zfo.right.right)) fun hHeld=>?_
   clear hK K
   try simp only [sp]
   refine rd [9] (rc fun K hK=>?_)
   go_simp
   refine hK.out _ _ (by exact zaa (zla.right.right)) fun hHeld=>?_
   clear hK K
   try simp only [sp]
   refine wpAnyH_done (by kernel_rfl) ?_ _
   go_wp2_with fail
   go_meet
   exact ⟨_,_,a1,a2,a3,a4,a5,a6,a7,a8,c1,c2,c3,c4,c5,c6,c7,c8,rfl,rfl,hA,hB,zla,znv⟩
  refine rc fun K hK=>?_
  go_simp
  have Hpb:=Kd.new (.cells #[.int .i64 0,.int .i64 0,.int .i64 0,.int .i64 0,.int .i64 0,.int .i64 0,.int .i64 0,.int .i64 0] 85)
  have Jpb:=io1 Hpb Jd
  refine hK.out _ _ (by exact zaa (Hpb.right)) fun hHeld=>?_
  clear hK K
  try simp only [sp]
  generalize World.alloc wd (.cells #[.int .i64 0,.int .i64 0,.int .i64 0,.int .i64 0,.int .i64 0,.int .i64 0,.int .i64 0,.int .i64 0] 85)=wpb at *
  generalize wd.heap.size=z7a at *
  refine rd [2,6] (rn (fun K hK=>?_) ?_)
  ·go_simp
   go_at_call 58;(with_reducible refine zax l l1 l2 AL hx (zai Hpb) ?_);intro a1 a2 a3 a4 a5 a6 a7 a8 xc5 hA Xpbc z8i
   have z8l:=(zai Xpbc)
   have xd5:=(Jpb).trans z8i
   refine hK.out _ _ (by exact zaa (z8l.right)) fun hHeld=>?_
   clear hK K
   try simp only [sp]
   refine rd [5,6] (rn (fun K hK=>?_) ?_)
   ·go_simp
    go_at_call 58;(with_reducible refine zax r r1 r2 AR hx (zai z8l) ?_);intro c1 c2 c3 c4 c5 c6 c7 c8 zr8 hB z7p zvq
    have zvw:=(zai z7p)
    have z8a:=(xd5).trans zvq
    refine hK.out _ _ (by exact zaa (zvw.right)) fun hHeld=>?_
    clear hK K
    try simp only [sp]
    refine rd [6] (rc fun K hK=>?_)
    go_simp
    have zhh:=zvw.new (.cells #[.int .i64 0,.int .i64 0,.int .i64 0,.int .i64 0,.int .i64 0,.int .i64 0,.int .i64 0,.int .i64 0] 85)
    have zvi:=io1 zhh z8a
    refine hK.out _ _ (by exact zaa (zhh.right.right)) fun hHeld=>?_
    clear hK K
    try simp only [sp]
    generalize World.alloc zr8 (.cells #[.int .i64 0,.int .i64 0,.int .i64 0,.int .i64 0,.int .i64 0,.int .i64 0,.int .i64 0,.int .i64 0] 85)=xc3 at *
    generalize zr8.heap.size=znh at *
    have zhp:=zhh
    have FA:=zb0 zhp
    obtain ⟨f0,f1,f2,f3,f4,f5,f6,f7⟩:=FA
    have QA:=nd8 zhp
    obtain ⟨q0,q1,q2,q3,q4,q5,q6,q7⟩:=QA
    have zfj:=zaz (.int .i64 a1) (.int .i64 a2) (.int .i64 a3) (.int .i64 a4) (.int .i64 a5) (.int .i64 a6) (.int .i64 a7) (.int .i64 a8) zhp
    have FB:=zb0 zfj.right
    obtain ⟨g0,g1,g2,g3,g4,g5,g6,g7⟩:=FB
    have QB:=nd8 zfj.right
    obtain ⟨r0,r1',r2',r3,r4,r5,r6,r7⟩:=QB
    have zk5:=zai (zaz (.int .i64 c1) (.int .i64 c2) (.int .i64 c3) (.int .i64 c4) (.int .i64 c5) (.int .i64 c6) (.int .i64 c7) (.int .i64 c8) (zai zfj))
    have zn2:=zac (b:=znh) (.int .i64 a1) (.int .i64 a2) (.int .i64 a3) (.int .i64 a4) (.int .i64 a5) (.int .i64 a6) (.int .i64 a7) (.int .i64 a8) (zvi)
    have znq:=zac (b:=z7a) (.int .i64 c1) (.int .i64 c2) (.int .i64 c3) (.int .i64 c4) (.int .i64 c5) (.int .i64 c6) (.int .i64 c7) (.int .i64 c8) zn2
    refine rd [8] (rc fun K hK=>?_)
    go_simp
    refine hK.out _ _ (by exact zaa (zfj.right.right)) fun hHeld=>?_
    clear hK K
    try simp only [sp]
    refine rd [9] (rc fun K hK=>?_)
    go_simp
    refine hK.out _ _ (by exact zaa (zk5.right.right)) fun hHeld=>?_
    clear hK K
    try simp only [sp]
    refine wpAnyH_done (by kernel_rfl) ?_ _
    go_wp2_with fail
    go_meet
    exact ⟨_,_,a1,a2,a3,a4,a5,a6,a7,a8,c1,c2,c3,c4,c5,c6,c7,c8,rfl,rfl,hA,hB,zk5,znq⟩
   refine rc fun K hK=>?_
   go_simp
   have zoi:=z8l.new (.cells #[.int .i64 0,.int .i64 0,.int .i64 0,.int .i64 0,.int .i64 0,.int .i64 0,.int .i64 0,.int .i64 0] 85)
   have z8b:=io1 zoi xd5
   refine hK.out _ _ (by exact zaa (zoi.right.right)) fun hHeld=>?_
   clear hK K
   try simp only [sp]
   generalize World.alloc xc5 (.cells #[.int .i64 0,.int .i64 0,.int .i64 0,.int .i64 0,.int .i64 0,.int .i64 0,.int .i64 0,.int .i64 0] 85)=wpbca at *
   generalize xc5.heap.size=zu1 at *
   refine rd [5] (rc fun K hK=>?_)
   go_simp
   go_at_call 58;(with_reducible refine zax r r1 r2 AR hx (fr2 zoi) ?_);intro c1 c2 c3 c4 c5 c6 c7 c8 xc4 hB zu7 zoa
   have zkv:=(bk2 zu7)
   have zvj:=(z8b).trans zoa
   refine hK.out _ _ (by exact zaa (zkv.right.right)) fun hHeld=>?_
   clear hK K
   try simp only [sp]
   have zhq:=zkv
   have FA:=zb0 zhq
   obtain ⟨f0,f1,f2,f3,f4,f5,f6,f7⟩:=FA
   have QA:=nd8 zhq
   obtain ⟨q0,q1,q2,q3,q4,q5,q6,q7⟩:=QA
   have zfk:=zaz (.int .i64 a1) (.int .i64 a2) (.int .i64 a3) (.int .i64 a4) (.int .i64 a5) (.int .i64 a6) (.int .i64 a7) (.int .i64 a8) zhq
   have FB:=zb0 zfk.right
   obtain ⟨g0,g1,g2,g3,g4,g5,g6,g7⟩:=FB
   have QB:=nd8 zfk.right
   obtain ⟨r0,r1',r2',r3,r4,r5,r6,r7⟩:=QB
   have zk6:=zai (zaz (.int .i64 c1) (.int .i64 c2) (.int .i64 c3) (.int .i64 c4) (.int .i64 c5) (.int .i64 c6) (.int .i64 c7) (.int .i64 c8) (zai zfk))
   have zn3:=zac (b:=zu1) (.int .i64 a1) (.int .i64 a2) (.int .i64 a3) (.int .i64 a4) (.int .i64 a5) (.int .i64 a6) (.int .i64 a7) (.int .i64 a8) (zvj)
   have znr:=zac (b:=z7a) (.int .i64 c1) (.int .i64 c2) (.int .i64 c3) (.int .i64 c4) (.int .i64 c5) (.int .i64 c6) (.int .i64 c7) (.int .i64 c8) zn3
   refine rd [8] (rc fun K hK=>?_)
   go_simp
   refine hK.out _ _ (by exact zaa (zfk.right.right)) fun hHeld=>?_
   clear hK K
   try simp only [sp]
   refine rd [9] (rc fun K hK=>?_)
   go_simp
   refine hK.out _ _ (by exact zaa (zk6.right.right)) fun hHeld=>?_
   clear hK K
   try simp only [sp]
   refine wpAnyH_done (by kernel_rfl) ?_ _
   go_wp2_with fail
   go_meet
   exact ⟨_,_,a1,a2,a3,a4,a5,a6,a7,a8,c1,c2,c3,c4,c5,c6,c7,c8,rfl,rfl,hA,hB,zk6,znr⟩
  refine rc fun K hK=>?_
  go_simp
  have z8m:=Hpb.new (.cells #[.int .i64 0,.int .i64 0,.int .i64 0,.int .i64 0,.int .i64 0,.int .i64 0,.int .i64 0,.int .i64 0] 85)
  have Jpba:=io1 z8m Jpb
  refine hK.out _ _ (by exact zaa (z8m.right.right)) fun hHeld=>?_
  clear hK K
  try simp only [sp]
  generalize World.alloc wpb (.cells #[.int .i64 0,.int .i64 0,.int .i64 0,.int .i64 0,.int .i64 0,.int .i64 0,.int .i64 0,.int .i64 0] 85)=wpba at *
  generalize wpb.heap.size=z7c at *
  refine rd [2] (rc fun K hK=>?_)
  go_simp
  go_at_call 58;(with_reducible refine zax l l1 l2 AL hx (fr2 z8m) ?_);intro a1 a2 a3 a4 a5 a6 a7 a8 wpbac hA z7q zvr
  have zvx:=(bk2 z7q)
  have z8c:=(Jpba).trans zvr
  refine hK.out _ _ (by exact zaa (zvx.right.right)) fun hHeld=>?_
  clear hK K
  try simp only [sp]
  refine rd [5] (rc fun K hK=>?_)
  go_simp
  go_at_call 58;(with_reducible refine zax r r1 r2 AR hx (fr2 zvx) ?_);intro c1 c2 c3 c4 c5 c6 c7 c8 xc6 hB zu8 zob
  have zkw:=(bk2 zu8)
  have zvk:=(z8c).trans zob
  refine hK.out _ _ (by exact zaa (zkw.right.right)) fun hHeld=>?_
  clear hK K
  try simp only [sp]
  have zhr:=zkw
  have FA:=zb0 zhr
  obtain ⟨f0,f1,f2,f3,f4,f5,f6,f7⟩:=FA
  have QA:=nd8 zhr
  obtain ⟨q0,q1,q2,q3,q4,q5,q6,q7⟩:=QA
  have zfl:=zaz (.int .i64 a1) (.int .i64 a2) (.int .i64 a3) (.int .i64 a4) (.int .i64 a5) (.int .i64 a6) (.int .i64 a7) (.int .i64 a8) zhr
  have FB:=zb0 zfl.right
  obtain ⟨g0,g1,g2,g3,g4,g5,g6,g7⟩:=FB
  have QB:=nd8 zfl.right
  obtain ⟨r0,r1',r2',r3,r4,r5,r6,r7⟩:=QB
  have zk7:=zai (zaz (.int .i64 c1) (.int .i64 c2) (.int .i64 c3) (.int .i64 c4) (.int .i64 c5) (.int .i64 c6) (.int .i64 c7) (.int .i64 c8) (zai zfl))
  have zn4:=zac (b:=z7c) (.int .i64 a1) (.int .i64 a2) (.int .i64 a3) (.int .i64 a4) (.int .i64 a5) (.int .i64 a6) (.int .i64 a7) (.int .i64 a8) (zvk)
  have zns:=zac (b:=z7a) (.int .i64 c1) (.int .i64 c2) (.int .i64 c3) (.int .i64 c4) (.int .i64 c5) (.int .i64 c6) (.int .i64 c7) (.int .i64 c8) zn4
  refine rd [8] (rc fun K hK=>?_)
  go_simp
  refine hK.out _ _ (by exact zaa (zfl.right.right)) fun hHeld=>?_
  clear hK K
  try simp only [sp]
  refine rd [9] (rc fun K hK=>?_)
  go_simp
  refine hK.out _ _ (by exact zaa (zk7.right.right)) fun hHeld=>?_
  clear hK K
  try simp only [sp]
  refine wpAnyH_done (by kernel_rfl) ?_ _
  go_wp2_with fail
  go_meet
  exact ⟨_,_,a1,a2,a3,a4,a5,a6,a7,a8,c1,c2,c3,c4,c5,c6,c7,c8,rfl,rfl,hA,hB,zk7,zns⟩
 case rest =>
  obtain ⟨b9,b10,a1,a2,a3,a4,a5,a6,a7,a8,c1,c2,c3,c4,c5,c6,c7,c8,rfl,rfl,hA,hB,K2,J2⟩:=hcut
  cases m with
  | none =>
   obtain ⟨t,ht⟩:=Sq.zw0 (k1,k2) _ l r (Nat.le_refl _) bal.out.1 bal.out.2
   obtain ⟨y0,y1⟩:=zox (fr2 K2)
   go_upto_region 3 with fail
   clear y0 y1
   go_wp2_with (go_at_call 46;(with_reducible refine zan K2 ?_);intro w3 H3 I3;obtain ⟨f0,f1⟩:=zgf H3.right.right.right;obtain ⟨g0,g1⟩:=tk2 H3.right.right.right;have KE:=zc2 (.int .i64 4294967295) (.int .i64 4294967295) (zfq H3);have JE:=zay (b:=bx+3) (.int .i64 4294967295) (.int .i64 4294967295) (J2.trans I3);obtain ⟨q0,q1⟩:=tk2 KE)
   have FIN:=L_ (HH.out none 4294967295 4294967295 t _ (L_ ⟨ht,fr.out.bad ht,fun M' h=>nomatch h⟩) (zqe KE) JE)
   have hag:=Tryz.isAgg29
   have hsz:=Tryz.sizeOf29
   exact bodyPost_ret (v:=tkA 4294967295 4294967295) (by simp [results,Tryz.results52,go_sem,q0,q1]) rfl FIN.out
  | some M =>
   obtain rfl:a8=(l.ht:Int):=hA.out.ht.1
   obtain rfl:c8=(r.ht:Int):=hB.out.ht.1
   obtain ⟨al1,al2⟩:=al.out M rfl
   have EL:=L_ al1
   have ER:=L_ al2
   clear al1 al2
   have zw9:=(fr.out.toks (t:=l) (by simp)).2.1
   have zw8:=(fr.out.toks (t:=r) (by simp)).2.1
   have hlc:=l.zec
   have hrc:=r.zec
   have wr1:IntKind.i64.wrap ((r.ht:Int)+1)=(r.ht:Int)+1:=wrap_in (by omega) (by omega)
   have wr2:IntKind.i64.wrap ((l.ht:Int)+1)=(l.ht:Int)+1:=wrap_in (by omega) (by omega)
   obtain ⟨y0,y1⟩:=zb5 (fr2 K2)
   have YA:=nd8 K2
   obtain ⟨-,-,-,-,-,-,-,ya⟩:=YA
   have YB:=nd8 K2.right
   obtain ⟨-,-,-,-,-,-,-,yb⟩:=YB
   by_cases c1:r.ht+1<l.ht
   ·have g1:(r.ht:Int)+1<(l.ht:Int):=by omega
    cases l with
    | nil=>simp [Sq.T.ht] at c1
    | node a xx b =>
     obtain ⟨kA,kB⟩:=hA.out.kids
     have EA:Hid ((a3,a4)=a.top):=L_ kA
     have EB:Hid ((a5,a6)=b.top):=L_ kB
     have HX:Hid ((l1,l2)=xx):=L_ EL.out
     have HT:Hid (r.ht+1<(Sq.T.node a xx b).ht):=L_ c1
     clear kA kB
     go_upto_region 5 with fail
     clear y0 y1 ya yb wr1 wr2 zw9 zw8 hlc hrc
     have F0:Hid (Fr m0 (some M) all (b::r::a::ts) ((k1,k2)::(l1,l2)::ks)):=L_ (by rw [HX.out];exact (fr.out.open).perm (Sq.p3 a b r ts) (Sq.pa _ _ _))
     have HN:Hid (∃ n',n'<n∧b.ht+r.ht≤n'):=L_ ⟨b.ht+r.ht,(by have h1:=hn.out;simp only [Sq.T.ht] at h1 ⊢;omega),Nat.le_refl _⟩
     obtain ⟨n',hn1,hn2⟩:=HN.out
     have IH1:zvb n':=IH.out n' hn1
     have HN2:=L_ hn2
     have AI:Hid (∀ M',some M=some M'→_∧_):=L_ fun M' _=>(⟨EB.out,ER.out⟩)
     have BI:Hid (_∧_):=L_ (⟨bal.out.1.2.1,bal.out.2⟩)
     have Kd:=K2.drew
     have Jd:=J2.drew
     clear K2 J2 hA hB hn1 hn2
     have S0:=zaw Kd
     refine rh Kd (fun W Kd=>zaw Kd) fun hHeld=>?_
     refine tk ?_ ?_ [0,1,2,3,4,5,6,7,8] ?_ hHeld ?_;rotate_left 2;exact tt
     refine rd [9] (rc fun K hK=>?_)
     go_simp
     go_at_call 52;(refine IH1 b r a5 a6 k1 k2 r1 r2 HN2 AI F0 BI hx (fr2 Kd) ?_);intro m1 v1 v2 t1 w5 d1 X5 I5;have H5:=bk2 X5;have FO:Hid (Fr m0 m1 all (a::t1::ts) ((l1,l2)::ks)):=L_ (d1.out.2.1.perm (Sq.pa _ _ _) (List.Perm.refl _));have BO:=L_ (show _∧_∧_∧_ from (by have h1:=Sq.Lk.zuk bal.out.1 HT.out d1.out.1;exact ⟨bal.out.1.1,d1.out.1.bal,h1.1,h1.2⟩));have AO:Hid (∀ M',m1=some M'→_∧_):=L_ (fun M' hM'=>⟨EA.out,(d1.out.2.2 M' hM').1⟩)
     refine hK.out _ _ (by exact zaw H5) fun hHeld=>?_
     clear hK K
     try simp only [sp]
     refine rd [10] (rc fun K hK=>?_)
     go_simp
     go_at_call 83;(refine zyg a t1 l1 l2 a3 a4 v1 v2 AO FO BO hx (fr2 H5) ?_);intro m2 o1 o2 t w6 d2 X6 I6;have H6:=bk2 X6;have FF:=zgf H6.right.right.right;obtain ⟨f0,f1⟩:=FF;have GG:=tk2 H6.right.right.right;obtain ⟨g0,g1⟩:=GG;have KE:=zh2 (zc2 (.int .i64 o1) (.int .i64 o2) (zfq H6));have JE:=zay (b:=bx+3) (.int .i64 o1) (.int .i64 o2) ((Jd.trans I5).trans I6)
     refine hK.out _ _ (by exact zaw H6) fun hHeld=>?_
     clear hK K
     try simp only [sp]
     refine rd [11] (rc fun K hK=>?_)
     go_simp
     refine hK.out _ _ (by exact zaw KE) fun hHeld=>?_
     clear hK K
     try simp only [sp]
     refine wpAnyH_done (by kernel_rfl) ?_ _
     have QQ:=tk2 KE.right.right.right
     obtain ⟨q0,q1⟩:=QQ
     have FIN:=L_ (HH.out m2 o1 o2 t _ (L_ (by have e1:=d1.out;have e2:=d2.out;rw [HX.out] at e1 e2;exact z4k bal.out.1 HT.out e1 e2)) (end2 KE) JE)
     go_wp2_with fail
     have hag:=Tryz.isAgg29
     have hsz:=Tryz.sizeOf29
     exact bodyPost_ret (v:=tkA o1 o2) (by simp [results,Tryz.results52,go_sem,q0,q1]) rfl FIN.out
   ·by_cases c2:l.ht+1<r.ht
    ·have g1:¬ (r.ht:Int)+1<(l.ht:Int):=by omega
     have g2:(l.ht:Int)+1<(r.ht:Int):=by omega
     cases r with
     | nil=>simp [Sq.T.ht] at c2
     | node a xx b =>
      obtain ⟨kA,kB⟩:=hB.out.kids
      have EA:Hid ((c3,c4)=a.top):=L_ kA
      have EB:Hid ((c5,c6)=b.top):=L_ kB
      have HX:Hid ((r1,r2)=xx):=L_ ER.out
      have HT:Hid (l.ht+1<(Sq.T.node a xx b).ht):=L_ c2
      clear kA kB
      go_upto_region 7 with fail
      clear y0 y1 ya yb wr1 wr2 zw9 zw8 hlc hrc
      have F0:Hid (Fr m0 (some M) all (l::a::b::ts) ((k1,k2)::(r1,r2)::ks)):=L_ (by rw [HX.out];exact ((fr.out.perm (Sq.pa _ _ _) (List.Perm.refl _)).open).perm ((Sq.p3 l a b ts).symm) (Sq.pa _ _ _))
      have HN:Hid (∃ n',n'<n∧l.ht+a.ht≤n'):=L_ ⟨l.ht+a.ht,(by have h1:=hn.out;simp only [Sq.T.ht] at h1 ⊢;omega),Nat.le_refl _⟩
      obtain ⟨n',hn1,hn2⟩:=HN.out
      have IH1:zvb n':=IH.out n' hn1
      have HN2:=L_ hn2
      have AI:Hid (∀ M',some M=some M'→_∧_):=L_ fun M' _=>(⟨EL.out,EA.out⟩)
      have BI:Hid (_∧_):=L_ (⟨bal.out.1,bal.out.2.1⟩)
      have Kd:=K2.drew
      have Jd:=J2.drew
      clear K2 J2 hA hB hn1 hn2
      have S0:=zaw Kd
      refine rh Kd (fun W Kd=>zaw Kd) fun hHeld=>?_
      refine tk ?_ ?_ [0,1,2,3,4,5,6,8,9] ?_ hHeld ?_;rotate_left 2;exact tt
      refine rd [7] (rc fun K hK=>?_)
      go_simp
      go_at_call 52;(refine IH1 l a l1 l2 k1 k2 c3 c4 HN2 AI F0 BI hx (fr2 Kd) ?_);intro m1 v1 v2 t1 w5 d1 X5 I5;have H5:=bk2 X5;have FO:Hid (Fr m0 m1 all (t1::b::ts) ((r1,r2)::ks)):=L_ (d1.out.2.1);have BO:=L_ (show _∧_∧_∧_ from (by have h1:=Sq.Lk.zpo bal.out.2 HT.out d1.out.1;exact ⟨d1.out.1.bal,bal.out.2.2.1,h1.2,h1.1⟩));have AO:Hid (∀ M',m1=some M'→_∧_):=L_ (fun M' hM'=>⟨(d1.out.2.2 M' hM').1,EB.out⟩)
      refine hK.out _ _ (by exact zaw H5) fun hHeld=>?_
      clear hK K
      try simp only [sp]
      refine rd [10] (rc fun K hK=>?_)
      go_simp
      go_at_call 83;(refine zyg t1 b r1 r2 v1 v2 c5 c6 AO FO BO hx (fr2 H5) ?_);intro m2 o1 o2 t w6 d2 X6 I6;have H6:=bk2 X6;have FF:=zgf H6.right.right.right;obtain ⟨f0,f1⟩:=FF;have GG:=tk2 H6.right.right.right;obtain ⟨g0,g1⟩:=GG;have KE:=zh2 (zc2 (.int .i64 o1) (.int .i64 o2) (zfq H6));have JE:=zay (b:=bx+3) (.int .i64 o1) (.int .i64 o2) ((Jd.trans I5).trans I6)
      refine hK.out _ _ (by exact zaw H6) fun hHeld=>?_
      clear hK K
      try simp only [sp]
      refine rd [11] (rc fun K hK=>?_)
      go_simp
      refine hK.out _ _ (by exact zaw KE) fun hHeld=>?_
      clear hK K
      try simp only [sp]
      refine wpAnyH_done (by kernel_rfl) ?_ _
      have QQ:=tk2 KE.right.right.right
      obtain ⟨q0,q1⟩:=QQ
      have FIN:=L_ (HH.out m2 o1 o2 t _ (L_ (by have e1:=d1.out;have e2:=d2.out;rw [HX.out] at e1 e2;exact z0k bal.out.2 HT.out e1 e2)) (end2 KE) JE)
      go_wp2_with fail
      have hag:=Tryz.isAgg29
      have hsz:=Tryz.sizeOf29
      exact bodyPost_ret (v:=tkA o1 o2) (by simp [results,Tryz.results52,go_sem,q0,q1]) rfl FIN.out
    ·have g1:¬ (r.ht:Int)+1<(l.ht:Int):=by omega
     have g2:¬ (l.ht:Int)+1<(r.ht:Int):=by omega
     have N1:Hid (l.ht≤r.ht+1∧r.ht≤l.ht+1):=L_ (by omega)
     go_upto_region 8 with fail
     clear y0 y1 ya yb wr1 wr2 zw9 zw8 hlc hrc c1 c2 g1 g2
     have ZZ:=zaw K2
     obtain ⟨⟨⟨p0,p1⟩,⟨p2,p3⟩,⟨p4,p5⟩⟩,-,-⟩:=ZZ
     go_wp2_with (go_at_call 45;(with_reducible refine z1i l r k1 k2 l1 l2 r1 r2 EL ER fr hx (fr2 K2) ?_);intro m3 w3 hm3 X3 I3;have H3:=bk2 X3;have FF:=zgf H3.right.right.right;obtain ⟨f0,f1⟩:=FF;have GG:=tk2 H3.right.right.right;obtain ⟨g0,g1⟩:=GG;have KE:=zh2 (zc2 (.int .i64 k1) (.int .i64 k2) (zfq H3));have JE:=zay (b:=bx+3) (.int .i64 k1) (.int .i64 k2) (J2.trans I3);have QQ:=tk2 KE.right.right.right;obtain ⟨q0,q1⟩:=QQ)
     have FIN:=L_ (HH.out m3 k1 k2 (.node l (k1,k2) r) _ (L_ ⟨Sq.Lk.set bal.out.1 bal.out.2 N1.out.1 N1.out.2,hm3.out.1,fun M' h=>⟨rfl,hm3.out.2 M' h⟩⟩) (end2 KE) JE)
     have hag:=Tryz.isAgg29
     have hsz:=Tryz.sizeOf29
     exact bodyPost_ret (v:=tkA k1 k2) (by simp [results,Tryz.results52,go_sem,q0,q1]) rfl FIN.out
end
theorem zf2 (n:Nat):zvb n:=by
 induction n using Nat.strongRecOn with
 | ind n ih=>exact zzw n ih
end Go.Proofs.YtfknjmoekbabcaaGreatDoor
