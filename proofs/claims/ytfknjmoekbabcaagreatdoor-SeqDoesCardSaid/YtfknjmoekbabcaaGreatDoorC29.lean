/-
  A part of a proof. It proves no statement by itself.
-/
import Derived.Test.YtfknjmoekbabcaaGreatDoorC27
import Derived.Test.YtfknjmoekbabcaaGreatDoorC04
import Derived.Test.YtfknjmoekbabcaaGreatDoorC28
set_option linter.unusedSimpArgs false
set_option linter.unusedVariables false
set_option linter.unusedSectionVars false
set_option maxRecDepth 100000
set_option maxHeartbeats 64000000
namespace Go.Proofs.YtfknjmoekbabcaaGreatDoor
open Go.RowKit Go.Lib
section
variable {c:Cq} {F:Asn} {w:World} {es:List Ky.En} {q g:Nat}
theorem Tb.Tree.mono {root:Int} {es:List Ky.En} {L:Tb.Pg} {g g':Nat} (t:Tb.Tree root es L g) (h:g≤g'):Tb.Tree root es L g':=by
 rcases t with t | ⟨h0,c,s,hc⟩
 ·exact .inl t
 ·exact .inr ⟨h0,c,s,by omega⟩
theorem ze1.mono {q' g':Nat} (hq:q≤q') (hg:g≤g') (H:Sat (ze1 c es q g*F) w):Sat (ze1 c es q' g'*F) w:=by
 obtain ⟨root,L,t,h1,h2⟩:=zes.1 H
 exact zes.2 ⟨root,L,t.mono hg,by omega,h2⟩
theorem ze1.right (H:Sat (ze1 c es q g*F) w):Ky.Right es:=by
 obtain ⟨root,L,t,h1,h2⟩:=zes.1 H
 exact t.right
end
end Go.Proofs.YtfknjmoekbabcaaGreatDoor
namespace Go.Proofs.YtfknjmoekbabcaaGreatDoor
open Go.RowKit Go.Lib
open Sq (Tk Nd Mp zca InT)
structure Sx where
 s:Nat
 c:Cq
 O:List Ky.En
 q:Nat
 g:Nat
def Sx.grow (x:Sx) (d:Nat):Sx:={ x with q:=x.q+d,g:=x.g+min d 1 }
structure Sx.Ok (x:Sx):Prop where
 n:x.c.k.n≤3000
 g:x.g≤240
 q:60≤x.q
def Sx.full (x:Sx):Prop:=x.c.k.room≤30+(Tb.most x.q x.g:Int)
abbrev zeq (x:Sx) (e:Int):Asn:=pts x.s (.cells #[.pointer (some ⟨x.c.tr,0,none⟩),.int .i64 e] 78 (0,0))
def zav (x:Sx):Option Mp→Asn
 | some M=>ex fun es:{es:List Ky.En // Sq.Rep es M x.O}=>zeq x 0*ze1 x.c es.1 x.q x.g
 | none=>on x.full (zeq x 2*zie x.c)
def zi3:Option Mp→Int
 | some _=>0
 | none=>2
section
variable {x:Sx} {M:Mp} {F:Asn} {w:World} {R:Ending→World→Prop}
theorem zbt:Sat (zav x (some M)*F) w↔∃ es,Sq.Rep es M x.O∧Sat (ze1 x.c es x.q x.g*(zeq x 0*F)) w:=by
 have e0:zav x (some M)*F=(ex fun es:{es:List Ky.En // Sq.Rep es M x.O}=>zeq x 0*ze1 x.c es.1 x.q x.g)*F:=rfl
 rw [e0,zde]
 constructor
 ·rintro ⟨⟨es,h⟩,k⟩;exact ⟨es,h,k.of_eq (by ac_rfl)⟩
 ·rintro ⟨es,h,k⟩;exact ⟨⟨es,h⟩,k.of_eq (by ac_rfl)⟩
theorem zi4:Sat (zav x none*F) w↔x.full∧Sat (zie x.c*(zeq x 2*F)) w:=by
 have e0:zav x none*F=on x.full (zeq x 2*zie x.c)*F:=rfl
 rw [e0,ze4]
 constructor
 ·rintro ⟨h,k⟩;exact ⟨h,k.of_eq (by ac_rfl)⟩
 ·rintro ⟨h,k⟩;exact ⟨h,k.of_eq (by ac_rfl)⟩
theorem zeg {m:Option Mp} (H:Sat (zav x m*F) w):(w.cell? ⟨x.s,0,none⟩=some (.pointer (some ⟨x.c.tr,0,none⟩))∧w.cell? ⟨x.s,1,none⟩=some (.int .i64 (zi3 m)))∧w.frozen? ⟨x.s,0,none⟩=false∧w.frozen? ⟨x.s,1,none⟩=false:=by
 cases m with
 | some M =>
  obtain ⟨es,_,H⟩:=zbt.1 H
  exact ⟨tk2 H.right,zgf H.right⟩
 | none =>
  obtain ⟨_,H⟩:=zi4.1 H
  exact ⟨tk2 H.right,zgf H.right⟩
abbrev tkA (a b:Int):Value:=.agg #[.int .i64 a,.int .i64 b]
abbrev ndA (u1 u2 l1 l2 r1 r2 ct ht:Int):Value:=.agg #[.int .i64 u1,.int .i64 u2,.int .i64 l1,.int .i64 l2,.int .i64 r1,.int .i64 r2,.int .i64 ct,.int .i64 ht]
theorem xbn {es:List Ky.En} {q g:Nat} {c:Cq} {key val:ByteArray} (hg:Hid (g≤240)) (hgt:Hid (Ky.get es key=some val)) (H:Sat (ze1 c es q g*F) w)
  (hR:∀ w',Sat (ze1 c es q g*F) w'→Io w w'→R (.returned (.tuple #[.string val,.bool true,.int .i64 0])) w'):Calls Tryz.prog 77 #[.pointer (some ⟨c.tr,0,none⟩),.string key] w R :=
 zjo hg.out (L_ (.inl ⟨rfl,hgt.out⟩)) H hR
theorem zox (H:Sat (zav x none*F) w):w.cell? ⟨x.s,0,none⟩=some (.pointer (some ⟨x.c.tr,0,none⟩))∧w.cell? ⟨x.s,1,none⟩=some (.int .i64 2):=(zeg H).1
theorem zb5 {M:Mp} (H:Sat (zav x (some M)*F) w):w.cell? ⟨x.s,0,none⟩=some (.pointer (some ⟨x.c.tr,0,none⟩))∧w.cell? ⟨x.s,1,none⟩=some (.int .i64 0):=(zeg H).1
theorem sg_tr {A B C D:Asn} (H:Sat (A*(B*(C*(D*F)))) w):Sat (C*(A*(B*(D*F)))) w:=H.of_eq (by ac_rfl)
theorem sg_rt {A B C D:Asn} (H:Sat (C*(A*(B*(D*F)))) w):Sat (A*(B*(C*(D*F)))) w:=H.of_eq (by ac_rfl)
theorem sg_err {N A B C:Asn} {v e:Value} {b:Nat} {t:TypeId} {e':Value} (H:Sat (N*(A*(B*(C*(pts b (.cells #[v,e] t (0,0))*F))))) w):Sat (A*(N*(B*(C*(pts b (.cells #[v,e'] t (0,0))*F))))) (w.setCell ⟨b,1,none⟩ e') :=
 ((H.of_eq (show _=pts b (.cells #[v,e] t (0,0))*(A*(N*(B*(C*F)))) from by ac_rfl)).cell 1 e').of_eq (by ac_rfl)
theorem sg_fin {N A B C D:Asn} (H:Sat (A*(N*(B*(C*(D*F))))) w):Sat (C*(D*F)) w:=H.right.right.right
theorem zqd {m:Option Mp} (H:Sat (zav x m*F) w) (h:∀ w',Sat (zav x m*F) w'→Io w w'→R (.returned (ndA 0 0 0 0 0 0 0 0)) w') :
  Calls Tryz.prog 58 #[.pointer (some ⟨x.s,0,none⟩),tkA 4294967295 4294967295] w R:=by
 have HH:=L_ h
 have H1:=(H.new (.cells #[.int .i64 4294967295,.int .i64 4294967295] 29)).new (.cells #[.int .i64 0,.int .i64 0,.int .i64 0,.int .i64 0,.int .i64 0,.int .i64 0,.int .i64 0,.int .i64 0] 85)
 have I1:=io2 H1 (Io.refl w)
 rw [World.size_alloc] at H1
 clear h H
 go_enter Tryz.func58,Tryz.ntmps58
 go_upto_region 1 with fail
 generalize (w.alloc _).alloc _=w1 at *
 generalize w.heap.size=bx at *
 have Kd:=H1.drew
 have Jd:=I1.drew
 have S0:=And.intro (tk2 Kd.right) (zeg Kd.right.right).1
 have EQ:=fun W=>zci 4294967295 4294967295 4294967295 4294967295 W
 simp only [decide_true] at EQ
 refine wp_region_held_drew (S:=(fun W=>W.cell? ⟨bx,0,none⟩=some (.int .i64 4294967295)∧W.cell? ⟨bx,1,none⟩=some (.int .i64 4294967295))) (by kernel_rfl) (by exact S0.1) (fun hHeld=>?_)
 refine tk ?_ ?_ [0] ?_ hHeld ?_;rotate_left 2;exact tt
 refine rd [1] (rc fun K hK=>?_)
 go_simp
 go_at_call 46;(with_reducible refine zan Kd ?_);intro w2 H2 I2
 refine hK.out _ _ (by exact tk2 H2.right) fun hHeld=>?_
 clear hK K
 try simp only [sp]
 refine tk ?_ ?_ [2,3,4,5,6,7,8,9] ?_ hHeld ?_;rotate_left 2;exact tt
 refine wpAnyH_done (by kernel_rfl) ?_ _
 have FF:=zb0 H2
 obtain ⟨f0,f1,f2,f3,f4,f5,f6,f7⟩:=FF
 have QQ:=nd8 H2
 obtain ⟨q0,q1,q2,q3,q4,q5,q6,q7⟩:=QQ
 have KE:=zaz (.int .i64 0) (.int .i64 0) (.int .i64 0) (.int .i64 0) (.int .i64 0) (.int .i64 0) (.int .i64 0) (.int .i64 0) H2
 have JE:=zac (b:=bx+1) (.int .i64 0) (.int .i64 0) (.int .i64 0) (.int .i64 0) (.int .i64 0) (.int .i64 0) (.int .i64 0) (.int .i64 0) (Jd.trans I2)
 have ZZ:=nd8 KE
 obtain ⟨z0,z1,z2,z3,z4,z5,z6,z7⟩:=ZZ
 have FIN:=L_ (HH.out _ (KE.right.right) JE)
 go_wp2_with fail
 have hag:=Tryz.isAgg85
 have hsz:=Tryz.sizeOf85
 exact bodyPost_ret (v:=ndA 0 0 0 0 0 0 0 0) (by simp [results,Tryz.results58,go_sem,z0,z1,z2,z3,z4,z5,z6,z7]) rfl FIN.out
theorem zyd (a b:Int) (hne:Hid ((a,b)≠Sq.nob)) (H:Sat (zav x none*F) w) (h:∀ w',Sat (zav x none*F) w'→Io w w'→R (.returned (ndA 0 0 0 0 0 0 0 0)) w') :
  Calls Tryz.prog 58 #[.pointer (some ⟨x.s,0,none⟩),tkA a b] w R:=by
 have HH:=L_ h
 have H1:=(H.new (.cells #[.int .i64 a,.int .i64 b] 29)).new (.cells #[.int .i64 0,.int .i64 0,.int .i64 0,.int .i64 0,.int .i64 0,.int .i64 0,.int .i64 0,.int .i64 0] 85)
 have I1:=io2 H1 (Io.refl w)
 rw [World.size_alloc] at H1
 clear h H
 go_enter Tryz.func58,Tryz.ntmps58
 go_upto_region 1 with fail
 generalize (w.alloc _).alloc _=w1 at *
 generalize w.heap.size=bx at *
 have Kd:=H1.drew
 have Jd:=I1.drew
 have S0:=And.intro (tk2 Kd.right) (zox Kd.right.right)
 have EQ:=fun W=>zci a b 4294967295 4294967295 W
 rw [show decide ((a,b)=((4294967295:Int),(4294967295:Int)))=false from decide_eq_false hne.out] at EQ
 go_region_held3 (fun W=>(W.cell? ⟨bx,0,none⟩=some (.int .i64 a)∧W.cell? ⟨bx,1,none⟩=some (.int .i64 b))∧(W.cell? ⟨x.s,0,none⟩=some (.pointer (some ⟨x.c.tr,0,none⟩))∧W.cell? ⟨x.s,1,none⟩=some (.int .i64 2))) (with_reducible (first | exact S0 | exact S1)) (first
  | (go_at_call 46;(with_reducible refine zan Kd ?_);intro w2 H2 I2;have S1:=And.intro (tk2 H2.right) (zox H2.right.right)))
 all_goals
  have FF:=zb0 H2
  obtain ⟨f0,f1,f2,f3,f4,f5,f6,f7⟩:=FF
  have QQ:=nd8 H2
  obtain ⟨q0,q1,q2,q3,q4,q5,q6,q7⟩:=QQ
  have KE:=zaz (.int .i64 0) (.int .i64 0) (.int .i64 0) (.int .i64 0) (.int .i64 0) (.int .i64 0) (.int .i64 0) (.int .i64 0) H2
  have JE:=zac (b:=bx+1) (.int .i64 0) (.int .i64 0) (.int .i64 0) (.int .i64 0) (.int .i64 0) (.int .i64 0) (.int .i64 0) (.int .i64 0) (Jd.trans I2)
  have ZZ:=nd8 KE
  obtain ⟨z0,z1,z2,z3,z4,z5,z6,z7⟩:=ZZ
  have FIN:=L_ (HH.out _ (KE.right.right) JE)
  go_wp2_with fail
  have hag:=Tryz.isAgg85
  have hsz:=Tryz.sizeOf85
  exact bodyPost_ret (v:=ndA 0 0 0 0 0 0 0 0) (by simp [results,Tryz.results58,go_sem,z0,z1,z2,z3,z4,z5,z6,z7]) rfl FIN.out
theorem zd2 {M:Mp} (a b:Int) {u1 u2 l1 l2 r1 r2 ct ht:Int} (hk:Hid (M (a,b)=some ⟨(u1,u2),(l1,l2),(r1,r2),ct,ht⟩)) (hx:Hid x.Ok) (H:Sat (zav x (some M)*F) w) (h:∀ w',Sat (zav x (some M)*F) w'→Io w w'→R (.returned (ndA u1 u2 l1 l2 r1 r2 ct ht)) w') :
  Calls Tryz.prog 58 #[.pointer (some ⟨x.s,0,none⟩),tkA a b] w R:=by
 obtain ⟨es,rep,H⟩:=zbt.1 H
 have OKT:=rep.okm _ _ hk.out
 have OKN:=L_ (rep.okn _ _ hk.out)
 have hne:(a,b)≠Sq.nob:=OKT.ne
 obtain ⟨key,hkey⟩:∃ s,Sq.kk (a,b)=s:=⟨_,rfl⟩
 obtain ⟨val,hval⟩:∃ s,Sq.zg9 ⟨(u1,u2),(l1,l2),(r1,r2),ct,ht⟩=s:=⟨_,rfl⟩
 have HKEY:=L_ hkey
 have HVAL:=L_ hval
 have HGT:Hid (Ky.get es key=some val):=L_ (by rw [←hkey,←hval];exact rep.get hk.out)
 have HG:Hid (x.g≤240):=L_ hx.out.g
 have IA:Hid (zca a):=L_ OKT.inT.1
 have IB:Hid (zca b):=L_ OKT.inT.2
 have HHH:=L_ (fun w' (H':Sat (ze1 x.c es x.q x.g*(zeq x 0*F)) w') I=>h w' (zbt.2 ⟨es,rep,H'⟩) I)
 have h:=HHH.out
 clear HHH hkey hval
 have HH:=L_ h
 have H1:=(H.new (.cells #[.int .i64 a,.int .i64 b] 29)).new (.cells #[.int .i64 0,.int .i64 0,.int .i64 0,.int .i64 0,.int .i64 0,.int .i64 0,.int .i64 0,.int .i64 0] 85)
 have I1:=io2 H1 (Io.refl w)
 rw [World.size_alloc] at H1
 clear h H
 go_enter Tryz.func58,Tryz.ntmps58
 go_upto_region 1 with fail
 generalize (w.alloc _).alloc _=w1 at *
 generalize w.heap.size=bx at *
 have Kd:=H1.drew
 have Jd:=I1.drew
 have S0:=And.intro (tk2 Kd.right) (tk2 Kd.right.right.right)
 have EQ:=fun W=>zci a b 4294967295 4294967295 W
 rw [show decide ((a,b)=((4294967295:Int),(4294967295:Int)))=false from decide_eq_false hne] at EQ
 clear hne OKT rep
 go_region_held3 (fun W=>(W.cell? ⟨bx,0,none⟩=some (.int .i64 a)∧W.cell? ⟨bx,1,none⟩=some (.int .i64 b))∧(W.cell? ⟨x.s,0,none⟩=some (.pointer (some ⟨x.c.tr,0,none⟩))∧W.cell? ⟨x.s,1,none⟩=some (.int .i64 0))) (with_reducible (first | exact S0 | exact S1)) (first
  | (go_at_call 46;(with_reducible refine zan Kd ?_);intro w2 H2 I2;have S1:=And.intro (tk2 H2.right) (tk2 H2.right.right.right)))
 all_goals
  go_upto_region 3 with fail
  have Ke:=H2.drew
  have Je:=(Jd.trans I2).drew
  have S2:=And.intro (tk2 Ke.right) (tk2 Ke.right.right.right)
  clear S0 S1 EQ H2 I2 Kd Jd
  go_region_held3 (fun W=>(W.cell? ⟨bx,0,none⟩=some (.int .i64 a)∧W.cell? ⟨bx,1,none⟩=some (.int .i64 b))∧(W.cell? ⟨x.s,0,none⟩=some (.pointer (some ⟨x.c.tr,0,none⟩))∧W.cell? ⟨x.s,1,none⟩=some (.int .i64 0))) (with_reducible (first | exact S2 | exact S3 | exact S4)) (first
   | (go_at_call 60;(with_reducible refine ze3 a b IA IB HKEY Ke ?_);intro w3 H3 I3;have K3:=sg_tr H3;have S3:=And.intro (tk2 H3.right) (tk2 H3.right.right.right))
   | (go_at_call 77;(with_reducible refine xbn HG HGT K3 ?_);intro w4 H4 I4;have K4:=sg_rt H4;have S4:=And.intro (tk2 K4.right) (tk2 K4.right.right.right)))
  all_goals
   have Y:=tk2 K4.right.right.right
   obtain ⟨y0,y1⟩:=Y
   go_upto_region 11 with (go_at_call 84;(with_reducible refine z9n u1 u2 l1 l2 r1 r2 ct ht OKN HVAL K4 ?_);intro w5 H5 I5;have K5:=H5.new (.cells #[.int .i64 u1,.int .i64 u2,.int .i64 l1,.int .i64 l2,.int .i64 r1,.int .i64 r2,.int .i64 ct,.int .i64 ht] 85);have J5:=(((Je.trans I3).trans I4).trans I5).alloc (.cells #[.int .i64 u1,.int .i64 u2,.int .i64 l1,.int .i64 l2,.int .i64 r1,.int .i64 r2,.int .i64 ct,.int .i64 ht] 85))
   clear y0 y1 S2 S3 S4 H3 I3 H4 I4 K3 K4 Ke Je H5 I5
   generalize w5.alloc _=w6 at *
   generalize w5.heap.size=bn at *
   have Y:=tk2 K5.right.right.right.right
   obtain ⟨y0,y1⟩:=Y
   have G:=zgf K5.right.right.right.right
   obtain ⟨g0,g1⟩:=G
   have K6:=sg_err (e':=.int .i64 0) K5
   have J6:=J5.setCell ⟨x.s,1,none⟩ (.int .i64 0)
   go_upto_region 12 with fail
   generalize w6.setCell ⟨x.s,1,none⟩ (.int .i64 0)=w7 at *
   clear y0 y1 g0 g1 K5 J5
   have Y:=nd8 K6.right
   obtain ⟨y0,y1,y2,y3,y4,y5,y6,y7⟩:=Y
   have FF:=zb0 K6
   obtain ⟨f0,f1,f2,f3,f4,f5,f6,f7⟩:=FF
   have QQ:=nd8 K6
   obtain ⟨q0,q1,q2,q3,q4,q5,q6,q7⟩:=QQ
   have KE:=zaz (.int .i64 u1) (.int .i64 u2) (.int .i64 l1) (.int .i64 l2) (.int .i64 r1) (.int .i64 r2) (.int .i64 ct) (.int .i64 ht) K6
   have JE:=zac (b:=bx+1) (.int .i64 u1) (.int .i64 u2) (.int .i64 l1) (.int .i64 l2) (.int .i64 r1) (.int .i64 r2) (.int .i64 ct) (.int .i64 ht) (J6)
   have ZZ:=nd8 KE
   obtain ⟨z0,z1,z2,z3,z4,z5,z6,z7⟩:=ZZ
   have FIN:=L_ (HH.out _ (sg_fin KE) JE)
   go_wp2_with fail
   have hag:=Tryz.isAgg85
   have hsz:=Tryz.sizeOf85
   exact bodyPost_ret (v:=ndA u1 u2 l1 l2 r1 r2 ct ht) (by simp [results,Tryz.results58,go_sem,z0,z1,z2,z3,z4,z5,z6,z7]) rfl FIN.out
end
end Go.Proofs.YtfknjmoekbabcaaGreatDoor
