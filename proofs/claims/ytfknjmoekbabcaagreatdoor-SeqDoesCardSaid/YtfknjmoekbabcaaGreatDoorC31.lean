/-
  A part of a proof. It proves no statement by itself.
-/
import Derived.Test.YtfknjmoekbabcaaGreatDoorC29
import Derived.Test.YtfknjmoekbabcaaGreatDoorC30
set_option linter.unusedSimpArgs false
set_option linter.unusedVariables false
set_option linter.unusedSectionVars false
set_option maxRecDepth 100000
set_option maxHeartbeats 64000000
namespace Go.Proofs.YtfknjmoekbabcaaGreatDoor
open Go.RowKit Go.Lib
open Sq (Tk Nd Mp zca InT)
theorem zjg {q q' g g':Nat} (hq:q≤q') (hg:g≤g'):Tb.most q g≤Tb.most q' g':=by
 unfold Tb.most
 have h1:g / 11+2≤g' / 11+2:=by omega
 exact Nat.div_le_div_right (Nat.mul_le_mul hq h1)
theorem Sx.zt6 {x:Sx} (d:Nat) (h:x.full):(x.grow d).full:=by
 unfold Sx.full at h ⊢
 have:=zjg (q:=x.q) (q':=x.q+d) (g:=x.g) (g':=x.g+min d 1) (by omega) (by omega)
 unfold Sx.grow
 simp only
 omega
section
variable {x:Sx} {M:Mp} {F:Asn} {w:World} {R:Ending→World→Prop}
theorem z14 (d:Nat) (H:Sat (zav x none*F) w):Sat (zav (x.grow d) none*F) w:=by
 obtain ⟨h,H⟩:=zi4.1 H
 exact zi4.2 ⟨Sx.zt6 d h,H⟩
theorem z9z {es O:List Ky.En} {c:Cq} {q g d:Nat} {a b:Int} {n:Nd} {key val:ByteArray} (rep:Hid (Sq.Rep es M O)) (hd:Hid ((M (a,b)≠none∧d=0)∨d=40)) (hk:Hid (Sq.kk (a,b)=key)) (hv:Hid (Sq.zg9 n=val)) (hx:Hid (c.k.n≤3000∧g≤240∧60≤q)) (H:Sat (ze1 c es q g*F) w)
  (hR:∀ e w',Hid (zd9 c F (Ky.put es key val) (q+d) (g+min d 1) (30+(Tb.most q g:Int)) e w')→Io w w'→R (.returned (.int .i64 e)) w') :
  Calls Tryz.prog 31 #[.pointer (some ⟨c.tr,0,none⟩),.string key,.string val] w R:=by
 obtain rfl:=hk.out
 obtain rfl:=hv.out
 obtain ⟨h1,h2,h3⟩:=hx.out
 rcases hd.out with ⟨hm,rfl⟩ | rfl
 ·exact zul h1 h2 h3 (Sq.ztu _ _) (Tb.xaz (Sq.ztu _ _)) (rep.out.over hm n) H fun e w' D I=>hR e w' (L_ D) I
 ·have hl:=Tb.z4g (Sq.ztu (a,b) n)
  rw [Sq.kk_one] at hl
  exact zul h1 h2 h3 (Sq.ztu _ _) hl trivial H fun e w' D I=>hR e w' (L_ D) I
theorem z8u {es:List Ky.En} {c:Cq} {q g:Nat} {B e:Int} (D:zd9 c F es q g B e w):∃ X,Sat (X*F) w:=by
 rcases D with ⟨_,h⟩ | ⟨_,_,h⟩
 ·exact ⟨_,h⟩
 ·exact ⟨_,h⟩
theorem put_tr {A B C D:Asn} (H:Sat (A*(B*(C*(D*F)))) w):Sat (C*(D*(A*(B*F)))) w:=H.of_eq (by ac_rfl)
theorem put_in {A B:Asn} (H:Sat (A*(B*(zav x (some M)*F))) w):∃ es,Sq.Rep es M x.O∧Sat (A*(B*(ze1 x.c es x.q x.g*(zeq x 0*F)))) w:=by
 obtain ⟨es,h,K⟩:=zbt.1 (H.of_eq (show _=zav x (some M)*(A*(B*F)) from by ac_rfl))
 exact ⟨es,h,K.of_eq (by ac_rfl)⟩
theorem z3b {X A B:Asn} {v e0:Value} {c:Nat} {t:TypeId} (e:Int) (H:Sat (X*(pts c (.cells #[v,e0] t (0,0))*(A*(B*F)))) w):Sat (X*(pts c (.cells #[v,.int .i64 e] t (0,0))*(A*(B*F)))) (w.setCell ⟨c,1,none⟩ (.int .i64 e)) :=
 ((zai H).cell 1 (.int .i64 e)).of_eq (by ac_rfl)
theorem z94 {es:List Ky.En} {a b:Int} {n:Nd} {d:Nat} {e:Int} {key val:ByteArray} {X Y:Asn} (rep:Sq.Rep es M x.O) (ok:Sq.OkT (a,b)) (okn:Sq.OkN n) (hk:Sq.kk (a,b)=key) (hv:Sq.zg9 n=val)
  (D:zd9 x.c (zeq x 0*(X*(Y*F))) (Ky.put es key val) (x.q+d) (x.g+min d 1) (30+(Tb.most x.q x.g:Int)) e w) :
  ∃ m',(∀ M',m'=some M'→M'=Sq.upd M (a,b) n)∧Sat (zav (x.grow d) m'*F) (w.setCell ⟨x.s,1,none⟩ (.int .i64 e)):=by
 subst hk hv
 rcases D with ⟨rfl,H⟩ | ⟨rfl,hf,H⟩
 ·refine ⟨some (Sq.upd M (a,b) n),fun M' h=>(Option.some.inj h).symm,zbt.2 ⟨_,rep.put ok okn,?_⟩⟩
  have K:=(H.of_eq (show _=zeq x 0*(ze1 x.c (Ky.put es (Sq.kk (a,b)) (Sq.zg9 n)) (x.q+d) (x.g+min d 1)*(X*(Y*F))) from by ac_rfl)).cell 1 (.int .i64 0)
  exact (K.of_eq (show _=(X*Y)*(ze1 x.c (Ky.put es (Sq.kk (a,b)) (Sq.zg9 n)) (x.q+d) (x.g+min d 1)*(zeq x 0*F)) from by ac_rfl)).right
 ·refine ⟨none,(fun M' h=>nomatch h),zi4.2 ⟨Sx.zt6 d hf,?_⟩⟩
  have K:=(H.of_eq (show _=zeq x 0*(zie x.c*(X*(Y*F))) from by ac_rfl)).cell 1 (.int .i64 2)
  exact (K.of_eq (show _=(X*Y)*(zie x.c*(zeq x 2*F)) from by ac_rfl)).right
theorem zln {m:Option Mp} (a b u1 u2 l1 l2 r1 r2 ct ht:Int) (d:Nat) (hok:Hid (∀ M,m=some M→Sq.OkT (a,b)∧Sq.OkN ⟨(u1,u2),(l1,l2),(r1,r2),ct,ht⟩∧((M (a,b)≠none∧d=0)∨d=40))) (hx:Hid x.Ok) (H:Sat (zav x m*F) w)
  (h:∀ m' w',Hid (∀ M',m'=some M'→∃ M,m=some M∧M'=Sq.upd M (a,b) ⟨(u1,u2),(l1,l2),(r1,r2),ct,ht⟩)→Sat (zav (x.grow d) m'*F) w'→Io w w'→R (.returned (.tuple #[])) w') :
  Calls Tryz.prog 79 #[.pointer (some ⟨x.s,0,none⟩),tkA a b,ndA u1 u2 l1 l2 r1 r2 ct ht] w R:=by
 have HH:=L_ h
 have H1:=(H.new (.cells #[.int .i64 a,.int .i64 b] 29)).new (.cells #[.int .i64 u1,.int .i64 u2,.int .i64 l1,.int .i64 l2,.int .i64 r1,.int .i64 r2,.int .i64 ct,.int .i64 ht] 85)
 have I1:=io2 H1 (Io.refl w)
 rw [World.size_alloc] at H1
 clear h H
 go_enter Tryz.func79,Tryz.ntmps79
 go_upto_region 1 with fail
 generalize (w.alloc _).alloc _=w1 at *
 generalize w.heap.size=bx at *
 cases m with
 | none =>
  obtain ⟨y0,y1⟩:=zox H1.right.right
  have FIN:=L_ (HH.out none w1 (L_ fun M' h=>by cases h) (z14 d H1.right.right) I1)
  go_wp2_with fail
  go_end0
  exact FIN.out
 | some M =>
  obtain ⟨okt,okn,hd⟩:=hok.out M rfl
  obtain ⟨y0,y1⟩:=zb5 H1.right.right
  obtain ⟨es,rep,K1⟩:=put_in H1
  obtain ⟨key,hkey⟩:∃ s,Sq.kk (a,b)=s:=⟨_,rfl⟩
  obtain ⟨val,hval⟩:∃ s,Sq.zg9 ⟨(u1,u2),(l1,l2),(r1,r2),ct,ht⟩=s:=⟨_,rfl⟩
  have HKEY:=L_ hkey
  have HVAL:=L_ hval
  have HREP:=L_ rep
  have HD:=L_ hd
  have OKN:=L_ okn
  have OKT:=L_ okt
  have IA:Hid (zca a):=L_ okt.inT.1
  have IB:Hid (zca b):=L_ okt.inT.2
  have HXX:Hid (x.c.k.n≤3000∧x.g≤240∧60≤x.q):=L_ ⟨hx.out.n,hx.out.g,hx.out.q⟩
  clear okt okn hd rep hkey hval H1
  go_upto_region 2 with fail
  clear y0 y1
  have Kd:=K1.drew
  have Jd:=I1.drew
  have S0:=And.intro (tk2 Kd.right) (And.intro (nd8 Kd) (tk2 Kd.right.right.right).1)
  clear K1 I1
  refine rh Kd (fun W Kd=>And.intro (tk2 Kd.right) (And.intro (nd8 Kd) (tk2 Kd.right.right.right).1)) fun hHeld=>?_
  refine tk ?_ ?_ [0,1,2,3,4,5,7] ?_ hHeld ?_;rotate_left 2;exact tt
  refine rd [6] (rc fun K hK=>?_)
  go_simp
  go_at_call 60;(with_reducible refine ze3 a b IA IB HKEY Kd ?_);intro w2 H2 I2;have S1:=And.intro (tk2 H2.right) (And.intro (nd8 H2) (tk2 H2.right.right.right).1)
  refine hK.out _ _ (by exact S1) fun hHeld=>?_
  clear hK K
  try simp only [sp]
  refine rd [8] (rc fun K hK=>?_)
  go_simp
  go_at_call 109;(with_reducible refine z9j u1 u2 l1 l2 r1 r2 ct ht OKN HVAL H2 ?_);intro w3 H3 I3;have S2:=And.intro (tk2 H3.right) (And.intro (nd8 H3) (tk2 H3.right.right.right).1);have K3:=put_tr H3
  refine hK.out _ _ (by exact S2) fun hHeld=>?_
  clear hK K
  try simp only [sp]
  refine rd [9] (rc fun K hK=>?_)
  go_simp
  go_at_call 31;(with_reducible refine z9z HREP HD HKEY HVAL HXX K3 ?_);intro e4 w4 D4 I4;obtain ⟨X,HU⟩:=z8u D4.out;have S3:=And.intro (tk2 HU.right.right.right) (And.intro (nd8 HU.right.right) (tk2 HU.right).1);have y1:=(tk2 HU.right).2;have f1:=(zgf HU.right).2;have HV:=z3b e4 HU;have S4:=And.intro (tk2 HV.right.right.right) (And.intro (nd8 HV.right.right) (tk2 HV.right).1)
  refine hK.out _ _ (by exact S3) fun hHeld=>?_
  clear hK K
  try simp only [sp]
  refine tk ?_ ?_ [10,11] ?_ hHeld ?_;rotate_left 2;exact tt
  refine rd [12] (rc fun K hK=>?_)
  go_simp
  refine hK.out _ _ (by exact S4) fun hHeld=>?_
  clear hK K
  try simp only [sp]
  refine wpAnyH_done (by kernel_rfl) ?_ _
  obtain ⟨m',hm',KF⟩:=z94 HREP.out OKT.out OKN.out HKEY.out HVAL.out D4.out
  have FIN:=L_ (HH.out m' _ (L_ fun M' h=>⟨M,rfl,hm' M' h⟩) KF ((((Jd.trans I2).trans I3).trans I4).setCell ⟨x.s,1,none⟩ (.int .i64 e4)))
  go_wp2_with fail
  go_end0
  exact FIN.out
end
end Go.Proofs.YtfknjmoekbabcaaGreatDoor
