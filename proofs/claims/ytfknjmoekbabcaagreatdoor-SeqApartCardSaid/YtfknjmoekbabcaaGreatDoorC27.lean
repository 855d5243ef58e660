/-
  A part of a proof. It proves no statement by itself.
-/
import Derived.Test.YtfknjmoekbabcaaGreatDoorC25
import Derived.Test.YtfknjmoekbabcaaGreatDoorC26
import Derived.Test.YtfknjmoekbabcaaGreatDoorC13
set_option linter.unusedSimpArgs false
set_option linter.unusedVariables false
set_option linter.unusedSectionVars false
set_option maxRecDepth 100000
set_option maxHeartbeats 64000000
namespace Go.Proofs.YtfknjmoekbabcaaGreatDoor
open Go.RowKit Go.Lib
abbrev zgr (c:Cq) (r e:Int) (A:Asn) (key:Ky.Nm) (g:Nat) (cb:Array Value) (op:List Ky.En→List Ky.En) (P:List Ky.En→Prop) (d h:Nat):Prop :=
 ∀ {lo hi:Tb.Bd} {id:Int} {es:List Ky.En} {L M:Tb.Pg} {cc dp:Nat} {F:Asn} {w:World} {R:Ending→World→Prop},Tb.Sub h lo hi id es L cc→Tb.ge lo key→Tb.lt hi key→P es→dp+h<24→Sat (zaq c r e (L++M)*(A*F)) w →
  (∀ x a1 n1 c1 a2 n2 c2 w',zdj c r e (A*F) M (4+((L.length+M.length+h:Nat):Int)) (fun kids keys L' c'=>Tb.Done h lo hi cc d L kids keys (op es) L' c') x (.slice a1 n1 c1) (.slice a2 n2 c2) w'→Io w w'→R (.returned (.tuple #[.agg #[.slice a1 n1 c1,.slice a2 n2 c2],.int .i64 x])) w') →
  Calls Tryz.prog 89 #[.pointer (some ⟨c.tr,0,none⟩),.int .i64 id,.int .i64 (dp:Int),.string key,.func (.func g) #[] cb] w R
theorem zdj.more {c:Cq} {r e:Int} {F:Asn} {M:Tb.Pg} {B B':Int} {D:List Int→List Ky.Nm→Tb.Pg→Nat→Prop} {x:Int} {u v:Value} {w:World} (h:zdj c r e F M B D x u v w) (hb:B≤B'):zdj c r e F M B' D x u v w:=by
 rcases h with h | ⟨rfl,h1,H⟩
 ·exact .inl h
 ·exact .inr ⟨rfl,by omega,H⟩
theorem xaa {α:Type} {L L1 Lc L2 M:List α} {x:α} (p:L.Perm (x::(L1++(Lc++L2)))):(L++M).Perm (Lc++(x::(L1++(L2++M)))):=by
 refine (p.append_right M).trans ?_
 refine List.Perm.trans ?_ List.perm_middle.symm
 rw [List.cons_append]
 refine List.Perm.cons _ ?_
 rw [List.append_assoc,List.append_assoc]
 exact List.perm_append_comm_assoc L1 Lc _
theorem zz7 {α:Type} {L1 Lc L2 M:List α} {x:α}:(Lc++(x::(L1++(L2++M)))).Perm (x::((L1++(Lc++L2))++M)):=by
 refine List.perm_middle.trans ?_
 refine List.Perm.cons _ ?_
 rw [List.append_assoc,List.append_assoc]
 exact List.perm_append_comm_assoc Lc L1 _
theorem z99 {α:Type} {L1 Lc L2 M:List α} {x:α}:(Lc++(x::(L1++(L2++M)))).Perm ((L1++(Lc++L2))++(x::M)):=by
 refine List.perm_middle.trans ?_
 refine List.Perm.trans ?_ List.perm_middle.symm
 refine List.Perm.cons _ ?_
 rw [List.append_assoc,List.append_assoc]
 exact List.perm_append_comm_assoc Lc L1 _
theorem z3s {F:Asn} {v:Value} {kk:List Int} {bb:List Ky.Nm} (hv:NdV F v (Ky.inn kk bb)):∃ a1 c1 a3 c3 a5 c5,v=.agg #[.bool false,.slice a1 0 c1,.slice a3 kk.length c3,.slice a5 bb.length c5]:=zje hv
theorem xag {F:Asn} {v:Value} {kk xx:List Int} {bb yy:List Ky.Nm} (h1:kk=xx) (h2:bb=yy) (h:NdV F v (Ky.inn xx yy)):NdV F v (Ky.inn kk bb):=by
 subst h1 h2
 exact h
theorem z3r {F:Asn} {v:Value} {kk:List Int} {bb:List Ky.Nm} {m m':Nat} (hv:NdV F v (Ky.inn kk bb)) (h1:m=kk.length) (h2:m'=bb.length):∃ a1 c1 a3 c3 a5 c5,v=.agg #[.bool false,.slice a1 0 c1,.slice a3 m c3,.slice a5 m' c5]:=by
 subst h1 h2
 exact zje hv
theorem zi6 {α:Type} {enc:α→List Value} {sz:Nat} {e:TypeId} {a:Option Addr} {n c:Nat} {l:List α} {F:Asn} {w:World} (H:Sat (RowOf e sz enc (.slice a n c) l*F) w):n=l.length:=by
 obtain ⟨hx,⟨h0,h1,_⟩ | ⟨g',cap,cur,e1,_⟩⟩:=za8.1 H
 ·cases h0;exact h1.symm
 ·cases e1;rfl
section
variable {c:Cq} {r e:Int} {A:Asn} {key:Ky.Nm} {g:Nat} {cb:Array Value} {op:List Ky.En→List Ky.En} {P:List Ky.En→Prop} {d h:Nat}
theorem zxi (hk:c.k.n≤3000) (eg:∀ args w,(callFunc g args).run Tryz.prog w=.ok (.enter g args) w) (o:Tb.Loc op P key d) (hdo:zgw A g cb op P):zgr c r e A key g cb op P d 0:=by
 intro lo hi id es L M cc dp F w R s hlo hhi hp hd H h
 exact zxl s o hlo hhi hp (by omega) hk eg hdo H fun x a1 n1 c1 a2 n2 c2 w' D I=>h x a1 n1 c1 a2 n2 c2 w' (D.more (by omega)) I
structure StepSt (c:Cq) (r e:Int) (lo hi:Tb.Bd) (h d:Nat) (id:Int) (L M:Tb.Pg) (K:List Int) (B:List Ky.Nm) (i:Nat) (es':List Ky.En) (kids:List Int) (keys:List Ky.Nm) (K':Tb.Pg):Prop where
 mid:(kids=[]∧Tb.swK K i (i+1) kids=[]∧Tb.swB B i (i+1) kids keys=[]∧es'=[]∧K'=[])∨Tb.Mid h lo hi K.length d L (Tb.swK K i (i+1) kids) (Tb.swB B i (i+1) kids keys) es' K'
 few:kids.length≤2∧keys.length=kids.length - 1
theorem zxj (hk:c.k.n≤3000) (o:Tb.Loc op P key d) (ih:zgr c r e A key g cb op P d h):zgr c r e A key g cb op P d (h+1):=by
 intro lo hi id es L M cc dp F w R s hlo hhi hp hd H hh
 have HH:=L_ hh
 obtain ⟨s1,s2,K,B,L',n,hz,ck,pm,hcc⟩:=s
 subst hcc
 have hir:=Tb.zcx n ck
 have hlen:=n.len
 have hks:=Tb.zbg ck
 have hci:Tb.chd key B<K.length:=by have:=Tb.zy8 key B;omega
 obtain ⟨a,b,e1,ec,e2,L1,Lc,L2,g1,⟨ccc,sc⟩,g2,qe,qL,ha,hb',hE1,hE2⟩:=Tb.zy6 n hlo hhi hci
 obtain ⟨i,hic⟩:∃ i,i=Tb.chd key B:=⟨_,rfl⟩
 have hcj:i<K.length:=by rw [hic];exact hci
 have ztx : ∃ kid, K[i]'hcj = kid := ⟨_, rfl⟩
 obtain ⟨kid,ztx⟩:=ztx
 simp only [←hic] at g1 sc g2 hci
 rw [ztx] at sc
 have hab:=sc.bounds.1
 have hright:Ky.Right es:=(Tb.zqr (fun s=>Tb.Sb.inn s) n).2.1
 subst qe qL
 have hop:=o.loc e1 ec e2 hE1 hE2 hright
 have hpc:=o.ploc e1 ec e2 hE1 hE2 hp
 have IH:Hid (zgr c r e A key g cb op P d h):=L_ ih
 have N1:Hid ((id,Ky.inn K B)∈L++M):=L_ (List.mem_append_left _ (by simp [pm.mem_iff]))
 have N2:=L_ (Ky.NdR.inner hir)
 have N3:Hid (Ky.zbf (Ky.inn K B)≤240):=L_ hz
 have N4:=L_ hir
 have HI:=L_ hic
 have HK:=L_ ztx
 have HKL:Hid (K.length≤1000∧B.length≤1000∧K.length=B.length+1∧i<K.length):=L_ (by omega)
 have PK:=L_ (xaa (M:=M) pm)
 have PM:Hid (∀ X:Tb.Pg,(X++((id,Ky.inn K B)::(L1++(L2++M)))).Perm ((L1++(X++L2))++((id,Ky.inn K B)::M))):=L_ (fun X=>z99)
 have HC:=L_ (And.intro sc (And.intro ha (And.intro hb' hpc)))
 have HS:Hid (∀ kids keys Lc' c',Tb.Done h a b ccc d Lc kids keys (op ec) Lc' c'→StepSt c r e lo hi h d id L M K B i (op (e1++(ec++e2))) kids keys (L1++(Lc'++L2))):=L_ (fun kids keys Lc' c' dn=>by
  refine ⟨?_,?_⟩
  ·rw [hop]
   rcases Tb.mid_of (c:=K.length) hci hlen rfl hz ck pm g1 g2 hab dn with ⟨q1,q2,q3,q4,q5⟩ | q
   ·exact .inl ⟨q1,q4,q5,q2,q3⟩
   ·exact .inr q
  ·rcases dn.forms with ⟨rfl,rfl,_⟩ | ⟨k,rfl,rfl⟩ | ⟨k1,k2,y,rfl,rfl⟩<;>simp)
 have HB:Hid (4+((Lc.length+((id,Ky.inn K B)::(L1++(L2++M))).length+h:Nat):Int)≤4+((L.length+M.length+(h+1):Nat):Int)∧L.length=Lc.length+L1.length+L2.length+1):=L_ (by
  have:=pm.length_eq
  simp only [List.length_cons,List.length_append] at this ⊢
  omega)
 have HID:=L_ s2
 have d1:(dp:Int)<24:=by omega
 obtain ⟨dn,hdn⟩:∃ dn:Nat,dn=dp+1:=⟨_,rfl⟩
 have d2:(dp:Int)+1=(dn:Int):=by omega
 have d3:(dn:Int)<24:=by omega
 have HDN:Hid (dn+h<24):=L_ (by omega)
 have H1:=(H.new zP).of_eq (show _=zaq c r e (L++M)*(pts w.heap.size zP*(A*F)) from by ac_rfl)
 have I1:=(Io.refl w).alloc zP
 clear hh ih s1 s2 hz ck hir hlen hks g1 sc g2 ha hb' hE1 hE2 hic ztx hab hright hop hpc hp hlo hhi hd hdn n pm hci
 go_enter Tryz.func89,Tryz.ntmps89
 go_upto_region 1 with fail
 generalize w.alloc zP=w1 at *
 generalize hb:w.heap.size=b0 at *
 go_upto_region 2 with (go_at_call 106;with_reducible refine zcy N1.out N2.out N3.out d1 H1 ?_;intro G kv w2 NK H2 I2;have NK:=L_ NK;have SK:=NK.out.shape;obtain ⟨b1,x1,y1,t1,x2,y2,t2,x3,y3,t3,hq⟩:=SK;subst hq)
 obtain ⟨a1,c1,b3,o3,c3,a5,c5,hq,hX,-⟩:=zmn NK.out (by have:=HKL.out;omega)
 cases hq
 have HX:Hid (∀ w,Sat G w→w.cell? ⟨b3,o3+i,none⟩=some (.int .i64 kid)):=L_ (by rw [←HK.out];exact hX i HKL.out.2.2.2)
 obtain ⟨n3,hn3⟩:∃ n,n=K.length:=⟨_,rfl⟩
 obtain ⟨n5,hn5⟩:∃ n,n=B.length:=⟨_,rfl⟩
 have HN:=L_ (And.intro hn3 hn5)
 rw [←hn3,←hn5] at NK ⊢
 have i0:(0:Int)≤(i:Int):=by omega
 have i1:(i:Int)<(n3:Int):=by have:=HKL.out;omega
 have i2:(n3:Int)≤1000:=by have:=HKL.out;omega
 clear hX hn3 hn5
 have H3:=(H2.new (.cells #[.bool false,.slice x1 0 t1,.slice (some ⟨b3,o3,none⟩) n3 t2,.slice x3 n5 t3] 151)).of_eq (show _=zaq c r e (L++M)*(pts w2.heap.size (.cells #[.bool false,.slice x1 0 t1,.slice (some ⟨b3,o3,none⟩) n3 t2,.slice x3 n5 t3] 151)*(pts b0 zP*(G*(A*F)))) from by ac_rfl)
 have I3:=(I1.trans I2).alloc (.cells #[.bool false,.slice x1 0 t1,.slice (some ⟨b3,o3,none⟩) n3 t2,.slice x3 n5 t3] 151)
 generalize w2.alloc _=w3 at *
 generalize w2.heap.size=gn at *
 clear H1 H2 I1 I2
 obtain ⟨u0,u1,u2,u3⟩:=nd4 H3.right
 go_upto_region 7 with (go_at_call 108;with_reducible refine zm5 N4.out (NK.out.imp (fun _ hw=>hw.right.right.right.left)) (by have:=HKL.out;omega) key H3 HI ?_;intro w4 H4 I4)
 obtain ⟨u0,u1,u2,u3⟩:=nd4 H4.right
 have x0:=HX.out _ H4.right.right.right.left
 have H5:=(zaq.perm PK.out H4).of_eq (show _=zaq c r e (Lc++((id,Ky.inn K B)::(L1++(L2++M))))*(A*(pts gn (.cells #[.bool false,.slice x1 0 t1,.slice (some ⟨b3,o3,none⟩) n3 t2,.slice x3 n5 t3] 151)*(pts b0 zP*(G*F)))) from by ac_rfl)
 go_upto_region 8 with (go_at_call 89;with_reducible refine IH.out HC.out.1 HC.out.2.1 HC.out.2.2.1 HC.out.2.2.2 HDN.out H5 ?_;intro x a6 n6 c6 a7 n7 c7 w6 D6 I6;have D6:=L_ D6)
 have I7:=(((I3.trans I4).trans I6).alloc (.cells #[.slice a6 n6 c6,.slice a7 n7 c7] 147))
 clear H3 H4 H5 I3 I4 I6 u0 u1 u2 u3 x0 i0 i1 i2
 rcases D6.out with ⟨rfl,kids,keys,Lc',c',D,H6⟩ | ⟨rfl,hf,H6⟩
 ·have ST:=L_ (HS.out _ _ _ _ D)
  clear D6 D HC IH HX
  have H7:=(H6.new (.cells #[.slice a6 n6 c6,.slice a7 n7 c7] 147))
  have hkl:=zi6 H7.right
  have hyl:=zi6 H7.right.right
  have H8:=H7.of_eq (show _=zaq c r e (Lc'++((id,Ky.inn K B)::(L1++(L2++M))))*(pts gn (.cells #[.bool false,.slice x1 0 t1,.slice (some ⟨b3,o3,none⟩) n3 t2,.slice x3 n5 t3] 151)*(pts w6.heap.size (.cells #[.slice a6 n6 c6,.slice a7 n7 c7] 147)*(za1 (.slice a6 n6 c6) kids*(zbj (.slice a7 n7 c7) keys*(G*(pts b0 zP*(A*F))))))) from by unfold za1 zbj;ac_rfl)
  have RD1:=L_ (Reads.zau (za3 H7.right.left) (by have:=ST.out.few;omega))
  have RD2:=L_ (Reads.zau (za3 H7.right.right.left) (by have:=ST.out.few;omega))
  have HKN:=L_ (And.intro hkl hyl)
  generalize w6.alloc _=w7 at *
  generalize w6.heap.size=gp at *
  clear H6 H7 hkl hyl
  obtain ⟨kk,hkk⟩:∃ kk,kk=Tb.swK K i (i+1) kids:=⟨_,rfl⟩
  obtain ⟨bb,hbb⟩:∃ bb,bb=Tb.swB B i (i+1) kids keys:=⟨_,rfl⟩
  have HM:=ST.out.mid
  rw [←hkk,←hbb] at HM
  have HM2:=L_ (HM.imp (fun h=>And.intro h.2.1 (And.intro h.2.2.2.1 h.2.2.2.2)) (fun h=>h))
  have HM:=L_ HM
  have HF:=L_ ST.out.few
  obtain ⟨m,hm⟩:∃ m,m=kk.length:=⟨_,rfl⟩
  obtain ⟨m',hm'⟩:∃ m',m'=bb.length:=⟨_,rfl⟩
  have HMM:=L_ (And.intro hm hm')
  obtain ⟨it,hit⟩:∃ it:Nat,it=i+1:=⟨_,rfl⟩
  have e1i:(i:Int)+1=(it:Int):=by omega
  have b5:(it:Int)≤2000:=by have:=HKL.out;omega
  have b6:(i:Int)≤2000:=by omega
  have HT:=L_ hit
  rw [←hit] at hkk hbb
  have HKK:=L_ (And.intro hkk hbb)
  obtain ⟨u0,u1,u2,u3⟩:=nd4 H8.right
  obtain ⟨p0,p1⟩:=nd2 H8.right.right
  clear ST hit hkk hbb hm hm'
  go_upto_region 11 with (go_at_call 119;(with_reducible refine swap_any (f:=i) (t:=it) HKL.out.2.2.1 (by have:=HKL.out;omega) (by have:=HT.out;omega) (by have:=HT.out;have:=HKL.out;omega) (RD1.out.imp (fun _ hw=>za3 hw.right.right.right.left)) (RD2.out.imp (fun _ hw=>za3 hw.right.right.right.right.left)) HF.out.2 (by have:=HF.out;omega) (by have:=HF.out;omega) (NK.out.imp (fun _ hw=>hw.right.right.right.right.right.left)) H8 ?_);intro G8 v8 w8 N8 H9 I9;have N8:Hid (NdV G8 v8 (Ky.inn kk bb)):=L_ (xag HKK.out.1 HKK.out.2 N8);have N9:=z3r N8.out HMM.out.1 HMM.out.2;obtain ⟨g1,k1,g2,k2,g3,k3,hq⟩:=N9;subst hq;obtain ⟨m0,m1,m2,m3⟩:=nd4 H9.right.right;obtain ⟨f0,f1,f2,f3⟩:=zd6 H9.right.right)
  have K10:=((H9.of_eq (show _=(pts gn (.cells #[.bool false,.slice x1 0 t1,.slice (some ⟨b3,o3,none⟩) n3 t2,.slice x3 n5 t3] 151)*(zaq c r e (Lc'++((id,Ky.inn K B)::(L1++(L2++M))))*(pts gp (.cells #[.slice a6 n6 c6,.slice a7 n7 c7] 147)*(G8*(pts b0 zP*(A*F))))))*(za1 (.slice a6 n6 c6) kids*(zbj (.slice a7 n7 c7) keys*G)) from by unfold za1 zbj;ac_rfl)).left).cells4 (x':=.bool false) (y':=.slice g1 0 k1) (z':=.slice g2 m k2) (u':=.slice g3 m' k3)
  have J10:=(((((I7.trans I9).setCell ⟨gn,0,none⟩ (.bool false)).setCell ⟨gn,1,none⟩ (.slice g1 0 k1)).setCell ⟨gn,2,none⟩ (.slice g2 m k2)).setCell ⟨gn,3,none⟩ (.slice g3 m' k3))
  generalize (((w8.setCell ⟨gn,0,none⟩ (.bool false)).setCell ⟨gn,1,none⟩ (.slice g1 0 k1)).setCell ⟨gn,2,none⟩ (.slice g2 m k2)).setCell ⟨gn,3,none⟩ (.slice g3 m' k3)=W8 at *
  have K10:=K10.of_eq (show _=zaq c r e (Lc'++((id,Ky.inn K B)::(L1++(L2++M))))*(pts gn (.cells #[.bool false,.slice g1 0 k1,.slice g2 m k2,.slice g3 m' k3] 151)*(pts gp (.cells #[.slice a6 n6 c6,.slice a7 n7 c7] 147)*(G8*(pts b0 zP*(A*F))))) from by ac_rfl)
  clear H8 H9 I7 I9 m0 m1 m2 m3 f0 f1 f2 f3 u0 u1 u2 u3 p0 p1
  obtain ⟨u0,u1,u2,u3⟩:=nd4 K10.right
  obtain ⟨p0,p1⟩:=nd2 K10.right.right
  have KS:=(zaq.perm zz7 K10).of_eq (show _=zaq c r e ((id,Ky.inn K B)::((L1++(Lc'++L2))++M))*((pts b0 zP*(pts gp (.cells #[.slice a6 n6 c6,.slice a7 n7 c7] 147)*(pts gn (.cells #[.bool false,.slice g1 0 k1,.slice g2 m k2,.slice g3 m' k3] 151)*G8)))*(A*F)) from by ac_rfl)
  by_cases q1:n6=1
  ·by_cases q2:1<m
   ·have q3:(1:Int)<(m:Int):=by omega
    have q4:((n6:Int) == 1)=true:=beq_iff_eq.2 (by omega)
    have h6:kids.length=1:=by have:=HKN.out.1;omega
    have MI:Hid (Tb.Mid h lo hi K.length d L kk bb (op (e1++(ec++e2))) (L1++(Lc'++L2))):=L_ (by
     rcases HM.out with ⟨e,_⟩ | mm
     ·rw [e] at h6;cases h6
     ·exact mm)
    have IK:Hid (i<kk.length∧2≤kk.length):=L_ (by
     have e:=HKK.out.1
     have e2:=Tb.zv4 K i it kids (by have:=HT.out;omega) (by have:=HT.out;have:=HKL.out;omega)
     rw [←e] at e2
     have:=HKL.out
     have:=HT.out
     have:=HMM.out.1
     omega)
    have KF:=zaq.perm (PM.out Lc') K10
    clear KS K10 h6
    go_upto_region 13 with (go_at_call 120;(with_reducible refine xbl (F1:=G8) (fun _ hw=>hw.right.right.left) (Rest:=(id,Ky.inn K B)::M) MI.out IK.out.2 IK.out.1 d3 hk N8.out KF ?_);intro G7 v7 kk' bb' K'' w7 M7 N7 H12 I12;have N7:=L_ N7;have M7:=L_ M7;have N6:=z3s N7.out;obtain ⟨g4,k4,g5,k5,g6,k6,hq⟩:=N6;subst hq;obtain ⟨m0,m1,m2,m3⟩:=nd4 H12.right.right;obtain ⟨f0,f1,f2,f3⟩:=zd6 H12.right.right)
    have K13:=((zaq.perm List.perm_middle H12).of_eq (show _=pts gn (.cells #[.bool false,.slice g1 0 k1,.slice g2 m k2,.slice g3 m' k3] 151)*(zaq c r e ((id,Ky.inn K B)::(K''++M))*((pts gp (.cells #[.slice a6 n6 c6,.slice a7 n7 c7] 147)*(pts b0 zP*(A*F)))*(G7*G8))) from by ac_rfl)).cells4 (x':=.bool false) (y':=.slice g4 0 k4) (z':=.slice g5 kk'.length k5) (u':=.slice g6 bb'.length k6)
    have J13:=((((J10.trans I12).setCell ⟨gn,0,none⟩ (.bool false)).setCell ⟨gn,1,none⟩ (.slice g4 0 k4)).setCell ⟨gn,2,none⟩ (.slice g5 kk'.length k5)).setCell ⟨gn,3,none⟩ (.slice g6 bb'.length k6)
    generalize ((((w7.setCell ⟨gn,0,none⟩ (.bool false)).setCell ⟨gn,1,none⟩ (.slice g4 0 k4)).setCell ⟨gn,2,none⟩ (.slice g5 kk'.length k5)).setCell ⟨gn,3,none⟩ (.slice g6 bb'.length k6))=W7 at *
    clear m0 m1 m2 m3 f0 f1 f2 f3 u0 u1 u2 u3 p0 p1 KF H12 I12 q3 q4
    have KT:=K13.of_eq (show _=zaq c r e ((id,Ky.inn K B)::(K''++M))*((pts b0 zP*(pts gp (.cells #[.slice a6 n6 c6,.slice a7 n7 c7] 147)*(pts gn (.cells #[.bool false,.slice g4 0 k4,.slice g5 kk'.length k5,.slice g6 bb'.length k6] 151)*(G7*G8))))*(A*F)) from by ac_rfl)
    obtain ⟨u0,u1,u2,u3⟩:=nd4 K13
    go_wp2_with (go_at_call 88;(with_reducible refine zl3 (L:=L) (M:=M) (.inr M7.out) HID.out hk (N7.out.imp (fun _ hw=>hw.left.right.right.right)) KT ?_);intro x a1 n1 c1 a2 n2 c2 w9 D9 I9;have D9:=L_ D9;have D8:=D9.out.frame;obtain ⟨Y,H11,hY⟩:=D8;have HY:=L_ hY;clear hY D9;have K11:=(H11.of_eq (show _=(pts b0 zP*(Y*(A*F)))*(pts gp (.cells #[.slice a6 n6 c6,.slice a7 n7 c7] 147)*(pts gn (.cells #[.bool false,.slice g4 0 k4,.slice g5 kk'.length k5,.slice g6 bb'.length k6] 151)*(G7*G8))) from by ac_rfl)).left;obtain ⟨y0,y1⟩:=nd2 K11;obtain ⟨z0,z1⟩:=ztg K11)
    have K:=K11.cells2 (x':=.slice a1 n1 c1) (y':=.slice a2 n2 c2)
    have J:=((J13.trans I9).setCell ⟨b0,0,none⟩ (.slice a1 n1 c1)).setCell ⟨b0,1,none⟩ (.slice a2 n2 c2)
    generalize (w9.setCell ⟨b0,0,none⟩ (.slice a1 n1 c1)).setCell ⟨b0,1,none⟩ (.slice a2 n2 c2)=W9 at *
    clear y0 y1 z0 z1
    obtain ⟨y0,y1⟩:=nd2 K
    exact bodyPost_ret (v:=.tuple #[.agg #[.slice a1 n1 c1,.slice a2 n2 c2],.int .i64 x]) (by simp [results,Tryz.results89,go_sem,y0,y1]) rfl (HH.out _ _ _ _ _ _ _ W9 ((HY.out _ K.right).more (by omega)) J)
   ·have q3:decide ((1:Int)<(m:Int))=false:=decide_eq_false (by omega)
    have q4:((n6:Int) == 1)=true:=beq_iff_eq.2 (by omega)
    go_wp2_with (go_at_call 88;(with_reducible refine zl3 (L:=L) (M:=M) HM2.out HID.out hk (N8.out.imp (fun _ hw=>hw.left.right.right.right)) KS ?_);intro x a1 n1 c1 a2 n2 c2 w9 D9 I9;have D9:=L_ D9;have D8:=D9.out.frame;obtain ⟨Y,H11,hY⟩:=D8;have HY:=L_ hY;clear hY D9;have K11:=(H11.of_eq (show _=(pts b0 zP*(Y*(A*F)))*(pts gp (.cells #[.slice a6 n6 c6,.slice a7 n7 c7] 147)*(pts gn (.cells #[.bool false,.slice g1 0 k1,.slice g2 m k2,.slice g3 m' k3] 151)*G8)) from by ac_rfl)).left;obtain ⟨y0,y1⟩:=nd2 K11;obtain ⟨z0,z1⟩:=ztg K11)
    have K:=K11.cells2 (x':=.slice a1 n1 c1) (y':=.slice a2 n2 c2)
    have J:=((J10.trans I9).setCell ⟨b0,0,none⟩ (.slice a1 n1 c1)).setCell ⟨b0,1,none⟩ (.slice a2 n2 c2)
    generalize (w9.setCell ⟨b0,0,none⟩ (.slice a1 n1 c1)).setCell ⟨b0,1,none⟩ (.slice a2 n2 c2)=W9 at *
    clear y0 y1 z0 z1
    obtain ⟨y0,y1⟩:=nd2 K
    exact bodyPost_ret (v:=.tuple #[.agg #[.slice a1 n1 c1,.slice a2 n2 c2],.int .i64 x]) (by simp [results,Tryz.results89,go_sem,y0,y1]) rfl (HH.out _ _ _ _ _ _ _ W9 ((HY.out _ K.right).more (by omega)) J)
  ·have q3:((n6:Int) == 1)=false:=beq_eq_false_iff_ne.2 (by omega)
   go_wp2_with (go_at_call 88;(with_reducible refine zl3 (L:=L) (M:=M) HM2.out HID.out hk (N8.out.imp (fun _ hw=>hw.left.right.right.right)) KS ?_);intro x a1 n1 c1 a2 n2 c2 w9 D9 I9;have D9:=L_ D9;have D8:=D9.out.frame;obtain ⟨Y,H11,hY⟩:=D8;have HY:=L_ hY;clear hY D9;have K11:=(H11.of_eq (show _=(pts b0 zP*(Y*(A*F)))*(pts gp (.cells #[.slice a6 n6 c6,.slice a7 n7 c7] 147)*(pts gn (.cells #[.bool false,.slice g1 0 k1,.slice g2 m k2,.slice g3 m' k3] 151)*G8)) from by ac_rfl)).left;obtain ⟨y0,y1⟩:=nd2 K11;obtain ⟨z0,z1⟩:=ztg K11)
   have K:=K11.cells2 (x':=.slice a1 n1 c1) (y':=.slice a2 n2 c2)
   have J:=((J10.trans I9).setCell ⟨b0,0,none⟩ (.slice a1 n1 c1)).setCell ⟨b0,1,none⟩ (.slice a2 n2 c2)
   generalize (w9.setCell ⟨b0,0,none⟩ (.slice a1 n1 c1)).setCell ⟨b0,1,none⟩ (.slice a2 n2 c2)=W9 at *
   clear y0 y1 z0 z1
   obtain ⟨y0,y1⟩:=nd2 K
   exact bodyPost_ret (v:=.tuple #[.agg #[.slice a1 n1 c1,.slice a2 n2 c2],.int .i64 x]) (by simp [results,Tryz.results89,go_sem,y0,y1]) rfl (HH.out _ _ _ _ _ _ _ W9 ((HY.out _ K.right).more (by omega)) J)
 ·clear D6
  have H7:=((H6.new (.cells #[.slice a6 n6 c6,.slice a7 n7 c7] 147)).of_eq (show _=pts b0 zP*(zbl c r e*(A*F))*(pts w6.heap.size (.cells #[.slice a6 n6 c6,.slice a7 n7 c7] 147)*(pts gn (.cells #[.bool false,.slice x1 0 t1,.slice (some ⟨b3,o3,none⟩) n3 t2,.slice x3 n5 t3] 151)*G)) from by ac_rfl)).left
  obtain ⟨y0,y1⟩:=nd2 H7
  obtain ⟨f0,f1⟩:=ztg H7
  have K7:=H7.cells2 (x':=.slice none 0 0) (y':=.slice none 0 0)
  have J7:=(I7.setCell ⟨b0,0,none⟩ (.slice none 0 0)).setCell ⟨b0,1,none⟩ (.slice none 0 0)
  go_wp2_with fail
  generalize ((w6.alloc _).setCell ⟨b0,0,none⟩ (.slice none 0 0)).setCell ⟨b0,1,none⟩ (.slice none 0 0)=W at *
  clear y0 y1 f0 f1
  obtain ⟨y0,y1⟩:=nd2 K7
  exact bodyPost_ret (v:=.tuple #[.agg #[.slice none 0 0,.slice none 0 0],.int .i64 2]) (by simp [results,Tryz.results89,go_sem,y0,y1]) rfl (HH.out 2 _ _ _ _ _ _ W (.inr ⟨rfl,by have:=HB.out;omega,K7.right⟩) J7)
theorem zpu (hk:c.k.n≤3000) (eg:∀ args w,(callFunc g args).run Tryz.prog w=.ok (.enter g args) w) (o:Tb.Loc op P key d) (hdo:zgw A g cb op P):∀ h,zgr c r e A key g cb op P d h
 | 0=>zxi hk eg o hdo
 | h+1=>zxj hk o (zpu hk eg o hdo h)
end
section
variable {c:Cq} {r e:Int} {F:Asn} {w:World} {R:Ending→World→Prop}
theorem zoz {h g cc:Nat} {id:Int} {es:List Ky.En} {L:Tb.Pg} (s:Tb.Sub h none none id es L cc) (hg:11*h+min cc 12≤12+g) (hh:h<24) (hk:c.k.n≤3000) (H:Sat (zaq c r e L*F) w)
  (hR:∀ id' L' h' c' w',Tb.Sub h' none none id' es L' c'→11*h'+min c' 12≤12+g→Tb.psi L'=Tb.psi L→Sat (zaq c r e L'*F) w'→Io w w'→R (.returned (.tuple #[.int .i64 id',.int .i64 0])) w') :
  Calls Tryz.prog 121 #[.pointer (some ⟨c.tr,0,none⟩),.int .i64 id] w R:=by
 have HH:=L_ hR
 have HS:Hid (∃ h0 c0,Tb.Sub h0 none none id es L c0∧11*h0+min c0 12≤12+g∧0+h0<24):=L_ ⟨h,cc,s,hg,by omega⟩
 clear hR s hg hh
 go_enter Tryz.func121,Tryz.ntmps121
 go_wp2_with fail
 go_loopw [1,6] (fun x y wr=>∃ (id0:Int) (dp:Nat) (L0:Tb.Pg),x=.int .i64 id0∧y=.int .i64 (dp:Int)∧dp≤24∧Hid (∃ h0 c0,Tb.Sub h0 none none id0 es L0 c0∧11*h0+min c0 12≤12+g∧dp+h0<24∧Tb.psi L0=Tb.psi L)∧Sat (zaq c r e L0*F) wr∧Io w wr) (fun _ y _=>24 - (RowKit.intOf y).toNat)
 case atStart=>exact ⟨id,0,L,rfl,rfl,by omega,L_ (by obtain ⟨h0,c0,q1,q2,q3⟩:=HS.out;exact ⟨h0,c0,q1,q2,by omega,rfl⟩),H,Io.refl _⟩
 case round =>
  obtain ⟨id0,dp,L0,rfl,rfl,hdp,HS2,Hk,Ik⟩:=hrel
  clear H HS
  obtain ⟨h0,c0,q1,q2,q3,q4⟩:=HS2.out
  have d1:(dp:Int)<24:=by omega
  have hid:=q1.bounds.2
  rcases q1.zss with ⟨rfl,rfl,rfl,z1,z2⟩ | ⟨h1,K,B,L1,rfl,n,z1,z2,z3,rfl⟩
  ·have N1:Hid ((id0,Ky.lf es)∈[(id0,Ky.lf es)]):=L_ (by simp)
   have N2:=L_ (Ky.NdR.leaf z1)
   have N3:Hid (Ky.zbf (Ky.lf es)≤240):=L_ z2
   have Q:=L_ (And.intro q1 (And.intro q2 q4))
   clear q1 q2 q3 q4 hid z1 z2 HS2
   go_upto_region 4 with (go_at_call 106;(with_reducible refine zcy N1.out N2.out N3.out d1 Hk ?_);intro G kv w2 NK H2 I2;have NK:=L_ NK;have SK:=NK.out.shape;obtain ⟨b1,x1,y1,t1,x2,y2,t2,x3,y3,t3,hq⟩:=SK;subst hq)
   obtain ⟨rfl,-,-⟩:=zh4 NK.out
   have H3:=(H2.new (.cells #[.bool true,.slice x1 y1 t1,.slice x2 y2 t2,.slice x3 y3 t3] 151))
   have I3:=(Ik.trans I2).alloc (.cells #[.bool true,.slice x1 y1 t1,.slice x2 y2 t2,.slice x3 y3 t3] 151)
   generalize w2.alloc _=w3 at *
   generalize w2.heap.size=gn at *
   obtain ⟨u0,u1,u2,u3⟩:=nd4 H3
   go_wp2_with fail
   exact HH.out id0 _ 0 12 _ Q.out.1 Q.out.2.1 Q.out.2.2 H3.right.right I3
  ·have N1:Hid ((id0,Ky.inn K B)∈L0):=L_ (by simp [z3.mem_iff])
   have hlen:=n.len
   have N2:=L_ (Ky.NdR.inner (Tb.zcx n z2))
   have N3:Hid (Ky.zbf (Ky.inn K B)≤240):=L_ z1
   obtain ⟨n3,hn3⟩:∃ n,n=K.length:=⟨_,rfl⟩
   obtain ⟨n5,hn5⟩:∃ n,n=B.length:=⟨_,rfl⟩
   have HN:=L_ (And.intro hn3 hn5)
   have hpos:0<K.length:=by omega
   by_cases h1k:K.length=1
   ·have Q : Hid (∃ L' c', L0.Perm ((id0, Ky.inn K B) :: L') ∧ Tb.Sub h1 none none (K[0]'hpos) es L' c' ∧ 11 * h1 + min c' 12 ≤ 12 + g ∧ dp + 1 + h1 < 24 ∧ Tb.psi L' = Tb.psi L) := L_ (by
     rw [h1k] at q1 q2
     obtain ⟨k0,hK⟩:=List.length_eq_one_iff.1 h1k
     have hB:B=[]:=List.eq_nil_of_length_eq_zero (by omega)
     subst hK hB
     obtain ⟨s0,r0⟩:=n
     cases r0
     obtain ⟨c1,s0⟩:=s0
     refine ⟨_,c1,z3,by simpa using s0,by omega,by omega,?_⟩
     rw [←q4,Tb.zlt z3]
     simp [Tb.psi,Tb.wt,Ky.inn])
    have i1:¬ (1:Int)<(n3:Int):=by omega
    have i2:decide ((1:Int)<(n3:Int))=false:=decide_eq_false i1
    have i3:(0:Int)<(n3:Int):=by omega
    have xgc:=L_ hpos
    clear q1 q2 q3 q4 hid n z1 z2 hlen HS2 hn3 hn5
    go_upto_region 4 with (go_at_call 106;(with_reducible refine zcy N1.out N2.out N3.out d1 Hk ?_);intro G kv w2 NK H2 I2;have NK:=L_ NK;have SK:=NK.out.shape;obtain ⟨b1,x1,y1,t1,x2,y2,t2,x3,y3,t3,hq⟩:=SK;subst hq)
    obtain ⟨a1,c1,b3,o3,c3,a5,c5,hq,hX,-⟩:=zmn NK.out xgc.out
    cases hq
    have hx0:=hX 0 xgc.out
    simp only [Nat.add_zero] at hx0
    rw [←HN.out.1,←HN.out.2]
    have H3:=(H2.new (.cells #[.bool false,.slice x1 0 t1,.slice (some ⟨b3,o3,none⟩) n3 t2,.slice x3 n5 t3] 151)).of_eq (show _=zaq c r e L0*(pts w2.heap.size (.cells #[.bool false,.slice x1 0 t1,.slice (some ⟨b3,o3,none⟩) n3 t2,.slice x3 n5 t3] 151)*(G*F)) from by ac_rfl)
    have I3:=(Ik.trans I2).alloc (.cells #[.bool false,.slice x1 0 t1,.slice (some ⟨b3,o3,none⟩) n3 t2,.slice x3 n5 t3] 151)
    generalize w2.alloc _=w3 at *
    generalize w2.heap.size=gn at *
    obtain ⟨kid, ztx⟩ : ∃ kid, K[0]'xgc.out = kid := ⟨_, rfl⟩
    rw [ztx] at hx0 Q
    have HX:=L_ hx0
    obtain ⟨L',c',p1,p2,p3,p4,p5⟩:=Q.out
    have QQ:=L_ (And.intro p2 (And.intro p3 (And.intro p4 p5)))
    have H4:=zaq.perm p1 H3
    obtain ⟨u0,u1,u2,u3⟩:=nd4 H4.right
    obtain ⟨v0,v1,v2⟩:=zaq.cells H4
    clear H2 I2 H3 hX hx0 Q p2 p3 p4 p5 Hk Ik ztx
    go_wp2_with (go_at_call 115;(with_reducible refine zm4 hk H4 ?_);intro w4 H5 I4;obtain ⟨u0,u1,u2,u3⟩:=nd4 H5.right;have x0:=HX.out _ H5.right.right.left)
    go_roundw
    case rel=>exact ⟨kid,dp+1,L',rfl,by go_num,by omega,L_ ⟨h1,c',QQ.out.1,QQ.out.2.1,QQ.out.2.2.1,QQ.out.2.2.2⟩,(H5.of_eq (show _=(zaq c r e L'*F)*(pts gn (.cells #[.bool false,.slice x1 0 t1,.slice (some ⟨b3,o3,none⟩) n3 t2,.slice x3 n5 t3] 151)*G) from by ac_rfl)).left,I3.trans I4⟩
    case measure=>simp [RowKit.intOf];omega
   ·have i1:(1:Int)<(n3:Int):=by omega
    have Q:=L_ (And.intro q1 (And.intro q2 q4))
    have xgc:=L_ hpos
    clear q1 q2 q3 q4 hid n z1 z2 hlen HS2 hn3 hn5 z3
    go_upto_region 4 with (go_at_call 106;(with_reducible refine zcy N1.out N2.out N3.out d1 Hk ?_);intro G kv w2 NK H2 I2;have NK:=L_ NK;have SK:=NK.out.shape;obtain ⟨b1,x1,y1,t1,x2,y2,t2,x3,y3,t3,hq⟩:=SK;subst hq)
    obtain ⟨a1,c1,b3,o3,c3,a5,c5,hq,hX,-⟩:=zmn NK.out xgc.out
    cases hq
    rw [←HN.out.1,←HN.out.2]
    have H3:=(H2.new (.cells #[.bool false,.slice x1 0 t1,.slice (some ⟨b3,o3,none⟩) n3 t2,.slice x3 n5 t3] 151)).of_eq (show _=zaq c r e L0*(pts w2.heap.size (.cells #[.bool false,.slice x1 0 t1,.slice (some ⟨b3,o3,none⟩) n3 t2,.slice x3 n5 t3] 151)*(G*F)) from by ac_rfl)
    have I3:=(Ik.trans I2).alloc (.cells #[.bool false,.slice x1 0 t1,.slice (some ⟨b3,o3,none⟩) n3 t2,.slice x3 n5 t3] 151)
    generalize w2.alloc _=w3 at *
    generalize w2.heap.size=gn at *
    obtain ⟨u0,u1,u2,u3⟩:=nd4 H3.right
    clear hX
    go_wp2_with fail
    exact HH.out id0 _ _ _ _ Q.out.1 Q.out.2.1 Q.out.2.2 (H3.of_eq (show _=(zaq c r e L0*F)*(pts gn (.cells #[.bool false,.slice x1 0 t1,.slice (some ⟨b3,o3,none⟩) n3 t2,.slice x3 n5 t3] 151)*G) from by ac_rfl)).left I3
end
theorem xah {u v:Value} {kids:List Int} {keys:List Ky.Nm} {F:Asn} {w:World} (H:Sat (za1 u kids*(zbj v keys*F)) w) (h1:kids.length≤5000) (h2:keys.length≤5000):NdV (za1 u kids*(zbj v keys*emp)) (.agg #[.bool false,.slice none 0 0,u,v]) (Ky.inn kids keys) :=
 ⟨_,_,_,rfl,⟨zas _ none 0,ze5⟩,⟨(Reads.zau (za3 H.left) (by omega)).imp (fun _ hw=>za3 hw.left),za2 H⟩,(Reads.zau (za3 H.right.left) (by omega)).imp (fun _ hw=>hw.right),za2 H.right⟩
theorem sat_nv {A B C F:Asn} {w:World} (h:Sat (A*(B*(C*F))) w):Sat (B*(C*emp)) w:=by
 rw [zlz]
 exact (h.right.of_eq (show _=(B*C)*F from by ac_rfl)).left
section
variable {c:Cq} {r e:Int} {F:Asn} {w:World} {R:Ending→World→Prop}
def Grown (c:Cq) (r e:Int) (F:Asn) (es:List Ky.En) (g q:Nat) (B:Int) (root x:Int) (w:World):Prop :=
 (x=0∧∃ L,Tb.Tree root es L g∧Tb.psi L=q∧Sat (zaq c r e L*F) w)∨(x=2∧c.k.room≤B∧Sat (zbl c r e*F) w)
theorem z5f {u v:Value} {L:Tb.Pg} (H:Sat (za1 u []*(zbj v []*(zaq c r e L*F))) w)
  (hR:∀ w',Sat (zaq c r e L*F) w'→Io w w'→R (.returned (.tuple #[.int .i64 0,.int .i64 0])) w') :
  Calls Tryz.prog 90 #[.pointer (some ⟨c.tr,0,none⟩),.agg #[u,v]] w R:=by
 have HH:=L_ hR
 obtain ⟨a1,n1,c1,rfl⟩:=zaf H
 obtain ⟨a2,n2,c2,rfl⟩:=zaf H.right
 obtain rfl:n1=0:=zi6 H
 obtain rfl:n2=0:=zi6 H.right
 have H1:=(H.new (.cells #[.slice a1 0 c1,.slice a2 0 c2] 147))
 have I1:=io1 H1 (Io.refl w)
 clear hR
 go_enter Tryz.func90,Tryz.ntmps90
 obtain ⟨u0,u1⟩:=nd2 H1
 go_wp2_with fail
 refine wp_loop_rounds 1 ?_
 rw [rounds_succ]
 go_wp2_with fail
 exact HH.out _ H1.right.right.right I1
theorem zyv {h g cc k:Nat} {id:Int} {u v:Value} {es:List Ky.En} {L:Tb.Pg} (s:Tb.Sub h none none id es L cc) (hg:11*h+min cc 12≤12+g) (hh:h<24) (hk:c.k.n≤3000) (H:Sat (za1 u [id]*(zbj v []*(zaq c r e L*F))) w)
  (hR:∀ id' L' w',Tb.Tree id' es L' g→Tb.psi L'=Tb.psi L→Sat (zaq c r e L'*F) w'→Io w w'→R (.returned (.tuple #[.int .i64 id',.int .i64 0])) w') :
  Calls Tryz.prog 90 #[.pointer (some ⟨c.tr,0,none⟩),.agg #[u,v]] w R:=by
 have HH:=L_ hR
 have Q:=L_ (And.intro s (And.intro hg hh))
 obtain ⟨a2,n2,c2,rfl⟩:=zaf H.right
 obtain ⟨b1,c1,rfl⟩:=zcv (by simp) H
 obtain rfl:n2=0:=zi6 H.right
 have hx:=za4 zba H 0 (by simp) 0 (by omega) (.int .i64 id) rfl
 simp only [Nat.mul_one,Nat.add_zero,Nat.zero_mul] at hx
 simp only [List.length_singleton] at H hx ⊢
 have H1:=(H.new (.cells #[.slice (some ⟨b1,0,none⟩) 1 c1,.slice a2 0 c2] 147))
 have I1:=io1 H1 (Io.refl w)
 have hx1:=za4 zba H1.right 0 (by simp) 0 (by omega) (.int .i64 id) rfl
 simp only [Nat.mul_one,Nat.add_zero,Nat.zero_mul] at hx1
 clear hR s hg hh hx
 go_enter Tryz.func90,Tryz.ntmps90
 obtain ⟨u0,u1⟩:=nd2 H1
 have H2:=(H1.of_eq (show _=(zaq c r e L*F)*(pts w.heap.size (.cells #[.slice (some ⟨b1,0,none⟩) 1 c1,.slice a2 0 c2] 147)*(za1 (.slice (some ⟨b1,0,none⟩) 1 c1) [id]*zbj (.slice a2 0 c2) [])) from by unfold za1 zbj;ac_rfl)).left
 go_wp2_with fail
 refine wp_loop_rounds 1 ?_
 rw [rounds_succ]
 go_wp2_with (go_at_call 121;(with_reducible refine zoz Q.out.1 Q.out.2.1 Q.out.2.2 hk H2 ?_);intro id' L' h' c' w2 q1 q2 q3 H3 I3;have Q3:=L_ (And.intro q1 (And.intro q2 q3)))
 exact HH.out id' L' w2 (.inr ⟨h',c',Q3.out.1,Q3.out.2.1⟩) Q3.out.2.2 H3 (I1.trans I3)
theorem zq3 {h g cc d:Nat} {L0 L:Tb.Pg} {k1 k2:Int} {y:Ky.Nm} {u v:Value} {es:List Ky.En} {c':Nat} (p:Tb.Done h none none cc d L0 [k1,k2] [y] es L c') (hg:11*h+min cc 12≤12+g) (hh:h<23) (hk:c.k.n≤3000) (H:Sat (za1 u [k1,k2]*(zbj v [y]*(zaq c r e L*F))) w)
  (hR:∀ id' x w',Grown c r e F es (g+min d 1) (Tb.psi L) (2+(L.length:Int)) id' x w'→Io w w'→R (.returned (.tuple #[.int .i64 id',.int .i64 x])) w') :
  Calls Tryz.prog 90 #[.pointer (some ⟨c.tr,0,none⟩),.agg #[u,v]] w R:=by
 have HH:=L_ hR
 have G2:Hid (∀ {id:Int},Tb.zjx id→Ky.NdR (Ky.inn [k1,k2] [y])∧Tb.Sub (h+1) none none id es ((id,Ky.inn [k1,k2] [y])::L) 2∧11*(h+1)+min 2 12≤12+(g+min d 1)):=L_ (fun hid=>Tb.zq3 p hg hid)
 have HNR:Hid (Ky.NdR (Ky.inn [k1,k2] [y])):=L_ (G2.out (id:=2) ⟨by omega,by omega⟩).1
 have HZ:Hid (Ky.zbf (Ky.inn [k1,k2] [y])≤240):=L_ (by
  obtain ⟨pp,_,_,_,_⟩:=p
  cases pp with
  | two s1 s2 hy =>
   show 4+Ky.zah [y]≤240
   simp only [Ky.zah];omega)
 have HNE:Hid (0<(Ky.inn [k1,k2] [y]).es.length+(Ky.inn [k1,k2] [y]).kids.length):=L_ (by simp [Ky.inn])
 have HL0:Hid (∀ q∈L,q.1≠0):=L_ (fun q hq=>by have:=xdh (zaq.pg H.right.right) q hq;omega)
 have hhh:h+1<24:=by omega
 have NV:=L_ (xah H (by simp) (by simp))
 obtain ⟨b1,c1,rfl⟩:=zcv (by simp) H
 obtain ⟨b2,c2,rfl⟩:=zcv (by simp) H.right
 simp only [List.length_cons,List.length_nil,Nat.zero_add,Nat.reduceAdd] at H NV ⊢
 have H1:=((H.new (.cells #[.slice (some ⟨b1,0,none⟩) 2 c1,.slice (some ⟨b2,0,none⟩) 1 c2] 147))).of_eq (show _=zaq c r e L*((pts w.heap.size (.cells #[.slice (some ⟨b1,0,none⟩) 2 c1,.slice (some ⟨b2,0,none⟩) 1 c2] 147))*(za1 (.slice (some ⟨b1,0,none⟩) 2 c1) [k1,k2]*(zbj (.slice (some ⟨b2,0,none⟩) 1 c2) [y]*F))) from by unfold za1 zbj;ac_rfl)
 have I1:=io1 H1 (Io.refl w)
 have LE:Hid (Tb.psi ((2,Ky.inn [k1,k2] [y])::L)=Tb.psi L):=L_ (by simp [Tb.psi,Tb.wt,Ky.inn])
 clear hR p hg hh
 go_enter Tryz.func90,Tryz.ntmps90
 obtain ⟨u0,u1⟩:=nd2 H1.right
 obtain ⟨f0,f1⟩:=ztg H1.right
 go_wp2_with fail
 generalize w.alloc _=w1 at *
 generalize hb:w.heap.size=b at *
 refine wp_loop_rounds 2 ?_
 rw [rounds_succ]
 go_upto_region 3 with (go_at_call 88;(with_reducible refine zfx (id:=0) (L:=L) (M:=L) hk (.inr ⟨rfl,HL0.out⟩) HNR.out HZ.out HNE.out (NV.out.imp (fun _ hw=>sat_nv hw)) H1 ?_);intro id' x g2 w2 D2 I2)
 have I3:=(I1.trans I2).alloc (.cells #[.slice (some ⟨g2,0,none⟩) 1 1,.slice none 0 0] 147)
 rcases D2.out with ⟨rfl,hid,-,H2⟩ | ⟨rfl,hf,H2⟩
 ·clear D2
  have G3:=L_ (G2.out hid)
  have H3:=(H2.new (.cells #[.slice (some ⟨g2,0,none⟩) 1 1,.slice none 0 0] 147)).of_eq (show _=pts b (.cells #[.slice (some ⟨b1,0,none⟩) 2 c1,.slice (some ⟨b2,0,none⟩) 1 c2] 147)*(zaq c r e ((id',Ky.inn [k1,k2] [y])::L)*(za1 (.slice (some ⟨g2,0,none⟩) 1 1) [id']*F))*(pts w2.heap.size (.cells #[.slice (some ⟨g2,0,none⟩) 1 1,.slice none 0 0] 147)*(za1 (.slice (some ⟨b1,0,none⟩) 2 c1) [k1,k2]*zbj (.slice (some ⟨b2,0,none⟩) 1 c2) [y])) from by unfold za1 zbj;ac_rfl)
  obtain ⟨q0,q1⟩:=nd2 H3.right
  obtain ⟨u0,u1⟩:=nd2 H3.left
  obtain ⟨f0,f1⟩:=ztg H3.left
  have K4:=H3.left.cells2 (x':=.slice (some ⟨g2,0,none⟩) 1 1) (y':=.slice none 0 0)
  have I4:=(I3.setCell ⟨b,0,none⟩ (.slice (some ⟨g2,0,none⟩) 1 1)).setCell ⟨b,1,none⟩ (.slice none 0 0)
  go_wp2_with fail
  generalize ((w2.alloc _).setCell ⟨b,0,none⟩ (.slice (some ⟨g2,0,none⟩) 1 1)).setCell ⟨b,1,none⟩ (.slice none 0 0)=w4 at *
  have hx1:=za4 zba K4.right.right 0 (by simp) 0 (by omega) (.int .i64 id') rfl
  simp only [Nat.mul_one,Nat.add_zero,Nat.zero_mul] at hx1
  clear u0 u1 q0 q1 f0 f1 H2 H3
  obtain ⟨u0,u1⟩:=nd2 K4
  have K5:=(K4.of_eq (show _=(zaq c r e ((id',Ky.inn [k1,k2] [y])::L)*F)*(pts b (.cells #[.slice (some ⟨g2,0,none⟩) 1 1,.slice none 0 0] 147)*za1 (.slice (some ⟨g2,0,none⟩) 1 1) [id']) from by unfold za1;ac_rfl)).left
  rw [rounds_succ]
  go_wp2_with (go_at_call 121;(with_reducible refine zoz G3.out.2.1 G3.out.2.2 hhh hk K5 ?_);intro id2 L' h' c' w5 q1 q2 q3 H6 I6;have Q3:=L_ (And.intro q1 (And.intro q2 q3)))
  exact HH.out id2 0 w5 (.inl ⟨rfl,L',.inr ⟨h',c',Q3.out.1,Q3.out.2.1⟩,by rw [Q3.out.2.2];simp [Tb.psi,Tb.wt,Ky.inn],H6⟩) (I4.trans I6)
 ·clear D2
  have H3:=(H2.new (.cells #[.slice (some ⟨g2,0,none⟩) 1 1,.slice none 0 0] 147)).right
  go_wp2_with fail
  exact HH.out 0 2 _ (.inr ⟨rfl,hf,(H3.of_eq (show _=(zbl c r e*F)*(pts b (.cells #[.slice (some ⟨b1,0,none⟩) 2 c1,.slice (some ⟨b2,0,none⟩) 1 c2] 147)*(za1 (.slice (some ⟨b1,0,none⟩) 2 c1) [k1,k2]*zbj (.slice (some ⟨b2,0,none⟩) 1 c2) [y])) from by unfold za1 zbj;ac_rfl)).left⟩) I3
theorem z0z {h g cc d:Nat} {L0 L:Tb.Pg} {kids:List Int} {keys:List Ky.Nm} {u v:Value} {es:List Ky.En} {c':Nat} (p:Tb.Done h none none cc d L0 kids keys es L c') (hg:11*h+min cc 12≤12+g) (hh:h<23) (hk:c.k.n≤3000) (H:Sat (za1 u kids*(zbj v keys*(zaq c r e L*F))) w)
  (hR:∀ id' x w',Grown c r e F es (g+min d 1) (Tb.psi L) (2+(L.length:Int)) id' x w'→Io w w'→R (.returned (.tuple #[.int .i64 id',.int .i64 x])) w') :
  Calls Tryz.prog 90 #[.pointer (some ⟨c.tr,0,none⟩),.agg #[u,v]] w R:=by
 rcases p.forms with ⟨rfl,rfl,rfl,rfl⟩ | ⟨k,rfl,rfl⟩ | ⟨k1,k2,y,rfl,rfl⟩
 ·exact z5f H fun w' H' I'=>hR 0 0 w' (.inl ⟨rfl,[],.inl ⟨rfl,rfl,rfl⟩,rfl,H'⟩) I'
 ·obtain ⟨s,hg'⟩:=p.tree hg
  exact zyv (k:=0) s hg' (by omega) hk H fun id' L' w' q1 q2 H' I'=>hR id' 0 w' (.inl ⟨rfl,L',q1,q2,H'⟩) I'
 ·exact zq3 p hg hh hk H hR
end
def ze0 (c:Cq) (es:List Ky.En) (q g:Nat):Asn:=ex fun p:Int × Tb.Pg=>on (Tb.Tree p.1 es p.2 g∧Tb.psi p.2≤q) (zaq c p.1 0 p.2)
def zid (c:Cq):Asn:=ex fun r:Int=>zbl c r 2
section
variable {c:Cq} {r e:Int} {L:Tb.Pg} {F A:Asn} {w:World} {R:Ending→World→Prop}
theorem zeq {es:List Ky.En} {q g:Nat}:Sat (ze0 c es q g*F) w↔∃ root L,Tb.Tree root es L g∧Tb.psi L≤q∧Sat (zaq c root 0 L*F) w:=by
 unfold ze0
 rw [zdm]
 constructor
 ·rintro ⟨⟨r,L⟩,h⟩
  obtain ⟨⟨h1,h2⟩,h3⟩:=zgu.1 h
  exact ⟨r,L,h1,h2,h3⟩
 ·rintro ⟨r,L,h1,h2,h3⟩
  exact ⟨(r,L),zgu.2 ⟨⟨h1,h2⟩,h3⟩⟩
theorem zgn {e':Int} (H:Sat (zbl c r e*F) w):Sat (zbl c r e'*F) (w.setCell ⟨c.tr,2,none⟩ (.int .i64 e')):=by
 unfold zbl at H ⊢
 exact H.cell 2 (.int .i64 e')
theorem zul {r':Int} (H:Sat (zbl c r e*F) w):Sat (zbl c r' e*F) (w.setCell ⟨c.tr,1,none⟩ (.int .i64 r')):=by
 unfold zbl at H ⊢
 exact H.cell 1 (.int .i64 r')
theorem zpp {r':Int} (H:Sat (zaq c r e L*F) w):Sat (zaq c r' e L*F) (w.setCell ⟨c.tr,1,none⟩ (.int .i64 r')):=by
 have h:=H.of_eq (show _=zbl c r e*(zzd c.k L*F) from by unfold zaq;ac_rfl)
 exact (zul h).of_eq (by unfold zaq;ac_rfl)
theorem z6g (H:Sat (zaq c r e L*F) w):w.frozen? ⟨c.tr,1,none⟩=false∧w.frozen? ⟨c.tr,2,none⟩=false :=
 zha (H.of_eq (show _=zbl c r e*(zzd c.k L*F) from by unfold zaq;ac_rfl))
theorem zxk {gn:Nat} {cb:Array Value} {op:List Ky.En→List Ky.En} {P:List Ky.En→Prop} {key:Ky.Nm} {d h cc:Nat} {es:List Ky.En} {M:Tb.Pg} {id:Int} (ch:zgr c r e A key gn cb op P d h) (s:Tb.Sub h none none id es L cc) (hp:P es) (hh:h<24) (H:Sat (zaq c r e (L++M)*(A*F)) w)
  (hR:∀ x a1 n1 c1 a2 n2 c2 w',zdj c r e (A*F) M (4+((L.length+M.length+h:Nat):Int)) (fun kids keys L' c'=>Tb.Done h none none cc d L kids keys (op es) L' c') x (.slice a1 n1 c1) (.slice a2 n2 c2) w'→Io w w'→R (.returned (.tuple #[.agg #[.slice a1 n1 c1,.slice a2 n2 c2],.int .i64 x])) w') :
  Calls Tryz.prog 89 #[.pointer (some ⟨c.tr,0,none⟩),.int .i64 id,.int .i64 0,.string key,.func (.func gn) #[] cb] w R :=
 ch (dp:=0) s (fun y hy=>by cases hy) (fun y hy=>by cases hy) hp (by omega) H hR
theorem zdj.box {M:Tb.Pg} {B:Int} {D:List Int→List Ky.Nm→Tb.Pg→Nat→Prop} {x:Int} {u v:Value} {b:Nat} {y z:Value} {ty:TypeId} (h:zdj c r e (A*(pts b (.cells #[y,z] ty (0,0))*F)) M B D x u v w):(w.cell? ⟨b,0,none⟩=some y∧w.cell? ⟨b,1,none⟩=some z)∧w.frozen? ⟨b,0,none⟩=false∧w.frozen? ⟨b,1,none⟩=false:=by
 rcases h with ⟨_,_,_,_,_,_,H⟩ | ⟨_,_,H⟩
 ·exact ⟨nd2 H.right.right.right.right,ztg H.right.right.right.right⟩
 ·exact ⟨nd2 H.right.right,ztg H.right.right⟩
def zd8 (c:Cq) (F:Asn) (es:List Ky.En) (q g:Nat) (B:Int) (x:Int) (w:World):Prop :=
 (x=0∧Sat (ze0 c es q g*F) w)∨(x=2∧c.k.room≤B∧Sat (zid c*F) w)
theorem zv0 {gn:Nat} {cb:Array Value} {op:List Ky.En→List Ky.En} {P:List Ky.En→Prop} {key:Ky.Nm} {d h cc q g:Nat} {es:List Ky.En} (hk:c.k.n≤3000) (eg:∀ args w,(callFunc gn args).run Tryz.prog w=.ok (.enter gn args) w) (o:Tb.Loc op P key d) (hdo:zgw A gn cb op P) (hp:P es)
  (s:Tb.Sub h none none r es L cc) (hg:11*h+min cc 12≤12+g) (hq:Tb.psi L≤q) (hh:h<23) (H:Sat (zaq c r 0 L*(A*F)) w)
  (hR:∀ x w',zd8 c (A*F) (op es) (q+d) (g+min d 1) (5+((L.length+h:Nat):Int)) x w'→Io w w'→R (.returned (.int .i64 x)) w') :
  Calls Tryz.prog 64 #[.pointer (some ⟨c.tr,0,none⟩),.string key,.func (.func gn) #[] cb] w R:=by
 have HH:=L_ hR
 have CH:Hid (zgr c r 0 A key gn cb op P d h):=L_ (zpu hk eg o hdo h)
 have Q:=L_ (And.intro s (And.intro hg (And.intro hq hp)))
 have hid:=s.bounds.2
 have r0:¬ r=0:=by have:=hid.1;omega
 have H1:=(H.new zP).of_eq (show _=zaq c r 0 (L++[])*(A*(pts w.heap.size zP*F)) from by rw [List.append_nil];ac_rfl)
 have I1:=(Io.refl w).alloc zP
 have HD:Hid (0+h<24):=L_ (by omega)
 have HHH:=L_ hh
 have g1:Hid (Tb.ge none key):=L_ (fun y hy=>by cases hy)
 have g2:Hid (Tb.lt none key):=L_ (fun y hy=>by cases hy)
 obtain ⟨v0,v1,v2⟩:=zaq.cells H
 clear hR s hg hq hp hdo o hid hh
 go_enter Tryz.func64,Tryz.ntmps64
 go_upto_region 4 with fail
 generalize w.alloc zP=w1 at *
 generalize hb:w.heap.size=b at *
 clear v0 v1 v2
 obtain ⟨v0,v1,v2⟩:=zaq.cells H1
 go_upto_region 8 with (go_at_call 89;(with_reducible refine zxk CH.out Q.out.1 Q.out.2.2.2 (by have:=HD.out;omega) H1 ?_);intro x a1 n1 c1 a2 n2 c2 w2 D2 I2;have D2:=L_ D2;have D3:=(zdj.box D2.out);obtain ⟨⟨y0,y1⟩,f0,f1⟩:=D3)
 have I3:=((I1.trans I2).setCell ⟨b,0,none⟩ (.slice a1 n1 c1)).setCell ⟨b,1,none⟩ (.slice a2 n2 c2)
 clear v0 v1 v2 f0 f1 y0 y1
 rcases D2.out with ⟨rfl,kids,keys,L',c',dn,H2⟩ | ⟨rfl,hf,H2⟩
 ·have DN:=L_ dn
  have K3:=(H2.of_eq (show _=pts b zP*(za1 (.slice a1 n1 c1) kids*(zbj (.slice a2 n2 c2) keys*(zaq c r 0 L'*(A*F)))) from by rw [List.append_nil];ac_rfl)).cells2 (x':=.slice a1 n1 c1) (y':=.slice a2 n2 c2)
  generalize (w2.setCell ⟨b,0,none⟩ (.slice a1 n1 c1)).setCell ⟨b,1,none⟩ (.slice a2 n2 c2)=w3 at *
  clear D2 H2 dn
  obtain ⟨u0,u1⟩:=nd2 K3
  have K4:=K3.right
  go_upto_region 11 with (go_at_call 90;(with_reducible refine z0z DN.out Q.out.2.1 HHH.out hk K4 ?_);intro root x w4 D4 I4;have D4:=L_ D4)
  have xdt:=DN.out.psi
  have hlen:=DN.out.len
  have J4:=I3.trans I4
  rcases D4.out with ⟨rfl,L2,t1,t2,H5⟩ | ⟨rfl,hf,H5⟩
  ·have TQ:Hid (Tb.Tree root (op es) L2 (g+min d 1)∧Tb.psi L2≤q+d):=L_ ⟨t1,by have:=Q.out.2.2.1;omega⟩
   clear D4 t1 t2 xdt hlen
   obtain ⟨v0,v1,v2⟩:=zaq.cells H5
   obtain ⟨f1,f2⟩:=z6g H5
   have K6:=zpp (r':=root) H5
   have J6:=J4.setCell ⟨c.tr,1,none⟩ (.int .i64 root)
   go_wp2_with fail
   exact HH.out 0 _ (.inl ⟨rfl,zeq.2 ⟨root,L2,TQ.out.1,TQ.out.2,K6⟩⟩) J6
  ·clear D4
   obtain ⟨v0,v1,v2⟩:=zek H5
   obtain ⟨f1,f2⟩:=zha H5
   have K6:=zgn (e':=2) H5
   have J6:=J4.setCell ⟨c.tr,2,none⟩ (.int .i64 2)
   have HB:Hid (c.k.room≤5+((L.length+h:Nat):Int)):=L_ (by omega)
   clear hf xdt hlen
   go_wp2_with fail
   exact HH.out 2 _ (.inr ⟨rfl,HB.out,zdm.2 ⟨r,K6⟩⟩) J6
 ·have K3:=(H2.of_eq (show _=pts b zP*(zbl c r 0*(A*F)) from by ac_rfl)).cells2 (x':=.slice a1 n1 c1) (y':=.slice a2 n2 c2)
  generalize (w2.setCell ⟨b,0,none⟩ (.slice a1 n1 c1)).setCell ⟨b,1,none⟩ (.slice a2 n2 c2)=w3 at *
  clear D2 H2
  have K4:=K3.right
  obtain ⟨v0,v1,v2⟩:=zek K4
  obtain ⟨f1,f2⟩:=zha K4
  have K5:=zgn (e':=2) K4
  have J5:=I3.setCell ⟨c.tr,2,none⟩ (.int .i64 2)
  have HB:Hid (c.k.room≤5+((L.length+h:Nat):Int)):=L_ (by simp only [List.length_nil] at hf;omega)
  clear hf
  go_wp2_with fail
  exact HH.out 2 _ (.inr ⟨rfl,HB.out,zdm.2 ⟨r,K5⟩⟩) J5
theorem z1s {x:Int} {p1 p2:Prop} {X Y Z:Asn} {b:Nat} {y z:Value} {ty:TypeId} {B1:Asn} (h:(x=0∧p1∧p2∧Sat (X*(Y*(Z*(A*(pts b (.cells #[y,z] ty (0,0))*F))))) w)∨(x=2∧c.k.room≤2+(([]:Tb.Pg).length:Int)∧Sat (B1*(Z*(A*(pts b (.cells #[y,z] ty (0,0))*F)))) w)):(w.cell? ⟨b,0,none⟩=some y∧w.cell? ⟨b,1,none⟩=some z)∧w.frozen? ⟨b,0,none⟩=false∧w.frozen? ⟨b,1,none⟩=false:=by
 rcases h with ⟨_,_,_,H⟩ | ⟨_,_,H⟩
 ·exact ⟨nd2 H.right.right.right.right,ztg H.right.right.right.right⟩
 ·exact ⟨nd2 H.right.right.right,ztg H.right.right.right⟩
theorem zr6 {gn:Nat} {cb:Array Value} {op:List Ky.En→List Ky.En} {P:List Ky.En→Prop} {key:Ky.Nm} {d g q:Nat} (hk:c.k.n≤3000) (eg:∀ args w,(callFunc gn args).run Tryz.prog w=.ok (.enter gn args) w) (o:Tb.Loc op P key d) (hdo:zgw A gn cb op P) (hp:P []) (hne:op []≠[]) (hq:60≤q)
  (H:Sat (zaq c 0 0 []*(A*F)) w)
  (hR:∀ x w',zd8 c (A*F) (op []) (q+d) (g+min d 1) 5 x w'→Io w w'→R (.returned (.int .i64 x)) w') :
  Calls Tryz.prog 64 #[.pointer (some ⟨c.tr,0,none⟩),.string key,.func (.func gn) #[] cb] w R:=by
 have HH:=L_ hR
 have HDO:Hid (zgw A gn cb op P):=L_ hdo
 obtain ⟨hr1,hz1⟩:=o.first hp
 have FS:Hid (∀ {id:Int},Tb.zjx id→Tb.Sub 0 none none id (op []) [(id,Ky.lf (op []))] 12∧11*0+min 12 12≤12+(g+min d 1)∧Tb.psi [(id,Ky.lf (op []))]≤60):=L_ (fun hid=>o.z5t hp hne hid)
 have HR:=L_ (Ky.NdR.leaf hr1)
 have HZ:Hid (Ky.zbf (Ky.lf (op []))≤240):=L_ (by show Ky.size (op [])≤240;omega)
 have HNE:Hid (0<(Ky.lf (op [])).es.length+(Ky.lf (op [])).kids.length):=L_ (by have:=List.length_pos_iff.2 hne;simp only [Ky.lf];omega)
 have HL:Hid ((op []).length≤5000):=L_ (by have:=(Tb.zci hr1.1).1;omega)
 have HP:=L_ hp
 have HQ:=L_ hq
 have HNN:Hid (∀ p∈([]:Tb.Pg),p.1≠0):=L_ (by simp)
 have H1:=(H.new zP).of_eq (show _=A*(zaq c 0 0 []*(pts w.heap.size zP*F)) from by ac_rfl)
 have I1:=(Io.refl w).alloc zP
 obtain ⟨v0,v1,v2⟩:=zaq.cells H
 clear hR hdo o hr1 hz1 hp hne hq
 go_enter Tryz.func64,Tryz.ntmps64
 go_upto_region 4 with fail
 generalize w.alloc zP=w1 at *
 generalize hb:w.heap.size=b at *
 clear v0 v1 v2
 obtain ⟨v0,v1,v2⟩:=zaq.cells H1.right
 go_upto_region 8 with (first
  | (go_at_fn gn;refine HDO.out ⟨by simp,.nil⟩ (by simp [Ky.size]) HP.out (zas _ none 0) (.inl ⟨rfl,rfl⟩) H1 ?_;intro v5 w5 H5 I5;have SV:=zaf H5;obtain ⟨a5,n5,k5,hq⟩:=SV;subst hq)
  | (go_at_call 88;(with_reducible refine zfx (id:=0) (L:=[]) (M:=[]) hk (.inr ⟨rfl,HNN.out⟩) HR.out HZ.out HNE.out ((zpa H5 HL.out).imp (fun _ hw=>za3 hw.left)) (H5.of_eq (show _=zaq c 0 0 []*(zda (.slice a5 n5 k5) (op [])*(A*(pts b zP*F))) from by unfold zda;ac_rfl)) ?_);intro id' x g2 w2 D2 I2;have D3:=z1s D2.out;obtain ⟨⟨y0,y1⟩,f0,f1⟩:=D3))
 have I3:=(((I1.trans I5).trans I2).setCell ⟨b,0,none⟩ (.slice (some ⟨g2,0,none⟩) 1 1)).setCell ⟨b,1,none⟩ (.slice none 0 0)
 clear v0 v1 v2 f0 f1 y0 y1
 rcases D2.out with ⟨rfl,hid,-,H2⟩ | ⟨rfl,hf,H2⟩
 ·have DN:=L_ (FS.out hid)
  have K3:=((H2.of_eq (show _=pts b zP*(za1 (.slice (some ⟨g2,0,none⟩) 1 1) [id']*(zaq c 0 0 [(id',Ky.lf (op []))]*(A*F)))*zda (.slice a5 n5 k5) (op []) from by unfold za1 zda;ac_rfl)).left).cells2 (x':=.slice (some ⟨g2,0,none⟩) 1 1) (y':=.slice none 0 0)
  generalize (w2.setCell ⟨b,0,none⟩ (.slice (some ⟨g2,0,none⟩) 1 1)).setCell ⟨b,1,none⟩ (.slice none 0 0)=w3 at *
  clear D2 H2 hid
  obtain ⟨u0,u1⟩:=nd2 K3
  have K4:=(za5 (sz:=1) (e:=9) (enc:=zre) K3.right).sw
  go_upto_region 11 with (go_at_call 90;(with_reducible refine zyv (k:=0) DN.out.1 DN.out.2.1 (by omega) hk K4 ?_);intro root L2 w4 t1 t2 H5 I4;have T1:=L_ t1;have T2:=L_ t2)
  have J4:=I3.trans I4
  have TQ:Hid (Tb.psi L2≤q+d):=L_ (by have:=DN.out.2.2;have:=T2.out;have:=HQ.out;omega)
  obtain ⟨v0,v1,v2⟩:=zaq.cells H5
  obtain ⟨f1,f2⟩:=z6g H5
  have K6:=zpp (r':=root) H5
  have J6:=J4.setCell ⟨c.tr,1,none⟩ (.int .i64 root)
  go_wp2_with fail
  exact HH.out 0 _ (.inl ⟨rfl,zeq.2 ⟨root,L2,T1.out,TQ.out,K6⟩⟩) J6
 ·have K3:=((H2.of_eq (show _=pts b zP*(zbl c 0 0*(A*F))*zda (.slice a5 n5 k5) (op []) from by unfold zda;ac_rfl)).left).cells2 (x':=.slice (some ⟨g2,0,none⟩) 1 1) (y':=.slice none 0 0)
  generalize (w2.setCell ⟨b,0,none⟩ (.slice (some ⟨g2,0,none⟩) 1 1)).setCell ⟨b,1,none⟩ (.slice none 0 0)=w3 at *
  clear D2 H2
  have K4:=K3.right
  obtain ⟨v0,v1,v2⟩:=zek K4
  obtain ⟨f1,f2⟩:=zha K4
  have K5:=zgn (e':=2) K4
  have J5:=I3.setCell ⟨c.tr,2,none⟩ (.int .i64 2)
  have HB:Hid (c.k.room≤5):=L_ (by simp only [List.length_nil] at hf;omega)
  clear hf
  go_wp2_with fail
  exact HH.out 2 _ (.inr ⟨rfl,HB.out,zdm.2 ⟨0,K5⟩⟩) J5
end
section
variable {c:Cq} {r e:Int} {L:Tb.Pg} {F A:Asn} {w:World} {R:Ending→World→Prop}
def Looks (es:List Ky.En) (L:Tb.Pg) (key:Ky.Nm) (id:Int) (dp:Nat):Prop :=
 ∃ (h0:Nat) (lo hi:Tb.Bd) (e0:List Ky.En) (L0:Tb.Pg) (c0:Nat),Tb.Sub h0 lo hi id e0 L0 c0∧Tb.ge lo key∧Tb.lt hi key∧Ky.get e0 key=Ky.get es key∧(∀ p∈L0,p∈L)∧dp+h0<24
theorem z0f {es:List Ky.En} {key:Ky.Nm} {lo hi:Tb.Bd} {e0:List Ky.En} {K:List Int} {B:List Ky.Nm} {L1:Tb.Pg} {h1 dp:Nat} (n:Tb.Node (Tb.Sb h1) lo hi K B e0 L1) (hlo:Tb.ge lo key) (hhi:Tb.lt hi key) (hg:Ky.get e0 key=Ky.get es key) (hL:∀ p∈L1,p∈L) (hd:dp+1+h1<24) (hi':Tb.chd key B<K.length):Looks es L key (K[Tb.chd key B]) (dp+1):=by
 obtain ⟨a,b,e1,ec,e2,M1,Mc,M2,g1,⟨cc,sc⟩,g2,rfl,rfl,ha,hb,hE1,hE2⟩:=Tb.zy6 n hlo hhi hi'
 have hr:=(Tb.zqr (fun s=>Tb.Sb.inn s) n).2.1
 exact ⟨h1,a,b,ec,Mc,cc,sc,ha,hb,by rw [←hg,Tb.z5l hE1 hE2 hr],fun p hp=>hL p (by simp [hp]),hd⟩
theorem xbj {h cc:Nat} {es:List Ky.En} {key val:Ky.Nm} {d:Bool} (s:Tb.Sub h none none r es L cc) (hh:h<24) (hg:Hid ((d=true∧Ky.get es key=some val)∨(d=false∧val=⟨#[]⟩∧Ky.get es key=none))) (H:Sat (zaq c r 0 L*F) w)
  (hR:∀ w',Sat (zaq c r 0 L*F) w'→Io w w'→R (.returned (.tuple #[.string val,.bool d,.int .i64 0])) w') :
  Calls Tryz.prog 77 #[.pointer (some ⟨c.tr,0,none⟩),.string key] w R:=by
 have HH:=L_ hR
 have HS:Hid (Looks es L key r 0):=L_ ⟨h,none,none,es,L,cc,s,(fun y hy=>by cases hy),(fun y hy=>by cases hy),rfl,fun p hp=>hp,by omega⟩
 obtain ⟨v0,v1,v2⟩:=zaq.cells H
 clear hR s hh
 go_enter Tryz.func77,Tryz.ntmps77
 go_wp2_with fail
 clear v0 v1 v2
 go_loopw [7,8] (fun x y wr=>∃ (id0:Int) (dp:Nat),x=.int .i64 id0∧y=.int .i64 (dp:Int)∧dp≤24∧Hid (Looks es L key id0 dp)∧Sat (zaq c r 0 L*F) wr∧Io w wr) (fun _ y _=>24 - (RowKit.intOf y).toNat)
 case atStart=>exact ⟨r,0,rfl,rfl,by omega,HS,H,Io.refl _⟩
 case round =>
  obtain ⟨id0,dp,rfl,rfl,hdp,HS2,Hk,Ik⟩:=hrel
  clear H HS
  obtain ⟨h0,lo,hi,e0,L0,c0,q1,q2,q3,q4,q5,q6⟩:=HS2.out
  have d1:(dp:Int)<24:=by omega
  have hid:=q1.bounds.2
  have hne:¬ id0=0:=by have:=hid.1;omega
  rcases q1.zss with ⟨rfl,rfl,rfl,z1,z2⟩ | ⟨h1,K,B,L1,rfl,n,z1,z2,z3,rfl⟩
  ·have N1:Hid ((id0,Ky.lf e0)∈L):=L_ (q5 _ (by simp))
   have N2:=L_ (Ky.NdR.leaf z1)
   have N3:Hid (Ky.zbf (Ky.lf e0)≤240):=L_ z2
   have Q:=L_ z1
   have HG:Hid ((d=true∧Ky.get e0 key=some val)∨(d=false∧val=⟨#[]⟩∧Ky.get e0 key=none)):=L_ (by rw [q4];exact hg.out)
   have HL:Hid (e0.length≤5000):=L_ (by have:=(Tb.zci z1.1).1;omega)
   clear q1 q2 q3 q4 q5 q6 hid z1 z2 HS2
   go_upto_region 8 with (go_at_call 106;(with_reducible refine zcy N1.out N2.out N3.out d1 Hk ?_);intro G kv w2 NK H2 I2;have NK:=L_ NK;have SK:=NK.out.shape;obtain ⟨b1,x1,y1,t1,x2,y2,t2,x3,y3,t3,hq⟩:=SK;subst hq)
   obtain ⟨rfl,re,se⟩:=zh4 NK.out
   have RE:=L_ re
   have H3:=(H2.new (.cells #[.bool true,.slice x1 y1 t1,.slice x2 y2 t2,.slice x3 y3 t3] 151))
   have I3:=(Ik.trans I2).alloc (.cells #[.bool true,.slice x1 y1 t1,.slice x2 y2 t2,.slice x3 y3 t3] 151)
   generalize w2.alloc _=w3 at *
   generalize w2.heap.size=gn at *
   obtain ⟨u0,u1,u2,u3⟩:=nd4 H3
   clear re se H2 I2
   go_wp2_with (go_at_call 107;(with_reducible refine xbv Q.out (Ky.zef Q.out) (RE.out.imp (fun _ hw=>hw.right.left)) HL.out key HG H3 ?_);intro w4 H4 I4)
   exact bodyPost_ret (v:=.tuple #[.string val,.bool d,.int .i64 0]) (by simp [results,Tryz.results77,go_sem]) rfl (HH.out _ H4.right.right (I3.trans I4))
  ·have N1:Hid ((id0,Ky.inn K B)∈L):=L_ (q5 _ (by simp [z3.mem_iff]))
   have hlen:=n.len
   have hci:Tb.chd key B<K.length:=by have:=Tb.zy8 key B;omega
   have hir:=Tb.zcx n z2
   have hks:=Tb.zbg z2
   have N2:=L_ (Ky.NdR.inner hir)
   have N3:Hid (Ky.zbf (Ky.inn K B)≤240):=L_ z1
   have N4:=L_ hir
   have Q : Hid (Looks es L key (K[Tb.chd key B]'hci) (dp + 1)) := L_ (z0f n q2 q3 q4 (fun p hp => q5 p (by simp [z3.mem_iff, hp])) (by omega) hci)
   obtain ⟨kid, ztx⟩ : ∃ kid, K[Tb.chd key B]'hci = kid := ⟨_, rfl⟩
   rw [ztx] at Q
   obtain ⟨i,hic⟩:∃ i,i=Tb.chd key B:=⟨_,rfl⟩
   have hcj:i<K.length:=by rw [hic];exact hci
   have hkid2 : K[i]'hcj = kid := by rw [← ztx]; simp only [hic]
   have HI:=L_ hic
   have HK:=L_ hkid2
   obtain ⟨n3,hn3⟩:∃ n,n=K.length:=⟨_,rfl⟩
   obtain ⟨n5,hn5⟩:∃ n,n=B.length:=⟨_,rfl⟩
   have HN:=L_ (And.intro hn3 hn5)
   have HKL:Hid (K.length≤1000∧B.length≤1000∧0<K.length):=L_ (by omega)
   have i0:(0:Int)≤(i:Int):=by omega
   have i1:(i:Int)<(n3:Int):=by omega
   have i2:(n3:Int)≤1000:=by have:=HKL.out;omega
   clear q1 q2 q3 q4 q5 q6 hid z1 z2 HS2 hlen hir hks ztx hkid2 hic n z3 hn3 hn5 hci
   go_upto_region 8 with (go_at_call 106;(with_reducible refine zcy N1.out N2.out N3.out d1 Hk ?_);intro G kv w2 NK H2 I2;have NK:=L_ NK;have SK:=NK.out.shape;obtain ⟨b1,x1,y1,t1,x2,y2,t2,x3,y3,t3,hq⟩:=SK;subst hq)
   obtain ⟨a1,c1,b3,o3,c3,a5,c5,hq,hX,-⟩:=zmn NK.out HKL.out.2.2
   cases hq
   have HX:Hid (∀ w,Sat G w→w.cell? ⟨b3,o3+i,none⟩=some (.int .i64 kid)):=L_ (by rw [←HK.out];exact hX i hcj)
   rw [←HN.out.1,←HN.out.2] at NK ⊢
   have H3:=(H2.new (.cells #[.bool false,.slice x1 0 t1,.slice (some ⟨b3,o3,none⟩) n3 t2,.slice x3 n5 t3] 151)).of_eq (show _=zaq c r 0 L*(pts w2.heap.size (.cells #[.bool false,.slice x1 0 t1,.slice (some ⟨b3,o3,none⟩) n3 t2,.slice x3 n5 t3] 151)*(G*F)) from by ac_rfl)
   have I3:=(Ik.trans I2).alloc (.cells #[.bool false,.slice x1 0 t1,.slice (some ⟨b3,o3,none⟩) n3 t2,.slice x3 n5 t3] 151)
   generalize w2.alloc _=w3 at *
   generalize w2.heap.size=gn at *
   obtain ⟨u0,u1,u2,u3⟩:=nd4 H3.right
   clear hX H2 I2 Hk Ik
   go_upto_region 13 with fail
   have H3:=H3.drew
   have I3:=I3.drew
   have S0:=And.intro (nd4 H3.right) (HX.out _ H3.right.right.left)
   go_region_held3 (fun W=>(W.cell? ⟨gn,0,none⟩=some (.bool false)∧W.cell? ⟨gn,1,none⟩=some (.slice x1 0 t1)∧W.cell? ⟨gn,2,none⟩=some (.slice (some ⟨b3,o3,none⟩) n3 t2)∧W.cell? ⟨gn,3,none⟩=some (.slice x3 n5 t3))∧W.cell? ⟨b3,o3+i,none⟩=some (.int .i64 kid)) (with_reducible (first | exact S0 | exact S1)) (first
    | (go_at_call 108;(with_reducible refine zm5 N4.out (NK.out.imp (fun _ hw=>hw.right.right.left)) (by have:=HKL.out;omega) key H3 HI ?_);intro w4 H4 I4;have S1:=And.intro (nd4 H4.right) (HX.out _ H4.right.right.left)))
   have I4:=I3.trans I4
   clear H3 I3 u0 u1 u2 u3 S0 S1
   go_wp2_with fail
   go_roundw
   case rel=>exact ⟨kid,dp+1,rfl,by go_num,by omega,Q,(H4.of_eq (show _=(zaq c r 0 L*F)*(pts gn (.cells #[.bool false,.slice x1 0 t1,.slice (some ⟨b3,o3,none⟩) n3 t2,.slice x3 n5 t3] 151)*G) from by ac_rfl)).left,I4⟩
   case measure=>simp [RowKit.intOf];omega
theorem zw7 (key:Ky.Nm) (H:Sat (zaq c 0 0 L*F) w) (hR:R (.returned (.tuple #[.string ⟨#[]⟩,.bool false,.int .i64 0])) w) :
  Calls Tryz.prog 77 #[.pointer (some ⟨c.tr,0,none⟩),.string key] w R:=by
 have HH:=L_ hR
 obtain ⟨v0,v1,v2⟩:=zaq.cells H
 clear hR
 go_enter Tryz.func77,Tryz.ntmps77
 go_wp2_with fail
 refine wp_loop_rounds 1 ?_
 rw [rounds_succ]
 go_wp2_with fail
 exact bodyPost_ret (v:=.tuple #[.string ⟨#[]⟩,.bool false,.int .i64 0]) (by simp [results,Tryz.results77,go_sem]) rfl HH.out
theorem z5m (key:Ky.Nm) (H:Sat (zid c*F) w) (hR:∀ w',Sat (zid c*F) w'→Io w w'→R (.returned (.tuple #[.string ⟨#[]⟩,.bool false,.int .i64 2])) w') :
  Calls Tryz.prog 77 #[.pointer (some ⟨c.tr,0,none⟩),.string key] w R:=by
 obtain ⟨r,H⟩:=zdm.1 H
 have HH:=L_ hR
 obtain ⟨v0,v1,v2⟩:=zek H
 clear hR
 go_enter Tryz.func77,Tryz.ntmps77
 go_wp2_with fail
 go_quiet (fail)
 go_wp2_with fail
 exact bodyPost_ret (v:=.tuple #[.string ⟨#[]⟩,.bool false,.int .i64 2]) (by simp [results,Tryz.results77,go_sem]) rfl (HH.out _ (zdm.2 ⟨r,H.drewN _⟩) ((Io.refl w).drewN _))
theorem zjn {es:List Ky.En} {q g:Nat} {key val:Ky.Nm} {d:Bool} (hgr:g≤240) (hg:Hid ((d=true∧Ky.get es key=some val)∨(d=false∧val=⟨#[]⟩∧Ky.get es key=none))) (H:Sat (ze0 c es q g*F) w)
  (hR:∀ w',Sat (ze0 c es q g*F) w'→Io w w'→R (.returned (.tuple #[.string val,.bool d,.int .i64 0])) w') :
  Calls Tryz.prog 77 #[.pointer (some ⟨c.tr,0,none⟩),.string key] w R:=by
 obtain ⟨root,L,t,hq,H⟩:=zeq.1 H
 rcases t with ⟨rfl,rfl,rfl⟩ | ⟨h,cc,s,hh⟩
 ·rcases hg.out with ⟨_,h⟩ | ⟨rfl,rfl,_⟩
  ·cases h
  ·exact zw7 key H (hR _ (zeq.2 ⟨0,[],.inl ⟨rfl,rfl,rfl⟩,hq,H⟩) (Io.refl w))
 ·have:=s.pos
  exact xbj s (by omega) hg H fun w' H' I'=>hR w' (zeq.2 ⟨root,L,.inr ⟨h,cc,s,hh⟩,hq,H'⟩) I'
end
namespace Tb
open Ky
theorem xax {key:Nm}:Loc (fun l=>del l key) (fun l=>has key l=true) key 0 where
 loc:=fun _ _ _ h1 h2 hr=>zxf h1 h2 hr
 ploc:=fun _ _ _ h1 h2 hp=>by rw [←zmx h1 h2];exact hp
 right:=fun _ hr=>zmf hr
 keys:=xe8.keys
 size:=fun E hr _=>by have:=size_del (key:=key) hr;omega
 le:=by omega
end Tb
section
variable {c:Cq} {r e:Int} {L:Tb.Pg} {F A:Asn} {w:World} {R:Ending→World→Prop}
theorem zor {gn:Nat} {cb:Array Value} {op:List Ky.En→List Ky.En} {P:List Ky.En→Prop} {key:Ky.Nm} {d g q:Nat} {es:List Ky.En} (hk:c.k.n≤3000) (hg:g≤240) (hq:60≤q) (eg:∀ args w,(callFunc gn args).run Tryz.prog w=.ok (.enter gn args) w) (o:Tb.Loc op P key d) (hdo:zgw A gn cb op P) (hp:P es) (hne:es=[]→op []≠[])
  (H:Sat (ze0 c es q g*(A*F)) w)
  (hR:∀ x w',zd8 c (A*F) (op es) (q+d) (g+min d 1) (30+(Tb.most q g:Int)) x w'→Io w w'→R (.returned (.int .i64 x)) w') :
  Calls Tryz.prog 64 #[.pointer (some ⟨c.tr,0,none⟩),.string key,.func (.func gn) #[] cb] w R:=by
 obtain ⟨root,L,t,xdt,H⟩:=zeq.1 H
 have hm:=t.most xdt
 have more:∀ {B B':Int} {x:Int} {w':World},B≤B'→zd8 c (A*F) (op es) (q+d) (g+min d 1) B x w'→zd8 c (A*F) (op es) (q+d) (g+min d 1) B' x w':=fun hb h=>by
  rcases h with h | ⟨h1,h2,h3⟩
  ·exact .inl h
  ·exact .inr ⟨h1,by omega,h3⟩
 rcases t with ⟨rfl,rfl,rfl⟩ | ⟨h,cc,s,hh⟩
 ·exact zr6 hk eg o hdo hp (hne rfl) hq H fun x w' D I=>hR x w' (more (by omega) D) I
 ·have:=s.pos
  exact zv0 hk eg o hdo hp s hh xdt (by omega) H fun x w' D I=>hR x w' (more (by omega) D) I
theorem zd8.drop {X:Asn} {es:List Ky.En} {q g:Nat} {B x:Int} (h:zd8 c (X*F) es q g B x w):zd8 c F es q g B x w:=by
 rcases h with ⟨h1,H⟩ | ⟨h1,h2,H⟩
 ·exact .inl ⟨h1,(H.of_eq (show _=(ze0 c es q g*F)*X from by ac_rfl)).left⟩
 ·exact .inr ⟨h1,h2,(H.of_eq (show _=(zid c*F)*X from by ac_rfl)).left⟩
def zib (bk bv:Nat) (key val:Ky.Nm):Asn:=pts bk (.cells #[.string key] 9)*pts bv (.cells #[.string val] 9)
theorem xbx {bk bv:Nat} {key val:Ky.Nm} (hc:Ky.chk key val=0) (P:List Ky.En→Prop):zgw (zib bk bv key val) 65 #[.pointer (some ⟨bk,0,none⟩),.pointer (some ⟨bv,0,none⟩)] (fun l=>Ky.put l key val) P:=by
 intro F w R l v hr hz hp hv hs H hR
 have HH:=L_ hR
 have H1:=H.of_eq (show _=pts bk (.cells #[.string key] 9)*(pts bv (.cells #[.string val] 9)*F) from by unfold zib;ac_rfl)
 have q0:=Sat.read H1.left.at 0
 have q1:=Sat.read H1.right.left.at 0
 simp only [List.getElem?_toArray,List.getElem?_cons_zero,List.getElem?_cons_succ] at q0 q1
 have hck:=Ky.zjq hc
 have HR:=L_ hr
 have HV:=L_ hv
 have HS:=L_ hs
 have HC:=L_ hc
 have HL:Hid (l.length≤5000):=L_ (by have:=(Tb.zci hr.1).1;omega)
 have k1:Hid (key.size≤1000):=L_ (by omega)
 have k2:Hid (val.size≤1000):=L_ (by omega)
 obtain ⟨a,cc,rfl,hm⟩:=zcq hv
 clear hR hr hz hp hv hs hc hck
 go_enter Tryz.func65,Tryz.ntmps65
 go_wp2_with (go_at_call 66;(with_reducible refine xbr HR.out (Ky.zef HR.out) HV.out HS.out HL.out key val HC.out k1.out k2.out H ?_);intro v' w2 H2 I2)
 exact HH.out v' w2 H2 I2
theorem xby {bk:Nat} {key:Ky.Nm}:zgw (pts bk (.cells #[.string key] 9)) 85 #[.pointer (some ⟨bk,0,none⟩)] (fun l=>Ky.del l key) (fun l=>Ky.has key l=true):=by
 intro F w R l v hr hz hp hv hs H hR
 have HH:=L_ hR
 have q0:=Sat.read H.left.at 0
 simp only [List.getElem?_toArray,List.getElem?_cons_zero,List.getElem?_cons_succ] at q0
 have HR:=L_ hr
 have HV:=L_ hv
 have HS:=L_ hs
 have HP:=L_ hp
 have HL:Hid (l.length≤5000):=L_ (by have:=(Tb.zci hr.1).1;omega)
 obtain ⟨a,cc,rfl,hm⟩:=zcq hv
 clear hR hr hz hp hv hs
 go_enter Tryz.func85,Tryz.ntmps85
 go_wp2_with (go_at_call 86;(with_reducible refine zxe HR.out (Ky.zef HR.out) HV.out HS.out HL.out key HP.out H ?_);intro v' w2 H2 I2)
 exact HH.out v' w2 H2 I2
theorem xf4 (args:Array Value) (w:World):(callFunc 65 args).run Tryz.prog w=.ok (.enter 65 args) w:=enters_of Tryz.func65 (by kernel_rfl) rfl args w
theorem xf5 (args:Array Value) (w:World):(callFunc 85 args).run Tryz.prog w=.ok (.enter 85 args) w:=enters_of Tryz.func85 (by kernel_rfl) rfl args w
theorem z8w {es:List Ky.En} {q g:Nat} (H:Sat (ze0 c es q g*F) w):w.cell? ⟨c.tr,0,none⟩=some (.pointer (some ⟨c.k.t,0,none⟩))∧w.cell? ⟨c.tr,2,none⟩=some (.int .i64 0):=by
 obtain ⟨root,L,_,_,H⟩:=zeq.1 H
 have:=zaq.cells H
 exact ⟨this.1,this.2.2⟩
theorem zug {P:List Ky.En→Prop} {key val:Ky.Nm} {d g q:Nat} {es:List Ky.En} (hk:c.k.n≤3000) (hg:g≤240) (hq:60≤q) (hc:Ky.chk key val=0) (o:Tb.Loc (fun l=>Ky.put l key val) P key d) (hp:P es)
  (H:Sat (ze0 c es q g*F) w)
  (hR:∀ x w',zd8 c F (Ky.put es key val) (q+d) (g+min d 1) (30+(Tb.most q g:Int)) x w'→Io w w'→R (.returned (.int .i64 x)) w') :
  Calls Tryz.prog 31 #[.pointer (some ⟨c.tr,0,none⟩),.string key,.string val] w R:=by
 have HH:=L_ hR
 have HO:=L_ (And.intro o hp)
 have HC:Hid ((0:Int)=Ky.chk key val):=L_ hc.symm
 have hck:=Ky.zjq hc
 have k1:Hid (key.size≤1000000):=L_ (by omega)
 have k2:Hid (val.size≤1000000):=L_ (by omega)
 have HNE:Hid (es=[]→(fun l=>Ky.put l key val) []≠[]):=L_ (fun _ h=>by simp [Ky.put,Ky.has] at h)
 have HD:Hid (zgw (zib w.heap.size (w.heap.size+1) key val) 65 #[.pointer (some ⟨w.heap.size,0,none⟩),.pointer (some ⟨w.heap.size+1,0,none⟩)] (fun l=>Ky.put l key val) P):=L_ (xbx hc P)
 have H1:=((H.new (.cells #[.string key] 9)).new (.cells #[.string val] 9)).of_eq (show _=ze0 c es q g*(zib w.heap.size (w.heap.size+1) key val*F) from by unfold zib;rw [heap_alloc];ac_rfl)
 have I1:=io2 H1 (Io.refl w)
 clear hR o hp hc hck
 go_enter Tryz.func31,Tryz.ntmps31
 go_upto_region 1 with fail
 generalize (w.alloc _).alloc _=w1 at *
 generalize hb:w.heap.size=b at *
 obtain ⟨v0,v2⟩:=z8w H1
 have H2:=H1.of_eq (show _=pts b (.cells #[.string key] 9)*(pts (b+1) (.cells #[.string val] 9)*(ze0 c es q g*F)) from by unfold zib;ac_rfl)
 have q0:=Sat.read H2.left.at 0
 have q1:=Sat.read H2.right.left.at 0
 simp only [List.getElem?_toArray,List.getElem?_cons_zero,List.getElem?_cons_succ] at q0 q1
 go_wp2_with (first
  | (go_at_call 63;(with_reducible refine check_any key val k1.out k2.out HC ?_))
  | (go_at_call 64;(with_reducible refine zor hk hg hq xf4 HO.out.1 HD.out HO.out.2 HNE.out H1 ?_);intro x w2 D2 I2;have D2:=L_ D2))
 exact HH.out x w2 D2.out.drop (I1.trans I2)
theorem z6f {key:Ky.Nm} {g q:Nat} {es:List Ky.En} (hk:c.k.n≤3000) (hg:g≤240) (hq:60≤q) (hr:Ky.Right es) (hh:Ky.has key es=true)
  (H:Sat (ze0 c es q g*F) w)
  (hR:∀ d x w',((d=true∧x=0∧Sat (ze0 c (Ky.del es key) q g*F) w')∨(d=false∧x=2∧c.k.room≤30+(Tb.most q g:Int)∧Sat (zid c*F) w'))→Io w w'→R (.returned (.tuple #[.bool d,.int .i64 x])) w') :
  Calls Tryz.prog 59 #[.pointer (some ⟨c.tr,0,none⟩),.string key] w R:=by
 have HH:=L_ hR
 obtain ⟨val,hval⟩:∃ val,Ky.get es key=some val:=by
  obtain ⟨h1,h2⟩:=(Ky.zc1 hr).1 hh
  unfold Ky.get
  rw [if_pos hh,List.getElem?_eq_getElem h1]
  exact ⟨_,rfl⟩
 have HG:Hid ((true=true∧Ky.get es key=some val)∨(true=false∧val=⟨#[]⟩∧Ky.get es key=none)):=L_ (.inl ⟨rfl,hval⟩)
 have HHAS:=L_ hh
 have HNE:Hid (es=[]→(fun l=>Ky.del l key) []≠[]):=L_ (fun e _=>by rw [e] at hh;simp [Ky.has] at hh)
 have HD:Hid (zgw (pts w.heap.size (.cells #[.string key] 9)) 85 #[.pointer (some ⟨w.heap.size,0,none⟩)] (fun l=>Ky.del l key) (fun l=>Ky.has key l=true)):=L_ xby
 have H1:=((H.new (.cells #[.string key] 9))).of_eq (show _=ze0 c es q g*(pts w.heap.size (.cells #[.string key] 9)*F) from by ac_rfl)
 have I1:=io1 H1 (Io.refl w)
 clear hR hval hh hr
 go_enter Tryz.func59,Tryz.ntmps59
 go_upto_region 1 with fail
 generalize w.alloc _=w1 at *
 generalize hb:w.heap.size=b at *
 have q0:=Sat.read H1.right.left.at 0
 simp only [List.getElem?_toArray,List.getElem?_cons_zero,List.getElem?_cons_succ] at q0
 go_upto_region 2 with (go_at_call 77;(with_reducible refine zjn hg HG H1 ?_);intro w2 H2 I2)
 have q1:=Sat.read H2.right.left.at 0
 simp only [List.getElem?_toArray,List.getElem?_cons_zero,List.getElem?_cons_succ] at q1
 clear q0
 go_upto_region 4 with (go_at_call 64;(with_reducible refine zor hk hg hq xf5 Tb.xax HD.out HHAS.out HNE.out H2 ?_);intro x w3 D3 I3;have D3:=L_ D3)
 have J3:=(I1.trans I2).trans I3
 rcases D3.out with ⟨rfl,H3⟩ | ⟨rfl,hf,H3⟩
 ·clear D3
  go_wp2_with fail
  exact HH.out true 0 w3 (.inl ⟨rfl,rfl,(H3.of_eq (show _=(ze0 c (Ky.del es key) q g*F)*(pts b (.cells #[.string key] 9)) from by simp only [Nat.add_zero,Nat.zero_min];ac_rfl)).left⟩) J3
 ·clear D3
  obtain ⟨r,H4⟩:=zdm.1 H3
  obtain ⟨v0,v1,v2⟩:=zek H4
  obtain ⟨f1,f2⟩:=zha H4
  have K4:=zgn (e':=2) H4
  have J4:=J3.setCell ⟨c.tr,2,none⟩ (.int .i64 2)
  have HB:=L_ hf
  clear hf
  go_wp2_with fail
  exact HH.out false 2 _ (.inr ⟨rfl,rfl,HB.out,zdm.2 ⟨r,(K4.of_eq (show _=(zbl c r 2*F)*(pts b (.cells #[.string key] 9)) from by ac_rfl)).left⟩⟩) J4
end
theorem z3q {F:Asn} {l:Bool} {x y z:Value} {es:List Ky.En} (h:NdV F (.agg #[.bool l,x,y,z]) (Ky.lf es)) (hp:0<es.length):l=true∧∃ b off c,x=.slice (some ⟨b,off,none⟩) es.length c∧es.length≤c∧c≤maxLen∧zbi F (.slice (some ⟨b,off,none⟩) es.length c) es:=by
 obtain ⟨h0,h1,h2⟩:=zh4 h
 rcases h2 with ⟨_,h3⟩ | ⟨b,off,c,rfl,h4,h5⟩
 ·omega
 ·exact ⟨h0,b,off,c,rfl,h4,h5,h1⟩
structure Room {α:Type} (B:Nat→α→Prop) (step:α→Ky.En→α × Bool):Prop where
 less:∀ n s,B (n+1) s→B n s
 next:∀ n s x,B (n+1) s→B n (step s x).1
theorem Room.few {α:Type} {B:Nat→α→Prop} {step:α→Ky.En→α × Bool} (h:Room B step) {n m:Nat} {s:α} (hb:B (n+m) s):B n s:=by
 induction m with
 | zero=>exact hb
 | succ m ih=>exact ih (h.less _ _ hb)
theorem Room.go {α:Type} {B:Nat→α→Prop} {step:α→Ky.En→α × Bool} (h:Room B step) (l:List Ky.En) {n:Nat} {s:α} (hb:B (l.length+n) s):B n (Tb.go step s l).1:=by
 induction l generalizing s with
 | nil=>simpa [Tb.go] using hb
 | cons x l ih =>
  simp only [Tb.go]
  have hb2:B (l.length+n) (step s x).1:=h.next _ _ _ (by rw [List.length_cons] at hb;rw [show l.length+n+1=l.length+1+n by omega];exact hb)
  split
  ·exact ih hb2
  ·exact h.few (m:=l.length) (by rw [Nat.add_comm];exact hb2)
def zru {α:Type} (A:α→Asn) (B:Nat→α→Prop) (gy:Nat) (cy:Array Value) (step:α→Ky.En→α × Bool):Prop :=
 ∀ {F:Asn} {w:World} {R:Ending→World→Prop} {l:List Ky.En} {v:Value} (s:α),B l.length s→zbi F v l→l.length≤5000→Sat (A s*F) w →
  (∀ w',Sat (A (Tb.go step s l).1*F) w'→Io w w'→R (.returned (.bool (Tb.go step s l).2)) w')→Calls Tryz.prog gy (#[v]++cy) w R
section
variable {α:Type} {A:α→Asn} {B:Nat→α→Prop} {gy:Nat} {cy:Array Value} {step:α→Ky.En→α × Bool} {c:Cq} {r:Int} {L:Tb.Pg} {key:Ky.Nm}
abbrev zir (A:α→Asn) (B:Nat→α→Prop) (gy:Nat) (cy:Array Value) (step:α→Ky.En→α × Bool) (c:Cq) (r:Int) (L:Tb.Pg) (key:Ky.Nm) (h:Nat):Prop :=
 ∀ {lo hi:Tb.Bd} {id:Int} {es:List Ky.En} {L0:Tb.Pg} {cc dp:Nat} {F:Asn} {w:World} {R:Ending→World→Prop} {s:α},Tb.Sub h lo hi id es L0 cc→Tb.okb lo hi key→(∀ p∈L0,p∈L)→dp+h<24→B (Tb.frm key es).length s→Sat (zaq c r 0 L*(A s*F)) w →
  (∀ w',Sat (zaq c r 0 L*(A (Tb.go step s (Tb.frm key es)).1*F)) w'→Io w w'→R (.returned (.tuple #[.bool (Tb.go step s (Tb.frm key es)).2,.int .i64 0])) w') →
  Calls Tryz.prog 95 #[.pointer (some ⟨c.tr,0,none⟩),.int .i64 id,.int .i64 (dp:Int),.string key,.func (.func gy) #[] cy] w R
theorem zzk (eg:∀ args w,(callFunc gy args).run Tryz.prog w=.ok (.enter gy args) w) (hy:zru A B gy cy step):zir A B gy cy step c r L key 0:=by
 intro lo hi id es L0 cc dp F w R s0 s o hL hd hb0 H hR
 have HH:=L_ hR
 have HY:Hid (zru A B gy cy step):=L_ hy
 obtain ⟨s1,s2,s3,s4,s5,s6,rfl,-⟩:=s
 have N1:Hid ((id,Ky.lf es)∈L):=L_ (hL _ (by simp))
 have N2:=L_ (Ky.NdR.leaf s4)
 have N3:Hid (Ky.zbf (Ky.lf es)≤240):=L_ s6
 have HR:=L_ s4
 have d1:(dp:Int)<24:=by omega
 have HL:Hid (es.length≤5000):=L_ (by have:=(Tb.zci s4.1).1;omega)
 have xgc:Hid (0<es.length):=L_ (List.length_pos_iff.2 s5)
 obtain ⟨i,hi2⟩:∃ i,i=Ky.pos key es:=⟨_,rfl⟩
 have HI:=L_ hi2
 have HHAS:Hid (Ky.has key es=Ky.has key es):=L_ rfl
 obtain ⟨hb,hhb⟩:∃ hb,hb=Ky.has key es:=⟨_,rfl⟩
 have HB:=L_ hhb
 have HB0:=L_ hb0
 clear hb0
 have HFR:Hid (Tb.frm key es=es.drop i):=L_ (by unfold Tb.frm;rw [←hi2])
 have hle:i≤es.length:=by rw [hi2];exact Ky.zmg key es
 obtain ⟨n1,hn1⟩:∃ n,n=es.length:=⟨_,rfl⟩
 have HN:=L_ hn1
 have i0:(0:Int)≤(i:Int):=by omega
 have i1:(i:Int)≤(n1:Int):=by omega
 have i2:(n1:Int)≤5000:=by have:=HL.out;omega
 clear hR hy s1 s2 s3 s4 s5 s6 hL hd o hi2 hhb hle hn1
 go_enter Tryz.func95,Tryz.ntmps95
 go_upto_region 2 with (go_at_call 106;(with_reducible refine zcy N1.out N2.out N3.out d1 H ?_);intro G kv w2 NK H2 I2;have NK:=L_ NK;have SK:=NK.out.shape;obtain ⟨b1,x1,y1,t1,x2,y2,t2,x3,y3,t3,hq⟩:=SK;subst hq)
 obtain ⟨rfl,b4,o4,c4,hq,hc1,hc2,hre⟩:=z3q NK.out xgc.out
 cases hq
 rw [←HN.out] at hc1 hre ⊢
 have RE:=L_ hre
 have H3:=(H2.new (.cells #[.bool true,.slice (some ⟨b4,o4,none⟩) n1 t1,.slice x2 y2 t2,.slice x3 y3 t3] 151)).of_eq (show _=pts w2.heap.size (.cells #[.bool true,.slice (some ⟨b4,o4,none⟩) n1 t1,.slice x2 y2 t2,.slice x3 y3 t3] 151)*(G*(zaq c r 0 L*(A s0*F))) from by ac_rfl)
 have I3:=io1 H3 I2
 generalize w2.alloc _=w3 at *
 generalize w2.heap.size=gn at *
 have i3:(n1:Int)≤(t1:Int):=by omega
 have i4:(i:Int)≤(t1:Int):=by omega
 obtain ⟨u0,u1,u2,u3⟩:=nd4 H3
 clear H2 I2 hre NK
 go_upto_region 6 with (go_at_call 92;(with_reducible refine zgl HR.out (RE.out.imp (fun _ hw=>hw.right.left)) (by have:=HL.out;omega) key H3 HI HB ?_);intro w4 H4 I4;obtain ⟨u0,u1,u2,u3⟩:=nd4 H4)
 obtain ⟨u0,u1,u2,u3⟩:=nd4 H4
 have H5:=H4.of_eq (show _=A s0*(zaq c r 0 L*(G*(pts gn (.cells #[.bool true,.slice (some ⟨b4,o4,none⟩) n1 t1,.slice x2 y2 t2,.slice x3 y3 t3] 151)*F))) from by ac_rfl)
 have RD:=za6 (sz:=2) zbk RE.out i (by have:=HN.out;omega) (by omega)
 have HDL:Hid ((es.drop i).length≤5000):=L_ (by rw [List.length_drop];have:=HL.out;omega)
 replace RD:=RD.imp (G:=zaq c r 0 L*(G*(pts gn (.cells #[.bool true,.slice (some ⟨b4,o4,none⟩) n1 t1,.slice x2 y2 t2,.slice x3 y3 t3] 151)*F))) (fun _ hw=>hw.right.left)
 by_cases hci:t1=i
 ·have hd0:es.drop i=[]:=List.drop_eq_nil_of_le (by have:=HN.out;omega)
  have HFR0:Hid (Tb.frm key es=[]):=L_ (by rw [HFR.out,hd0])
  clear RD hd0
  have HB1:Hid (B ([]:List Ky.En).length s0):=L_ (by have:=HB0.out;rw [HFR0.out] at this;exact this)
  have RDD:=L_ (zas (enc:=xfr) (zaq c r 0 L*(G*(pts gn (.cells #[.bool true,.slice (some ⟨b4,o4,none⟩) n1 t1,.slice x2 y2 t2,.slice x3 y3 t3] 151)*F))) (some ⟨b4,o4,none⟩) 0)
  subst hci
  go_wp2_with (go_at_fn gy;refine HY.out s0 HB1.out RDD.out (Nat.zero_le _) H5 ?_;intro w5 H6 I6)
  rw [←HFR0.out] at H6 ⊢
  exact HH.out _ (H6.of_eq (show _=(zaq c r 0 L*(A (Tb.go step s0 (Tb.frm key es)).1*F))*(G*pts gn (.cells #[.bool true,.slice (some ⟨b4,o4,none⟩) n1 t1,.slice x2 y2 t2,.slice x3 y3 t3] 151)) from by ac_rfl)).left ((I3.trans I4).trans I6)
 ·rw [if_neg hci] at RD
  have RD:=L_ RD
  have HB1:Hid (B (es.drop i).length s0):=L_ (by have:=HB0.out;rw [HFR.out] at this;exact this)
  go_wp2_with (go_at_fn gy;refine HY.out s0 HB1.out RD.out HDL.out H5 ?_;intro w5 H6 I6)
  rw [←HFR.out] at H6 ⊢
  exact HH.out _ (H6.of_eq (show _=(zaq c r 0 L*(A (Tb.go step s0 (Tb.frm key es)).1*F))*(G*pts gn (.cells #[.bool true,.slice (some ⟨b4,o4,none⟩) n1 t1,.slice x2 y2 t2,.slice x3 y3 t3] 151)) from by ac_rfl)).left ((I3.trans I4).trans I6)
end
theorem xai {F:Asn} {v:Value} {kk:List Int} {bb:List Ky.Nm} (hv:NdV F v (Ky.inn kk bb)) (h:0<kk.length):∃ b3 o3 c3,
  (∀ i (hi:i<kk.length) w,Sat F w→w.cell? ⟨b3,o3+i,none⟩=some (.int .i64 kk[i]))∧kk.length≤c3∧c3≤maxLen∧∃ a1 c1 a5 c5,v=.agg #[.bool false,.slice a1 0 c1,.slice (some ⟨b3,o3,none⟩) kk.length c3,.slice a5 bb.length c5]:=by
 obtain ⟨se,sk,sx,rfl,hh⟩:=hv
 dsimp only [Ky.inn] at hh
 obtain ⟨⟨h1,s1⟩,⟨h3,s3⟩,h5,s5⟩:=hh
 obtain ⟨a1,c1,rfl,-⟩:=zab h1
 obtain ⟨a5,c5,rfl,-⟩:=zab h5
 obtain ⟨b3,o3,c3,rfl,hc3,hc4⟩:∃ b off c,sk=.slice (some ⟨b,off,none⟩) kk.length c∧kk.length≤c∧c≤maxLen:=by
  rcases s3 with ⟨_,h0⟩ | h
  ·omega
  ·exact h
 refine ⟨b3,o3,c3,fun i hi w hw=>?_,hc3,hc4,a1,c1,a5,c5,rfl⟩
 obtain ⟨b',off',k0,e1,e2,hc⟩:=zgh h3 i hi
 cases e1
 subst e2
 exact hc w hw
section
variable {α:Type} {A:α→Asn} {B:Nat→α→Prop} {gy:Nat} {cy:Array Value} {step:α→Ky.En→α × Bool} {c:Cq} {r:Int} {L:Tb.Pg} {key:Ky.Nm}
def Going (B:Nat→α→Prop) (step:α→Ky.En→α × Bool) (L:Tb.Pg) (key:Ky.Nm) (h:Nat) (T:α × Bool) (K:List Int) (s:α):Prop :=
 ∃ (t:List Ky.En) (L2:Tb.Pg),Tb.Vis (Tb.Sb h) key K t L2∧(∀ p∈L2,p∈L)∧Tb.go step s t=T∧B t.length s
theorem z5h {h:Nat} {T:α × Bool} {s:α} (g:Going B step L key h T [] s):T=(s,true):=by
 obtain ⟨t,L2,v,_,e,_⟩:=g
 cases v
 rw [←e];rfl
theorem z0q (hB:Room B step) {h:Nat} {T:α × Bool} {s:α} {k:Int} {K:List Int} (g:Going B step L key h T (k::K) s) :
  ∃ lo hi es L0 cc,Tb.Sub h lo hi k es L0 cc∧Tb.okb lo hi key∧(∀ p∈L0,p∈L)∧B (Tb.frm key es).length s ∧
   (((Tb.go step s (Tb.frm key es)).2=true∧Going B step L key h T K (Tb.go step s (Tb.frm key es)).1)∨((Tb.go step s (Tb.frm key es)).2=false∧T=Tb.go step s (Tb.frm key es))):=by
 obtain ⟨t,L2,v,hL,e,hb⟩:=g
 cases v with
 | @cons lo hi _ es t' _ L1 L2 sb o rr =>
  obtain ⟨cc,sb⟩:=sb
  rw [List.length_append] at hb
  refine ⟨lo,hi,es,L1,cc,sb,o,fun p hp=>hL p (by simp [hp]),hB.few hb,?_⟩
  rw [Tb.z5j] at e
  cases hh:(Tb.go step s (Tb.frm key es)).2 with
  | true =>
   rw [hh,if_pos rfl] at e
   exact .inl ⟨rfl,t',L2,rr,fun p hp=>hL p (by simp [hp]),e,hB.go _ hb⟩
  | false =>
   rw [hh] at e
   exact .inr ⟨rfl,e.symm⟩
theorem zzi (hB:Room B step) {h:Nat} (ih:zir A B gy cy step c r L key h):zir A B gy cy step c r L key (h+1):=by
 intro lo hi id es L0 cc dp F w R s0 s o hL hd hb0 H hR
 have HH:=L_ hR
 have IH:Hid (zir A B gy cy step c r L key h):=L_ ih
 obtain ⟨s1,s2,K,Bk,L',n,hz,ck,pm,hcc⟩:=s
 have hir:=Tb.zcx n ck
 have hlen:=n.len
 have hks:=Tb.zbg ck
 have hci:Tb.chd key Bk<K.length:=by have:=Tb.zy8 key Bk;omega
 obtain ⟨L1,L2,hv,hL2⟩:=Tb.xaf n o hci
 obtain ⟨i,hic⟩:∃ i,i=Tb.chd key Bk:=⟨_,rfl⟩
 rw [←hic] at hv hci
 obtain ⟨T,hT⟩:∃ T,T=Tb.go step s0 (Tb.frm key es):=⟨_,rfl⟩
 have G0:Hid (Going B step L key h T (K.drop (i+0)) s0):=L_ ⟨_,L2,hv,fun p hp=>hL p (by rw [pm.mem_iff,hL2];simp [hp]),hT.symm,hb0⟩
 rw [←hT] at HH
 have N1:Hid ((id,Ky.inn K Bk)∈L):=L_ (hL _ (by simp [pm.mem_iff]))
 have N2:=L_ (Ky.NdR.inner hir)
 have N3:Hid (Ky.zbf (Ky.inn K Bk)≤240):=L_ hz
 have N4:=L_ hir
 have HI:=L_ hic
 have d1:(dp:Int)<24:=by omega
 obtain ⟨dn,hdn⟩:∃ dn:Nat,dn=dp+1:=⟨_,rfl⟩
 have d2:(dp:Int)+1=(dn:Int):=by omega
 have d3:(dn:Int)≤24:=by omega
 have HDN:Hid (dn+h<24):=L_ (by omega)
 obtain ⟨n3,hn3⟩:∃ n,n=K.length:=⟨_,rfl⟩
 obtain ⟨n5,hn5⟩:∃ n,n=Bk.length:=⟨_,rfl⟩
 have HN:=L_ (And.intro hn3 hn5)
 have HKL:Hid (K.length≤1000∧Bk.length≤1000∧0<K.length∧i<K.length):=L_ (by omega)
 have i0:(0:Int)≤(i:Int):=by omega
 have i1:(i:Int)≤(n3:Int):=by omega
 have i2:(n3:Int)≤1000:=by have:=HKL.out;omega
 have HBB:=L_ hB
 clear hR ih hb0 hB s1 s2 hz ck hcc hir hlen hks hd hdn n pm hci hic hv hL hL2 hn3 hn5 o hT
 go_enter Tryz.func95,Tryz.ntmps95
 go_upto_region 2 with (go_at_call 106;(with_reducible refine zcy N1.out N2.out N3.out d1 H ?_);intro G kv w2 NK H2 I2;have NK:=L_ NK;have SK:=NK.out.shape;obtain ⟨b1,x1,y1,t1,x2,y2,t2,x3,y3,t3,hq⟩:=SK;subst hq)
 obtain ⟨b3,o3,c3,hX3,hc3,hc4,hq⟩:=xai NK.out HKL.out.2.2.1
 obtain ⟨a1,c1,a5,c5,hq⟩:=hq
 cases hq
 rw [←HN.out.1] at hc3
 rw [←HN.out.1,←HN.out.2] at NK ⊢
 have H3:=(H2.new (.cells #[.bool false,.slice x1 0 t1,.slice (some ⟨b3,o3,none⟩) n3 t2,.slice x3 n5 t3] 151)).of_eq (show _=pts w2.heap.size (.cells #[.bool false,.slice x1 0 t1,.slice (some ⟨b3,o3,none⟩) n3 t2,.slice x3 n5 t3] 151)*(G*(zaq c r 0 L*(A s0*F))) from by ac_rfl)
 have I3:=io1 H3 I2
 generalize w2.alloc _=w3 at *
 generalize w2.heap.size=gn at *
 have HX:=L_ hX3
 have i3:(n3:Int)≤(t2:Int):=by omega
 have i4:(i:Int)≤(t2:Int):=by omega
 have i5:¬ t2=i:=by have:=HKL.out;have:=HN.out;omega
 obtain ⟨u0,u1,u2,u3⟩:=nd4 H3
 clear H2 I2 hX3 hc3 hc4 H
 go_upto_region 7 with fail
 have H3:=H3.drew
 have I3:=I3.drew
 have S0:=nd4 H3
 go_region_held3 (fun W=>W.cell? ⟨gn,0,none⟩=some (.bool false)∧W.cell? ⟨gn,1,none⟩=some (.slice x1 0 t1)∧W.cell? ⟨gn,2,none⟩=some (.slice (some ⟨b3,o3,none⟩) n3 t2)∧W.cell? ⟨gn,3,none⟩=some (.slice x3 n5 t3)) (with_reducible (first | exact S0 | exact S1)) (first
  | (go_at_call 108;(with_reducible refine zm5 N4.out (NK.out.imp (fun _ hw=>hw.right.left)) (by have:=HKL.out;omega) key H3 HI ?_);intro w4 H4 I4;have S1:=nd4 H4))
 have J4:=I3.trans I4
 have H5:=H4.right
 clear H3 I3 I4 S0 S1 u0 u1 u2 u3 H4
 obtain ⟨m,hm⟩:∃ m,m=n3 - i:=⟨_,rfl⟩
 have HM:=L_ hm
 have m1:(m:Int)≤1000:=by omega
 rw [←hm]
 clear hm
 go_wp2_with fail
 generalize t2 - i=ct at *
 clear i3 i4 i5
 go_loopw [52] (fun x wr=>∃ (j:Nat) (s':α),j≤m∧x=.int .i64 (j:Int)∧Hid (Going B step L key h T (K.drop (i+j)) s')∧Sat (G*(zaq c r 0 L*(A s'*F))) wr∧Io w wr) (fun x _=>m - (RowKit.intOf x).toNat)
 case atStart=>exact ⟨0,s0,by omega,rfl,G0,H5,J4⟩
 case round =>
  obtain ⟨j,s',hj,rfl,hs,Hk,Ik⟩:=hrel
  clear H5 J4 G0
  by_cases hlt:j<m
  ·have zph:(j:Int)<(m:Int):=by omega
   have j0:(0:Int)≤(j:Int):=by omega
   have hlk:i+j<K.length:=by have:=HM.out;have:=HN.out;omega
   have hdr:=List.drop_eq_getElem_cons hlk
   have x0:=HX.out (i+j) hlk wr Hk.left
   obtain ⟨kid,ztx⟩:∃ kid,K[i+j]=kid:=⟨_,rfl⟩
   rw [ztx] at hdr x0
   rw [←Nat.add_assoc] at x0
   have gn:=hs.out
   rw [hdr] at gn
   obtain ⟨lo2,hi2,e2,L2,cc2,q1,q2,q3,q3b,q4⟩:=z0q HBB.out gn
   have Q:=L_ (And.intro q1 (And.intro q2 (And.intro q3 q3b)))
   have Hv:=Hk.of_eq (show _=zaq c r 0 L*(A s'*(G*F)) from by ac_rfl)
   have HD1:=HDN.out
   clear hdr q1 q2 q3 q3b gn hs
   rcases q4 with ⟨q5,q6⟩ | ⟨q5,q6⟩
   ·have Q6:=L_ q6
    clear q6
    have IK:Hid (∀ R:Ending→World→Prop,(∀ w',Sat (zaq c r 0 L*(A (Tb.go step s' (Tb.frm key e2)).1*(G*F))) w'→Io wr w'→R (.returned (.tuple #[.bool true,.int .i64 0])) w')→Calls Tryz.prog 95 #[.pointer (some ⟨c.tr,0,none⟩),.int .i64 kid,.int .i64 (dn:Int),.string key,.func (.func gy) #[] cy] wr R):=L_ (fun R hr=>IH.out Q.out.1 Q.out.2.1 Q.out.2.2.1 HDN.out Q.out.2.2.2 Hv (fun w' h1 h2=>by rw [q5];exact hr w' h1 h2))
    go_wp2_with (go_at_call 95;(with_reducible refine IK.out _ ?_);intro w5 H6 I6)
    go_roundw
    case rel=>exact ⟨j+1,_,by omega,by go_num,Q6,H6.of_eq (by ac_rfl),Ik.trans I6⟩
    case measure=>simp [RowKit.intOf];omega
   ·have Q6:=L_ q6
    clear q6
    have IK:Hid (∀ R:Ending→World→Prop,(∀ w',Sat (zaq c r 0 L*(A (Tb.go step s' (Tb.frm key e2)).1*(G*F))) w'→Io wr w'→R (.returned (.tuple #[.bool false,.int .i64 0])) w')→Calls Tryz.prog 95 #[.pointer (some ⟨c.tr,0,none⟩),.int .i64 kid,.int .i64 (dn:Int),.string key,.func (.func gy) #[] cy] wr R):=L_ (fun R hr=>IH.out Q.out.1 Q.out.2.1 Q.out.2.2.1 HDN.out Q.out.2.2.2 Hv (fun w' h1 h2=>by rw [q5];exact hr w' h1 h2))
    go_wp2_with (go_at_call 95;(with_reducible refine IK.out _ ?_);intro w5 H6 I6)
    have H7:=(H6.of_eq (show _=(zaq c r 0 L*(A (Tb.go step s' (Tb.frm key e2)).1*F))*G from by ac_rfl)).left
    have fin:=HH.out w5 (by rw [Q6.out];exact H7) (Ik.trans I6)
    rw [Q6.out,q5] at fin
    exact fin
  ·obtain rfl:j=m:=by omega
   have hge:¬ (j:Int)<(j:Int):=by omega
   have hK:K.drop (i+j)=[]:=List.drop_eq_nil_of_le (by have:=HM.out;have:=HN.out;omega)
   have gn:=hs.out
   rw [hK] at gn
   have hT:=z5h gn
   have fin:=HH.out wr (by rw [hT];exact (Hk.of_eq (show _=(zaq c r 0 L*(A s'*F))*G from by ac_rfl)).left) Ik
   rw [hT] at fin
   have FIN:=L_ fin
   clear hK gn hT fin HX hs
   go_wp2_with fail
   exact FIN.out
theorem visit_any (eg:∀ args w,(callFunc gy args).run Tryz.prog w=.ok (.enter gy args) w) (hB:Room B step) (hy:zru A B gy cy step):∀ h,zir A B gy cy step c r L key h
 | 0=>zzk eg hy
 | h+1=>zzi hB (visit_any eg hB hy h)
end
def zuz {α:Type} (A:α→Asn) (B:Nat→α→Prop) (gi:Nat) (ci:Array Value) (step:α→Ky.En→α × Bool):Prop :=
 ∀ {F:Asn} {w:World} {R:Ending→World→Prop} (s:α) (x:Ky.En),B 1 s→Sat (A s*F) w →
  (∀ w',Sat (A (step s x).1*F) w'→Io w w'→R (.returned (.bool (step s x).2)) w')→Calls Tryz.prog gi (#[.agg #[.string x.1,.string x.2]]++ci) w R
def zdz (by0 gi:Nat) (ci:Array Value) (t:TypeId):Asn:=pts by0 (.cells #[.func (.func gi) #[] ci] t (0,0))
section
variable {α:Type} {A:α→Asn} {B:Nat→α→Prop} {gi:Nat} {ci:Array Value} {step:α→Ky.En→α × Bool}
theorem z0v {by0:Nat} {t:TypeId} (eg:∀ args w,(callFunc gi args).run Tryz.prog w=.ok (.enter gi args) w) (hB:Room B step) (hy:zuz A B gi ci step):zru (fun s=>zdz by0 gi ci t*A s) B 96 #[.pointer (some ⟨by0,0,none⟩)] step:=by
 intro F w R l v s0 hb0 hv hl H hR
 have HH:=L_ hR
 have HY:Hid (zuz A B gi ci step):=L_ hy
 obtain ⟨a,c,rfl,hm⟩:=zcq hv
 have HV:=L_ hv
 obtain ⟨T,hT⟩:∃ T,T=Tb.go step s0 l:=⟨_,rfl⟩
 rw [←hT] at HH
 have HTT:=L_ hT
 have HB0:=L_ hb0
 have HBB:=L_ hB
 clear hR hy hv hT hb0 hB
 go_enter Tryz.func96,Tryz.ntmps96
 go_wp2_with fail
 have HVG:=L_ (fun k hk=>zc6 HV.out k hk)
 go_loopw [8] (fun x wr=>∃ (j:Nat) (s':α),j≤l.length∧x=.int .i64 (j:Int)∧Hid (T=Tb.go step s' (l.drop j)∧B (l.drop j).length s')∧Sat (A s'*(zdz by0 gi ci t*F)) wr∧Io w wr) (fun x _=>l.length - (RowKit.intOf x).toNat)
 case atStart=>exact ⟨0,s0,by omega,rfl,L_ (by rw [List.drop_zero];exact ⟨HTT.out,HB0.out⟩),H.of_eq (by ac_rfl),Io.refl _⟩
 case round =>
  obtain ⟨j,s',hj,rfl,hs,Hk,Ik⟩:=hrel
  clear H
  by_cases hlt:j<l.length
  ·have zph:(j:Int)<(l.length:Int):=by omega
   have j0:(0:Int)≤(j:Int):=by omega
   obtain ⟨b,off,xk,xv,rfl,hx,hc⟩:=HVG.out j hlt
   obtain ⟨g0,g1⟩:=hc wr Hk.right.right
   have hdr:=List.drop_eq_getElem_cons hlt
   rw [hx] at hdr
   have gs0:=hs.out
   rw [hdr] at gs0
   obtain ⟨gs,gb⟩:=gs0
   rw [List.length_cons] at gb
   have GB:=L_ gb
   clear gb
   simp only [Tb.go] at gs
   have K2:=(Hk.new (.cells #[.string xk,.string xv] 112))
   have J2:=io1 K2 Ik
   obtain ⟨q0,q1⟩:=nd2 K2
   have yb:=Sat.read (show Sat (pts by0 (.cells #[.func (.func gi) #[] ci] t (0,0))) _ from K2.right.right.left).at 0
   simp only [List.getElem?_toArray,List.getElem?_cons_zero,List.getElem?_cons_succ] at yb
   have K3:=K2.right
   clear hc hx hdr hs
   cases q5:(step s' (xk,xv)).2 with
   | true =>
    rw [q5,if_pos rfl] at gs
    have GS:=L_ gs
    have IK:Hid (∀ (W:World) (R:Ending→World→Prop),Sat (A s'*(zdz by0 gi ci t*F)) W→(∀ w',Sat (A (step s' (xk,xv)).1*(zdz by0 gi ci t*F)) w'→Io W w'→R (.returned (.bool true)) w')→Calls Tryz.prog gi (#[.agg #[.string xk,.string xv]]++ci) W R):=L_ (fun W R hS hr=>HY.out s' (xk,xv) (HBB.out.few (m:=(l.drop (j+1)).length) (by rw [Nat.add_comm];exact GB.out)) hS (fun w' h1 h2=>by rw [q5];exact hr w' h1 h2))
    have Q5:=L_ q5
    clear gs q5
    go_wp2_with (go_at_fn gi;refine IK.out _ _ K3 ?_;intro w5 H6 I6)
    go_roundw
    case rel=>exact ⟨j+1,_,by omega,by go_num,L_ ⟨GS.out,HBB.out.next _ _ _ GB.out⟩,H6,J2.trans I6⟩
    case measure=>simp [RowKit.intOf];omega
   | false =>
    rw [q5] at gs
    have GS:Hid (T=((step s' (xk,xv)).1,false)):=L_ (by simpa using gs)
    have IK:Hid (∀ (W:World) (R:Ending→World→Prop),Sat (A s'*(zdz by0 gi ci t*F)) W→(∀ w',Sat (A (step s' (xk,xv)).1*(zdz by0 gi ci t*F)) w'→Io W w'→R (.returned (.bool false)) w')→Calls Tryz.prog gi (#[.agg #[.string xk,.string xv]]++ci) W R):=L_ (fun W R hS hr=>HY.out s' (xk,xv) (HBB.out.few (m:=(l.drop (j+1)).length) (by rw [Nat.add_comm];exact GB.out)) hS (fun w' h1 h2=>by rw [q5];exact hr w' h1 h2))
    have Q5:=L_ q5
    clear gs q5
    go_wp2_with (go_at_fn gi;refine IK.out _ _ K3 ?_;intro w5 H6 I6)
    have fin:=HH.out w5 (by rw [GS.out];exact H6.of_eq (by ac_rfl)) (J2.trans I6)
    rw [GS.out] at fin
    exact fin
  ·obtain rfl:j=l.length:=by omega
   have hge:¬ (l.length:Int)<(l.length:Int):=by omega
   have gs:=hs.out.1
   rw [List.drop_length] at gs
   simp only [Tb.go] at gs
   have fin:=HH.out wr (by rw [gs];exact Hk.of_eq (by ac_rfl)) Ik
   rw [gs] at fin
   have FIN:=L_ fin
   clear fin gs hs HV HVG
   go_wp2_with fail
   exact FIN.out
end
namespace Tb
open Ky
theorem Sub.ne:∀ {h:Nat} {lo hi:Bd} {id:Int} {es:List En} {L:Pg} {c:Nat},Sub h lo hi id es L c→es≠[]
 | 0,_,_,_,_,_,_,s=>by
  obtain ⟨_,_,_,_,h,_⟩:=s;exact h
 | h+1,_,_,_,_,_,_,s=>by
  obtain ⟨_,_,K,B,L',n,_⟩:=s
  cases n with
  | mk h r =>
   obtain ⟨c,h⟩:=h
   have:=Sub.ne h
   simp [this]
def under (ub:Nm) (x:En):Bool:=decide (ub.size=0) || Md.nlt x.1 ub
def zgx (ub:Nm) (acc:List En) (x:En):List En × Bool:=if under ub x then (acc++[x],true) else (acc,false)
def scan (from_ ub:Nm) (l:List En):List En:=(go (zgx ub) [] (frm from_ l)).1
def zp9 (n:Nat) (acc:List En):Prop:=acc.length+n≤100000
theorem z2o (ub:Nm):Room zp9 (zgx ub) where
 less:=fun n s h=>by unfold zp9 at *;omega
 next:=fun n s x h=>by
  unfold zgx
  split
  ·unfold zp9 at *;simp only [List.length_append,List.length_singleton];omega
  ·unfold zp9 at *;simp only;omega
theorem z5i (ub:Nm):∀ (l acc:List En),(go (zgx ub) acc l).1=acc++l.takeWhile (under ub)
 | [],acc=>by simp [go]
 | x::l,acc=>by
  by_cases h:under ub x=true
  ·have e:zgx ub acc x=(acc++[x],true):=by unfold zgx;rw [if_pos h]
   simp only [go,e,if_true,List.takeWhile_cons,h]
   rw [z5i ub l]
   simp
  ·have e:zgx ub acc x=(acc,false):=by unfold zgx;rw [if_neg h]
   simp [go,e,List.takeWhile_cons,h]
theorem xei (from_ ub:Nm) (l:List En):scan from_ ub l=(frm from_ l).takeWhile (under ub):=by
 unfold scan
 rw [z5i]
 rfl
end Tb
theorem nd1 {b:Nat} {x:Value} {t:TypeId} {G:Asn} {w:World} (H:Sat (pts b (.cells #[x] t (0,0))*G) w):w.cell? ⟨b,0,none⟩=some x∧w.frozen? ⟨b,0,none⟩=false :=
 ⟨Sat.read H.left.at 0,Sat.free H.left.at 0⟩
def zis (bt bl:Nat) (ub:Ky.Nm) (acc:List Ky.En):Asn:=pts bt (.cells #[.string ub] 9)*(ex fun v:Value=>pts bl (.cells #[v] 59 (0,0))*zda v acc)
section
variable {c:Cq} {r:Int} {L:Tb.Pg} {F:Asn} {w:World} {R:Ending→World→Prop}
theorem zhy {bt bl:Nat} {ub:Ky.Nm} {acc:List Ky.En}:Sat (zis bt bl ub acc*F) w↔∃ v,Sat (pts bt (.cells #[.string ub] 9)*(pts bl (.cells #[v] 59 (0,0))*(zda v acc*F))) w:=by
 have e0:zis bt bl ub acc*F=(ex fun v:Value=>pts bl (.cells #[v] 59 (0,0))*zda v acc)*(pts bt (.cells #[.string ub] 9)*F):=by unfold zis;ac_rfl
 rw [e0,zdm]
 constructor
 ·rintro ⟨v,h⟩;exact ⟨v,h.of_eq (by ac_rfl)⟩
 ·rintro ⟨v,h⟩;exact ⟨v,h.of_eq (by ac_rfl)⟩
theorem zzw {bt bl:Nat} {ub:Ky.Nm} (hub:ub.size≤1000000):zuz (zis bt bl ub) Tb.zp9 69 #[.pointer (some ⟨bt,0,none⟩),.pointer (some ⟨bl,0,none⟩)] (Tb.zgx ub):=by
 intro F w R acc x hb H hR
 obtain ⟨v,H0⟩:=zhy.1 H
 obtain ⟨xk,xv⟩:=x
 have HH:=L_ hR
 have HBD:Hid (acc.length≤99999):=L_ (by unfold Tb.zp9 at hb;omega)
 have HP:=H0.new (.cells #[.string xk,.string xv] 112)
 have IP:=io1 HP (Io.refl w)
 obtain ⟨q0,q1⟩:=nd2 HP
 have t0:=Sat.read HP.right.left.at 0
 obtain ⟨z0,z1⟩:=nd1 HP.right.right
 simp only [List.getElem?_toArray,List.getElem?_cons_zero,List.getElem?_cons_succ] at t0
 clear hR hb
 by_cases hz:ub.size=0
 ·have hu:Tb.zgx ub acc (xk,xv)=(acc++[(xk,xv)],true):=by unfold Tb.zgx Tb.under;simp [hz]
  rw [hu] at HH
  have e1:ub.toList.isEmpty=true:=by
   have:ub=⟨#[]⟩:=by obtain ⟨d⟩:=ub;congr 1;exact Array.eq_empty_of_size_eq_zero hz
   rw [this];simp
  have HQ:=HP.of_eq (show _=zda v acc*(pts w.heap.size (.cells #[.string xk,.string xv] 112)*(pts bt (.cells #[.string ub] 9)*(pts bl (.cells #[v] 59 (0,0))*F))) from by ac_rfl)
  clear hu hz HP
  go_enter Tryz.func69,Tryz.ntmps69
  go_wp2_with (at_builtin;refine zat Tryz.z1d zbk rfl (.tmp 15) (.tmp 17) rfl rfl HQ (by have:=HBD.out;omega) (xk,xv) rfl (by simp) ?_;intro v3 w3 H3 I3;have H4:=H3.of_eq (show _=pts bl (.cells #[v] 59 (0,0))*(pts bt (.cells #[.string ub] 9)*(zda v3 (acc++[(xk,xv)])*F))*pts w.heap.size (.cells #[.string xk,.string xv] 112) from by unfold zda;ac_rfl);have Z:=nd1 H4.left;obtain ⟨z0,z1⟩:=Z;obtain ⟨a3,n3,c3,hq⟩:=zaf H3;subst hq)
  have H5:=H4.left.cell 0 (.slice a3 n3 c3)
  exact HH.out _ (zhy.2 ⟨.slice a3 n3 c3,H5.of_eq (show _=_ from by simp;ac_rfl)⟩) ((IP.trans I3).setCell _ _)
 ·have e1:ub.toList.isEmpty=false:=ztb (by omega)
  cases hn:Md.nlt xk ub with
  | true =>
   have hu:Tb.zgx ub acc (xk,xv)=(acc++[(xk,xv)],true):=by unfold Tb.zgx Tb.under;simp [hn]
   rw [hu] at HH
   have e2:Op.bytesLess xk.toList ub.toList=true:=hn
   have HQ:=HP.of_eq (show _=zda v acc*(pts w.heap.size (.cells #[.string xk,.string xv] 112)*(pts bt (.cells #[.string ub] 9)*(pts bl (.cells #[v] 59 (0,0))*F))) from by ac_rfl)
   clear hu hz HP hn
   go_enter Tryz.func69,Tryz.ntmps69
   go_wp2_with (at_builtin;refine zat Tryz.z1d zbk rfl (.tmp 15) (.tmp 17) rfl rfl HQ (by have:=HBD.out;omega) (xk,xv) rfl (by simp) ?_;intro v3 w3 H3 I3;have H4:=H3.of_eq (show _=pts bl (.cells #[v] 59 (0,0))*(pts bt (.cells #[.string ub] 9)*(zda v3 (acc++[(xk,xv)])*F))*pts w.heap.size (.cells #[.string xk,.string xv] 112) from by unfold zda;ac_rfl);have Z:=nd1 H4.left;obtain ⟨z0,z1⟩:=Z;obtain ⟨a3,n3,c3,hq⟩:=zaf H3;subst hq)
   have H5:=H4.left.cell 0 (.slice a3 n3 c3)
   exact HH.out _ (zhy.2 ⟨.slice a3 n3 c3,H5.of_eq (show _=_ from by simp;ac_rfl)⟩) ((IP.trans I3).setCell _ _)
  | false =>
   have hu:Tb.zgx ub acc (xk,xv)=(acc,false):=by unfold Tb.zgx Tb.under;simp [hn,hz]
   rw [hu] at HH
   have e2:Op.bytesLess xk.toList ub.toList=false:=hn
   clear hu hz hn
   go_enter Tryz.func69,Tryz.ntmps69
   go_wp2_with fail
   exact HH.out _ (zhy.2 ⟨v,HP.right⟩) IP
theorem xca (args:Array Value) (w:World):(callFunc 96 args).run Tryz.prog w=.ok (.enter 96 args) w:=enters_of Tryz.func96 (by kernel_rfl) rfl args w
theorem xb7 (args:Array Value) (w:World):(callFunc 69 args).run Tryz.prog w=.ok (.enter 69 args) w:=enters_of Tryz.func69 (by kernel_rfl) rfl args w
theorem zzj {α:Type} {A:α→Asn} {B:Nat→α→Prop} {gy:Nat} {cy:Array Value} {step:α→Ky.En→α × Bool} {h cc:Nat} {es:List Ky.En} {key:Ky.Nm} {s:α} (hv:zir A B gy cy step c r L key h) (sb:Tb.Sub h none none r es L cc) (hh:h<24) (hb:B (Tb.frm key es).length s) (H:Sat (zaq c r 0 L*(A s*F)) w)
  (hR:∀ w',Sat (zaq c r 0 L*(A (Tb.go step s (Tb.frm key es)).1*F)) w'→Io w w'→R (.returned (.tuple #[.bool (Tb.go step s (Tb.frm key es)).2,.int .i64 0])) w') :
  Calls Tryz.prog 95 #[.pointer (some ⟨c.tr,0,none⟩),.int .i64 r,.int .i64 0,.string key,.func (.func gy) #[] cy] w R :=
 hv (dp:=0) sb ⟨fun y hy=>(by cases hy),.inl (fun y hy=>by cases hy)⟩ (fun p hp=>hp) (by omega) hb H hR
theorem z6a {α:Type} {A:α→Asn} {B:Nat→α→Prop} {gi:Nat} {ci:Array Value} {step:α→Ky.En→α × Bool} (eg:∀ args w,(callFunc gi args).run Tryz.prog w=.ok (.enter gi args) w) (hB:Room B step) (hy:zuz A B gi ci step)
  {h cc:Nat} {es:List Ky.En} {key:Ky.Nm} {s:α} (sb:Tb.Sub h none none r es L cc) (hh:h<24) (hb:B (Tb.frm key es).length s) (H:Sat (zaq c r 0 L*(A s*F)) w)
  (hR:∀ w',Sat (zaq c r 0 L*(A (Tb.go step s (Tb.frm key es)).1*F)) w'→Io w w'→R (.returned (.int .i64 0)) w') :
  Calls Tryz.prog 68 #[.pointer (some ⟨c.tr,0,none⟩),.string key,.func (.func gi) #[] ci] w R:=by
 have HH:=L_ hR
 have hid:=sb.bounds.2
 have r0:¬ r=0:=by have:=hid.1;omega
 have HV:Hid (zir (fun s=>zdz w.heap.size gi ci 114*A s) B 96 #[.pointer (some ⟨w.heap.size,0,none⟩)] step c r L key h):=L_ (visit_any xca hB (z0v eg hB hy) h)
 have HS:=L_ (And.intro sb (And.intro hh hb))
 have H1:=(H.new (.cells #[.func (.func gi) #[] ci] 114)).of_eq (show _=zaq c r 0 L*((zdz w.heap.size gi ci 114*A s)*F) from by unfold zdz;ac_rfl)
 have I1:=io1 H1 (Io.refl w)
 obtain ⟨v0,v1,v2⟩:=zaq.cells H1
 clear hR sb hh hb hid hy hB
 go_enter Tryz.func68,Tryz.ntmps68
 go_upto_region 4 with (go_at_call 95;(with_reducible refine zzj HV.out HS.out.1 HS.out.2.1 HS.out.2.2 H1 ?_);intro w2 H2 I2)
 go_wp2_with fail
 exact HH.out _ (H2.of_eq (show _=(zaq c r 0 L*(A (Tb.go step s (Tb.frm key es)).1*F))*zdz w.heap.size gi ci 114 from by ac_rfl)).left (I1.trans I2)
theorem z2h {h cc:Nat} {es:List Ky.En} {key ub:Ky.Nm} (sb:Tb.Sub h none none r es L cc) (hh:h<24) (hl:es.length≤100000) (hub:ub.size≤1000000) (H:Sat (zaq c r 0 L*F) w)
  (hR:∀ v w',Sat (zda v (Tb.scan key ub es)*(zaq c r 0 L*F)) w'→Io w w'→R (.returned (.tuple #[v,.int .i64 0])) w') :
  Calls Tryz.prog 33 #[.pointer (some ⟨c.tr,0,none⟩),.string key,.string ub] w R:=by
 have HH:=L_ hR
 have HS:=L_ (And.intro sb (And.intro hh hub))
 have HB:Hid (Tb.zp9 (Tb.frm key es).length []):=L_ (by unfold Tb.zp9 Tb.frm;simp only [List.length_nil,List.length_drop];omega)
 have H1:=(H.new (.cells #[.string ub] 9)).new (.cells #[.slice none 0 0] 59)
 have I1:=io2 H1 (Io.refl w)
 have H2:=(za5 (enc:=xfr) (sz:=2) (e:=112) H1).of_eq (show _=pts w.heap.size (.cells #[.string ub] 9)*(pts (w.heap.size+1) (.cells #[.slice none 0 0] 59 (0,0))*(zda (.slice none 0 0) []*(zaq c r 0 L*F))) from by unfold zda;rw [heap_alloc];ac_rfl)
 have H3:=(zhy.2 ⟨_,H2⟩).of_eq (show _=zaq c r 0 L*(zis w.heap.size (w.heap.size+1) ub []*F) from by ac_rfl)
 have HY:Hid (zuz (zis w.heap.size (w.heap.size+1) ub) Tb.zp9 69 #[.pointer (some ⟨w.heap.size,0,none⟩),.pointer (some ⟨w.heap.size+1,0,none⟩)] (Tb.zgx ub)):=L_ (zzw hub)
 clear hR sb hh hub hl H1 H2
 go_enter Tryz.func33,Tryz.ntmps33
 go_upto_region 2 with fail
 generalize (w.alloc _).alloc _=w1 at *
 generalize w.heap.size=b at *
 go_upto_region 3 with (go_at_call 68;(with_reducible refine z6a xb7 (Tb.z2o ub) HY.out HS.out.1 HS.out.2.1 HB.out H3 ?_);intro w2 H4 I4)
 obtain ⟨v,H5⟩:=zhy.1 (H4.of_eq (show _=zis b (b+1) ub (Tb.go (Tb.zgx ub) [] (Tb.frm key es)).1*(zaq c r 0 L*F) from by ac_rfl))
 obtain ⟨a3,n3,c3,hq⟩:=zaf H5.right.right
 subst hq
 obtain ⟨z0,z1⟩:=nd1 H5.right
 go_wp2_with fail
 exact HH.out _ _ H5.right.right (I1.trans I4)
theorem z5z {gi:Nat} {ci:Array Value} (key:Ky.Nm) (H:Sat (zaq c 0 0 L*F) w)
  (hR:∀ w',Sat (zaq c 0 0 L*F) w'→Io w w'→R (.returned (.int .i64 0)) w') :
  Calls Tryz.prog 68 #[.pointer (some ⟨c.tr,0,none⟩),.string key,.func (.func gi) #[] ci] w R:=by
 have HR:=L_ hR
 have H1:=H.new (.cells #[.func (.func gi) #[] ci] 114)
 have I1:=io1 H1 (Io.refl w)
 obtain ⟨v0,v1,v2⟩:=zaq.cells H1.right
 clear hR
 go_enter Tryz.func68,Tryz.ntmps68
 go_wp2_with fail
 exact HR.out _ H1.right I1
theorem zsm (key ub:Ky.Nm) (H:Sat (zaq c 0 0 L*F) w)
  (hR:∀ w',Sat (zaq c 0 0 L*F) w'→Io w w'→R (.returned (.tuple #[.slice none 0 0,.int .i64 0])) w') :
  Calls Tryz.prog 33 #[.pointer (some ⟨c.tr,0,none⟩),.string key,.string ub] w R:=by
 have HH:=L_ hR
 have H1:=((H.new (.cells #[.string ub] 9)).new (.cells #[.slice none 0 0] 59)).of_eq (show _=zaq c 0 0 L*(pts (w.heap.size+1) (.cells #[.slice none 0 0] 59 (0,0))*(pts w.heap.size (.cells #[.string ub] 9)*F)) from by rw [heap_alloc];ac_rfl)
 have I1:=io2 H1 (Io.refl w)
 clear hR
 go_enter Tryz.func33,Tryz.ntmps33
 go_upto_region 2 with fail
 generalize (w.alloc _).alloc _=w1 at *
 generalize w.heap.size=b at *
 go_upto_region 3 with (go_at_call 68;(with_reducible refine z5z key H1 ?_);intro w2 H4 I4)
 obtain ⟨z0,z1⟩:=nd1 H4.right
 go_wp2_with fail
 exact HH.out _ (H4.of_eq (show _=(zaq c 0 0 L*F)*(pts (b+1) (.cells #[.slice none 0 0] 59 (0,0))*pts b (.cells #[.string ub] 9)) from by ac_rfl)).left (I1.trans I4)
theorem z0y {es:List Ky.En} {q g:Nat} (key ub:Ky.Nm) (hgr:g≤240) (hl:es.length≤100000) (hub:ub.size≤1000000) (H:Sat (ze0 c es q g*F) w)
  (hR:∀ v w',Sat (zda v (Tb.scan key ub es)*(ze0 c es q g*F)) w'→Io w w'→R (.returned (.tuple #[v,.int .i64 0])) w') :
  Calls Tryz.prog 33 #[.pointer (some ⟨c.tr,0,none⟩),.string key,.string ub] w R:=by
 obtain ⟨root,L,t,hq,H⟩:=zeq.1 H
 have back:∀ {v:Value} {w':World},Tb.Tree root es L g→Sat (zda v (Tb.scan key ub es)*(zaq c root 0 L*F)) w'→Sat (zda v (Tb.scan key ub es)*(ze0 c es q g*F)) w':=fun t h =>
  (zeq.2 ⟨root,L,t,hq,h.of_eq (show _=zaq c root 0 L*(zda _ (Tb.scan key ub es)*F) from by ac_rfl)⟩).of_eq (by ac_rfl)
 rcases t with ⟨rfl,rfl,rfl⟩ | ⟨h,cc,s,hh⟩
 ·exact zsm key ub H fun w' H' I'=>hR _ w' (back (.inl ⟨rfl,rfl,rfl⟩) (za5 (enc:=xfr) (sz:=2) (e:=112) H')) I'
 ·have:=s.pos
  exact z2h s (by omega) hl hub H fun v w' H' I'=>hR v w' (back (.inr ⟨h,cc,s,hh⟩) H') I'
end
namespace Ky
theorem zmk {x y:Nm} (h:Md.nlt x y=true):x≠y:=fun e=>by rw [e,zbo] at h;cases h
theorem xeo (k v:Nm):put [] k v=[(k,v)]:=by simp [put,has,pos]
theorem xen (k w v:Nm):put [(k,w)] k v=[(k,v)]:=by simp [put,has,pos,zbo]
theorem xfw (k:Nm):del [] k=[]:=by simp [del,has]
theorem xfv (k w:Nm):del [(k,w)] k=[]:=by simp [del,has,pos,zbo]
theorem get_nil (k:Nm):get [] k=none:=by simp [get,has]
theorem xfl (k w:Nm):get [(k,w)] k=some w:=by simp [get,has,pos,zbo]
theorem zqa {l:List En} (hr:Right l) (key:Nm):∃ E1 Ec E2,l=E1++(Ec++E2)∧(∀ x∈E1,Md.nlt x.1 key=true)∧(∀ x∈E2,Md.nlt key x.1=true)∧(Ec=[]∨∃ v,Ec=[(key,v)]):=by
 have ha:∀ x∈l.take (pos key l),Md.nlt x.1 key=true:=by
  intro x hx
  obtain ⟨j,hj,rfl⟩:=List.getElem_of_mem hx
  rw [List.length_take] at hj
  rw [List.getElem_take]
  exact zi8 (by omega) (by omega)
 by_cases hh:has key l=true
 ·obtain ⟨hl,hk⟩:=(zc1 hr).1 hh
  refine ⟨l.take (pos key l),[l[pos key l]],l.drop (pos key l+1),?_,ha,?_,.inr ⟨(l[pos key l]).2,?_⟩⟩
  ·rw [List.singleton_append,←List.drop_eq_getElem_cons hl,List.take_append_drop]
  ·intro x hx
   obtain ⟨j,hj,rfl⟩:=List.getElem_of_mem hx
   rw [List.length_drop] at hj
   rw [List.getElem_drop]
   have:=List.pairwise_iff_getElem.1 hr.2 (pos key l) (pos key l+1+j) hl (by omega) (by omega)
   rw [hk] at this
   exact this
  ·have:l[pos key l]=((l[pos key l]).1,(l[pos key l]).2):=rfl
   rw [hk] at this
   rw [this]
 ·refine ⟨l.take (pos key l),[],l.drop (pos key l),?_,ha,?_,.inl rfl⟩
  ·rw [List.nil_append,List.take_append_drop]
  ·intro x hx
   have hx':=List.mem_of_mem_drop hx
   obtain ⟨j,hj,rfl⟩:=List.getElem_of_mem hx
   rw [List.length_drop] at hj
   rw [List.getElem_drop] at hx' ⊢
   have h1:=zo8 (key:=key) hr (j:=pos key l+j) (by omega) (by omega)
   cases h2:Md.nlt key (l[pos key l+j]).1 with
   | true=>rfl
   | false =>
    have e:=zjd h1 h2
    refine absurd ?_ hh
    unfold has
    rw [List.any_eq_true]
    exact ⟨_,hx',by simp [e]⟩
theorem zmq {l:List En} {k v:Nm} {x:En} (hr:Right l):x∈put l k v↔x=(k,v)∨(x∈l∧x.1≠k):=by
 obtain ⟨E1,Ec,E2,rfl,h1,h2,h3⟩:=zqa hr k
 rw [Tb.zwk h1 h2 hr]
 have hp:put Ec k v=[(k,v)]:=by
  rcases h3 with rfl | ⟨w,rfl⟩
  ·exact xeo _ _
  ·exact xen _ _ _
 rw [hp]
 simp only [List.mem_append,List.mem_singleton]
 constructor
 ·rintro (h | h | h)
  ·exact .inr ⟨.inl h,zmk (h1 x h)⟩
  ·exact .inl h
  ·exact .inr ⟨.inr (.inr h),(zmk (h2 x h)).symm⟩
 ·rintro (h | ⟨h | h | h,hne⟩)
  ·exact .inr (.inl h)
  ·exact .inl h
  ·exfalso
   rcases h3 with rfl | ⟨w,rfl⟩
   ·cases h
   ·rw [List.mem_singleton] at h;exact hne (by rw [h])
  ·exact .inr (.inr h)
theorem zwt {l:List En} {k:Nm} {x:En} (hr:Right l):x∈del l k↔x∈l∧x.1≠k:=by
 obtain ⟨E1,Ec,E2,rfl,h1,h2,h3⟩:=zqa hr k
 rw [Tb.zxf h1 h2 hr]
 have hp:del Ec k=[]:=by
  rcases h3 with rfl | ⟨w,rfl⟩
  ·exact xfw _
  ·exact xfv _ _
 rw [hp]
 simp only [List.mem_append,List.nil_append]
 constructor
 ·rintro (h | h)
  ·exact ⟨.inl h,zmk (h1 x h)⟩
  ·exact ⟨.inr (.inr h),(zmk (h2 x h)).symm⟩
 ·rintro ⟨h | h | h,hne⟩
  ·exact .inl h
  ·exfalso
   rcases h3 with rfl | ⟨w,rfl⟩
   ·cases h
   ·rw [List.mem_singleton] at h;exact hne (by rw [h])
  ·exact .inr h
theorem xfh {l:List En} {k:Nm}:has k l=true↔∃ v,(k,v)∈l:=by
 unfold has
 rw [List.any_eq_true]
 constructor
 ·rintro ⟨⟨a,b⟩,h,e⟩
  simp only [decide_eq_true_eq] at e
  exact ⟨b,e ▸ h⟩
 ·rintro ⟨v,h⟩
  exact ⟨_,h,by simp⟩
theorem get_mem {l:List En} {k v:Nm} (hr:Right l):get l k=some v↔(k,v)∈l:=by
 obtain ⟨E1,Ec,E2,rfl,h1,h2,h3⟩:=zqa hr k
 rw [Tb.z5l h1 h2 hr]
 simp only [List.mem_append]
 have n1:(k,v)∉E1:=fun h=>zmk (h1 _ h) rfl
 have n2:(k,v)∉E2:=fun h=>zmk (h2 _ h) rfl
 rcases h3 with rfl | ⟨w,rfl⟩
 ·rw [get_nil];simp [n1,n2]
 ·rw [xfl];simp [n1,n2,eq_comm]
theorem get_none {l:List En} {k:Nm} (hr:Right l):get l k=none↔∀ v,(k,v)∉l:=by
 constructor
 ·intro h v hv
  rw [(get_mem hr).2 hv] at h
  cases h
 ·intro h
  cases e:get l k with
  | none=>rfl
  | some v=>exact absurd ((get_mem hr).1 e) (h v)
theorem zsu {l:List En} (hl:Right l) (p:En→Bool):Right (l.filter p):=⟨fun x hx=>hl.1 x (List.mem_filter.1 hx).1,hl.2.filter p⟩
theorem zo3 {x:En} {l:List En} (h:Right (x::l)):Right l:=⟨fun y hy=>h.1 y (by simp [hy]),(List.pairwise_cons.1 h.2).2⟩
theorem zpk {a:Nm}:∀ {l:List En},Right l→Tb.frm a l=l.filter fun x=>!Md.nlt x.1 a
 | [],_=>by simp [Tb.frm]
 | x::l,h=>by
  have ih:=zpk (a:=a) (zo3 h)
  unfold Tb.frm pos at *
  rw [List.findIdx_cons]
  cases e:Md.nlt x.1 a with
  | true=>simpa [e] using ih
  | false =>
   simp only [e,Bool.not_false,cond_true,List.drop_zero,List.filter_cons_of_pos]
   congr 1
   refine (List.filter_eq_self.2 fun y hy=>?_).symm
   have:=(List.pairwise_cons.1 h.2).1 y hy
   cases k:Md.nlt y.1 a with
   | false=>rfl
   | true=>rw [zb2 this k] at e;cases e
theorem zki {b:Nm}:∀ {l:List En},Right l→l.takeWhile (Tb.under b)=l.filter (Tb.under b)
 | [],_=>rfl
 | x::l,h=>by
  have ih:=zki (b:=b) (zo3 h)
  cases e:Tb.under b x with
  | true=>rw [List.takeWhile_cons_of_pos e,List.filter_cons_of_pos e,ih]
  | false =>
   rw [List.takeWhile_cons_of_neg (by rw [e];simp),List.filter_cons_of_neg (by rw [e];simp)]
   symm
   rw [List.filter_eq_nil_iff]
   intro y hy hu
   have:=(List.pairwise_cons.1 h.2).1 y hy
   unfold Tb.under at e hu
   simp only [Bool.or_eq_false_iff,Bool.or_eq_true] at e hu
   rcases hu with hu | hu
   ·rw [hu] at e;cases e.1
   ·rw [zb2 this hu] at e;cases e.2
theorem zwc {a b:Nm} {l:List En} (hr:Right l):Tb.scan a b l=l.filter fun x=>!Md.nlt x.1 a && Tb.under b x:=by
 rw [Tb.xei,zpk hr,zki (zsu hr _),List.filter_filter]
 congr 1
 funext x
 rw [Bool.and_comm]
end Ky
namespace Sq
open Ky
structure Rep (es:List En) (M:Mp) (O:List En):Prop where
 right:Right es
 okm:∀ k n,M k=some n→OkT k
 okn:∀ k n,M k=some n→OkN n
 mem:∀ k v,OkT k→((kk k,v)∈es↔∃ n,M k=some n∧v=zg9 n)
 other:∀ x∈es,(∃ k,OkT k∧x.1=kk k)∨x∈O
 sub:∀ x∈O,x∈es
 apart:∀ x∈O,∀ k,x.1≠kk k
def nope:Mp:=fun _=>none
theorem xel {O:List En} (hr:Right O) (ha:∀ x∈O,∀ k,x.1≠kk k):Rep O nope O where
 right:=hr
 okm:=fun k n h=>by cases h
 okn:=fun k n h=>by cases h
 mem:=fun k v _=>⟨fun h=>absurd rfl (ha _ h k),fun ⟨n,h,_⟩=>by cases h⟩
 other:=fun x hx=>.inr hx
 sub:=fun x hx=>hx
 apart:=ha
variable {es O:List En} {M:Mp}
theorem Rep.get (r:Rep es M O) {k:Tk} {n:Nd} (h:M k=some n):Ky.get es (kk k)=some (zg9 n) :=
 (get_mem r.right).2 ((r.mem k _ (r.okm k n h)).2 ⟨n,h,rfl⟩)
theorem Rep.get_none (r:Rep es M O) {k:Tk} (ok:OkT k) (h:M k=none):Ky.get es (kk k)=none :=
 (Ky.get_none r.right).2 fun v hv=>by
  obtain ⟨n,hn,_⟩:=(r.mem k v ok).1 hv
  rw [h] at hn
  cases hn
theorem Rep.has (r:Rep es M O) {k:Tk} (ok:OkT k):Ky.has (kk k) es=true↔M k≠none:=by
 rw [xfh]
 constructor
 ·rintro ⟨v,hv⟩
  obtain ⟨n,hn,_⟩:=(r.mem k v ok).1 hv
  rw [hn]
  simp
 ·intro h
  obtain ⟨n,hn⟩:=Option.ne_none_iff_exists'.1 h
  exact ⟨_,(r.mem k _ ok).2 ⟨n,hn,rfl⟩⟩
theorem Rep.put (r:Rep es M O) {k:Tk} (ok:OkT k) {n:Nd} (okn:OkN n):Rep (Ky.put es (kk k) (zg9 n)) (upd M k n) O where
 right:=Tb.zme r.right (ztp k n)
 okm:=fun x y h=>by
  by_cases e:x=k
  ·rw [e];exact ok
  ·rw [upd_ne e] at h;exact r.okm x y h
 okn:=fun x y h=>by
  by_cases e:x=k
  ·subst e;rw [zlk] at h;cases h;exact okn
  ·rw [upd_ne e] at h;exact r.okn x y h
 mem:=fun x v hx=>by
  rw [zmq r.right]
  by_cases e:x=k
  ·subst e
   rw [zlk]
   constructor
   ·rintro (h | ⟨_,h⟩)
    ·cases h;exact ⟨n,rfl,rfl⟩
    ·exact absurd rfl h
   ·rintro ⟨y,h,rfl⟩
    cases h
    exact .inl rfl
  ·rw [upd_ne e,←r.mem x v hx]
   constructor
   ·rintro (h | ⟨h,_⟩)
    ·rw [Prod.mk.injEq] at h
     exact absurd (zys hx.inT ok.inT h.1) e
    ·exact h
   ·intro h
    exact .inr ⟨h,fun h2=>e (zys hx.inT ok.inT h2)⟩
 other:=fun x hx=>by
  rcases (zmq r.right).1 hx with rfl | ⟨h,_⟩
  ·exact .inl ⟨k,ok,rfl⟩
  ·exact r.other x h
 sub:=fun x hx=>(zmq r.right).2 (.inr ⟨r.sub x hx,r.apart x hx k⟩)
 apart:=r.apart
def del (M:Mp) (k:Tk):Mp:=fun x=>if x=k then none else M x
theorem zy1 (M:Mp) (k:Tk):del M k k=none:=by unfold del;rw [if_pos rfl]
theorem z6c {k x:Tk} (h:x≠k):del M k x=M x:=by unfold del;rw [if_neg h]
theorem Rep.del (r:Rep es M O) {k:Tk} (ok:OkT k):Rep (Ky.del es (kk k)) (del M k) O where
 right:=Tb.zmf r.right
 okm:=fun x y h=>by
  by_cases e:x=k
  ·rw [e];exact ok
  ·rw [z6c e] at h;exact r.okm x y h
 okn:=fun x y h=>by
  by_cases e:x=k
  ·subst e;rw [zy1] at h;cases h
  ·rw [z6c e] at h;exact r.okn x y h
 mem:=fun x v hx=>by
  rw [zwt r.right]
  by_cases e:x=k
  ·subst e
   rw [zy1]
   constructor
   ·rintro ⟨_,h⟩;exact absurd rfl h
   ·rintro ⟨y,h,_⟩;cases h
  ·rw [z6c e,←r.mem x v hx]
   exact ⟨fun h=>h.1,fun h=>⟨h,fun h2=>e (zys hx.inT ok.inT h2)⟩⟩
 other:=fun x hx=>r.other x ((zwt r.right).1 hx).1
 sub:=fun x hx=>(zwt r.right).2 ⟨r.sub x hx,r.apart x hx k⟩
 apart:=r.apart
theorem Rep.over (r:Rep es M O) {k:Tk} (h:M k≠none) (n:Nd):Ky.has (kk k) es=true∧∀ x∈es,x.1=kk k→(zg9 n).size≤x.2.size:=by
 obtain ⟨y,hy⟩:=Option.ne_none_iff_exists'.1 h
 have ok:=r.okm k y hy
 refine ⟨(r.has ok).2 h,fun x hx e=>?_⟩
 obtain ⟨z,v⟩:=x
 simp only at e
 subst e
 obtain ⟨m,_,rfl⟩:=(r.mem k v ok).1 hx
 rw [zew,zew]
 exact Nat.le_refl _
end Sq
end Go.Proofs.YtfknjmoekbabcaaGreatDoor
