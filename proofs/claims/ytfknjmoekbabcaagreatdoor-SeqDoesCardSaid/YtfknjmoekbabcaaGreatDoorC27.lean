/-
  A part of a proof. It proves no statement by itself.
-/
import Derived.Test.YtfknjmoekbabcaaGreatDoorC25
import Derived.Test.YtfknjmoekbabcaaGreatDoorC26
import Derived.Test.YtfknjmoekbabcaaGreatDoorC13
set_option linter.unusedSimpArgs false
set_option linter.unusedVariables false
set_option linter.unusedSectionVars false
set_option maxRecDepth 100000
set_option maxHeartbeats 64000000
namespace Go.Proofs.YtfknjmoekbabcaaGreatDoor
open Go.RowKit Go.Lib
abbrev zgs (c:Cq) (r e:Int) (A:Asn) (key:Ky.Nm) (g:Nat) (cb:Array Value) (op:List Ky.En→List Ky.En) (P:List Ky.En→Prop) (d h:Nat):Prop :=
 ∀ {lo hi:Tb.Bd} {id:Int} {es:List Ky.En} {L M:Tb.Pg} {cc dp:Nat} {F:Asn} {w:World} {R:Ending→World→Prop},Tb.Sub h lo hi id es L cc→Tb.ge lo key→Tb.lt hi key→P es→dp+h<24→Sat (zaq c r e (L++M)*(A*F)) w →
  (∀ x a1 n1 c1 a2 n2 c2 w',zdk c r e (A*F) M (4+((L.length+M.length+h:Nat):Int)) (fun kids keys L' c'=>Tb.Done h lo hi cc d L kids keys (op es) L' c') x (.slice a1 n1 c1) (.slice a2 n2 c2) w'→Io w w'→R (.returned (.tuple #[.agg #[.slice a1 n1 c1,.slice a2 n2 c2],.int .i64 x])) w') →
  Calls Tryz.prog 89 #[.pointer (some ⟨c.tr,0,none⟩),.int .i64 id,.int .i64 (dp:Int),.string key,.func (.func g) #[] cb] w R
theorem zdk.more {c:Cq} {r e:Int} {F:Asn} {M:Tb.Pg} {B B':Int} {D:List Int→List Ky.Nm→Tb.Pg→Nat→Prop} {x:Int} {u v:Value} {w:World} (h:zdk c r e F M B D x u v w) (hb:B≤B'):zdk c r e F M B' D x u v w:=by
 rcases h with h | ⟨rfl,h1,H⟩
 ·exact .inl h
 ·exact .inr ⟨rfl,by omega,H⟩
theorem xad {α:Type} {L L1 Lc L2 M:List α} {x:α} (p:L.Perm (x::(L1++(Lc++L2)))):(L++M).Perm (Lc++(x::(L1++(L2++M)))):=by
 refine (p.append_right M).trans ?_
 refine List.Perm.trans ?_ List.perm_middle.symm
 rw [List.cons_append]
 refine List.Perm.cons _ ?_
 rw [List.append_assoc,List.append_assoc]
 exact List.perm_append_comm_assoc L1 Lc _
theorem z0b {α:Type} {L1 Lc L2 M:List α} {x:α}:(Lc++(x::(L1++(L2++M)))).Perm (x::((L1++(Lc++L2))++M)):=by
 refine List.perm_middle.trans ?_
 refine List.Perm.cons _ ?_
 rw [List.append_assoc,List.append_assoc]
 exact List.perm_append_comm_assoc Lc L1 _
theorem xac {α:Type} {L1 Lc L2 M:List α} {x:α}:(Lc++(x::(L1++(L2++M)))).Perm ((L1++(Lc++L2))++(x::M)):=by
 refine List.perm_middle.trans ?_
 refine List.Perm.trans ?_ List.perm_middle.symm
 refine List.Perm.cons _ ?_
 rw [List.append_assoc,List.append_assoc]
 exact List.perm_append_comm_assoc Lc L1 _
theorem z3w {F:Asn} {v:Value} {kk:List Int} {bb:List Ky.Nm} (hv:NdV F v (Ky.inn kk bb)):∃ a1 c1 a3 c3 a5 c5,v=.agg #[.bool false,.slice a1 0 c1,.slice a3 kk.length c3,.slice a5 bb.length c5]:=zjf hv
theorem xaj {F:Asn} {v:Value} {kk xx:List Int} {bb yy:List Ky.Nm} (h1:kk=xx) (h2:bb=yy) (h:NdV F v (Ky.inn xx yy)):NdV F v (Ky.inn kk bb):=by
 subst h1 h2
 exact h
theorem z3v {F:Asn} {v:Value} {kk:List Int} {bb:List Ky.Nm} {m m':Nat} (hv:NdV F v (Ky.inn kk bb)) (h1:m=kk.length) (h2:m'=bb.length):∃ a1 c1 a3 c3 a5 c5,v=.agg #[.bool false,.slice a1 0 c1,.slice a3 m c3,.slice a5 m' c5]:=by
 subst h1 h2
 exact zjf hv
theorem zi7 {α:Type} {enc:α→List Value} {sz:Nat} {e:TypeId} {a:Option Addr} {n c:Nat} {l:List α} {F:Asn} {w:World} (H:Sat (RowOf e sz enc (.slice a n c) l*F) w):n=l.length:=by
 obtain ⟨hx,⟨h0,h1,_⟩ | ⟨g',cap,cur,e1,_⟩⟩:=za8.1 H
 ·cases h0;exact h1.symm
 ·cases e1;rfl
section
variable {c:Cq} {r e:Int} {A:Asn} {key:Ky.Nm} {g:Nat} {cb:Array Value} {op:List Ky.En→List Ky.En} {P:List Ky.En→Prop} {d h:Nat}
theorem zxn (hk:c.k.n≤3000) (eg:∀ args w,(callFunc g args).run Tryz.prog w=.ok (.enter g args) w) (o:Tb.Loc op P key d) (hdo:zgw A g cb op P):zgs c r e A key g cb op P d 0:=by
 intro lo hi id es L M cc dp F w R s hlo hhi hp hd H h
 exact zxq s o hlo hhi hp (by omega) hk eg hdo H fun x a1 n1 c1 a2 n2 c2 w' D I=>h x a1 n1 c1 a2 n2 c2 w' (D.more (by omega)) I
structure StepSt (c:Cq) (r e:Int) (lo hi:Tb.Bd) (h d:Nat) (id:Int) (L M:Tb.Pg) (K:List Int) (B:List Ky.Nm) (i:Nat) (es':List Ky.En) (kids:List Int) (keys:List Ky.Nm) (K':Tb.Pg):Prop where
 mid:(kids=[]∧Tb.swK K i (i+1) kids=[]∧Tb.swB B i (i+1) kids keys=[]∧es'=[]∧K'=[])∨Tb.Mid h lo hi K.length d L (Tb.swK K i (i+1) kids) (Tb.swB B i (i+1) kids keys) es' K'
 few:kids.length≤2∧keys.length=kids.length - 1
theorem zxo (hk:c.k.n≤3000) (o:Tb.Loc op P key d) (ih:zgs c r e A key g cb op P d h):zgs c r e A key g cb op P d (h+1):=by
 intro lo hi id es L M cc dp F w R s hlo hhi hp hd H hh
 have HH:=L_ hh
 obtain ⟨s1,s2,K,B,L',n,hz,ck,pm,hcc⟩:=s
 subst hcc
 have hir:=Tb.zcx n ck
 have hlen:=n.len
 have hks:=Tb.zbg ck
 have hci:Tb.chd key B<K.length:=by have:=Tb.zzc key B;omega
 obtain ⟨a,b,e1,ec,e2,L1,Lc,L2,g1,⟨ccc,sc⟩,g2,qe,qL,ha,hb',hE1,hE2⟩:=Tb.zza n hlo hhi hci
 obtain ⟨i,hic⟩:∃ i,i=Tb.chd key B:=⟨_,rfl⟩
 have hcj:i<K.length:=by rw [hic];exact hci
 have zt2 : ∃ kid, K[i]'hcj = kid := ⟨_, rfl⟩
 obtain ⟨kid,zt2⟩:=zt2
 simp only [←hic] at g1 sc g2 hci
 rw [zt2] at sc
 have hab:=sc.bounds.1
 have hright:Ky.Right es:=(Tb.zqu (fun s=>Tb.Sb.inn s) n).2.1
 subst qe qL
 have hop:=o.loc e1 ec e2 hE1 hE2 hright
 have hpc:=o.ploc e1 ec e2 hE1 hE2 hp
 have IH:Hid (zgs c r e A key g cb op P d h):=L_ ih
 have N1:Hid ((id,Ky.inn K B)∈L++M):=L_ (List.mem_append_left _ (by simp [pm.mem_iff]))
 have N2:=L_ (Ky.NdR.inner hir)
 have N3:Hid (Ky.zbf (Ky.inn K B)≤240):=L_ hz
 have N4:=L_ hir
 have HI:=L_ hic
 have HK:=L_ zt2
 have HKL:Hid (K.length≤1000∧B.length≤1000∧K.length=B.length+1∧i<K.length):=L_ (by omega)
 have PK:=L_ (xad (M:=M) pm)
 have PM:Hid (∀ X:Tb.Pg,(X++((id,Ky.inn K B)::(L1++(L2++M)))).Perm ((L1++(X++L2))++((id,Ky.inn K B)::M))):=L_ (fun X=>xac)
 have HC:=L_ (And.intro sc (And.intro ha (And.intro hb' hpc)))
 have HS:Hid (∀ kids keys Lc' c',Tb.Done h a b ccc d Lc kids keys (op ec) Lc' c'→StepSt c r e lo hi h d id L M K B i (op (e1++(ec++e2))) kids keys (L1++(Lc'++L2))):=L_ (fun kids keys Lc' c' dn=>by
  refine ⟨?_,?_⟩
  ·rw [hop]
   rcases Tb.mid_of (c:=K.length) hci hlen rfl hz ck pm g1 g2 hab dn with ⟨q1,q2,q3,q4,q5⟩ | q
   ·exact .inl ⟨q1,q4,q5,q2,q3⟩
   ·exact .inr q
  ·rcases dn.forms with ⟨rfl,rfl,_⟩ | ⟨k,rfl,rfl⟩ | ⟨k1,k2,y,rfl,rfl⟩<;>simp)
 have HB:Hid (4+((Lc.length+((id,Ky.inn K B)::(L1++(L2++M))).length+h:Nat):Int)≤4+((L.length+M.length+(h+1):Nat):Int)∧L.length=Lc.length+L1.length+L2.length+1):=L_ (by
  have:=pm.length_eq
  simp only [List.length_cons,List.length_append] at this ⊢
  omega)
 have HID:=L_ s2
 have d1:(dp:Int)<24:=by omega
 obtain ⟨dn,hdn⟩:∃ dn:Nat,dn=dp+1:=⟨_,rfl⟩
 have d2:(dp:Int)+1=(dn:Int):=by omega
 have d3:(dn:Int)<24:=by omega
 have HDN:Hid (dn+h<24):=L_ (by omega)
 have H1:=(H.new zP).of_eq (show _=zaq c r e (L++M)*(pts w.heap.size zP*(A*F)) from by ac_rfl)
 have I1:=(Io.refl w).alloc zP
 clear hh ih s1 s2 hz ck hir hlen hks g1 sc g2 ha hb' hE1 hE2 hic zt2 hab hright hop hpc hp hlo hhi hd hdn n pm hci
 go_enter Tryz.func89,Tryz.ntmps89
 go_upto_region 1 with fail
 generalize w.alloc zP=w1 at *
 generalize hb:w.heap.size=b0 at *
 go_upto_region 2 with (go_at_call 106;with_reducible refine zcy N1.out N2.out N3.out d1 H1 ?_;intro G kv w2 NK H2 I2;have NK:=L_ NK;have SK:=NK.out.shape;obtain ⟨b1,x1,y1,t1,x2,y2,t2,x3,y3,t3,hq⟩:=SK;subst hq)
 obtain ⟨a1,c1,b3,o3,c3,a5,c5,hq,hX,-⟩:=zmn NK.out (by have:=HKL.out;omega)
 cases hq
 have HX:Hid (∀ w,Sat G w→w.cell? ⟨b3,o3+i,none⟩=some (.int .i64 kid)):=L_ (by rw [←HK.out];exact hX i HKL.out.2.2.2)
 obtain ⟨n3,hn3⟩:∃ n,n=K.length:=⟨_,rfl⟩
 obtain ⟨n5,hn5⟩:∃ n,n=B.length:=⟨_,rfl⟩
 have HN:=L_ (And.intro hn3 hn5)
 rw [←hn3,←hn5] at NK ⊢
 have i0:(0:Int)≤(i:Int):=by omega
 have i1:(i:Int)<(n3:Int):=by have:=HKL.out;omega
 have i2:(n3:Int)≤1000:=by have:=HKL.out;omega
 clear hX hn3 hn5
 have H3:=(H2.new (.cells #[.bool false,.slice x1 0 t1,.slice (some ⟨b3,o3,none⟩) n3 t2,.slice x3 n5 t3] 151)).of_eq (show _=zaq c r e (L++M)*(pts w2.heap.size (.cells #[.bool false,.slice x1 0 t1,.slice (some ⟨b3,o3,none⟩) n3 t2,.slice x3 n5 t3] 151)*(pts b0 zP*(G*(A*F)))) from by ac_rfl)
 have I3:=(I1.trans I2).alloc (.cells #[.bool false,.slice x1 0 t1,.slice (some ⟨b3,o3,none⟩) n3 t2,.slice x3 n5 t3] 151)
 generalize w2.alloc _=w3 at *
 generalize w2.heap.size=gn at *
 clear H1 H2 I1 I2
 obtain ⟨u0,u1,u2,u3⟩:=nd4 H3.right
 go_upto_region 7 with (go_at_call 108;with_reducible refine zm5 N4.out (NK.out.imp (fun _ hw=>hw.right.right.right.left)) (by have:=HKL.out;omega) key H3 HI ?_;intro w4 H4 I4)
 obtain ⟨u0,u1,u2,u3⟩:=nd4 H4.right
 have x0:=HX.out _ H4.right.right.right.left
 have H5:=(zaq.perm PK.out H4).of_eq (show _=zaq c r e (Lc++((id,Ky.inn K B)::(L1++(L2++M))))*(A*(pts gn (.cells #[.bool false,.slice x1 0 t1,.slice (some ⟨b3,o3,none⟩) n3 t2,.slice x3 n5 t3] 151)*(pts b0 zP*(G*F)))) from by ac_rfl)
 go_upto_region 8 with (go_at_call 89;with_reducible refine IH.out HC.out.1 HC.out.2.1 HC.out.2.2.1 HC.out.2.2.2 HDN.out H5 ?_;intro x a6 n6 c6 a7 n7 c7 w6 D6 I6;have D6:=L_ D6)
 have I7:=(((I3.trans I4).trans I6).alloc (.cells #[.slice a6 n6 c6,.slice a7 n7 c7] 147))
 clear H3 H4 H5 I3 I4 I6 u0 u1 u2 u3 x0 i0 i1 i2
 rcases D6.out with ⟨rfl,kids,keys,Lc',c',D,H6⟩ | ⟨rfl,hf,H6⟩
 ·have ST:=L_ (HS.out _ _ _ _ D)
  clear D6 D HC IH HX
  have H7:=(H6.new (.cells #[.slice a6 n6 c6,.slice a7 n7 c7] 147))
  have hkl:=zi7 H7.right
  have hyl:=zi7 H7.right.right
  have H8:=H7.of_eq (show _=zaq c r e (Lc'++((id,Ky.inn K B)::(L1++(L2++M))))*(pts gn (.cells #[.bool false,.slice x1 0 t1,.slice (some ⟨b3,o3,none⟩) n3 t2,.slice x3 n5 t3] 151)*(pts w6.heap.size (.cells #[.slice a6 n6 c6,.slice a7 n7 c7] 147)*(za1 (.slice a6 n6 c6) kids*(zbj (.slice a7 n7 c7) keys*(G*(pts b0 zP*(A*F))))))) from by unfold za1 zbj;ac_rfl)
  have RD1:=L_ (Reads.zau (za3 H7.right.left) (by have:=ST.out.few;omega))
  have RD2:=L_ (Reads.zau (za3 H7.right.right.left) (by have:=ST.out.few;omega))
  have HKN:=L_ (And.intro hkl hyl)
  generalize w6.alloc _=w7 at *
  generalize w6.heap.size=gp at *
  clear H6 H7 hkl hyl
  obtain ⟨kk,hkk⟩:∃ kk,kk=Tb.swK K i (i+1) kids:=⟨_,rfl⟩
  obtain ⟨bb,hbb⟩:∃ bb,bb=Tb.swB B i (i+1) kids keys:=⟨_,rfl⟩
  have HM:=ST.out.mid
  rw [←hkk,←hbb] at HM
  have HM2:=L_ (HM.imp (fun h=>And.intro h.2.1 (And.intro h.2.2.2.1 h.2.2.2.2)) (fun h=>h))
  have HM:=L_ HM
  have HF:=L_ ST.out.few
  obtain ⟨m,hm⟩:∃ m,m=kk.length:=⟨_,rfl⟩
  obtain ⟨m',hm'⟩:∃ m',m'=bb.length:=⟨_,rfl⟩
  have HMM:=L_ (And.intro hm hm')
  obtain ⟨it,hit⟩:∃ it:Nat,it=i+1:=⟨_,rfl⟩
  have e1i:(i:Int)+1=(it:Int):=by omega
  have b5:(it:Int)≤2000:=by have:=HKL.out;omega
  have b6:(i:Int)≤2000:=by omega
  have HT:=L_ hit
  rw [←hit] at hkk hbb
  have HKK:=L_ (And.intro hkk hbb)
  obtain ⟨u0,u1,u2,u3⟩:=nd4 H8.right
  obtain ⟨p0,p1⟩:=nd2 H8.right.right
  clear ST hit hkk hbb hm hm'
  go_upto_region 11 with (go_at_call 119;(with_reducible refine swap_any (f:=i) (t:=it) HKL.out.2.2.1 (by have:=HKL.out;omega) (by have:=HT.out;omega) (by have:=HT.out;have:=HKL.out;omega) (RD1.out.imp (fun _ hw=>za3 hw.right.right.right.left)) (RD2.out.imp (fun _ hw=>za3 hw.right.right.right.right.left)) HF.out.2 (by have:=HF.out;omega) (by have:=HF.out;omega) (NK.out.imp (fun _ hw=>hw.right.right.right.right.right.left)) H8 ?_);intro G8 v8 w8 N8 H9 I9;have N8:Hid (NdV G8 v8 (Ky.inn kk bb)):=L_ (xaj HKK.out.1 HKK.out.2 N8);have N9:=z3v N8.out HMM.out.1 HMM.out.2;obtain ⟨g1,k1,g2,k2,g3,k3,hq⟩:=N9;subst hq;obtain ⟨m0,m1,m2,m3⟩:=nd4 H9.right.right;obtain ⟨f0,f1,f2,f3⟩:=zd7 H9.right.right)
  have K10:=((H9.of_eq (show _=(pts gn (.cells #[.bool false,.slice x1 0 t1,.slice (some ⟨b3,o3,none⟩) n3 t2,.slice x3 n5 t3] 151)*(zaq c r e (Lc'++((id,Ky.inn K B)::(L1++(L2++M))))*(pts gp (.cells #[.slice a6 n6 c6,.slice a7 n7 c7] 147)*(G8*(pts b0 zP*(A*F))))))*(za1 (.slice a6 n6 c6) kids*(zbj (.slice a7 n7 c7) keys*G)) from by unfold za1 zbj;ac_rfl)).left).cells4 (x':=.bool false) (y':=.slice g1 0 k1) (z':=.slice g2 m k2) (u':=.slice g3 m' k3)
  have J10:=(((((I7.trans I9).setCell ⟨gn,0,none⟩ (.bool false)).setCell ⟨gn,1,none⟩ (.slice g1 0 k1)).setCell ⟨gn,2,none⟩ (.slice g2 m k2)).setCell ⟨gn,3,none⟩ (.slice g3 m' k3))
  generalize (((w8.setCell ⟨gn,0,none⟩ (.bool false)).setCell ⟨gn,1,none⟩ (.slice g1 0 k1)).setCell ⟨gn,2,none⟩ (.slice g2 m k2)).setCell ⟨gn,3,none⟩ (.slice g3 m' k3)=W8 at *
  have K10:=K10.of_eq (show _=zaq c r e (Lc'++((id,Ky.inn K B)::(L1++(L2++M))))*(pts gn (.cells #[.bool false,.slice g1 0 k1,.slice g2 m k2,.slice g3 m' k3] 151)*(pts gp (.cells #[.slice a6 n6 c6,.slice a7 n7 c7] 147)*(G8*(pts b0 zP*(A*F))))) from by ac_rfl)
  clear H8 H9 I7 I9 m0 m1 m2 m3 f0 f1 f2 f3 u0 u1 u2 u3 p0 p1
  obtain ⟨u0,u1,u2,u3⟩:=nd4 K10.right
  obtain ⟨p0,p1⟩:=nd2 K10.right.right
  have KS:=(zaq.perm z0b K10).of_eq (show _=zaq c r e ((id,Ky.inn K B)::((L1++(Lc'++L2))++M))*((pts b0 zP*(pts gp (.cells #[.slice a6 n6 c6,.slice a7 n7 c7] 147)*(pts gn (.cells #[.bool false,.slice g1 0 k1,.slice g2 m k2,.slice g3 m' k3] 151)*G8)))*(A*F)) from by ac_rfl)
  by_cases q1:n6=1
  ·by_cases q2:1<m
   ·have q3:(1:Int)<(m:Int):=by omega
    have q4:((n6:Int) == 1)=true:=beq_iff_eq.2 (by omega)
    have h6:kids.length=1:=by have:=HKN.out.1;omega
    have MI:Hid (Tb.Mid h lo hi K.length d L kk bb (op (e1++(ec++e2))) (L1++(Lc'++L2))):=L_ (by
     rcases HM.out with ⟨e,_⟩ | mm
     ·rw [e] at h6;cases h6
     ·exact mm)
    have IK:Hid (i<kk.length∧2≤kk.length):=L_ (by
     have e:=HKK.out.1
     have e2:=Tb.zv8 K i it kids (by have:=HT.out;omega) (by have:=HT.out;have:=HKL.out;omega)
     rw [←e] at e2
     have:=HKL.out
     have:=HT.out
     have:=HMM.out.1
     omega)
    have KF:=zaq.perm (PM.out Lc') K10
    clear KS K10 h6
    go_upto_region 13 with (go_at_call 120;(with_reducible refine xbq (F1:=G8) (fun _ hw=>hw.right.right.left) (Rest:=(id,Ky.inn K B)::M) MI.out IK.out.2 IK.out.1 d3 hk N8.out KF ?_);intro G7 v7 kk' bb' K'' w7 M7 N7 H12 I12;have N7:=L_ N7;have M7:=L_ M7;have N6:=z3w N7.out;obtain ⟨g4,k4,g5,k5,g6,k6,hq⟩:=N6;subst hq;obtain ⟨m0,m1,m2,m3⟩:=nd4 H12.right.right;obtain ⟨f0,f1,f2,f3⟩:=zd7 H12.right.right)
    have K13:=((zaq.perm List.perm_middle H12).of_eq (show _=pts gn (.cells #[.bool false,.slice g1 0 k1,.slice g2 m k2,.slice g3 m' k3] 151)*(zaq c r e ((id,Ky.inn K B)::(K''++M))*((pts gp (.cells #[.slice a6 n6 c6,.slice a7 n7 c7] 147)*(pts b0 zP*(A*F)))*(G7*G8))) from by ac_rfl)).cells4 (x':=.bool false) (y':=.slice g4 0 k4) (z':=.slice g5 kk'.length k5) (u':=.slice g6 bb'.length k6)
    have J13:=((((J10.trans I12).setCell ⟨gn,0,none⟩ (.bool false)).setCell ⟨gn,1,none⟩ (.slice g4 0 k4)).setCell ⟨gn,2,none⟩ (.slice g5 kk'.length k5)).setCell ⟨gn,3,none⟩ (.slice g6 bb'.length k6)
    generalize ((((w7.setCell ⟨gn,0,none⟩ (.bool false)).setCell ⟨gn,1,none⟩ (.slice g4 0 k4)).setCell ⟨gn,2,none⟩ (.slice g5 kk'.length k5)).setCell ⟨gn,3,none⟩ (.slice g6 bb'.length k6))=W7 at *
    clear m0 m1 m2 m3 f0 f1 f2 f3 u0 u1 u2 u3 p0 p1 KF H12 I12 q3 q4
    have KT:=K13.of_eq (show _=zaq c r e ((id,Ky.inn K B)::(K''++M))*((pts b0 zP*(pts gp (.cells #[.slice a6 n6 c6,.slice a7 n7 c7] 147)*(pts gn (.cells #[.bool false,.slice g4 0 k4,.slice g5 kk'.length k5,.slice g6 bb'.length k6] 151)*(G7*G8))))*(A*F)) from by ac_rfl)
    obtain ⟨u0,u1,u2,u3⟩:=nd4 K13
    go_wp2_with (go_at_call 88;(with_reducible refine zl3 (L:=L) (M:=M) (.inr M7.out) HID.out hk (N7.out.imp (fun _ hw=>hw.left.right.right.right)) KT ?_);intro x a1 n1 c1 a2 n2 c2 w9 D9 I9;have D9:=L_ D9;have D8:=D9.out.frame;obtain ⟨Y,H11,hY⟩:=D8;have HY:=L_ hY;clear hY D9;have K11:=(H11.of_eq (show _=(pts b0 zP*(Y*(A*F)))*(pts gp (.cells #[.slice a6 n6 c6,.slice a7 n7 c7] 147)*(pts gn (.cells #[.bool false,.slice g4 0 k4,.slice g5 kk'.length k5,.slice g6 bb'.length k6] 151)*(G7*G8))) from by ac_rfl)).left;obtain ⟨y0,y1⟩:=nd2 K11;obtain ⟨z0,z1⟩:=ztl K11)
    have K:=K11.cells2 (x':=.slice a1 n1 c1) (y':=.slice a2 n2 c2)
    have J:=((J13.trans I9).setCell ⟨b0,0,none⟩ (.slice a1 n1 c1)).setCell ⟨b0,1,none⟩ (.slice a2 n2 c2)
    generalize (w9.setCell ⟨b0,0,none⟩ (.slice a1 n1 c1)).setCell ⟨b0,1,none⟩ (.slice a2 n2 c2)=W9 at *
    clear y0 y1 z0 z1
    obtain ⟨y0,y1⟩:=nd2 K
    exact bodyPost_ret (v:=.tuple #[.agg #[.slice a1 n1 c1,.slice a2 n2 c2],.int .i64 x]) (by simp [results,Tryz.results89,go_sem,y0,y1]) rfl (HH.out _ _ _ _ _ _ _ W9 ((HY.out _ K.right).more (by omega)) J)
   ·have q3:decide ((1:Int)<(m:Int))=false:=decide_eq_false (by omega)
    have q4:((n6:Int) == 1)=true:=beq_iff_eq.2 (by omega)
    go_wp2_with (go_at_call 88;(with_reducible refine zl3 (L:=L) (M:=M) HM2.out HID.out hk (N8.out.imp (fun _ hw=>hw.left.right.right.right)) KS ?_);intro x a1 n1 c1 a2 n2 c2 w9 D9 I9;have D9:=L_ D9;have D8:=D9.out.frame;obtain ⟨Y,H11,hY⟩:=D8;have HY:=L_ hY;clear hY D9;have K11:=(H11.of_eq (show _=(pts b0 zP*(Y*(A*F)))*(pts gp (.cells #[.slice a6 n6 c6,.slice a7 n7 c7] 147)*(pts gn (.cells #[.bool false,.slice g1 0 k1,.slice g2 m k2,.slice g3 m' k3] 151)*G8)) from by ac_rfl)).left;obtain ⟨y0,y1⟩:=nd2 K11;obtain ⟨z0,z1⟩:=ztl K11)
    have K:=K11.cells2 (x':=.slice a1 n1 c1) (y':=.slice a2 n2 c2)
    have J:=((J10.trans I9).setCell ⟨b0,0,none⟩ (.slice a1 n1 c1)).setCell ⟨b0,1,none⟩ (.slice a2 n2 c2)
    generalize (w9.setCell ⟨b0,0,none⟩ (.slice a1 n1 c1)).setCell ⟨b0,1,none⟩ (.slice a2 n2 c2)=W9 at *
    clear y0 y1 z0 z1
    obtain ⟨y0,y1⟩:=nd2 K
    exact bodyPost_ret (v:=.tuple #[.agg #[.slice a1 n1 c1,.slice a2 n2 c2],.int .i64 x]) (by simp [results,Tryz.results89,go_sem,y0,y1]) rfl (HH.out _ _ _ _ _ _ _ W9 ((HY.out _ K.right).more (by omega)) J)
  ·have q3:((n6:Int) == 1)=false:=beq_eq_false_iff_ne.2 (by omega)
   go_wp2_with (go_at_call 88;(with_reducible refine zl3 (L:=L) (M:=M) HM2.out HID.out hk (N8.out.imp (fun _ hw=>hw.left.right.right.right)) KS ?_);intro x a1 n1 c1 a2 n2 c2 w9 D9 I9;have D9:=L_ D9;have D8:=D9.out.frame;obtain ⟨Y,H11,hY⟩:=D8;have HY:=L_ hY;clear hY D9;have K11:=(H11.of_eq (show _=(pts b0 zP*(Y*(A*F)))*(pts gp (.cells #[.slice a6 n6 c6,.slice a7 n7 c7] 147)*(pts gn (.cells #[.bool false,.slice g1 0 k1,.slice g2 m k2,.slice g3 m' k3] 151)*G8)) from by ac_rfl)).left;obtain ⟨y0,y1⟩:=nd2 K11;obtain ⟨z0,z1⟩:=ztl K11)
   have K:=K11.cells2 (x':=.slice a1 n1 c1) (y':=.slice a2 n2 c2)
   have J:=((J10.trans I9).setCell ⟨b0,0,none⟩ (.slice a1 n1 c1)).setCell ⟨b0,1,none⟩ (.slice a2 n2 c2)
   generalize (w9.setCell ⟨b0,0,none⟩ (.slice a1 n1 c1)).setCell ⟨b0,1,none⟩ (.slice a2 n2 c2)=W9 at *
   clear y0 y1 z0 z1
   obtain ⟨y0,y1⟩:=nd2 K
   exact bodyPost_ret (v:=.tuple #[.agg #[.slice a1 n1 c1,.slice a2 n2 c2],.int .i64 x]) (by simp [results,Tryz.results89,go_sem,y0,y1]) rfl (HH.out _ _ _ _ _ _ _ W9 ((HY.out _ K.right).more (by omega)) J)
 ·clear D6
  have H7:=((H6.new (.cells #[.slice a6 n6 c6,.slice a7 n7 c7] 147)).of_eq (show _=pts b0 zP*(zbm c r e*(A*F))*(pts w6.heap.size (.cells #[.slice a6 n6 c6,.slice a7 n7 c7] 147)*(pts gn (.cells #[.bool false,.slice x1 0 t1,.slice (some ⟨b3,o3,none⟩) n3 t2,.slice x3 n5 t3] 151)*G)) from by ac_rfl)).left
  obtain ⟨y0,y1⟩:=nd2 H7
  obtain ⟨f0,f1⟩:=ztl H7
  have K7:=H7.cells2 (x':=.slice none 0 0) (y':=.slice none 0 0)
  have J7:=(I7.setCell ⟨b0,0,none⟩ (.slice none 0 0)).setCell ⟨b0,1,none⟩ (.slice none 0 0)
  go_wp2_with fail
  generalize ((w6.alloc _).setCell ⟨b0,0,none⟩ (.slice none 0 0)).setCell ⟨b0,1,none⟩ (.slice none 0 0)=W at *
  clear y0 y1 f0 f1
  obtain ⟨y0,y1⟩:=nd2 K7
  exact bodyPost_ret (v:=.tuple #[.agg #[.slice none 0 0,.slice none 0 0],.int .i64 2]) (by simp [results,Tryz.results89,go_sem,y0,y1]) rfl (HH.out 2 _ _ _ _ _ _ W (.inr ⟨rfl,by have:=HB.out;omega,K7.right⟩) J7)
theorem zpu (hk:c.k.n≤3000) (eg:∀ args w,(callFunc g args).run Tryz.prog w=.ok (.enter g args) w) (o:Tb.Loc op P key d) (hdo:zgw A g cb op P):∀ h,zgs c r e A key g cb op P d h
 | 0=>zxn hk eg o hdo
 | h+1=>zxo hk o (zpu hk eg o hdo h)
end
section
variable {c:Cq} {r e:Int} {F:Asn} {w:World} {R:Ending→World→Prop}
theorem zoz {h g cc:Nat} {id:Int} {es:List Ky.En} {L:Tb.Pg} (s:Tb.Sub h none none id es L cc) (hg:11*h+min cc 12≤12+g) (hh:h<24) (hk:c.k.n≤3000) (H:Sat (zaq c r e L*F) w)
  (hR:∀ id' L' h' c' w',Tb.Sub h' none none id' es L' c'→11*h'+min c' 12≤12+g→Tb.psi L'=Tb.psi L→Sat (zaq c r e L'*F) w'→Io w w'→R (.returned (.tuple #[.int .i64 id',.int .i64 0])) w') :
  Calls Tryz.prog 121 #[.pointer (some ⟨c.tr,0,none⟩),.int .i64 id] w R:=by
 have HH:=L_ hR
 have HS:Hid (∃ h0 c0,Tb.Sub h0 none none id es L c0∧11*h0+min c0 12≤12+g∧0+h0<24):=L_ ⟨h,cc,s,hg,by omega⟩
 clear hR s hg hh
 go_enter Tryz.func121,Tryz.ntmps121
 go_wp2_with fail
 go_loopw [1,6] (fun x y wr=>∃ (id0:Int) (dp:Nat) (L0:Tb.Pg),x=.int .i64 id0∧y=.int .i64 (dp:Int)∧dp≤24∧Hid (∃ h0 c0,Tb.Sub h0 none none id0 es L0 c0∧11*h0+min c0 12≤12+g∧dp+h0<24∧Tb.psi L0=Tb.psi L)∧Sat (zaq c r e L0*F) wr∧Io w wr) (fun _ y _=>24 - (RowKit.intOf y).toNat)
 case atStart=>exact ⟨id,0,L,rfl,rfl,by omega,L_ (by obtain ⟨h0,c0,q1,q2,q3⟩:=HS.out;exact ⟨h0,c0,q1,q2,by omega,rfl⟩),H,Io.refl _⟩
 case round =>
  obtain ⟨id0,dp,L0,rfl,rfl,hdp,HS2,Hk,Ik⟩:=hrel
  clear H HS
  obtain ⟨h0,c0,q1,q2,q3,q4⟩:=HS2.out
  have d1:(dp:Int)<24:=by omega
  have hid:=q1.bounds.2
  rcases q1.zsx with ⟨rfl,rfl,rfl,z1,z2⟩ | ⟨h1,K,B,L1,rfl,n,z1,z2,z3,rfl⟩
  ·have N1:Hid ((id0,Ky.lf es)∈[(id0,Ky.lf es)]):=L_ (by simp)
   have N2:=L_ (Ky.NdR.leaf z1)
   have N3:Hid (Ky.zbf (Ky.lf es)≤240):=L_ z2
   have Q:=L_ (And.intro q1 (And.intro q2 q4))
   clear q1 q2 q3 q4 hid z1 z2 HS2
   go_upto_region 4 with (go_at_call 106;(with_reducible refine zcy N1.out N2.out N3.out d1 Hk ?_);intro G kv w2 NK H2 I2;have NK:=L_ NK;have SK:=NK.out.shape;obtain ⟨b1,x1,y1,t1,x2,y2,t2,x3,y3,t3,hq⟩:=SK;subst hq)
   obtain ⟨rfl,-,-⟩:=zh4 NK.out
   have H3:=(H2.new (.cells #[.bool true,.slice x1 y1 t1,.slice x2 y2 t2,.slice x3 y3 t3] 151))
   have I3:=(Ik.trans I2).alloc (.cells #[.bool true,.slice x1 y1 t1,.slice x2 y2 t2,.slice x3 y3 t3] 151)
   generalize w2.alloc _=w3 at *
   generalize w2.heap.size=gn at *
   obtain ⟨u0,u1,u2,u3⟩:=nd4 H3
   go_wp2_with fail
   exact HH.out id0 _ 0 12 _ Q.out.1 Q.out.2.1 Q.out.2.2 H3.right.right I3
  ·have N1:Hid ((id0,Ky.inn K B)∈L0):=L_ (by simp [z3.mem_iff])
   have hlen:=n.len
   have N2:=L_ (Ky.NdR.inner (Tb.zcx n z2))
   have N3:Hid (Ky.zbf (Ky.inn K B)≤240):=L_ z1
   obtain ⟨n3,hn3⟩:∃ n,n=K.length:=⟨_,rfl⟩
   obtain ⟨n5,hn5⟩:∃ n,n=B.length:=⟨_,rfl⟩
   have HN:=L_ (And.intro hn3 hn5)
   have hpos:0<K.length:=by omega
   by_cases h1k:K.length=1
   ·have Q : Hid (∃ L' c', L0.Perm ((id0, Ky.inn K B) :: L') ∧ Tb.Sub h1 none none (K[0]'hpos) es L' c' ∧ 11 * h1 + min c' 12 ≤ 12 + g ∧ dp + 1 + h1 < 24 ∧ Tb.psi L' = Tb.psi L) := L_ (by
     rw [h1k] at q1 q2
     obtain ⟨k0,hK⟩:=List.length_eq_one_iff.1 h1k
     have hB:B=[]:=List.eq_nil_of_length_eq_zero (by omega)
     subst hK hB
     obtain ⟨s0,r0⟩:=n
     cases r0
     obtain ⟨c1,s0⟩:=s0
     refine ⟨_,c1,z3,by simpa using s0,by omega,by omega,?_⟩
     rw [←q4,Tb.zlt z3]
     simp [Tb.psi,Tb.wt,Ky.inn])
    have i1:¬ (1:Int)<(n3:Int):=by omega
    have i2:decide ((1:Int)<(n3:Int))=false:=decide_eq_false i1
    have i3:(0:Int)<(n3:Int):=by omega
    have xgj:=L_ hpos
    clear q1 q2 q3 q4 hid n z1 z2 hlen HS2 hn3 hn5
    go_upto_region 4 with (go_at_call 106;(with_reducible refine zcy N1.out N2.out N3.out d1 Hk ?_);intro G kv w2 NK H2 I2;have NK:=L_ NK;have SK:=NK.out.shape;obtain ⟨b1,x1,y1,t1,x2,y2,t2,x3,y3,t3,hq⟩:=SK;subst hq)
    obtain ⟨a1,c1,b3,o3,c3,a5,c5,hq,hX,-⟩:=zmn NK.out xgj.out
    cases hq
    have hx0:=hX 0 xgj.out
    simp only [Nat.add_zero] at hx0
    rw [←HN.out.1,←HN.out.2]
    have H3:=(H2.new (.cells #[.bool false,.slice x1 0 t1,.slice (some ⟨b3,o3,none⟩) n3 t2,.slice x3 n5 t3] 151)).of_eq (show _=zaq c r e L0*(pts w2.heap.size (.cells #[.bool false,.slice x1 0 t1,.slice (some ⟨b3,o3,none⟩) n3 t2,.slice x3 n5 t3] 151)*(G*F)) from by ac_rfl)
    have I3:=(Ik.trans I2).alloc (.cells #[.bool false,.slice x1 0 t1,.slice (some ⟨b3,o3,none⟩) n3 t2,.slice x3 n5 t3] 151)
    generalize w2.alloc _=w3 at *
    generalize w2.heap.size=gn at *
    obtain ⟨kid, zt2⟩ : ∃ kid, K[0]'xgj.out = kid := ⟨_, rfl⟩
    rw [zt2] at hx0 Q
    have HX:=L_ hx0
    obtain ⟨L',c',p1,p2,p3,p4,p5⟩:=Q.out
    have QQ:=L_ (And.intro p2 (And.intro p3 (And.intro p4 p5)))
    have H4:=zaq.perm p1 H3
    obtain ⟨u0,u1,u2,u3⟩:=nd4 H4.right
    obtain ⟨v0,v1,v2⟩:=zaq.cells H4
    clear H2 I2 H3 hX hx0 Q p2 p3 p4 p5 Hk Ik zt2
    go_wp2_with (go_at_call 115;(with_reducible refine zm4 hk H4 ?_);intro w4 H5 I4;obtain ⟨u0,u1,u2,u3⟩:=nd4 H5.right;have x0:=HX.out _ H5.right.right.left)
    go_roundw
    case rel=>exact ⟨kid,dp+1,L',rfl,by go_num,by omega,L_ ⟨h1,c',QQ.out.1,QQ.out.2.1,QQ.out.2.2.1,QQ.out.2.2.2⟩,(H5.of_eq (show _=(zaq c r e L'*F)*(pts gn (.cells #[.bool false,.slice x1 0 t1,.slice (some ⟨b3,o3,none⟩) n3 t2,.slice x3 n5 t3] 151)*G) from by ac_rfl)).left,I3.trans I4⟩
    case measure=>simp [RowKit.intOf];omega
   ·have i1:(1:Int)<(n3:Int):=by omega
    have Q:=L_ (And.intro q1 (And.intro q2 q4))
    have xgj:=L_ hpos
    clear q1 q2 q3 q4 hid n z1 z2 hlen HS2 hn3 hn5 z3
    go_upto_region 4 with (go_at_call 106;(with_reducible refine zcy N1.out N2.out N3.out d1 Hk ?_);intro G kv w2 NK H2 I2;have NK:=L_ NK;have SK:=NK.out.shape;obtain ⟨b1,x1,y1,t1,x2,y2,t2,x3,y3,t3,hq⟩:=SK;subst hq)
    obtain ⟨a1,c1,b3,o3,c3,a5,c5,hq,hX,-⟩:=zmn NK.out xgj.out
    cases hq
    rw [←HN.out.1,←HN.out.2]
    have H3:=(H2.new (.cells #[.bool false,.slice x1 0 t1,.slice (some ⟨b3,o3,none⟩) n3 t2,.slice x3 n5 t3] 151)).of_eq (show _=zaq c r e L0*(pts w2.heap.size (.cells #[.bool false,.slice x1 0 t1,.slice (some ⟨b3,o3,none⟩) n3 t2,.slice x3 n5 t3] 151)*(G*F)) from by ac_rfl)
    have I3:=(Ik.trans I2).alloc (.cells #[.bool false,.slice x1 0 t1,.slice (some ⟨b3,o3,none⟩) n3 t2,.slice x3 n5 t3] 151)
    generalize w2.alloc _=w3 at *
    generalize w2.heap.size=gn at *
    obtain ⟨u0,u1,u2,u3⟩:=nd4 H3.right
    clear hX
    go_wp2_with fail
    exact HH.out id0 _ _ _ _ Q.out.1 Q.out.2.1 Q.out.2.2 (H3.of_eq (show _=(zaq c r e L0*F)*(pts gn (.cells #[.bool false,.slice x1 0 t1,.slice (some ⟨b3,o3,none⟩) n3 t2,.slice x3 n5 t3] 151)*G) from by ac_rfl)).left I3
end
theorem xak {u v:Value} {kids:List Int} {keys:List Ky.Nm} {F:Asn} {w:World} (H:Sat (za1 u kids*(zbj v keys*F)) w) (h1:kids.length≤5000) (h2:keys.length≤5000):NdV (za1 u kids*(zbj v keys*emp)) (.agg #[.bool false,.slice none 0 0,u,v]) (Ky.inn kids keys) :=
 ⟨_,_,_,rfl,⟨zas _ none 0,ze7⟩,⟨(Reads.zau (za3 H.left) (by omega)).imp (fun _ hw=>za3 hw.left),za2 H⟩,(Reads.zau (za3 H.right.left) (by omega)).imp (fun _ hw=>hw.right),za2 H.right⟩
theorem sat_nv {A B C F:Asn} {w:World} (h:Sat (A*(B*(C*F))) w):Sat (B*(C*emp)) w:=by
 rw [zlz]
 exact (h.right.of_eq (show _=(B*C)*F from by ac_rfl)).left
section
variable {c:Cq} {r e:Int} {F:Asn} {w:World} {R:Ending→World→Prop}
def Grown (c:Cq) (r e:Int) (F:Asn) (es:List Ky.En) (g q:Nat) (B:Int) (root x:Int) (w:World):Prop :=
 (x=0∧∃ L,Tb.Tree root es L g∧Tb.psi L=q∧Sat (zaq c r e L*F) w)∨(x=2∧c.k.room≤B∧Sat (zbm c r e*F) w)
theorem z5j {u v:Value} {L:Tb.Pg} (H:Sat (za1 u []*(zbj v []*(zaq c r e L*F))) w)
  (hR:∀ w',Sat (zaq c r e L*F) w'→Io w w'→R (.returned (.tuple #[.int .i64 0,.int .i64 0])) w') :
  Calls Tryz.prog 90 #[.pointer (some ⟨c.tr,0,none⟩),.agg #[u,v]] w R:=by
 have HH:=L_ hR
 obtain ⟨a1,n1,c1,rfl⟩:=zaf H
 obtain ⟨a2,n2,c2,rfl⟩:=zaf H.right
 obtain rfl:n1=0:=zi7 H
 obtain rfl:n2=0:=zi7 H.right
 have H1:=(H.new (.cells #[.slice a1 0 c1,.slice a2 0 c2] 147))
 have I1:=io1 H1 (Io.refl w)
 clear hR
 go_enter Tryz.func90,Tryz.ntmps90
 obtain ⟨u0,u1⟩:=nd2 H1
 go_wp2_with fail
 refine wp_loop_rounds 1 ?_
 rw [rounds_succ]
 go_wp2_with fail
 exact HH.out _ H1.right.right.right I1
theorem zy0 {h g cc k:Nat} {id:Int} {u v:Value} {es:List Ky.En} {L:Tb.Pg} (s:Tb.Sub h none none id es L cc) (hg:11*h+min cc 12≤12+g) (hh:h<24) (hk:c.k.n≤3000) (H:Sat (za1 u [id]*(zbj v []*(zaq c r e L*F))) w)
  (hR:∀ id' L' w',Tb.Tree id' es L' g→Tb.psi L'=Tb.psi L→Sat (zaq c r e L'*F) w'→Io w w'→R (.returned (.tuple #[.int .i64 id',.int .i64 0])) w') :
  Calls Tryz.prog 90 #[.pointer (some ⟨c.tr,0,none⟩),.agg #[u,v]] w R:=by
 have HH:=L_ hR
 have Q:=L_ (And.intro s (And.intro hg hh))
 obtain ⟨a2,n2,c2,rfl⟩:=zaf H.right
 obtain ⟨b1,c1,rfl⟩:=zcv (by simp) H
 obtain rfl:n2=0:=zi7 H.right
 have hx:=za4 zba H 0 (by simp) 0 (by omega) (.int .i64 id) rfl
 simp only [Nat.mul_one,Nat.add_zero,Nat.zero_mul] at hx
 simp only [List.length_singleton] at H hx ⊢
 have H1:=(H.new (.cells #[.slice (some ⟨b1,0,none⟩) 1 c1,.slice a2 0 c2] 147))
 have I1:=io1 H1 (Io.refl w)
 have hx1:=za4 zba H1.right 0 (by simp) 0 (by omega) (.int .i64 id) rfl
 simp only [Nat.mul_one,Nat.add_zero,Nat.zero_mul] at hx1
 clear hR s hg hh hx
 go_enter Tryz.func90,Tryz.ntmps90
 obtain ⟨u0,u1⟩:=nd2 H1
 have H2:=(H1.of_eq (show _=(zaq c r e L*F)*(pts w.heap.size (.cells #[.slice (some ⟨b1,0,none⟩) 1 c1,.slice a2 0 c2] 147)*(za1 (.slice (some ⟨b1,0,none⟩) 1 c1) [id]*zbj (.slice a2 0 c2) [])) from by unfold za1 zbj;ac_rfl)).left
 go_wp2_with fail
 refine wp_loop_rounds 1 ?_
 rw [rounds_succ]
 go_wp2_with (go_at_call 121;(with_reducible refine zoz Q.out.1 Q.out.2.1 Q.out.2.2 hk H2 ?_);intro id' L' h' c' w2 q1 q2 q3 H3 I3;have Q3:=L_ (And.intro q1 (And.intro q2 q3)))
 exact HH.out id' L' w2 (.inr ⟨h',c',Q3.out.1,Q3.out.2.1⟩) Q3.out.2.2 H3 (I1.trans I3)
theorem zq5 {h g cc d:Nat} {L0 L:Tb.Pg} {k1 k2:Int} {y:Ky.Nm} {u v:Value} {es:List Ky.En} {c':Nat} (p:Tb.Done h none none cc d L0 [k1,k2] [y] es L c') (hg:11*h+min cc 12≤12+g) (hh:h<23) (hk:c.k.n≤3000) (H:Sat (za1 u [k1,k2]*(zbj v [y]*(zaq c r e L*F))) w)
  (hR:∀ id' x w',Grown c r e F es (g+min d 1) (Tb.psi L) (2+(L.length:Int)) id' x w'→Io w w'→R (.returned (.tuple #[.int .i64 id',.int .i64 x])) w') :
  Calls Tryz.prog 90 #[.pointer (some ⟨c.tr,0,none⟩),.agg #[u,v]] w R:=by
 have HH:=L_ hR
 have G2:Hid (∀ {id:Int},Tb.zjx id→Ky.NdR (Ky.inn [k1,k2] [y])∧Tb.Sub (h+1) none none id es ((id,Ky.inn [k1,k2] [y])::L) 2∧11*(h+1)+min 2 12≤12+(g+min d 1)):=L_ (fun hid=>Tb.zq5 p hg hid)
 have HNR:Hid (Ky.NdR (Ky.inn [k1,k2] [y])):=L_ (G2.out (id:=2) ⟨by omega,by omega⟩).1
 have HZ:Hid (Ky.zbf (Ky.inn [k1,k2] [y])≤240):=L_ (by
  obtain ⟨pp,_,_,_,_⟩:=p
  cases pp with
  | two s1 s2 hy =>
   show 4+Ky.zah [y]≤240
   simp only [Ky.zah];omega)
 have HNE:Hid (0<(Ky.inn [k1,k2] [y]).es.length+(Ky.inn [k1,k2] [y]).kids.length):=L_ (by simp [Ky.inn])
 have HL0:Hid (∀ q∈L,q.1≠0):=L_ (fun q hq=>by have:=xdm (zaq.pg H.right.right) q hq;omega)
 have hhh:h+1<24:=by omega
 have NV:=L_ (xak H (by simp) (by simp))
 obtain ⟨b1,c1,rfl⟩:=zcv (by simp) H
 obtain ⟨b2,c2,rfl⟩:=zcv (by simp) H.right
 simp only [List.length_cons,List.length_nil,Nat.zero_add,Nat.reduceAdd] at H NV ⊢
 have H1:=((H.new (.cells #[.slice (some ⟨b1,0,none⟩) 2 c1,.slice (some ⟨b2,0,none⟩) 1 c2] 147))).of_eq (show _=zaq c r e L*((pts w.heap.size (.cells #[.slice (some ⟨b1,0,none⟩) 2 c1,.slice (some ⟨b2,0,none⟩) 1 c2] 147))*(za1 (.slice (some ⟨b1,0,none⟩) 2 c1) [k1,k2]*(zbj (.slice (some ⟨b2,0,none⟩) 1 c2) [y]*F))) from by unfold za1 zbj;ac_rfl)
 have I1:=io1 H1 (Io.refl w)
 have LE:Hid (Tb.psi ((2,Ky.inn [k1,k2] [y])::L)=Tb.psi L):=L_ (by simp [Tb.psi,Tb.wt,Ky.inn])
 clear hR p hg hh
 go_enter Tryz.func90,Tryz.ntmps90
 obtain ⟨u0,u1⟩:=nd2 H1.right
 obtain ⟨f0,f1⟩:=ztl H1.right
 go_wp2_with fail
 generalize w.alloc _=w1 at *
 generalize hb:w.heap.size=b at *
 refine wp_loop_rounds 2 ?_
 rw [rounds_succ]
 go_upto_region 3 with (go_at_call 88;(with_reducible refine zf0 (id:=0) (L:=L) (M:=L) hk (.inr ⟨rfl,HL0.out⟩) HNR.out HZ.out HNE.out (NV.out.imp (fun _ hw=>sat_nv hw)) H1 ?_);intro id' x g2 w2 D2 I2)
 have I3:=(I1.trans I2).alloc (.cells #[.slice (some ⟨g2,0,none⟩) 1 1,.slice none 0 0] 147)
 rcases D2.out with ⟨rfl,hid,-,H2⟩ | ⟨rfl,hf,H2⟩
 ·clear D2
  have G3:=L_ (G2.out hid)
  have H3:=(H2.new (.cells #[.slice (some ⟨g2,0,none⟩) 1 1,.slice none 0 0] 147)).of_eq (show _=pts b (.cells #[.slice (some ⟨b1,0,none⟩) 2 c1,.slice (some ⟨b2,0,none⟩) 1 c2] 147)*(zaq c r e ((id',Ky.inn [k1,k2] [y])::L)*(za1 (.slice (some ⟨g2,0,none⟩) 1 1) [id']*F))*(pts w2.heap.size (.cells #[.slice (some ⟨g2,0,none⟩) 1 1,.slice none 0 0] 147)*(za1 (.slice (some ⟨b1,0,none⟩) 2 c1) [k1,k2]*zbj (.slice (some ⟨b2,0,none⟩) 1 c2) [y])) from by unfold za1 zbj;ac_rfl)
  obtain ⟨q0,q1⟩:=nd2 H3.right
  obtain ⟨u0,u1⟩:=nd2 H3.left
  obtain ⟨f0,f1⟩:=ztl H3.left
  have K4:=H3.left.cells2 (x':=.slice (some ⟨g2,0,none⟩) 1 1) (y':=.slice none 0 0)
  have I4:=(I3.setCell ⟨b,0,none⟩ (.slice (some ⟨g2,0,none⟩) 1 1)).setCell ⟨b,1,none⟩ (.slice none 0 0)
  go_wp2_with fail
  generalize ((w2.alloc _).setCell ⟨b,0,none⟩ (.slice (some ⟨g2,0,none⟩) 1 1)).setCell ⟨b,1,none⟩ (.slice none 0 0)=w4 at *
  have hx1:=za4 zba K4.right.right 0 (by simp) 0 (by omega) (.int .i64 id') rfl
  simp only [Nat.mul_one,Nat.add_zero,Nat.zero_mul] at hx1
  clear u0 u1 q0 q1 f0 f1 H2 H3
  obtain ⟨u0,u1⟩:=nd2 K4
  have K5:=(K4.of_eq (show _=(zaq c r e ((id',Ky.inn [k1,k2] [y])::L)*F)*(pts b (.cells #[.slice (some ⟨g2,0,none⟩) 1 1,.slice none 0 0] 147)*za1 (.slice (some ⟨g2,0,none⟩) 1 1) [id']) from by unfold za1;ac_rfl)).left
  rw [rounds_succ]
  go_wp2_with (go_at_call 121;(with_reducible refine zoz G3.out.2.1 G3.out.2.2 hhh hk K5 ?_);intro id2 L' h' c' w5 q1 q2 q3 H6 I6;have Q3:=L_ (And.intro q1 (And.intro q2 q3)))
  exact HH.out id2 0 w5 (.inl ⟨rfl,L',.inr ⟨h',c',Q3.out.1,Q3.out.2.1⟩,by rw [Q3.out.2.2];simp [Tb.psi,Tb.wt,Ky.inn],H6⟩) (I4.trans I6)
 ·clear D2
  have H3:=(H2.new (.cells #[.slice (some ⟨g2,0,none⟩) 1 1,.slice none 0 0] 147)).right
  go_wp2_with fail
  exact HH.out 0 2 _ (.inr ⟨rfl,hf,(H3.of_eq (show _=(zbm c r e*F)*(pts b (.cells #[.slice (some ⟨b1,0,none⟩) 2 c1,.slice (some ⟨b2,0,none⟩) 1 c2] 147)*(za1 (.slice (some ⟨b1,0,none⟩) 2 c1) [k1,k2]*zbj (.slice (some ⟨b2,0,none⟩) 1 c2) [y])) from by unfold za1 zbj;ac_rfl)).left⟩) I3
theorem z03 {h g cc d:Nat} {L0 L:Tb.Pg} {kids:List Int} {keys:List Ky.Nm} {u v:Value} {es:List Ky.En} {c':Nat} (p:Tb.Done h none none cc d L0 kids keys es L c') (hg:11*h+min cc 12≤12+g) (hh:h<23) (hk:c.k.n≤3000) (H:Sat (za1 u kids*(zbj v keys*(zaq c r e L*F))) w)
  (hR:∀ id' x w',Grown c r e F es (g+min d 1) (Tb.psi L) (2+(L.length:Int)) id' x w'→Io w w'→R (.returned (.tuple #[.int .i64 id',.int .i64 x])) w') :
  Calls Tryz.prog 90 #[.pointer (some ⟨c.tr,0,none⟩),.agg #[u,v]] w R:=by
 rcases p.forms with ⟨rfl,rfl,rfl,rfl⟩ | ⟨k,rfl,rfl⟩ | ⟨k1,k2,y,rfl,rfl⟩
 ·exact z5j H fun w' H' I'=>hR 0 0 w' (.inl ⟨rfl,[],.inl ⟨rfl,rfl,rfl⟩,rfl,H'⟩) I'
 ·obtain ⟨s,hg'⟩:=p.tree hg
  exact zy0 (k:=0) s hg' (by omega) hk H fun id' L' w' q1 q2 H' I'=>hR id' 0 w' (.inl ⟨rfl,L',q1,q2,H'⟩) I'
 ·exact zq5 p hg hh hk H hR
end
def ze1 (c:Cq) (es:List Ky.En) (q g:Nat):Asn:=ex fun p:Int × Tb.Pg=>on (Tb.Tree p.1 es p.2 g∧Tb.psi p.2≤q) (zaq c p.1 0 p.2)
def zie (c:Cq):Asn:=ex fun r:Int=>zbm c r 2
section
variable {c:Cq} {r e:Int} {L:Tb.Pg} {F A:Asn} {w:World} {R:Ending→World→Prop}
theorem zes {es:List Ky.En} {q g:Nat}:Sat (ze1 c es q g*F) w↔∃ root L,Tb.Tree root es L g∧Tb.psi L≤q∧Sat (zaq c root 0 L*F) w:=by
 unfold ze1
 rw [zde]
 constructor
 ·rintro ⟨⟨r,L⟩,h⟩
  obtain ⟨⟨h1,h2⟩,h3⟩:=ze4.1 h
  exact ⟨r,L,h1,h2,h3⟩
 ·rintro ⟨r,L,h1,h2,h3⟩
  exact ⟨(r,L),ze4.2 ⟨⟨h1,h2⟩,h3⟩⟩
theorem zgo {e':Int} (H:Sat (zbm c r e*F) w):Sat (zbm c r e'*F) (w.setCell ⟨c.tr,2,none⟩ (.int .i64 e')):=by
 unfold zbm at H ⊢
 exact H.cell 2 (.int .i64 e')
theorem zuq {r':Int} (H:Sat (zbm c r e*F) w):Sat (zbm c r' e*F) (w.setCell ⟨c.tr,1,none⟩ (.int .i64 r')):=by
 unfold zbm at H ⊢
 exact H.cell 1 (.int .i64 r')
theorem zpp {r':Int} (H:Sat (zaq c r e L*F) w):Sat (zaq c r' e L*F) (w.setCell ⟨c.tr,1,none⟩ (.int .i64 r')):=by
 have h:=H.of_eq (show _=zbm c r e*(zzh c.k L*F) from by unfold zaq;ac_rfl)
 exact (zuq h).of_eq (by unfold zaq;ac_rfl)
theorem z6k (H:Sat (zaq c r e L*F) w):w.frozen? ⟨c.tr,1,none⟩=false∧w.frozen? ⟨c.tr,2,none⟩=false :=
 zha (H.of_eq (show _=zbm c r e*(zzh c.k L*F) from by unfold zaq;ac_rfl))
theorem zxp {gn:Nat} {cb:Array Value} {op:List Ky.En→List Ky.En} {P:List Ky.En→Prop} {key:Ky.Nm} {d h cc:Nat} {es:List Ky.En} {M:Tb.Pg} {id:Int} (ch:zgs c r e A key gn cb op P d h) (s:Tb.Sub h none none id es L cc) (hp:P es) (hh:h<24) (H:Sat (zaq c r e (L++M)*(A*F)) w)
  (hR:∀ x a1 n1 c1 a2 n2 c2 w',zdk c r e (A*F) M (4+((L.length+M.length+h:Nat):Int)) (fun kids keys L' c'=>Tb.Done h none none cc d L kids keys (op es) L' c') x (.slice a1 n1 c1) (.slice a2 n2 c2) w'→Io w w'→R (.returned (.tuple #[.agg #[.slice a1 n1 c1,.slice a2 n2 c2],.int .i64 x])) w') :
  Calls Tryz.prog 89 #[.pointer (some ⟨c.tr,0,none⟩),.int .i64 id,.int .i64 0,.string key,.func (.func gn) #[] cb] w R :=
 ch (dp:=0) s (fun y hy=>by cases hy) (fun y hy=>by cases hy) hp (by omega) H hR
theorem zdk.box {M:Tb.Pg} {B:Int} {D:List Int→List Ky.Nm→Tb.Pg→Nat→Prop} {x:Int} {u v:Value} {b:Nat} {y z:Value} {ty:TypeId} (h:zdk c r e (A*(pts b (.cells #[y,z] ty (0,0))*F)) M B D x u v w):(w.cell? ⟨b,0,none⟩=some y∧w.cell? ⟨b,1,none⟩=some z)∧w.frozen? ⟨b,0,none⟩=false∧w.frozen? ⟨b,1,none⟩=false:=by
 rcases h with ⟨_,_,_,_,_,_,H⟩ | ⟨_,_,H⟩
 ·exact ⟨nd2 H.right.right.right.right,ztl H.right.right.right.right⟩
 ·exact ⟨nd2 H.right.right,ztl H.right.right⟩
def zd9 (c:Cq) (F:Asn) (es:List Ky.En) (q g:Nat) (B:Int) (x:Int) (w:World):Prop :=
 (x=0∧Sat (ze1 c es q g*F) w)∨(x=2∧c.k.room≤B∧Sat (zie c*F) w)
theorem zv4 {gn:Nat} {cb:Array Value} {op:List Ky.En→List Ky.En} {P:List Ky.En→Prop} {key:Ky.Nm} {d h cc q g:Nat} {es:List Ky.En} (hk:c.k.n≤3000) (eg:∀ args w,(callFunc gn args).run Tryz.prog w=.ok (.enter gn args) w) (o:Tb.Loc op P key d) (hdo:zgw A gn cb op P) (hp:P es)
  (s:Tb.Sub h none none r es L cc) (hg:11*h+min cc 12≤12+g) (hq:Tb.psi L≤q) (hh:h<23) (H:Sat (zaq c r 0 L*(A*F)) w)
  (hR:∀ x w',zd9 c (A*F) (op es) (q+d) (g+min d 1) (5+((L.length+h:Nat):Int)) x w'→Io w w'→R (.returned (.int .i64 x)) w') :
  Calls Tryz.prog 64 #[.pointer (some ⟨c.tr,0,none⟩),.string key,.func (.func gn) #[] cb] w R:=by
 have HH:=L_ hR
 have CH:Hid (zgs c r 0 A key gn cb op P d h):=L_ (zpu hk eg o hdo h)
 have Q:=L_ (And.intro s (And.intro hg (And.intro hq hp)))
 have hid:=s.bounds.2
 have r0:¬ r=0:=by have:=hid.1;omega
 have H1:=(H.new zP).of_eq (show _=zaq c r 0 (L++[])*(A*(pts w.heap.size zP*F)) from by rw [List.append_nil];ac_rfl)
 have I1:=(Io.refl w).alloc zP
 have HD:Hid (0+h<24):=L_ (by omega)
 have HHH:=L_ hh
 have g1:Hid (Tb.ge none key):=L_ (fun y hy=>by cases hy)
 have g2:Hid (Tb.lt none key):=L_ (fun y hy=>by cases hy)
 obtain ⟨v0,v1,v2⟩:=zaq.cells H
 clear hR s hg hq hp hdo o hid hh
 go_enter Tryz.func64,Tryz.ntmps64
 go_upto_region 4 with fail
 generalize w.alloc zP=w1 at *
 generalize hb:w.heap.size=b at *
 clear v0 v1 v2
 obtain ⟨v0,v1,v2⟩:=zaq.cells H1
 go_upto_region 8 with (go_at_call 89;(with_reducible refine zxp CH.out Q.out.1 Q.out.2.2.2 (by have:=HD.out;omega) H1 ?_);intro x a1 n1 c1 a2 n2 c2 w2 D2 I2;have D2:=L_ D2;have D3:=(zdk.box D2.out);obtain ⟨⟨y0,y1⟩,f0,f1⟩:=D3)
 have I3:=((I1.trans I2).setCell ⟨b,0,none⟩ (.slice a1 n1 c1)).setCell ⟨b,1,none⟩ (.slice a2 n2 c2)
 clear v0 v1 v2 f0 f1 y0 y1
 rcases D2.out with ⟨rfl,kids,keys,L',c',dn,H2⟩ | ⟨rfl,hf,H2⟩
 ·have DN:=L_ dn
  have K3:=(H2.of_eq (show _=pts b zP*(za1 (.slice a1 n1 c1) kids*(zbj (.slice a2 n2 c2) keys*(zaq c r 0 L'*(A*F)))) from by rw [List.append_nil];ac_rfl)).cells2 (x':=.slice a1 n1 c1) (y':=.slice a2 n2 c2)
  generalize (w2.setCell ⟨b,0,none⟩ (.slice a1 n1 c1)).setCell ⟨b,1,none⟩ (.slice a2 n2 c2)=w3 at *
  clear D2 H2 dn
  obtain ⟨u0,u1⟩:=nd2 K3
  have K4:=K3.right
  go_upto_region 11 with (go_at_call 90;(with_reducible refine z03 DN.out Q.out.2.1 HHH.out hk K4 ?_);intro root x w4 D4 I4;have D4:=L_ D4)
  have xdy:=DN.out.psi
  have hlen:=DN.out.len
  have J4:=I3.trans I4
  rcases D4.out with ⟨rfl,L2,t1,t2,H5⟩ | ⟨rfl,hf,H5⟩
  ·have TQ:Hid (Tb.Tree root (op es) L2 (g+min d 1)∧Tb.psi L2≤q+d):=L_ ⟨t1,by have:=Q.out.2.2.1;omega⟩
   clear D4 t1 t2 xdy hlen
   obtain ⟨v0,v1,v2⟩:=zaq.cells H5
   obtain ⟨f1,f2⟩:=z6k H5
   have K6:=zpp (r':=root) H5
   have J6:=J4.setCell ⟨c.tr,1,none⟩ (.int .i64 root)
   go_wp2_with fail
   exact HH.out 0 _ (.inl ⟨rfl,zes.2 ⟨root,L2,TQ.out.1,TQ.out.2,K6⟩⟩) J6
  ·clear D4
   obtain ⟨v0,v1,v2⟩:=zem H5
   obtain ⟨f1,f2⟩:=zha H5
   have K6:=zgo (e':=2) H5
   have J6:=J4.setCell ⟨c.tr,2,none⟩ (.int .i64 2)
   have HB:Hid (c.k.room≤5+((L.length+h:Nat):Int)):=L_ (by omega)
   clear hf xdy hlen
   go_wp2_with fail
   exact HH.out 2 _ (.inr ⟨rfl,HB.out,zde.2 ⟨r,K6⟩⟩) J6
 ·have K3:=(H2.of_eq (show _=pts b zP*(zbm c r 0*(A*F)) from by ac_rfl)).cells2 (x':=.slice a1 n1 c1) (y':=.slice a2 n2 c2)
  generalize (w2.setCell ⟨b,0,none⟩ (.slice a1 n1 c1)).setCell ⟨b,1,none⟩ (.slice a2 n2 c2)=w3 at *
  clear D2 H2
  have K4:=K3.right
  obtain ⟨v0,v1,v2⟩:=zem K4
  obtain ⟨f1,f2⟩:=zha K4
  have K5:=zgo (e':=2) K4
  have J5:=I3.setCell ⟨c.tr,2,none⟩ (.int .i64 2)
  have HB:Hid (c.k.room≤5+((L.length+h:Nat):Int)):=L_ (by simp only [List.length_nil] at hf;omega)
  clear hf
  go_wp2_with fail
  exact HH.out 2 _ (.inr ⟨rfl,HB.out,zde.2 ⟨r,K5⟩⟩) J5
theorem z1w {x:Int} {p1 p2:Prop} {X Y Z:Asn} {b:Nat} {y z:Value} {ty:TypeId} {B1:Asn} (h:(x=0∧p1∧p2∧Sat (X*(Y*(Z*(A*(pts b (.cells #[y,z] ty (0,0))*F))))) w)∨(x=2∧c.k.room≤2+(([]:Tb.Pg).length:Int)∧Sat (B1*(Z*(A*(pts b (.cells #[y,z] ty (0,0))*F)))) w)):(w.cell? ⟨b,0,none⟩=some y∧w.cell? ⟨b,1,none⟩=some z)∧w.frozen? ⟨b,0,none⟩=false∧w.frozen? ⟨b,1,none⟩=false:=by
 rcases h with ⟨_,_,_,H⟩ | ⟨_,_,H⟩
 ·exact ⟨nd2 H.right.right.right.right,ztl H.right.right.right.right⟩
 ·exact ⟨nd2 H.right.right.right,ztl H.right.right.right⟩
theorem zsb {gn:Nat} {cb:Array Value} {op:List Ky.En→List Ky.En} {P:List Ky.En→Prop} {key:Ky.Nm} {d g q:Nat} (hk:c.k.n≤3000) (eg:∀ args w,(callFunc gn args).run Tryz.prog w=.ok (.enter gn args) w) (o:Tb.Loc op P key d) (hdo:zgw A gn cb op P) (hp:P []) (hne:op []≠[]) (hq:60≤q)
  (H:Sat (zaq c 0 0 []*(A*F)) w)
  (hR:∀ x w',zd9 c (A*F) (op []) (q+d) (g+min d 1) 5 x w'→Io w w'→R (.returned (.int .i64 x)) w') :
  Calls Tryz.prog 64 #[.pointer (some ⟨c.tr,0,none⟩),.string key,.func (.func gn) #[] cb] w R:=by
 have HH:=L_ hR
 have HDO:Hid (zgw A gn cb op P):=L_ hdo
 obtain ⟨hr1,hz1⟩:=o.first hp
 have FS:Hid (∀ {id:Int},Tb.zjx id→Tb.Sub 0 none none id (op []) [(id,Ky.lf (op []))] 12∧11*0+min 12 12≤12+(g+min d 1)∧Tb.psi [(id,Ky.lf (op []))]≤60):=L_ (fun hid=>o.z5x hp hne hid)
 have HR:=L_ (Ky.NdR.leaf hr1)
 have HZ:Hid (Ky.zbf (Ky.lf (op []))≤240):=L_ (by show Ky.size (op [])≤240;omega)
 have HNE:Hid (0<(Ky.lf (op [])).es.length+(Ky.lf (op [])).kids.length):=L_ (by have:=List.length_pos_iff.2 hne;simp only [Ky.lf];omega)
 have HL:Hid ((op []).length≤5000):=L_ (by have:=(Tb.zcj hr1.1).1;omega)
 have HP:=L_ hp
 have HQ:=L_ hq
 have HNN:Hid (∀ p∈([]:Tb.Pg),p.1≠0):=L_ (by simp)
 have H1:=(H.new zP).of_eq (show _=A*(zaq c 0 0 []*(pts w.heap.size zP*F)) from by ac_rfl)
 have I1:=(Io.refl w).alloc zP
 obtain ⟨v0,v1,v2⟩:=zaq.cells H
 clear hR hdo o hr1 hz1 hp hne hq
 go_enter Tryz.func64,Tryz.ntmps64
 go_upto_region 4 with fail
 generalize w.alloc zP=w1 at *
 generalize hb:w.heap.size=b at *
 clear v0 v1 v2
 obtain ⟨v0,v1,v2⟩:=zaq.cells H1.right
 go_upto_region 8 with (first
  | (go_at_fn gn;refine HDO.out ⟨by simp,.nil⟩ (by simp [Ky.size]) HP.out (zas _ none 0) (.inl ⟨rfl,rfl⟩) H1 ?_;intro v5 w5 H5 I5;have SV:=zaf H5;obtain ⟨a5,n5,k5,hq⟩:=SV;subst hq)
  | (go_at_call 88;(with_reducible refine zf0 (id:=0) (L:=[]) (M:=[]) hk (.inr ⟨rfl,HNN.out⟩) HR.out HZ.out HNE.out ((zpa H5 HL.out).imp (fun _ hw=>za3 hw.left)) (H5.of_eq (show _=zaq c 0 0 []*(zda (.slice a5 n5 k5) (op [])*(A*(pts b zP*F))) from by unfold zda;ac_rfl)) ?_);intro id' x g2 w2 D2 I2;have D3:=z1w D2.out;obtain ⟨⟨y0,y1⟩,f0,f1⟩:=D3))
 have I3:=(((I1.trans I5).trans I2).setCell ⟨b,0,none⟩ (.slice (some ⟨g2,0,none⟩) 1 1)).setCell ⟨b,1,none⟩ (.slice none 0 0)
 clear v0 v1 v2 f0 f1 y0 y1
 rcases D2.out with ⟨rfl,hid,-,H2⟩ | ⟨rfl,hf,H2⟩
 ·have DN:=L_ (FS.out hid)
  have K3:=((H2.of_eq (show _=pts b zP*(za1 (.slice (some ⟨g2,0,none⟩) 1 1) [id']*(zaq c 0 0 [(id',Ky.lf (op []))]*(A*F)))*zda (.slice a5 n5 k5) (op []) from by unfold za1 zda;ac_rfl)).left).cells2 (x':=.slice (some ⟨g2,0,none⟩) 1 1) (y':=.slice none 0 0)
  generalize (w2.setCell ⟨b,0,none⟩ (.slice (some ⟨g2,0,none⟩) 1 1)).setCell ⟨b,1,none⟩ (.slice none 0 0)=w3 at *
  clear D2 H2 hid
  obtain ⟨u0,u1⟩:=nd2 K3
  have K4:=(za5 (sz:=1) (e:=9) (enc:=zrg) K3.right).sw
  go_upto_region 11 with (go_at_call 90;(with_reducible refine zy0 (k:=0) DN.out.1 DN.out.2.1 (by omega) hk K4 ?_);intro root L2 w4 t1 t2 H5 I4;have T1:=L_ t1;have T2:=L_ t2)
  have J4:=I3.trans I4
  have TQ:Hid (Tb.psi L2≤q+d):=L_ (by have:=DN.out.2.2;have:=T2.out;have:=HQ.out;omega)
  obtain ⟨v0,v1,v2⟩:=zaq.cells H5
  obtain ⟨f1,f2⟩:=z6k H5
  have K6:=zpp (r':=root) H5
  have J6:=J4.setCell ⟨c.tr,1,none⟩ (.int .i64 root)
  go_wp2_with fail
  exact HH.out 0 _ (.inl ⟨rfl,zes.2 ⟨root,L2,T1.out,TQ.out,K6⟩⟩) J6
 ·have K3:=((H2.of_eq (show _=pts b zP*(zbm c 0 0*(A*F))*zda (.slice a5 n5 k5) (op []) from by unfold zda;ac_rfl)).left).cells2 (x':=.slice (some ⟨g2,0,none⟩) 1 1) (y':=.slice none 0 0)
  generalize (w2.setCell ⟨b,0,none⟩ (.slice (some ⟨g2,0,none⟩) 1 1)).setCell ⟨b,1,none⟩ (.slice none 0 0)=w3 at *
  clear D2 H2
  have K4:=K3.right
  obtain ⟨v0,v1,v2⟩:=zem K4
  obtain ⟨f1,f2⟩:=zha K4
  have K5:=zgo (e':=2) K4
  have J5:=I3.setCell ⟨c.tr,2,none⟩ (.int .i64 2)
  have HB:Hid (c.k.room≤5):=L_ (by simp only [List.length_nil] at hf;omega)
  clear hf
  go_wp2_with fail
  exact HH.out 2 _ (.inr ⟨rfl,HB.out,zde.2 ⟨0,K5⟩⟩) J5
end
section
variable {c:Cq} {r e:Int} {L:Tb.Pg} {F A:Asn} {w:World} {R:Ending→World→Prop}
def Looks (es:List Ky.En) (L:Tb.Pg) (key:Ky.Nm) (id:Int) (dp:Nat):Prop :=
 ∃ (h0:Nat) (lo hi:Tb.Bd) (e0:List Ky.En) (L0:Tb.Pg) (c0:Nat),Tb.Sub h0 lo hi id e0 L0 c0∧Tb.ge lo key∧Tb.lt hi key∧Ky.get e0 key=Ky.get es key∧(∀ p∈L0,p∈L)∧dp+h0<24
theorem z0j {es:List Ky.En} {key:Ky.Nm} {lo hi:Tb.Bd} {e0:List Ky.En} {K:List Int} {B:List Ky.Nm} {L1:Tb.Pg} {h1 dp:Nat} (n:Tb.Node (Tb.Sb h1) lo hi K B e0 L1) (hlo:Tb.ge lo key) (hhi:Tb.lt hi key) (hg:Ky.get e0 key=Ky.get es key) (hL:∀ p∈L1,p∈L) (hd:dp+1+h1<24) (hi':Tb.chd key B<K.length):Looks es L key (K[Tb.chd key B]) (dp+1):=by
 obtain ⟨a,b,e1,ec,e2,M1,Mc,M2,g1,⟨cc,sc⟩,g2,rfl,rfl,ha,hb,hE1,hE2⟩:=Tb.zza n hlo hhi hi'
 have hr:=(Tb.zqu (fun s=>Tb.Sb.inn s) n).2.1
 exact ⟨h1,a,b,ec,Mc,cc,sc,ha,hb,by rw [←hg,Tb.z5p hE1 hE2 hr],fun p hp=>hL p (by simp [hp]),hd⟩
theorem xbo {h cc:Nat} {es:List Ky.En} {key val:Ky.Nm} {d:Bool} (s:Tb.Sub h none none r es L cc) (hh:h<24) (hg:Hid ((d=true∧Ky.get es key=some val)∨(d=false∧val=⟨#[]⟩∧Ky.get es key=none))) (H:Sat (zaq c r 0 L*F) w)
  (hR:∀ w',Sat (zaq c r 0 L*F) w'→Io w w'→R (.returned (.tuple #[.string val,.bool d,.int .i64 0])) w') :
  Calls Tryz.prog 77 #[.pointer (some ⟨c.tr,0,none⟩),.string key] w R:=by
 have HH:=L_ hR
 have HS:Hid (Looks es L key r 0):=L_ ⟨h,none,none,es,L,cc,s,(fun y hy=>by cases hy),(fun y hy=>by cases hy),rfl,fun p hp=>hp,by omega⟩
 obtain ⟨v0,v1,v2⟩:=zaq.cells H
 clear hR s hh
 go_enter Tryz.func77,Tryz.ntmps77
 go_wp2_with fail
 clear v0 v1 v2
 go_loopw [7,8] (fun x y wr=>∃ (id0:Int) (dp:Nat),x=.int .i64 id0∧y=.int .i64 (dp:Int)∧dp≤24∧Hid (Looks es L key id0 dp)∧Sat (zaq c r 0 L*F) wr∧Io w wr) (fun _ y _=>24 - (RowKit.intOf y).toNat)
 case atStart=>exact ⟨r,0,rfl,rfl,by omega,HS,H,Io.refl _⟩
 case round =>
  obtain ⟨id0,dp,rfl,rfl,hdp,HS2,Hk,Ik⟩:=hrel
  clear H HS
  obtain ⟨h0,lo,hi,e0,L0,c0,q1,q2,q3,q4,q5,q6⟩:=HS2.out
  have d1:(dp:Int)<24:=by omega
  have hid:=q1.bounds.2
  have hne:¬ id0=0:=by have:=hid.1;omega
  rcases q1.zsx with ⟨rfl,rfl,rfl,z1,z2⟩ | ⟨h1,K,B,L1,rfl,n,z1,z2,z3,rfl⟩
  ·have N1:Hid ((id0,Ky.lf e0)∈L):=L_ (q5 _ (by simp))
   have N2:=L_ (Ky.NdR.leaf z1)
   have N3:Hid (Ky.zbf (Ky.lf e0)≤240):=L_ z2
   have Q:=L_ z1
   have HG:Hid ((d=true∧Ky.get e0 key=some val)∨(d=false∧val=⟨#[]⟩∧Ky.get e0 key=none)):=L_ (by rw [q4];exact hg.out)
   have HL:Hid (e0.length≤5000):=L_ (by have:=(Tb.zcj z1.1).1;omega)
   clear q1 q2 q3 q4 q5 q6 hid z1 z2 HS2
   go_upto_region 8 with (go_at_call 106;(with_reducible refine zcy N1.out N2.out N3.out d1 Hk ?_);intro G kv w2 NK H2 I2;have NK:=L_ NK;have SK:=NK.out.shape;obtain ⟨b1,x1,y1,t1,x2,y2,t2,x3,y3,t3,hq⟩:=SK;subst hq)
   obtain ⟨rfl,re,se⟩:=zh4 NK.out
   have RE:=L_ re
   have H3:=(H2.new (.cells #[.bool true,.slice x1 y1 t1,.slice x2 y2 t2,.slice x3 y3 t3] 151))
   have I3:=(Ik.trans I2).alloc (.cells #[.bool true,.slice x1 y1 t1,.slice x2 y2 t2,.slice x3 y3 t3] 151)
   generalize w2.alloc _=w3 at *
   generalize w2.heap.size=gn at *
   obtain ⟨u0,u1,u2,u3⟩:=nd4 H3
   clear re se H2 I2
   go_wp2_with (go_at_call 107;(with_reducible refine xb0 Q.out (Ky.zeh Q.out) (RE.out.imp (fun _ hw=>hw.right.left)) HL.out key HG H3 ?_);intro w4 H4 I4)
   exact bodyPost_ret (v:=.tuple #[.string val,.bool d,.int .i64 0]) (by simp [results,Tryz.results77,go_sem]) rfl (HH.out _ H4.right.right (I3.trans I4))
  ·have N1:Hid ((id0,Ky.inn K B)∈L):=L_ (q5 _ (by simp [z3.mem_iff]))
   have hlen:=n.len
   have hci:Tb.chd key B<K.length:=by have:=Tb.zzc key B;omega
   have hir:=Tb.zcx n z2
   have hks:=Tb.zbg z2
   have N2:=L_ (Ky.NdR.inner hir)
   have N3:Hid (Ky.zbf (Ky.inn K B)≤240):=L_ z1
   have N4:=L_ hir
   have Q : Hid (Looks es L key (K[Tb.chd key B]'hci) (dp + 1)) := L_ (z0j n q2 q3 q4 (fun p hp => q5 p (by simp [z3.mem_iff, hp])) (by omega) hci)
   obtain ⟨kid, zt2⟩ : ∃ kid, K[Tb.chd key B]'hci = kid := ⟨_, rfl⟩
   rw [zt2] at Q
   obtain ⟨i,hic⟩:∃ i,i=Tb.chd key B:=⟨_,rfl⟩
   have hcj:i<K.length:=by rw [hic];exact hci
   have hkid2 : K[i]'hcj = kid := by rw [← zt2]; simp only [hic]
   have HI:=L_ hic
   have HK:=L_ hkid2
   obtain ⟨n3,hn3⟩:∃ n,n=K.length:=⟨_,rfl⟩
   obtain ⟨n5,hn5⟩:∃ n,n=B.length:=⟨_,rfl⟩
   have HN:=L_ (And.intro hn3 hn5)
   have HKL:Hid (K.length≤1000∧B.length≤1000∧0<K.length):=L_ (by omega)
   have i0:(0:Int)≤(i:Int):=by omega
   have i1:(i:Int)<(n3:Int):=by omega
   have i2:(n3:Int)≤1000:=by have:=HKL.out;omega
   clear q1 q2 q3 q4 q5 q6 hid z1 z2 HS2 hlen hir hks zt2 hkid2 hic n z3 hn3 hn5 hci
   go_upto_region 8 with (go_at_call 106;(with_reducible refine zcy N1.out N2.out N3.out d1 Hk ?_);intro G kv w2 NK H2 I2;have NK:=L_ NK;have SK:=NK.out.shape;obtain ⟨b1,x1,y1,t1,x2,y2,t2,x3,y3,t3,hq⟩:=SK;subst hq)
   obtain ⟨a1,c1,b3,o3,c3,a5,c5,hq,hX,-⟩:=zmn NK.out HKL.out.2.2
   cases hq
   have HX:Hid (∀ w,Sat G w→w.cell? ⟨b3,o3+i,none⟩=some (.int .i64 kid)):=L_ (by rw [←HK.out];exact hX i hcj)
   rw [←HN.out.1,←HN.out.2] at NK ⊢
   have H3:=(H2.new (.cells #[.bool false,.slice x1 0 t1,.slice (some ⟨b3,o3,none⟩) n3 t2,.slice x3 n5 t3] 151)).of_eq (show _=zaq c r 0 L*(pts w2.heap.size (.cells #[.bool false,.slice x1 0 t1,.slice (some ⟨b3,o3,none⟩) n3 t2,.slice x3 n5 t3] 151)*(G*F)) from by ac_rfl)
   have I3:=(Ik.trans I2).alloc (.cells #[.bool false,.slice x1 0 t1,.slice (some ⟨b3,o3,none⟩) n3 t2,.slice x3 n5 t3] 151)
   generalize w2.alloc _=w3 at *
   generalize w2.heap.size=gn at *
   obtain ⟨u0,u1,u2,u3⟩:=nd4 H3.right
   clear hX H2 I2 Hk Ik
   go_upto_region 13 with fail
   have H3:=H3.drew
   have I3:=I3.drew
   have S0:=And.intro (nd4 H3.right) (HX.out _ H3.right.right.left)
   go_region_held3 (fun W=>(W.cell? ⟨gn,0,none⟩=some (.bool false)∧W.cell? ⟨gn,1,none⟩=some (.slice x1 0 t1)∧W.cell? ⟨gn,2,none⟩=some (.slice (some ⟨b3,o3,none⟩) n3 t2)∧W.cell? ⟨gn,3,none⟩=some (.slice x3 n5 t3))∧W.cell? ⟨b3,o3+i,none⟩=some (.int .i64 kid)) (with_reducible (first | exact S0 | exact S1)) (first
    | (go_at_call 108;(with_reducible refine zm5 N4.out (NK.out.imp (fun _ hw=>hw.right.right.left)) (by have:=HKL.out;omega) key H3 HI ?_);intro w4 H4 I4;have S1:=And.intro (nd4 H4.right) (HX.out _ H4.right.right.left)))
   have I4:=I3.trans I4
   clear H3 I3 u0 u1 u2 u3 S0 S1
   go_wp2_with fail
   go_roundw
   case rel=>exact ⟨kid,dp+1,rfl,by go_num,by omega,Q,(H4.of_eq (show _=(zaq c r 0 L*F)*(pts gn (.cells #[.bool false,.slice x1 0 t1,.slice (some ⟨b3,o3,none⟩) n3 t2,.slice x3 n5 t3] 151)*G) from by ac_rfl)).left,I4⟩
   case measure=>simp [RowKit.intOf];omega
theorem zxc (key:Ky.Nm) (H:Sat (zaq c 0 0 L*F) w) (hR:R (.returned (.tuple #[.string ⟨#[]⟩,.bool false,.int .i64 0])) w) :
  Calls Tryz.prog 77 #[.pointer (some ⟨c.tr,0,none⟩),.string key] w R:=by
 have HH:=L_ hR
 obtain ⟨v0,v1,v2⟩:=zaq.cells H
 clear hR
 go_enter Tryz.func77,Tryz.ntmps77
 go_wp2_with fail
 refine wp_loop_rounds 1 ?_
 rw [rounds_succ]
 go_wp2_with fail
 exact bodyPost_ret (v:=.tuple #[.string ⟨#[]⟩,.bool false,.int .i64 0]) (by simp [results,Tryz.results77,go_sem]) rfl HH.out
theorem zjo {es:List Ky.En} {q g:Nat} {key val:Ky.Nm} {d:Bool} (hgr:g≤240) (hg:Hid ((d=true∧Ky.get es key=some val)∨(d=false∧val=⟨#[]⟩∧Ky.get es key=none))) (H:Sat (ze1 c es q g*F) w)
  (hR:∀ w',Sat (ze1 c es q g*F) w'→Io w w'→R (.returned (.tuple #[.string val,.bool d,.int .i64 0])) w') :
  Calls Tryz.prog 77 #[.pointer (some ⟨c.tr,0,none⟩),.string key] w R:=by
 obtain ⟨root,L,t,hq,H⟩:=zes.1 H
 rcases t with ⟨rfl,rfl,rfl⟩ | ⟨h,cc,s,hh⟩
 ·rcases hg.out with ⟨_,h⟩ | ⟨rfl,rfl,_⟩
  ·cases h
  ·exact zxc key H (hR _ (zes.2 ⟨0,[],.inl ⟨rfl,rfl,rfl⟩,hq,H⟩) (Io.refl w))
 ·have:=s.pos
  exact xbo s (by omega) hg H fun w' H' I'=>hR w' (zes.2 ⟨root,L,.inr ⟨h,cc,s,hh⟩,hq,H'⟩) I'
end
namespace Tb
open Ky
theorem xa1 {key:Nm}:Loc (fun l=>del l key) (fun l=>has key l=true) key 0 where
 loc:=fun _ _ _ h1 h2 hr=>zxk h1 h2 hr
 ploc:=fun _ _ _ h1 h2 hp=>by rw [←zmx h1 h2];exact hp
 right:=fun _ hr=>zmf hr
 keys:=xff.keys
 size:=fun E hr _=>by have:=size_del (key:=key) hr;omega
 le:=by omega
end Tb
section
variable {c:Cq} {r e:Int} {L:Tb.Pg} {F A:Asn} {w:World} {R:Ending→World→Prop}
theorem zor {gn:Nat} {cb:Array Value} {op:List Ky.En→List Ky.En} {P:List Ky.En→Prop} {key:Ky.Nm} {d g q:Nat} {es:List Ky.En} (hk:c.k.n≤3000) (hg:g≤240) (hq:60≤q) (eg:∀ args w,(callFunc gn args).run Tryz.prog w=.ok (.enter gn args) w) (o:Tb.Loc op P key d) (hdo:zgw A gn cb op P) (hp:P es) (hne:es=[]→op []≠[])
  (H:Sat (ze1 c es q g*(A*F)) w)
  (hR:∀ x w',zd9 c (A*F) (op es) (q+d) (g+min d 1) (30+(Tb.most q g:Int)) x w'→Io w w'→R (.returned (.int .i64 x)) w') :
  Calls Tryz.prog 64 #[.pointer (some ⟨c.tr,0,none⟩),.string key,.func (.func gn) #[] cb] w R:=by
 obtain ⟨root,L,t,xdy,H⟩:=zes.1 H
 have hm:=t.most xdy
 have more:∀ {B B':Int} {x:Int} {w':World},B≤B'→zd9 c (A*F) (op es) (q+d) (g+min d 1) B x w'→zd9 c (A*F) (op es) (q+d) (g+min d 1) B' x w':=fun hb h=>by
  rcases h with h | ⟨h1,h2,h3⟩
  ·exact .inl h
  ·exact .inr ⟨h1,by omega,h3⟩
 rcases t with ⟨rfl,rfl,rfl⟩ | ⟨h,cc,s,hh⟩
 ·exact zsb hk eg o hdo hp (hne rfl) hq H fun x w' D I=>hR x w' (more (by omega) D) I
 ·have:=s.pos
  exact zv4 hk eg o hdo hp s hh xdy (by omega) H fun x w' D I=>hR x w' (more (by omega) D) I
theorem zd9.drop {X:Asn} {es:List Ky.En} {q g:Nat} {B x:Int} (h:zd9 c (X*F) es q g B x w):zd9 c F es q g B x w:=by
 rcases h with ⟨h1,H⟩ | ⟨h1,h2,H⟩
 ·exact .inl ⟨h1,(H.of_eq (show _=(ze1 c es q g*F)*X from by ac_rfl)).left⟩
 ·exact .inr ⟨h1,h2,(H.of_eq (show _=(zie c*F)*X from by ac_rfl)).left⟩
def zib (bk bv:Nat) (key val:Ky.Nm):Asn:=pts bk (.cells #[.string key] 9)*pts bv (.cells #[.string val] 9)
theorem xb3 {bk bv:Nat} {key val:Ky.Nm} (hc:Ky.chk key val=0) (P:List Ky.En→Prop):zgw (zib bk bv key val) 65 #[.pointer (some ⟨bk,0,none⟩),.pointer (some ⟨bv,0,none⟩)] (fun l=>Ky.put l key val) P:=by
 intro F w R l v hr hz hp hv hs H hR
 have HH:=L_ hR
 have H1:=H.of_eq (show _=pts bk (.cells #[.string key] 9)*(pts bv (.cells #[.string val] 9)*F) from by unfold zib;ac_rfl)
 have q0:=Sat.read H1.left.at 0
 have q1:=Sat.read H1.right.left.at 0
 simp only [List.getElem?_toArray,List.getElem?_cons_zero,List.getElem?_cons_succ] at q0 q1
 have hck:=Ky.zjr hc
 have HR:=L_ hr
 have HV:=L_ hv
 have HS:=L_ hs
 have HC:=L_ hc
 have HL:Hid (l.length≤5000):=L_ (by have:=(Tb.zcj hr.1).1;omega)
 have k1:Hid (key.size≤1000):=L_ (by omega)
 have k2:Hid (val.size≤1000):=L_ (by omega)
 obtain ⟨a,cc,rfl,hm⟩:=zcr hv
 clear hR hr hz hp hv hs hc hck
 go_enter Tryz.func65,Tryz.ntmps65
 go_wp2_with (go_at_call 66;(with_reducible refine xbw HR.out (Ky.zeh HR.out) HV.out HS.out HL.out key val HC.out k1.out k2.out H ?_);intro v' w2 H2 I2)
 exact HH.out v' w2 H2 I2
theorem xb4 {bk:Nat} {key:Ky.Nm}:zgw (pts bk (.cells #[.string key] 9)) 85 #[.pointer (some ⟨bk,0,none⟩)] (fun l=>Ky.del l key) (fun l=>Ky.has key l=true):=by
 intro F w R l v hr hz hp hv hs H hR
 have HH:=L_ hR
 have q0:=Sat.read H.left.at 0
 simp only [List.getElem?_toArray,List.getElem?_cons_zero,List.getElem?_cons_succ] at q0
 have HR:=L_ hr
 have HV:=L_ hv
 have HS:=L_ hs
 have HP:=L_ hp
 have HL:Hid (l.length≤5000):=L_ (by have:=(Tb.zcj hr.1).1;omega)
 obtain ⟨a,cc,rfl,hm⟩:=zcr hv
 clear hR hr hz hp hv hs
 go_enter Tryz.func85,Tryz.ntmps85
 go_wp2_with (go_at_call 86;(with_reducible refine zxj HR.out (Ky.zeh HR.out) HV.out HS.out HL.out key HP.out H ?_);intro v' w2 H2 I2)
 exact HH.out v' w2 H2 I2
theorem xgb (args:Array Value) (w:World):(callFunc 65 args).run Tryz.prog w=.ok (.enter 65 args) w:=enters_of Tryz.func65 (by kernel_rfl) rfl args w
theorem xgc (args:Array Value) (w:World):(callFunc 85 args).run Tryz.prog w=.ok (.enter 85 args) w:=enters_of Tryz.func85 (by kernel_rfl) rfl args w
theorem z8z {es:List Ky.En} {q g:Nat} (H:Sat (ze1 c es q g*F) w):w.cell? ⟨c.tr,0,none⟩=some (.pointer (some ⟨c.k.t,0,none⟩))∧w.cell? ⟨c.tr,2,none⟩=some (.int .i64 0):=by
 obtain ⟨root,L,_,_,H⟩:=zes.1 H
 have:=zaq.cells H
 exact ⟨this.1,this.2.2⟩
theorem zul {P:List Ky.En→Prop} {key val:Ky.Nm} {d g q:Nat} {es:List Ky.En} (hk:c.k.n≤3000) (hg:g≤240) (hq:60≤q) (hc:Ky.chk key val=0) (o:Tb.Loc (fun l=>Ky.put l key val) P key d) (hp:P es)
  (H:Sat (ze1 c es q g*F) w)
  (hR:∀ x w',zd9 c F (Ky.put es key val) (q+d) (g+min d 1) (30+(Tb.most q g:Int)) x w'→Io w w'→R (.returned (.int .i64 x)) w') :
  Calls Tryz.prog 31 #[.pointer (some ⟨c.tr,0,none⟩),.string key,.string val] w R:=by
 have HH:=L_ hR
 have HO:=L_ (And.intro o hp)
 have HC:Hid ((0:Int)=Ky.chk key val):=L_ hc.symm
 have hck:=Ky.zjr hc
 have k1:Hid (key.size≤1000000):=L_ (by omega)
 have k2:Hid (val.size≤1000000):=L_ (by omega)
 have HNE:Hid (es=[]→(fun l=>Ky.put l key val) []≠[]):=L_ (fun _ h=>by simp [Ky.put,Ky.has] at h)
 have HD:Hid (zgw (zib w.heap.size (w.heap.size+1) key val) 65 #[.pointer (some ⟨w.heap.size,0,none⟩),.pointer (some ⟨w.heap.size+1,0,none⟩)] (fun l=>Ky.put l key val) P):=L_ (xb3 hc P)
 have H1:=((H.new (.cells #[.string key] 9)).new (.cells #[.string val] 9)).of_eq (show _=ze1 c es q g*(zib w.heap.size (w.heap.size+1) key val*F) from by unfold zib;rw [heap_alloc];ac_rfl)
 have I1:=io2 H1 (Io.refl w)
 clear hR o hp hc hck
 go_enter Tryz.func31,Tryz.ntmps31
 go_upto_region 1 with fail
 generalize (w.alloc _).alloc _=w1 at *
 generalize hb:w.heap.size=b at *
 obtain ⟨v0,v2⟩:=z8z H1
 have H2:=H1.of_eq (show _=pts b (.cells #[.string key] 9)*(pts (b+1) (.cells #[.string val] 9)*(ze1 c es q g*F)) from by unfold zib;ac_rfl)
 have q0:=Sat.read H2.left.at 0
 have q1:=Sat.read H2.right.left.at 0
 simp only [List.getElem?_toArray,List.getElem?_cons_zero,List.getElem?_cons_succ] at q0 q1
 go_wp2_with (first
  | (go_at_call 63;(with_reducible refine check_any key val k1.out k2.out HC ?_))
  | (go_at_call 64;(with_reducible refine zor hk hg hq xgb HO.out.1 HD.out HO.out.2 HNE.out H1 ?_);intro x w2 D2 I2;have D2:=L_ D2))
 exact HH.out x w2 D2.out.drop (I1.trans I2)
theorem z6j {key:Ky.Nm} {g q:Nat} {es:List Ky.En} (hk:c.k.n≤3000) (hg:g≤240) (hq:60≤q) (hr:Ky.Right es) (hh:Ky.has key es=true)
  (H:Sat (ze1 c es q g*F) w)
  (hR:∀ d x w',((d=true∧x=0∧Sat (ze1 c (Ky.del es key) q g*F) w')∨(d=false∧x=2∧c.k.room≤30+(Tb.most q g:Int)∧Sat (zie c*F) w'))→Io w w'→R (.returned (.tuple #[.bool d,.int .i64 x])) w') :
  Calls Tryz.prog 59 #[.pointer (some ⟨c.tr,0,none⟩),.string key] w R:=by
 have HH:=L_ hR
 obtain ⟨val,hval⟩:∃ val,Ky.get es key=some val:=by
  obtain ⟨h1,h2⟩:=(Ky.zc1 hr).1 hh
  unfold Ky.get
  rw [if_pos hh,List.getElem?_eq_getElem h1]
  exact ⟨_,rfl⟩
 have HG:Hid ((true=true∧Ky.get es key=some val)∨(true=false∧val=⟨#[]⟩∧Ky.get es key=none)):=L_ (.inl ⟨rfl,hval⟩)
 have HHAS:=L_ hh
 have HNE:Hid (es=[]→(fun l=>Ky.del l key) []≠[]):=L_ (fun e _=>by rw [e] at hh;simp [Ky.has] at hh)
 have HD:Hid (zgw (pts w.heap.size (.cells #[.string key] 9)) 85 #[.pointer (some ⟨w.heap.size,0,none⟩)] (fun l=>Ky.del l key) (fun l=>Ky.has key l=true)):=L_ xb4
 have H1:=((H.new (.cells #[.string key] 9))).of_eq (show _=ze1 c es q g*(pts w.heap.size (.cells #[.string key] 9)*F) from by ac_rfl)
 have I1:=io1 H1 (Io.refl w)
 clear hR hval hh hr
 go_enter Tryz.func59,Tryz.ntmps59
 go_upto_region 1 with fail
 generalize w.alloc _=w1 at *
 generalize hb:w.heap.size=b at *
 have q0:=Sat.read H1.right.left.at 0
 simp only [List.getElem?_toArray,List.getElem?_cons_zero,List.getElem?_cons_succ] at q0
 go_upto_region 2 with (go_at_call 77;(with_reducible refine zjo hg HG H1 ?_);intro w2 H2 I2)
 have q1:=Sat.read H2.right.left.at 0
 simp only [List.getElem?_toArray,List.getElem?_cons_zero,List.getElem?_cons_succ] at q1
 clear q0
 go_upto_region 4 with (go_at_call 64;(with_reducible refine zor hk hg hq xgc Tb.xa1 HD.out HHAS.out HNE.out H2 ?_);intro x w3 D3 I3;have D3:=L_ D3)
 have J3:=(I1.trans I2).trans I3
 rcases D3.out with ⟨rfl,H3⟩ | ⟨rfl,hf,H3⟩
 ·clear D3
  go_wp2_with fail
  exact HH.out true 0 w3 (.inl ⟨rfl,rfl,(H3.of_eq (show _=(ze1 c (Ky.del es key) q g*F)*(pts b (.cells #[.string key] 9)) from by simp only [Nat.add_zero,Nat.zero_min];ac_rfl)).left⟩) J3
 ·clear D3
  obtain ⟨r,H4⟩:=zde.1 H3
  obtain ⟨v0,v1,v2⟩:=zem H4
  obtain ⟨f1,f2⟩:=zha H4
  have K4:=zgo (e':=2) H4
  have J4:=J3.setCell ⟨c.tr,2,none⟩ (.int .i64 2)
  have HB:=L_ hf
  clear hf
  go_wp2_with fail
  exact HH.out false 2 _ (.inr ⟨rfl,rfl,HB.out,zde.2 ⟨r,(K4.of_eq (show _=(zbm c r 2*F)*(pts b (.cells #[.string key] 9)) from by ac_rfl)).left⟩⟩) J4
end
structure Room {α:Type} (B:Nat→α→Prop) (step:α→Ky.En→α × Bool):Prop where
 less:∀ n s,B (n+1) s→B n s
 next:∀ n s x,B (n+1) s→B n (step s x).1
theorem Room.few {α:Type} {B:Nat→α→Prop} {step:α→Ky.En→α × Bool} (h:Room B step) {n m:Nat} {s:α} (hb:B (n+m) s):B n s:=by
 induction m with
 | zero=>exact hb
 | succ m ih=>exact ih (h.less _ _ hb)
section
variable {α:Type} {A:α→Asn} {B:Nat→α→Prop} {gy:Nat} {cy:Array Value} {step:α→Ky.En→α × Bool} {c:Cq} {r:Int} {L:Tb.Pg} {key:Ky.Nm}
end
section
variable {α:Type} {A:α→Asn} {B:Nat→α→Prop} {gy:Nat} {cy:Array Value} {step:α→Ky.En→α × Bool} {c:Cq} {r:Int} {L:Tb.Pg} {key:Ky.Nm}
end
section
variable {α:Type} {A:α→Asn} {B:Nat→α→Prop} {gi:Nat} {ci:Array Value} {step:α→Ky.En→α × Bool}
end
namespace Tb
open Ky
theorem Sub.ne:∀ {h:Nat} {lo hi:Bd} {id:Int} {es:List En} {L:Pg} {c:Nat},Sub h lo hi id es L c→es≠[]
 | 0,_,_,_,_,_,_,s=>by
  obtain ⟨_,_,_,_,h,_⟩:=s;exact h
 | h+1,_,_,_,_,_,_,s=>by
  obtain ⟨_,_,K,B,L',n,_⟩:=s
  cases n with
  | mk h r =>
   obtain ⟨c,h⟩:=h
   have:=Sub.ne h
   simp [this]
end Tb
theorem nd1 {b:Nat} {x:Value} {t:TypeId} {G:Asn} {w:World} (H:Sat (pts b (.cells #[x] t (0,0))*G) w):w.cell? ⟨b,0,none⟩=some x∧w.frozen? ⟨b,0,none⟩=false :=
 ⟨Sat.read H.left.at 0,Sat.free H.left.at 0⟩
section
variable {c:Cq} {r:Int} {L:Tb.Pg} {F:Asn} {w:World} {R:Ending→World→Prop}
end
namespace Ky
theorem zmk {x y:Nm} (h:Md.nlt x y=true):x≠y:=fun e=>by rw [e,zbp] at h;cases h
theorem xev (k v:Nm):put [] k v=[(k,v)]:=by simp [put,has,pos]
theorem xeu (k w v:Nm):put [(k,w)] k v=[(k,v)]:=by simp [put,has,pos,zbp]
theorem xf4 (k:Nm):del [] k=[]:=by simp [del,has]
theorem xf3 (k w:Nm):del [(k,w)] k=[]:=by simp [del,has,pos,zbp]
theorem get_nil (k:Nm):get [] k=none:=by simp [get,has]
theorem xfs (k w:Nm):get [(k,w)] k=some w:=by simp [get,has,pos,zbp]
theorem zqc {l:List En} (hr:Right l) (key:Nm):∃ E1 Ec E2,l=E1++(Ec++E2)∧(∀ x∈E1,Md.nlt x.1 key=true)∧(∀ x∈E2,Md.nlt key x.1=true)∧(Ec=[]∨∃ v,Ec=[(key,v)]):=by
 have ha:∀ x∈l.take (pos key l),Md.nlt x.1 key=true:=by
  intro x hx
  obtain ⟨j,hj,rfl⟩:=List.getElem_of_mem hx
  rw [List.length_take] at hj
  rw [List.getElem_take]
  exact zi9 (by omega) (by omega)
 by_cases hh:has key l=true
 ·obtain ⟨hl,hk⟩:=(zc1 hr).1 hh
  refine ⟨l.take (pos key l),[l[pos key l]],l.drop (pos key l+1),?_,ha,?_,.inr ⟨(l[pos key l]).2,?_⟩⟩
  ·rw [List.singleton_append,←List.drop_eq_getElem_cons hl,List.take_append_drop]
  ·intro x hx
   obtain ⟨j,hj,rfl⟩:=List.getElem_of_mem hx
   rw [List.length_drop] at hj
   rw [List.getElem_drop]
   have:=List.pairwise_iff_getElem.1 hr.2 (pos key l) (pos key l+1+j) hl (by omega) (by omega)
   rw [hk] at this
   exact this
  ·have:l[pos key l]=((l[pos key l]).1,(l[pos key l]).2):=rfl
   rw [hk] at this
   rw [this]
 ·refine ⟨l.take (pos key l),[],l.drop (pos key l),?_,ha,?_,.inl rfl⟩
  ·rw [List.nil_append,List.take_append_drop]
  ·intro x hx
   have hx':=List.mem_of_mem_drop hx
   obtain ⟨j,hj,rfl⟩:=List.getElem_of_mem hx
   rw [List.length_drop] at hj
   rw [List.getElem_drop] at hx' ⊢
   have h1:=zo8 (key:=key) hr (j:=pos key l+j) (by omega) (by omega)
   cases h2:Md.nlt key (l[pos key l+j]).1 with
   | true=>rfl
   | false =>
    have e:=zje h1 h2
    refine absurd ?_ hh
    unfold has
    rw [List.any_eq_true]
    exact ⟨_,hx',by simp [e]⟩
theorem zmq {l:List En} {k v:Nm} {x:En} (hr:Right l):x∈put l k v↔x=(k,v)∨(x∈l∧x.1≠k):=by
 obtain ⟨E1,Ec,E2,rfl,h1,h2,h3⟩:=zqc hr k
 rw [Tb.zwp h1 h2 hr]
 have hp:put Ec k v=[(k,v)]:=by
  rcases h3 with rfl | ⟨w,rfl⟩
  ·exact xev _ _
  ·exact xeu _ _ _
 rw [hp]
 simp only [List.mem_append,List.mem_singleton]
 constructor
 ·rintro (h | h | h)
  ·exact .inr ⟨.inl h,zmk (h1 x h)⟩
  ·exact .inl h
  ·exact .inr ⟨.inr (.inr h),(zmk (h2 x h)).symm⟩
 ·rintro (h | ⟨h | h | h,hne⟩)
  ·exact .inr (.inl h)
  ·exact .inl h
  ·exfalso
   rcases h3 with rfl | ⟨w,rfl⟩
   ·cases h
   ·rw [List.mem_singleton] at h;exact hne (by rw [h])
  ·exact .inr (.inr h)
theorem zwy {l:List En} {k:Nm} {x:En} (hr:Right l):x∈del l k↔x∈l∧x.1≠k:=by
 obtain ⟨E1,Ec,E2,rfl,h1,h2,h3⟩:=zqc hr k
 rw [Tb.zxk h1 h2 hr]
 have hp:del Ec k=[]:=by
  rcases h3 with rfl | ⟨w,rfl⟩
  ·exact xf4 _
  ·exact xf3 _ _
 rw [hp]
 simp only [List.mem_append,List.nil_append]
 constructor
 ·rintro (h | h)
  ·exact ⟨.inl h,zmk (h1 x h)⟩
  ·exact ⟨.inr (.inr h),(zmk (h2 x h)).symm⟩
 ·rintro ⟨h | h | h,hne⟩
  ·exact .inl h
  ·exfalso
   rcases h3 with rfl | ⟨w,rfl⟩
   ·cases h
   ·rw [List.mem_singleton] at h;exact hne (by rw [h])
  ·exact .inr h
theorem xfo {l:List En} {k:Nm}:has k l=true↔∃ v,(k,v)∈l:=by
 unfold has
 rw [List.any_eq_true]
 constructor
 ·rintro ⟨⟨a,b⟩,h,e⟩
  simp only [decide_eq_true_eq] at e
  exact ⟨b,e ▸ h⟩
 ·rintro ⟨v,h⟩
  exact ⟨_,h,by simp⟩
theorem get_mem {l:List En} {k v:Nm} (hr:Right l):get l k=some v↔(k,v)∈l:=by
 obtain ⟨E1,Ec,E2,rfl,h1,h2,h3⟩:=zqc hr k
 rw [Tb.z5p h1 h2 hr]
 simp only [List.mem_append]
 have n1:(k,v)∉E1:=fun h=>zmk (h1 _ h) rfl
 have n2:(k,v)∉E2:=fun h=>zmk (h2 _ h) rfl
 rcases h3 with rfl | ⟨w,rfl⟩
 ·rw [get_nil];simp [n1,n2]
 ·rw [xfs];simp [n1,n2,eq_comm]
theorem get_none {l:List En} {k:Nm} (hr:Right l):get l k=none↔∀ v,(k,v)∉l:=by
 constructor
 ·intro h v hv
  rw [(get_mem hr).2 hv] at h
  cases h
 ·intro h
  cases e:get l k with
  | none=>rfl
  | some v=>exact absurd ((get_mem hr).1 e) (h v)
end Ky
namespace Sq
open Ky
structure Rep (es:List En) (M:Mp) (O:List En):Prop where
 right:Right es
 okm:∀ k n,M k=some n→OkT k
 okn:∀ k n,M k=some n→OkN n
 mem:∀ k v,OkT k→((kk k,v)∈es↔∃ n,M k=some n∧v=zg9 n)
 other:∀ x∈es,(∃ k,OkT k∧x.1=kk k)∨x∈O
 sub:∀ x∈O,x∈es
 apart:∀ x∈O,∀ k,x.1≠kk k
def nope:Mp:=fun _=>none
theorem xes {O:List En} (hr:Right O) (ha:∀ x∈O,∀ k,x.1≠kk k):Rep O nope O where
 right:=hr
 okm:=fun k n h=>by cases h
 okn:=fun k n h=>by cases h
 mem:=fun k v _=>⟨fun h=>absurd rfl (ha _ h k),fun ⟨n,h,_⟩=>by cases h⟩
 other:=fun x hx=>.inr hx
 sub:=fun x hx=>hx
 apart:=ha
variable {es O:List En} {M:Mp}
theorem Rep.get (r:Rep es M O) {k:Tk} {n:Nd} (h:M k=some n):Ky.get es (kk k)=some (zg9 n) :=
 (get_mem r.right).2 ((r.mem k _ (r.okm k n h)).2 ⟨n,h,rfl⟩)
theorem Rep.get_none (r:Rep es M O) {k:Tk} (ok:OkT k) (h:M k=none):Ky.get es (kk k)=none :=
 (Ky.get_none r.right).2 fun v hv=>by
  obtain ⟨n,hn,_⟩:=(r.mem k v ok).1 hv
  rw [h] at hn
  cases hn
theorem Rep.has (r:Rep es M O) {k:Tk} (ok:OkT k):Ky.has (kk k) es=true↔M k≠none:=by
 rw [xfo]
 constructor
 ·rintro ⟨v,hv⟩
  obtain ⟨n,hn,_⟩:=(r.mem k v ok).1 hv
  rw [hn]
  simp
 ·intro h
  obtain ⟨n,hn⟩:=Option.ne_none_iff_exists'.1 h
  exact ⟨_,(r.mem k _ ok).2 ⟨n,hn,rfl⟩⟩
theorem Rep.put (r:Rep es M O) {k:Tk} (ok:OkT k) {n:Nd} (okn:OkN n):Rep (Ky.put es (kk k) (zg9 n)) (upd M k n) O where
 right:=Tb.zme r.right (ztu k n)
 okm:=fun x y h=>by
  by_cases e:x=k
  ·rw [e];exact ok
  ·rw [upd_ne e] at h;exact r.okm x y h
 okn:=fun x y h=>by
  by_cases e:x=k
  ·subst e;rw [zlk] at h;cases h;exact okn
  ·rw [upd_ne e] at h;exact r.okn x y h
 mem:=fun x v hx=>by
  rw [zmq r.right]
  by_cases e:x=k
  ·subst e
   rw [zlk]
   constructor
   ·rintro (h | ⟨_,h⟩)
    ·cases h;exact ⟨n,rfl,rfl⟩
    ·exact absurd rfl h
   ·rintro ⟨y,h,rfl⟩
    cases h
    exact .inl rfl
  ·rw [upd_ne e,←r.mem x v hx]
   constructor
   ·rintro (h | ⟨h,_⟩)
    ·rw [Prod.mk.injEq] at h
     exact absurd (zyx hx.inT ok.inT h.1) e
    ·exact h
   ·intro h
    exact .inr ⟨h,fun h2=>e (zyx hx.inT ok.inT h2)⟩
 other:=fun x hx=>by
  rcases (zmq r.right).1 hx with rfl | ⟨h,_⟩
  ·exact .inl ⟨k,ok,rfl⟩
  ·exact r.other x h
 sub:=fun x hx=>(zmq r.right).2 (.inr ⟨r.sub x hx,r.apart x hx k⟩)
 apart:=r.apart
def del (M:Mp) (k:Tk):Mp:=fun x=>if x=k then none else M x
theorem zy5 (M:Mp) (k:Tk):del M k k=none:=by unfold del;rw [if_pos rfl]
theorem z6g {k x:Tk} (h:x≠k):del M k x=M x:=by unfold del;rw [if_neg h]
theorem Rep.del (r:Rep es M O) {k:Tk} (ok:OkT k):Rep (Ky.del es (kk k)) (del M k) O where
 right:=Tb.zmf r.right
 okm:=fun x y h=>by
  by_cases e:x=k
  ·rw [e];exact ok
  ·rw [z6g e] at h;exact r.okm x y h
 okn:=fun x y h=>by
  by_cases e:x=k
  ·subst e;rw [zy5] at h;cases h
  ·rw [z6g e] at h;exact r.okn x y h
 mem:=fun x v hx=>by
  rw [zwy r.right]
  by_cases e:x=k
  ·subst e
   rw [zy5]
   constructor
   ·rintro ⟨_,h⟩;exact absurd rfl h
   ·rintro ⟨y,h,_⟩;cases h
  ·rw [z6g e,←r.mem x v hx]
   exact ⟨fun h=>h.1,fun h=>⟨h,fun h2=>e (zyx hx.inT ok.inT h2)⟩⟩
 other:=fun x hx=>r.other x ((zwy r.right).1 hx).1
 sub:=fun x hx=>(zwy r.right).2 ⟨r.sub x hx,r.apart x hx k⟩
 apart:=r.apart
theorem Rep.over (r:Rep es M O) {k:Tk} (h:M k≠none) (n:Nd):Ky.has (kk k) es=true∧∀ x∈es,x.1=kk k→(zg9 n).size≤x.2.size:=by
 obtain ⟨y,hy⟩:=Option.ne_none_iff_exists'.1 h
 have ok:=r.okm k y hy
 refine ⟨(r.has ok).2 h,fun x hx e=>?_⟩
 obtain ⟨z,v⟩:=x
 simp only at e
 subst e
 obtain ⟨m,_,rfl⟩:=(r.mem k v ok).1 hx
 rw [zey,zey]
 exact Nat.le_refl _
end Sq
end Go.Proofs.YtfknjmoekbabcaaGreatDoor
