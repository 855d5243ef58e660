/-
  A part of a proof. It proves no statement by itself.
-/
import Derived.Test.YtfknjmoekbabcaaGreatDoorC13
import Derived.Deep.RegionLaw
set_option linter.unusedSimpArgs false
set_option linter.unusedVariables false
set_option linter.unusedSectionVars false
set_option maxRecDepth 100000
set_option maxHeartbeats 64000000
namespace Go.Proofs.YtfknjmoekbabcaaGreatDoor
open Go.RowKit Go.Lib
theorem z0e:z1j (.slice none 0 0) 0:=.inl ⟨rfl,rfl⟩
section
variable {F:Asn} {w:World} {R:Ending→World→Prop}
theorem ztk {es:List Ky.En} (hr:Ky.Right es) (hz:Ky.size es≤240) (H:Sat F w) (h:∀ G v w',NdV G v (Ky.lf es)→Sat (G*F) w'→Io w w'→R (.returned (.tuple #[v,.int .i64 0])) w') :
  Calls Tryz.prog 134 #[.int .u8 1,.string (Ky.zga es)] w R:=by
 have HH:=L_ h
 have HR:=L_ hr
 have HD:Hid (true=decide (Ky.zbf (Ky.lf es)≤240)):=L_ (decide_eq_true hz).symm
 have HL:Hid (es.length≤5000):=L_ (by have:=(Tb.zcj hr.1).1;omega)
 have HZ:Hid (Ky.size es≤5000):=L_ (by omega)
 clear h hr hz
 have I1:=((Io.refl w).alloc (.cells #[.bool false,.slice none 0 0,.slice none 0 0,.slice none 0 0] 151)).alloc (.cells #[.bool false,.slice none 0 0,.slice none 0 0,.slice none 0 0] 151)
 have H1:=(H.new (.cells #[.bool false,.slice none 0 0,.slice none 0 0,.slice none 0 0] 151)).new (.cells #[.bool false,.slice none 0 0,.slice none 0 0,.slice none 0 0] 151)
 rw [heap_alloc] at H1
 generalize hs:Ky.zga es=s at *
 have HS:Hid (s=Ky.zga es):=L_ hs.symm
 clear hs
 go_enter Tryz.func134,Tryz.ntmps134
 go_upto_region 3 with fail
 generalize ((w.alloc _).alloc _)=w1 at *
 generalize hb:w.heap.size=b at *
 obtain ⟨q0,q1,q2,q3⟩:=nd4 H1
 obtain ⟨f0,f1,f2,f3⟩:=zd7 H1
 have K1:Sat (pts (b+1) (.cells #[.bool true,.slice none 0 0,.slice none 0 0,.slice none 0 0] 151 (0,0))*(pts b (.cells #[.bool false,.slice none 0 0,.slice none 0 0,.slice none 0 0] 151 (0,0))*F)) (w1.setCell ⟨b+1,0,none⟩ (.bool true)):=H1.cell 0 (.bool true)
 have J1:=I1.setCell ⟨b+1,0,none⟩ (.bool true)
 go_upto_region 6 with fail
 generalize w1.setCell ⟨b+1,0,none⟩ (.bool true)=w2 at *
 clear q0 q1 q2 q3 f0 f1 f2 f3 H1 I1 H
 go_upto_region 14 with (go_at_call 165;refine decode_any HR.out HZ.out K1 HS ?_;intro v w3 H3 I3;have RE:=L_ (Reads.zau (za3 H3.left) (by have:=HL.out;omega));have SE:=L_ (za2 H3);obtain ⟨a3,m3,c3,rfl⟩:=zaf H3;obtain ⟨q0,q1,q2,q3⟩:=nd4 H3.right;obtain ⟨f0,f1,f2,f3⟩:=zd7 H3.right)
 have K3:Sat (pts (b+1) (.cells #[.bool true,.slice a3 m3 c3,.slice none 0 0,.slice none 0 0] 151 (0,0))*(zda (.slice a3 m3 c3) es*(pts b (.cells #[.bool false,.slice none 0 0,.slice none 0 0,.slice none 0 0] 151 (0,0))*F))) (w3.setCell ⟨b+1,1,none⟩ (.slice a3 m3 c3)):=(H3.sw).cell 1 (.slice a3 m3 c3)
 have J3:=(J1.trans I3).setCell ⟨b+1,1,none⟩ (.slice a3 m3 c3)
 generalize w3.setCell ⟨b+1,1,none⟩ (.slice a3 m3 c3)=w4 at *
 clear q0 q1 q2 q3 f0 f1 f2 f3 H3 I3 J1 K1
 have NV:Hid (NdV (pts (b+1) (.cells #[.bool true,.slice a3 m3 c3,.slice none 0 0,.slice none 0 0] 151 (0,0))*(zda (.slice a3 m3 c3) es*(pts b (.cells #[.bool false,.slice none 0 0,.slice none 0 0,.slice none 0 0] 151 (0,0))*F))) (.agg #[.bool true,.slice a3 m3 c3,.slice none 0 0,.slice none 0 0]) (Ky.lf es)) :=
  L_ ⟨_,_,_,rfl,⟨RE.out.imp (fun _ hw=>za3 hw.right.left),SE.out⟩,⟨zas _ none 0,z0e⟩,zas _ none 0,z0e⟩
 obtain ⟨q0,q1,q2,q3⟩:=nd4 K3
 go_wp2_with (go_at_call 155;refine zf7 (.leaf HR.out) NV.out ⟨HL.out,Nat.zero_le _⟩ K3 HD ?_;intro w5 H5 I5;obtain ⟨q0,q1,q2,q3⟩:=nd4 H5;obtain ⟨g0,g1,g2,g3⟩:=nd4 H5.right.right;obtain ⟨f0,f1,f2,f3⟩:=zd7 H5.right.right)
 have K5:=(H5.of_eq (show _=pts b (.cells #[.bool false,.slice none 0 0,.slice none 0 0,.slice none 0 0] 151 (0,0))*(zda (.slice a3 m3 c3) es*(F*pts (b+1) (.cells #[.bool true,.slice a3 m3 c3,.slice none 0 0,.slice none 0 0] 151 (0,0)))) from by ac_rfl)).cells4 (x':=.bool true) (y':=.slice a3 m3 c3) (z':=.slice none 0 0) (u':=.slice none 0 0)
 have J5:=((((J3.trans I5).setCell ⟨b,0,none⟩ (.bool true)).setCell ⟨b,1,none⟩ (.slice a3 m3 c3)).setCell ⟨b,2,none⟩ (.slice none 0 0)).setCell ⟨b,3,none⟩ (.slice none 0 0)
 generalize ((((w5.setCell ⟨b,0,none⟩ (.bool true)).setCell ⟨b,1,none⟩ (.slice a3 m3 c3)).setCell ⟨b,2,none⟩ (.slice none 0 0)).setCell ⟨b,3,none⟩ (.slice none 0 0))=W at *
 clear q0 q1 q2 q3 g0 g1 g2 g3 f0 f1 f2 f3
 obtain ⟨y0,y1,y2,y3⟩:=nd4 K5
 exact bodyPost_ret (v:=.tuple #[.agg #[.bool true,.slice a3 m3 c3,.slice none 0 0,.slice none 0 0],.int .i64 0]) (by simp [results,Tryz.results134,go_sem,y0,y1,y2,y3]) rfl
  (HH.out (zda (.slice a3 m3 c3) es) _ _ ⟨_,_,_,rfl,⟨RE.out.imp (fun _ hw=>za3 hw),SE.out⟩,⟨zas _ none 0,z0e⟩,zas _ none 0,z0e⟩ (K5.right.of_eq (show zda (.slice a3 m3 c3) es*(F*_)=(zda (.slice a3 m3 c3) es*F)*_ from (zdn _ _ _).symm)).left J5)
end
def z2x (p:Nat) (w:World):Nat:=match w.cell? ⟨p,0,none⟩ with
 | some (.string s)=>s.size
 | _=>0
theorem zs8 {p:Nat} {r:Rd} {F:Asn} {w:World} (H:Sat (zeb p r*F) w):z2x p w=r.rest.size:=by
 have:=(zdu H).2.1
 unfold z2x
 rw [this]
theorem zqh {α:Type} {enc:α→List Value} {sz:Nat} (he:Enc enc sz) {e:TypeId} {g:Nat} (y:α) {F:Asn} {w:World} (H:Sat (pts g (.cells (enc y).toArray e (0,0))*F) w):Sat (RowOf e sz enc (.slice (some ⟨g,0,none⟩) 1 1) [y]*F) w:=by
 unfold RowOf
 refine za8.2 ⟨by simp [cellsOf,he.len],.inr ⟨g,1,(enc y).toArray,rfl,by simp,by unfold maxLen;omega,by simp [he.len],?_,H⟩⟩
 simp only [cellsOf,List.flatMap_cons,List.flatMap_nil,List.append_nil,List.length_singleton,Nat.one_mul,List.toList_toArray]
 rw [←he.len y,List.take_length]
section
variable {F:Asn} {w:World} {R:Ending→World→Prop} {p:Nat}
theorem zmd (m:Nat) (rest:ByteArray) (hm:m<4294967296) (hr:rest.size≤100000) (H:Sat (zeb p ⟨Ky.p4 (m:Int)++rest,0⟩*F) w) (h:∀ w',Sat (zeb p ⟨rest,0⟩*F) w'→Io w w'→R (.returned (.int .i64 (m:Int))) w') :
  Calls Tryz.prog 111 #[.pointer (some ⟨p,0,none⟩),.int .i64 4] w R:=by
 have z0:(Ky.p4 (m:Int)).size=4:=Ky.zb6 _
 have q2:(Ky.p4 (m:Int)++rest).size≤1000000:=by rw [ByteArray.size_append,z0];omega
 have b2:=xcn (a:=Ky.p4 (m:Int)) (b:=rest) (n:=4) z0.symm
 have n1:(⟨Ky.p4 (m:Int)++rest,0⟩:Rd).num 4=m:=by
  unfold Rd.num
  rw [xcm z0.symm,ztd,zv5,z1p]
  exact Nat.mod_eq_of_lt (by omega)
 refine zw5 H q2 4 (.inr (.inr rfl)) fun w1 H1 I1=>?_
 rw [show ((4:Nat):Int)=4 from rfl] at H1
 have b2':(⟨Ky.p4 (m:Int)++rest,0⟩:Rd).bR (4:Int)=⟨rest,0⟩:=b2
 rw [b2'] at H1
 rw [n1]
 exact h w1 H1 I1
theorem zqw {c0:Int} {kt:List Int} {keys:List Ky.Nm} (hr:Ky.InR (c0::kt) keys) (hz:4+Ky.zah keys≤240) (H:Sat F w) (h:∀ G v w',NdV G v (Ky.inn (c0::kt) keys)→Sat (G*F) w'→Io w w'→R (.returned (.tuple #[v,.int .i64 0])) w') :
  Calls Tryz.prog 134 #[.int .u8 2,.string (Ky.p4 c0++Ky.ziw keys kt)] w R:=by
 have HH:=L_ h
 have HR:=L_ hr
 have HD:Hid (true=decide (Ky.zbf (Ky.inn (c0::kt) keys)≤240)):=L_ (decide_eq_true hz).symm
 have HC:=L_ hr.chk
 have HI:=L_ hr.ids
 have HLK:Hid (kt.length=keys.length):=L_ (by have:=hr.len;simpa using this)
 have hkl:keys.length≤60:=by have:=(Tb.zbg hr.chk).1;omega
 have HB:Hid (∀ k,(Ky.ziw (keys.drop k) (kt.drop k)).size≤300):=L_ (fun k=>by
  have e:=hr.len
  rw [List.length_cons] at e
  rw [Ky.zjn (by rw [List.length_drop,List.length_drop];omega)]
  have h1:Ky.zah (keys.take k)+Ky.zah (keys.drop k)=Ky.zah keys:=by rw [←Ky.zbx,List.take_append_drop]
  omega)
 have hi0:=hr.ids c0 (List.mem_cons_self ..)
 obtain ⟨m0,rfl⟩:∃ m0:Nat,c0=(m0:Int):=⟨c0.toNat,by omega⟩
 have hm0:m0<4294967296:=by omega
 clear h hr hz hi0
 have I1:=((Io.refl w).alloc (.cells #[.bool false,.slice none 0 0,.slice none 0 0,.slice none 0 0] 151)).alloc (.cells #[.bool false,.slice none 0 0,.slice none 0 0,.slice none 0 0] 151)
 have H1:=(H.new (.cells #[.bool false,.slice none 0 0,.slice none 0 0,.slice none 0 0] 151)).new (.cells #[.bool false,.slice none 0 0,.slice none 0 0,.slice none 0 0] 151)
 rw [heap_alloc] at H1
 obtain ⟨s,hs⟩:∃ s,s=Ky.p4 (m0:Int)++Ky.ziw keys kt:=⟨_,rfl⟩
 have HS:=L_ hs
 rw [←hs]
 clear hs
 go_enter Tryz.func134,Tryz.ntmps134
 go_upto_region 3 with fail
 generalize ((w.alloc _).alloc _)=w1 at *
 generalize hb:w.heap.size=b at *
 go_upto_region 9 with (go_at_call 110;refine zqm H1 _ ?_;intro p w2 H2 I2)
 have HB0:=HB.out 0
 rw [List.drop_zero,List.drop_zero] at HB0
 go_upto_region 10 with (go_at_call 111;refine zmd m0 (Ky.ziw keys kt) hm0 (by omega) (H2.of_eq (by rw [←HS.out])) ?_;intro w3 H3 I3;have H4:=H3.new (.cells #[.int .i64 (m0:Int)] 3);obtain ⟨q0,q1,q2,q3⟩:=nd4 H4.right.right;obtain ⟨f0,f1,f2,f3⟩:=zd7 H4.right.right)
 have K4:=zqh zba (m0:Int) H4
 have K5:=(K4.of_eq (show _=pts (b+1) (.cells #[.bool false,.slice none 0 0,.slice none 0 0,.slice none 0 0] 151 (0,0))*(zeb p ⟨Ky.ziw keys kt,0⟩*(za1 (.slice (some ⟨w3.heap.size,0,none⟩) 1 1) [(m0:Int)]*(pts b (.cells #[.bool false,.slice none 0 0,.slice none 0 0,.slice none 0 0] 151 (0,0))*F))) from by unfold za1;ac_rfl)).cell 2 (.slice (some ⟨w3.heap.size,0,none⟩) 1 1)
 simp only [List.setIfInBounds_toArray,List.set_cons_succ,List.set_cons_zero] at K5
 have J5:=((((I1.trans I2).trans I3).alloc (.cells #[.int .i64 (m0:Int)] 3)).setCell ⟨b+1,2,none⟩ (.slice (some ⟨w3.heap.size,0,none⟩) 1 1))
 generalize (w3.alloc _).setCell ⟨b+1,2,none⟩ (.slice (some ⟨w3.heap.size,0,none⟩) 1 1)=w5 at *
 clear q0 q1 q2 q3 f0 f1 f2 f3 H1 H2 H3 H4 I1 I2 I3 K4 H
 have K6:Sat (zeb p ⟨Ky.ziw keys kt,0⟩*(za1 (.slice (some ⟨w3.heap.size,0,none⟩) 1 1) [(m0:Int)]*(zbj (.slice none 0 0) []*(pts (b+1) (.cells #[.bool false,.slice none 0 0,.slice (some ⟨w3.heap.size,0,none⟩) 1 1,.slice none 0 0] 151 (0,0))*(pts b (.cells #[.bool false,.slice none 0 0,.slice none 0 0,.slice none 0 0] 151 (0,0))*F))))) w5 :=
  (za5 K5 (enc:=zrg) (sz:=1) (e:=9)).of_eq (by unfold zbj za1;ac_rfl)
 generalize w3.heap.size=g3 at *
 go_loopw [28] (fun _ wr=>∃ (k:Nat) (kv xv:Value),k≤keys.length∧Sat (zeb p ⟨Ky.ziw (keys.drop k) (kt.drop k),0⟩*(za1 kv ((m0:Int)::kt.take k)*(zbj xv (keys.take k)*(pts (b+1) (.cells #[.bool false,.slice none 0 0,kv,xv] 151 (0,0))*(pts b (.cells #[.bool false,.slice none 0 0,.slice none 0 0,.slice none 0 0] 151 (0,0))*F))))) wr∧Io w wr) (fun _ wr=>z2x p wr)
 case atStart=>exact ⟨0,_,_,Nat.zero_le _,K6,J5⟩
 case round =>
  obtain ⟨k,kv,xv,hk,Hk,Ik⟩:=hrel
  rw [zs8 Hk]
  have hq:=HB.out k
  obtain ⟨a3,n3,c3,rfl⟩:=zaf Hk.right
  obtain ⟨a5,n5,c5,rfl⟩:=zaf Hk.right.right
  by_cases hlt:k<keys.length
  ·obtain ⟨key,hx⟩:∃ x,keys[k]=x:=⟨_,rfl⟩
   have hlt2:k<kt.length:=by have:=HLK.out;omega
   obtain ⟨mi,hmi⟩:∃ x,kt[k]=x:=⟨_,rfl⟩
   have hir:=HI.out _ (List.mem_cons_of_mem _ (List.getElem_mem hlt2))
   rw [hmi] at hir
   obtain ⟨mk,rfl⟩:∃ mk:Nat,mi=(mk:Int):=⟨mi.toNat,by omega⟩
   have hmk:mk<4294967296:=by omega
   have hck:=HC.out _ (List.getElem_mem hlt)
   rw [hx] at hck
   obtain ⟨ck1,ck2⟩:=hck
   have e1:Ky.ziw (keys.drop k) (kt.drop k)=Ky.txt key++(Ky.p4 (mk:Int)++Ky.ziw (keys.drop (k+1)) (kt.drop (k+1))):=by rw [Ky.z5y hlt hlt2,hx,hmi]
   have HT1:Hid (keys.take (k+1)=keys.take k++[key]):=L_ (by rw [List.take_succ_eq_append_getElem hlt,hx])
   have HT2:Hid ((m0:Int)::kt.take (k+1)=((m0:Int)::kt.take k)++[(mk:Int)]):=L_ (by rw [List.take_succ_eq_append_getElem hlt2,hmi];rfl)
   have hr2:=HB.out (k+1)
   obtain ⟨rest,hrest⟩:∃ rest,Ky.ziw (keys.drop (k+1)) (kt.drop (k+1))=rest:=⟨_,rfl⟩
   rw [hrest] at hr2 e1
   have HRE:=L_ hrest
   rw [e1] at Hk hq ⊢
   have HM:Hid (rest.size<(Ky.txt key++(Ky.p4 (mk:Int)++rest)).size):=L_ (by simp only [ByteArray.size_append,Ky.zee];omega)
   have hq2:(Ky.txt key++(Ky.p4 (mk:Int)++rest)).size≤1000000:=by omega
   have hpos:(0:Int)<((Ky.txt key++(Ky.p4 (mk:Int)++rest)).size:Int):=by simp only [ByteArray.size_append,Ky.zee];omega
   have s2:(Ky.p4 (mk:Int)++rest).size≤100000:=by rw [ByteArray.size_append,Ky.zb6];omega
   have LK:Hid ((keys.take k).length≤1000000):=L_ (by rw [List.length_take];omega)
   have LM:Hid (((m0:Int)::kt.take k).length≤1000000):=L_ (by rw [List.length_cons,List.length_take];omega)
   have HLT:=L_ hlt
   clear hx hmi hir hrest e1 hlt hlt2 K6
   obtain ⟨q0,q1,q2,q3⟩:=nd4 Hk.right.right.right
   obtain ⟨s0,hs0⟩:∃ s0,Ky.txt key++(Ky.p4 (mk:Int)++rest)=s0:=⟨_,rfl⟩
   have HS0:=L_ hs0
   rw [hs0] at Hk hq hq2 hpos HM ⊢
   clear hs0
   go_upto_region 11 with (first
    | (go_at_call 166;with_reducible refine zly Hk hq2 ?_)
    | (go_at_call 167;with_reducible refine zrf Hk ?_))
   have Hd:=Hk.drew
   obtain ⟨d0,d1,d2,d3⟩:=nd4 Hd.right.right.right
   go_region_law (first
    | (refine zcn Tryz.zoo zbu rfl (.tmp 36) (.tmp 39) rfl rfl H2r LK.out key rfl rfl ?_;intro v3 w3 H3 I3;obtain ⟨a6,n6,c6,rfl⟩:=zaf H3;obtain ⟨t0,t1,t2,t3⟩:=nd4 H3.right.right.right;obtain ⟨f0,f1,f2,f3⟩:=zd7 H3.right.right.right)
    | (go_simp;go_at_call 168;refine zl9 key (Ky.p4 (mk:Int)++rest) (by omega) s2 (Hd.of_eq (by rw [←HS0.out])) ?_;intro w2 H2 I2;obtain ⟨u0,u1,u2,u3⟩:=nd4 H2.right.right.right;obtain ⟨e0,e1,e2,e3⟩:=nd4 (H2.new (.cells #[.string key] 9)).right.right.right.right;have H2r:=H2.of_eq (show _=zbj (.slice a5 n5 c5) (keys.take k)*(zeb p ⟨Ky.p4 (mk:Int)++rest,0⟩*(za1 (.slice a3 n3 c3) ((m0:Int)::kt.take k)*(pts (b+1) (.cells #[.bool false,.slice none 0 0,.slice a3 n3 c3,.slice a5 n5 c5] 151 (0,0))*(pts b (.cells #[.bool false,.slice none 0 0,.slice none 0 0,.slice none 0 0] 151 (0,0))*F)))) from by ac_rfl);go_simp))
   all_goals
    have K3:=(H3.of_eq (show _=pts (b+1) (.cells #[.bool false,.slice none 0 0,.slice a3 n3 c3,.slice a5 n5 c5] 151 (0,0))*(zeb p ⟨Ky.p4 (mk:Int)++rest,0⟩*(za1 (.slice a3 n3 c3) ((m0:Int)::kt.take k)*(zbj (.slice a6 n6 c6) (keys.take k++[key])*(pts b (.cells #[.bool false,.slice none 0 0,.slice none 0 0,.slice none 0 0] 151 (0,0))*F)))) from by unfold zbj za1;ac_rfl)).cell 3 (.slice a6 n6 c6)
    simp only [List.setIfInBounds_toArray,List.set_cons_succ,List.set_cons_zero] at K3
    have J3:=((Ik.drew.trans I2).trans I3).setCell ⟨b+1,3,none⟩ (.slice a6 n6 c6)
    clear q0 q1 q2 q3 d0 d1 d2 d3 u0 u1 u2 u3 e0 e1 e2 e3 t0 t1 t2 t3 f0 f1 f2 f3 H2 H2r H3 I2 I3 Hk Hd Ik J5
    generalize w3.setCell ⟨b+1,3,none⟩ (.slice a6 n6 c6)=w6 at *
    obtain ⟨q0,q1,q2,q3⟩:=nd4 K3
    have Kd:=K3.drew
    obtain ⟨d0,d1,d2,d3⟩:=nd4 Kd
    go_upto_region 12 with fail
    go_region_law (first
     | (refine zcn Tryz.zqi zba rfl (.tmp 43) (.tmp 46) rfl rfl H7r LM.out (mk:Int) rfl rfl ?_;intro v8 w8 H8 I8;obtain ⟨a9,n9,c9,rfl⟩:=zaf H8;obtain ⟨t0,t1,t2,t3⟩:=nd4 H8.right.right;obtain ⟨f0,f1,f2,f3⟩:=zd7 H8.right.right)
     | (go_simp;go_at_call 111;refine zmd mk rest hmk (by omega) (Kd.of_eq (show _=zeb p ⟨Ky.p4 (mk:Int)++rest,0⟩*(pts (b+1) (.cells #[.bool false,.slice none 0 0,.slice a3 n3 c3,.slice a6 n6 c6] 151 (0,0))*(za1 (.slice a3 n3 c3) ((m0:Int)::kt.take k)*(zbj (.slice a6 n6 c6) (keys.take k++[key])*(pts b (.cells #[.bool false,.slice none 0 0,.slice none 0 0,.slice none 0 0] 151 (0,0))*F)))) from by ac_rfl)) ?_;intro w7 H7 I7;obtain ⟨u0,u1,u2,u3⟩:=nd4 H7.right;obtain ⟨e0,e1,e2,e3⟩:=nd4 (H7.new (.cells #[.int .i64 (mk:Int)] 3)).right.right;have H7r:=H7.of_eq (show _=za1 (.slice a3 n3 c3) ((m0:Int)::kt.take k)*(zeb p ⟨rest,0⟩*(pts (b+1) (.cells #[.bool false,.slice none 0 0,.slice a3 n3 c3,.slice a6 n6 c6] 151 (0,0))*(zbj (.slice a6 n6 c6) (keys.take k++[key])*(pts b (.cells #[.bool false,.slice none 0 0,.slice none 0 0,.slice none 0 0] 151 (0,0))*F)))) from by ac_rfl);go_simp))
    all_goals
     have K8:=(H8.of_eq (show _=pts (b+1) (.cells #[.bool false,.slice none 0 0,.slice a3 n3 c3,.slice a6 n6 c6] 151 (0,0))*(zeb p ⟨rest,0⟩*(za1 (.slice a9 n9 c9) (((m0:Int)::kt.take k)++[(mk:Int)])*(zbj (.slice a6 n6 c6) (keys.take k++[key])*(pts b (.cells #[.bool false,.slice none 0 0,.slice none 0 0,.slice none 0 0] 151 (0,0))*F)))) from by unfold za1;ac_rfl)).cell 2 (.slice a9 n9 c9)
     simp only [List.setIfInBounds_toArray,List.set_cons_succ,List.set_cons_zero] at K8
     have J8:=((J3.drew.trans I7).trans I8).setCell ⟨b+1,2,none⟩ (.slice a9 n9 c9)
     clear q0 q1 q2 q3 d0 d1 d2 d3 u0 u1 u2 u3 e0 e1 e2 e3 t0 t1 t2 t3 f0 f1 f2 f3 H7 H7r H8 I7 I8 Kd K3 J3
     generalize w8.setCell ⟨b+1,2,none⟩ (.slice a9 n9 c9)=w9 at *
     have K9:Sat (zeb p ⟨rest,0⟩*(za1 (.slice a9 n9 c9) (((m0:Int)::kt.take k)++[(mk:Int)])*(zbj (.slice a6 n6 c6) (keys.take k++[key])*(pts (b+1) (.cells #[.bool false,.slice none 0 0,.slice a9 n9 c9,.slice a6 n6 c6] 151 (0,0))*(pts b (.cells #[.bool false,.slice none 0 0,.slice none 0 0,.slice none 0 0] 151 (0,0))*F))))) w9:=K8.of_eq (by ac_rfl)
     go_roundw
     case rel=>exact ⟨_,_,_,_,_,_,_,_,_,_,_,_,_,_,_,_,_,_,_,_,_,_,⟨k+1,_,_,by have:=HLT.out;omega,by rw [HRE.out,HT1.out,HT2.out];exact K9,J8⟩,rfl⟩
     case measure=>rw [zs8 K9];exact HM.out
  ·obtain rfl:k=keys.length:=by omega
   have e1:Ky.ziw (keys.drop keys.length) (kt.drop keys.length)=⟨#[]⟩:=by rw [←HLK.out,List.drop_length,HLK.out,List.drop_length];rfl
   have e2:kt.take keys.length=kt:=by rw [←HLK.out,List.take_length]
   rw [e1,e2,List.take_length] at Hk
   have EF:Hid ((⟨⟨#[]⟩,0⟩:Rd).fin=0):=L_ (by unfold Rd.fin;exact if_pos rfl)
   have hz:((⟨#[]⟩:ByteArray).size:Int)=0:=rfl
   have hz2:(⟨#[]⟩:ByteArray).size≤1000000:=Nat.zero_le _
   have RN:=L_ (Reads.zau (za3 Hk.right.left) (by rw [List.length_cons];have:=HLK.out;omega))
   have SN:=L_ (za2 Hk.right)
   have RX:=L_ (Reads.zau (za3 Hk.right.right.left) (by omega))
   have SX:=L_ (za2 Hk.right.right)
   have NV:Hid (NdV (zeb p ⟨⟨#[]⟩,0⟩*(za1 (.slice a3 n3 c3) ((m0:Int)::kt)*(zbj (.slice a5 n5 c5) keys*(pts (b+1) (.cells #[.bool false,.slice none 0 0,.slice a3 n3 c3,.slice a5 n5 c5] 151 (0,0))*(pts b (.cells #[.bool false,.slice none 0 0,.slice none 0 0,.slice none 0 0] 151 (0,0))*F))))) (.agg #[.bool false,.slice none 0 0,.slice a3 n3 c3,.slice a5 n5 c5]) (Ky.inn ((m0:Int)::kt) keys)) :=
    L_ ⟨_,_,_,rfl,⟨zas _ none 0,z0e⟩,⟨RN.out.imp (fun _ hw=>za3 hw.right.left),SN.out⟩,RX.out.imp (fun _ hw=>za3 hw.right.right.left),SX.out⟩
   have hle:Hid ((((m0:Int)::kt).length≤5000)):=L_ (by rw [List.length_cons];have:=HLK.out;omega)
   clear e1 e2 hq K6
   obtain ⟨q0,q1,q2,q3⟩:=nd4 Hk.right.right.right
   go_wp2_with (first
    | (go_at_call 166;with_reducible refine zly Hk hz2 ?_)
    | (go_at_call 167;with_reducible refine zrf Hk ?_)
    | (go_at_call 112;with_reducible refine zxg Hk ?_;intro w4 H4 I4;rw [EF.out];obtain ⟨u0,u1,u2,u3⟩:=nd4 H4.right.right.right)
    | (go_at_call 155;refine zf7 (.inner HR.out) NV.out ⟨Nat.zero_le _,hle.out⟩ H4 HD ?_;intro w5 H5 I5;obtain ⟨t0,t1,t2,t3⟩:=nd4 H5.right.right.right;obtain ⟨g0,g1,g2,g3'⟩:=nd4 H5.right.right.right.right;obtain ⟨f0,f1,f2,f3⟩:=zd7 H5.right.right.right.right))
   have K5':=(H5.of_eq (show _=pts b (.cells #[.bool false,.slice none 0 0,.slice none 0 0,.slice none 0 0] 151 (0,0))*((za1 (.slice a3 n3 c3) ((m0:Int)::kt)*(zbj (.slice a5 n5 c5) keys*F))*(zeb p ⟨⟨#[]⟩,0⟩*pts (b+1) (.cells #[.bool false,.slice none 0 0,.slice a3 n3 c3,.slice a5 n5 c5] 151 (0,0)))) from by ac_rfl)).cells4 (x':=.bool false) (y':=.slice none 0 0) (z':=.slice a3 n3 c3) (u':=.slice a5 n5 c5)
   have J5':=(((((Ik.trans I4).trans I5).setCell ⟨b,0,none⟩ (.bool false)).setCell ⟨b,1,none⟩ (.slice none 0 0)).setCell ⟨b,2,none⟩ (.slice a3 n3 c3)).setCell ⟨b,3,none⟩ (.slice a5 n5 c5)
   generalize ((((w5.setCell ⟨b,0,none⟩ (.bool false)).setCell ⟨b,1,none⟩ (.slice none 0 0)).setCell ⟨b,2,none⟩ (.slice a3 n3 c3)).setCell ⟨b,3,none⟩ (.slice a5 n5 c5))=W at *
   clear q0 q1 q2 q3 u0 u1 u2 u3 t0 t1 t2 t3 g0 g1 g2 g3' f0 f1 f2 f3
   obtain ⟨y0,y1,y2,y3⟩:=nd4 K5'
   exact bodyPost_ret (v:=.tuple #[.agg #[.bool false,.slice none 0 0,.slice a3 n3 c3,.slice a5 n5 c5],.int .i64 0]) (by simp [results,Tryz.results134,go_sem,y0,y1,y2,y3]) rfl
    (HH.out (za1 (.slice a3 n3 c3) ((m0:Int)::kt)*zbj (.slice a5 n5 c5) keys) _ _ ⟨_,_,_,rfl,⟨zas _ none 0,z0e⟩,⟨RN.out.imp (fun _ hw=>za3 hw.left),SN.out⟩,RX.out.imp (fun _ hw=>za3 hw.right),SX.out⟩ (K5'.right.left.of_eq (zdn _ _ _).symm) J5')
theorem zmm {n:Ky.Nd} (hr:Ky.NdR n) (hz:Ky.zbf n≤240) {s:ByteArray} (hs:s=Ky.zg9 n) {kd:Int} (hk:kd=Ky.kind n) (H:Sat F w) (h:∀ G v w',NdV G v n→Sat (G*F) w'→Io w w'→R (.returned (.tuple #[v,.int .i64 0])) w') :
  Calls Tryz.prog 134 #[.int .u8 kd,.string s] w R:=by
 subst hs hk
 cases hr with
 | @leaf es hr=>exact ztk hr hz H h
 | @inner kids keys hr =>
  have hlen:=hr.len
  cases kids with
  | nil=>simp at hlen
  | cons c m=>exact zqw hr hz H h
end
theorem five {A B C D E:Prop} (h:A∧B∧C∧D) (e:E):A∧B∧C∧D∧E:=⟨h.1,h.2.1,h.2.2.1,h.2.2.2,e⟩
theorem zkb {W:World} {b b' o:Nat} {x y z u v:Value} {ob:Obj} (h:W.cell? ⟨b,0,none⟩=some x∧W.cell? ⟨b,1,none⟩=some y∧W.cell? ⟨b,2,none⟩=some z∧W.cell? ⟨b,3,none⟩=some u∧W.cell? ⟨b',o,none⟩=some v) :
  (W.alloc ob).cell? ⟨b,0,none⟩=some x∧(W.alloc ob).cell? ⟨b,1,none⟩=some y∧(W.alloc ob).cell? ⟨b,2,none⟩=some z∧(W.alloc ob).cell? ⟨b,3,none⟩=some u∧(W.alloc ob).cell? ⟨b',o,none⟩=some v:=by
 obtain ⟨h0,h1,h2,h3,h4⟩:=h
 simp [h0,h1,h2,h3,h4,World.cell?_alloc_some]
theorem five_d {W:World} {b b' o:Nat} {x y z u v:Value} {ob:Obj} (h:W.drew.cell? ⟨b,0,none⟩=some x∧W.drew.cell? ⟨b,1,none⟩=some y∧W.drew.cell? ⟨b,2,none⟩=some z∧W.drew.cell? ⟨b,3,none⟩=some u∧W.drew.cell? ⟨b',o,none⟩=some v) :
  (W.alloc ob).drew.cell? ⟨b,0,none⟩=some x∧(W.alloc ob).drew.cell? ⟨b,1,none⟩=some y∧(W.alloc ob).drew.cell? ⟨b,2,none⟩=some z∧(W.alloc ob).drew.cell? ⟨b,3,none⟩=some u∧(W.alloc ob).drew.cell? ⟨b',o,none⟩=some v:=zkb (W:=W.drew) h
theorem zra {W:World} {b b' o:Nat} {x y z u v p q r s:Value} (hb:b'<b) (h:W.cell? ⟨b,0,none⟩=some x∧W.cell? ⟨b,1,none⟩=some y∧W.cell? ⟨b,2,none⟩=some z∧W.cell? ⟨b,3,none⟩=some u∧W.cell? ⟨b',o,none⟩=some v) :
  ((((W.setCell ⟨b+1,0,none⟩ p).setCell ⟨b+1,1,none⟩ q).setCell ⟨b+1,2,none⟩ r).setCell ⟨b+1,3,none⟩ s).cell? ⟨b,0,none⟩=some x∧((((W.setCell ⟨b+1,0,none⟩ p).setCell ⟨b+1,1,none⟩ q).setCell ⟨b+1,2,none⟩ r).setCell ⟨b+1,3,none⟩ s).cell? ⟨b,1,none⟩=some y∧((((W.setCell ⟨b+1,0,none⟩ p).setCell ⟨b+1,1,none⟩ q).setCell ⟨b+1,2,none⟩ r).setCell ⟨b+1,3,none⟩ s).cell? ⟨b,2,none⟩=some z∧((((W.setCell ⟨b+1,0,none⟩ p).setCell ⟨b+1,1,none⟩ q).setCell ⟨b+1,2,none⟩ r).setCell ⟨b+1,3,none⟩ s).cell? ⟨b,3,none⟩=some u∧((((W.setCell ⟨b+1,0,none⟩ p).setCell ⟨b+1,1,none⟩ q).setCell ⟨b+1,2,none⟩ r).setCell ⟨b+1,3,none⟩ s).cell? ⟨b',o,none⟩=some v:=by
 obtain ⟨h0,h1,h2,h3,h4⟩:=h
 have e:b+1≠b':=by omega
 simp [h0,h1,h2,h3,h4,e,World.cell?_setCell_far]
theorem z5w {W:World} {b b' o:Nat} {x y z u v p q r s:Value} (hb:b'<b) (h:W.cell? ⟨b,0,none⟩=some x∧W.cell? ⟨b,1,none⟩=some y∧W.cell? ⟨b,2,none⟩=some z∧W.cell? ⟨b,3,none⟩=some u∧W.cell? ⟨b',o,none⟩=some v) :
  ((((W.setCell ⟨b+2,0,none⟩ p).setCell ⟨b+2,1,none⟩ q).setCell ⟨b+2,2,none⟩ r).setCell ⟨b+2,3,none⟩ s).cell? ⟨b,0,none⟩=some x∧((((W.setCell ⟨b+2,0,none⟩ p).setCell ⟨b+2,1,none⟩ q).setCell ⟨b+2,2,none⟩ r).setCell ⟨b+2,3,none⟩ s).cell? ⟨b,1,none⟩=some y∧((((W.setCell ⟨b+2,0,none⟩ p).setCell ⟨b+2,1,none⟩ q).setCell ⟨b+2,2,none⟩ r).setCell ⟨b+2,3,none⟩ s).cell? ⟨b,2,none⟩=some z∧((((W.setCell ⟨b+2,0,none⟩ p).setCell ⟨b+2,1,none⟩ q).setCell ⟨b+2,2,none⟩ r).setCell ⟨b+2,3,none⟩ s).cell? ⟨b,3,none⟩=some u∧((((W.setCell ⟨b+2,0,none⟩ p).setCell ⟨b+2,1,none⟩ q).setCell ⟨b+2,2,none⟩ r).setCell ⟨b+2,3,none⟩ s).cell? ⟨b',o,none⟩=some v:=by
 obtain ⟨h0,h1,h2,h3,h4⟩:=h
 have e:b+2≠b':=by omega
 simp [h0,h1,h2,h3,h4,e,World.cell?_setCell_far]
theorem Sat.sw3 {Q X P S:Asn} {w:World} (h:Sat (Q*(X*(P*S))) w):Sat (P*(Q*(X*S))) w:=h.of_eq (by ac_rfl)
theorem ze7:z1j (.slice none 0 0) 0:=.inl ⟨rfl,rfl⟩
section
variable {F:Asn} {w:World} {R:Ending→World→Prop}
theorem zoy {es:List Ky.En} {v:Value} (hr:Ky.Right es) (h2:2≤es.length) (hl:es.length≤5000) (hv:NdV F v (Ky.lf es)) (H:Sat F w)
  (h:∀ k key val G v1 v2 w',Ky.zp2 es k→es[k]?=some (key,val)→NdV G v1 (Ky.lf (es.take k))→NdV G v2 (Ky.lf (es.drop k))→Sat (G*F) w'→Io w w'→R (.returned (.tuple #[v1,.string key,v2])) w') :
  Calls Tryz.prog 116 #[v] w R:=by
 have HVV:=L_ hv
 obtain ⟨se,sk,sx,rfl,hh⟩:=hv
 dsimp only [Ky.lf] at hh
 obtain ⟨⟨h1,s1⟩,-,-⟩:=hh
 obtain ⟨b1,o1,c1,rfl,hc1,hc2⟩:∃ b off c,se=.slice (some ⟨b,off,none⟩) es.length c∧es.length≤c∧c≤maxLen:=by
  rcases s1 with ⟨_,h0⟩ | h
  ·omega
  ·exact h
 unfold maxLen at hc2
 have HH:=L_ h
 have P1:=L_ h1
 have HR:=L_ hr
 have HG:=L_ (fun k hk=>zc6 h1 k hk)
 obtain ⟨n1,hn1⟩:∃ n,n=es.length:=⟨_,rfl⟩
 have HN:=L_ hn1
 have L1:Hid (es.length≤5000):=L_ hl
 have i1:(2:Int)≤(n1:Int):=by omega
 have i1n:¬ (n1:Int)<2:=by omega
 have i2:(n1:Int)≤(c1:Int):=by omega
 have h2':=L_ h2
 have HF0:=H
 rw [←hn1] at P1 HVV ⊢
 change Calls Tryz.prog 116 #[.agg #[.bool true,.slice (some ⟨b1,o1,none⟩) n1 c1,sk,sx]] w R
 have I:=(((Io.refl w).alloc (.cells #[.bool true,.slice (some ⟨b1,o1,none⟩) n1 c1,sk,sx] 151)).alloc (.cells #[.bool false,.slice none 0 0,.slice none 0 0,.slice none 0 0] 151)).alloc (.cells #[.bool false,.slice none 0 0,.slice none 0 0,.slice none 0 0] 151)
 have H:=(((H.new (.cells #[.bool true,.slice (some ⟨b1,o1,none⟩) n1 c1,sk,sx] 151)).new (.cells #[.bool false,.slice none 0 0,.slice none 0 0,.slice none 0 0] 151)).new (.cells #[.bool false,.slice none 0 0,.slice none 0 0,.slice none 0 0] 151)).ze8
 simp only [heap_alloc,Nat.add_assoc,Nat.reduceAdd] at H
 clear h h1 s1 hr hl hn1 h2 hc1 hc2
 go_enter Tryz.func116,Tryz.ntmps116
 go_upto_region 1 with fail
 generalize (((w.alloc _).alloc _).alloc _)=w1 at *
 have hbb:b1<w.heap.size:=by
  obtain ⟨b',off',k0,v0,e,_,hc⟩:=HG.out 0 (by have:=h2'.out;omega)
  cases e
  exact World.block_lt_of_cell? w _ (hc w HF0).1
 generalize hb:w.heap.size=b at *
 simp only [Nat.add_assoc,Nat.reduceAdd]
 obtain ⟨q0,q1,q2,q3⟩:=nd4 H.right.right.right
 go_upto_region 5 with (first
  | (go_at_call 144;refine zdr (.leaf HR.out) (HVV.out.imp (fun _ hw=>hw.right.right.right.right)) ⟨L1.out,Nat.zero_le _⟩ H ?_;intro w2 H2 I2;obtain ⟨q0,q1,q2,q3⟩:=nd4 H2.right.right.right)
  | (go_at_call 146;refine xbi HR.out (P1.out.imp (fun _ hw=>hw.right.right.right.right)) L1.out h2'.out H2 ?_;intro k w3 hk H3 I3;have HK:=L_ hk))
 have hk:=HK.out
 obtain ⟨⟨key, val⟩, hkv⟩ : ∃ x, es[k]'hk.high = x := ⟨_, rfl⟩
 obtain ⟨b',off',k0,v0,e,hx,hc⟩:=HG.out k hk.high
 cases e
 rw [hkv] at hx
 cases hx
 have HX:=L_ (fun w hw=>(hc w hw).1)
 have HE:Hid (es[k]?=some (key,val)):=L_ (by rw [List.getElem?_eq_getElem hk.high,hkv])
 have hk1:=hk.low
 have hk2:=hk.high
 rw [←HN.out] at hk2
 have m0:(0:Int)≤(k:Int):=by omega
 have m1:(k:Int)≤(n1:Int):=by omega
 have m2:(k:Int)≤(c1:Int):=by omega
 have m3:(k:Int)<(n1:Int):=by omega
 have m4:¬ c1=k:=by omega
 have R1:Hid (zbi F (.slice (some ⟨b1,o1,none⟩) k c1) (es.take k)):=L_ (zbw zbk P1.out k (by have:=HN.out;omega))
 have R2:Hid (zbi F (.slice (some ⟨b1,o1+k*2,none⟩) (n1 - k) (c1 - k)) (es.drop k)):=L_ (by
  have h:=za6 zbk P1.out k (by have:=HN.out;omega) (by omega)
  rw [if_neg m4] at h
  exact h)
 have Q1:Hid ((es.take k).length≤10000):=L_ (by have:=L1.out;rw [List.length_take];omega)
 have Q2:Hid ((es.drop k).length≤10000):=L_ (by have:=L1.out;rw [List.length_drop];omega)
 have J:=((I.trans I2).trans I3).drew
 have Zu:=five (nd4 H3.right.right.right) (HX.out _ H3.right.right.right.right)
 have G:=H3.drew
 clear H I I2 I3 H2 H3 hk hk1 hk2 hc hkv q0 q1 q2 q3 HG
 have H:=G
 have I:=J
 clear G J
 have Z:=five (nd4 H.right.right.right) (HX.out _ H.right.right.right.right)
 have Y2:=nd4 H.right
 have Yf2:=zd7 H.right
 have Y:=nd4 H.right.right
 have Yf:=zd7 H.right.right
 go_region_held3 (fun W=>W.cell? ⟨b,0,none⟩=some (.bool true)∧W.cell? ⟨b,1,none⟩=some (.slice (some ⟨b1,o1,none⟩) n1 c1)∧W.cell? ⟨b,2,none⟩=some (sk)∧W.cell? ⟨b,3,none⟩=some (sx)∧W.cell? ⟨b1,o1+k*2,none⟩=some (.string key)) ((with_reducible (first | exact Z | (refine five_d ?_;assumption) | (refine zkb ?_;assumption) | (refine zra hbb ?_;assumption) | (refine z5w hbb ?_;assumption)))) ((first
  | (go_at_call 147;(with_reducible (first | refine zaj H I (fun HS IS=>?_) | refine zaj (H.n1 _) (I.alloc _) (fun HS IS=>?_) | refine zaj ((H.n1 _).n1 _) ((I.alloc _).alloc _) (fun HS IS=>?_) | refine zaj (((H.n1 _).n1 _).n1 _) (((I.alloc _).alloc _).alloc _) (fun HS IS=>?_) | refine zaj ((((H.n1 _).n1 _).n1 _).n1 _) ((((I.alloc _).alloc _).alloc _).alloc _) (fun HS IS=>?_)));(try simp only [heap_alloc,Nat.add_assoc,Nat.reduceAdd] at HS);(with_reducible (first | refine za0 (R1.out.imp (fun _ hw=>hw.right.right.right.right)) Q1.out HS.p1 ?_ | refine za0 (R1.out.imp (fun _ hw=>hw.right.right.right.right)) Q1.out HS.p2 ?_ | refine za0 (R1.out.imp (fun _ hw=>hw.right.right.right.right)) Q1.out HS.p3 ?_ | refine za0 (R1.out.imp (fun _ hw=>hw.right.right.right.right)) Q1.out HS.p4 ?_ | refine za0 (R1.out.imp (fun _ hw=>hw.right.right.right.right)) Q1.out HS.p5 ?_ | refine za0 (R1.out.imp (fun _ hw=>hw.right.right.right.right)) Q1.out HS.p6 ?_ | refine za0 (R1.out.imp (fun _ hw=>hw.right.right.right.right)) Q1.out HS.p7 ?_ | refine za0 (R1.out.imp (fun _ hw=>hw.right.right.right.right)) Q1.out HS.p8 ?_));clear H I Z Y Yf Y2 Yf2;(try clear Zu);intro vA wA H5 I5;obtain ⟨aA,mA,cA,rfl⟩:=zaf H5;have RA:=L_ (Reads.zau (za3 H5.left) (by have:=Q1.out;omega));have SA:=L_ (za2 H5);have H:=H5.push;have I:=IS.trans I5;clear H5 I5 HS IS;have Z:=five (nd4 H.right.right.right) (HX.out _ H.right.right.right.right);have Y2:=nd4 H.right;have Yf2:=zd7 H.right;have Y:=nd4 H.right.right;have Yf:=zd7 H.right.right)
  | (go_at_call 147;(with_reducible (first | refine zaj H I (fun HS IS=>?_) | refine zaj (H.n1 _) (I.alloc _) (fun HS IS=>?_) | refine zaj ((H.n1 _).n1 _) ((I.alloc _).alloc _) (fun HS IS=>?_) | refine zaj (((H.n1 _).n1 _).n1 _) (((I.alloc _).alloc _).alloc _) (fun HS IS=>?_) | refine zaj ((((H.n1 _).n1 _).n1 _).n1 _) ((((I.alloc _).alloc _).alloc _).alloc _) (fun HS IS=>?_)));(try simp only [heap_alloc,Nat.add_assoc,Nat.reduceAdd] at HS);(with_reducible (first | refine za0 (R2.out.imp (fun _ hw=>hw.right.right.right.right)) Q2.out HS.p1 ?_ | refine za0 (R2.out.imp (fun _ hw=>hw.right.right.right.right)) Q2.out HS.p2 ?_ | refine za0 (R2.out.imp (fun _ hw=>hw.right.right.right.right)) Q2.out HS.p3 ?_ | refine za0 (R2.out.imp (fun _ hw=>hw.right.right.right.right)) Q2.out HS.p4 ?_ | refine za0 (R2.out.imp (fun _ hw=>hw.right.right.right.right)) Q2.out HS.p5 ?_ | refine za0 (R2.out.imp (fun _ hw=>hw.right.right.right.right)) Q2.out HS.p6 ?_ | refine za0 (R2.out.imp (fun _ hw=>hw.right.right.right.right)) Q2.out HS.p7 ?_ | refine za0 (R2.out.imp (fun _ hw=>hw.right.right.right.right)) Q2.out HS.p8 ?_));clear H I Z Y Yf Y2 Yf2;(try clear Zu);intro vB wB H5 I5;obtain ⟨aB,mB,cB,rfl⟩:=zaf H5;have RB:=L_ (Reads.zau (za3 H5.left) (by have:=Q2.out;omega));have SB:=L_ (za2 H5);have H:=H5.push;have I:=IS.trans I5;clear H5 I5 HS IS;have Z:=five (nd4 H.right.right.right) (HX.out _ H.right.right.right.right);have Y2:=nd4 H.right;have Yf2:=zd7 H.right;have Y:=nd4 H.right.right;have Yf:=zd7 H.right.right)))
 all_goals (
  have K:=(H.sw2).cells4 (x':=.bool true) (y':=.slice aA mA cA) (z':=.slice none 0 0) (u':=.slice none 0 0)
  have K:=(K.sw3).cells4 (x':=.bool true) (y':=.slice aB mB cB) (z':=.slice none 0 0) (u':=.slice none 0 0)
  have J:=(((((((I.setCell ⟨b+1,0,none⟩ (.bool true)).setCell ⟨b+1,1,none⟩ (.slice aA mA cA)).setCell ⟨b+1,2,none⟩ (.slice none 0 0)).setCell ⟨b+1,3,none⟩ (.slice none 0 0)).setCell ⟨b+2,0,none⟩ (.bool true)).setCell ⟨b+2,1,none⟩ (.slice aB mB cB)).setCell ⟨b+2,2,none⟩ (.slice none 0 0)).setCell ⟨b+2,3,none⟩ (.slice none 0 0)
  go_wp2_with fail
  generalize ((((((((wB.setCell ⟨b+1,0,none⟩ (.bool true)).setCell ⟨b+1,1,none⟩ (.slice aA mA cA)).setCell ⟨b+1,2,none⟩ (.slice none 0 0)).setCell ⟨b+1,3,none⟩ (.slice none 0 0)).setCell ⟨b+2,0,none⟩ (.bool true)).setCell ⟨b+2,1,none⟩ (.slice aB mB cB)).setCell ⟨b+2,2,none⟩ (.slice none 0 0)).setCell ⟨b+2,3,none⟩ (.slice none 0 0))=W at *
  clear Z Y Yf Y2 Yf2
  obtain ⟨y0,y1,y2,y3⟩:=nd4 K
  obtain ⟨z0,z1,z2,z3⟩:=nd4 K.right
  exact bodyPost_ret (v:=.tuple #[.agg #[.bool true,.slice aA mA cA,.slice none 0 0,.slice none 0 0],.string key,.agg #[.bool true,.slice aB mB cB,.slice none 0 0,.slice none 0 0]]) (by simp [results,Tryz.results116,go_sem,y0,y1,y2,y3,z0,z1,z2,z3]) rfl (HH.out k key val _ _ _ _ HK.out HE.out ⟨_,_,_,rfl,⟨RA.out.imp (fun _ hw=>za3 hw.right.left),SA.out⟩,⟨zas _ none 0,ze7⟩,zas _ none 0,ze7⟩ ⟨_,_,_,rfl,⟨RB.out.imp (fun _ hw=>za3 hw.left),SB.out⟩,⟨zas _ none 0,ze7⟩,zas _ none 0,ze7⟩ K.right.right.drop1 J))
end
section
variable {F:Asn} {w:World} {R:Ending→World→Prop}
theorem xeg {K k':List Int} {B y':List Ky.Nm} {f t:Nat} {v kv yv:Value} (hlen:K.length=B.length+1) (hl:K.length≤4000) (hft:f<t) (htl:t≤K.length) (hk:zbd F kv k') (hy:zbe F yv y') (hky:0<k'.length∧y'.length=k'.length - 1) (hkl:k'.length≤1000) (hyl:y'.length≤1000) (hv:NdV F v (Ky.inn K B)) (H:Sat F w)
  (h:∀ G v' w',NdV G v' (Ky.inn (K.take f++k'++K.drop t) (B.take (f)++y'++B.drop (t - 1)))→Sat (G*F) w'→Io w w'→R (.returned v') w') :
  Calls Tryz.prog 119 #[v,.int .i64 (f:Int),.int .i64 (t:Int),kv,yv] w R:=by
 obtain ⟨se,sk,sx,rfl,hh⟩:=hv
 dsimp only [Ky.inn] at hh
 obtain ⟨⟨h1,s1⟩,⟨h3,s3⟩,h5,s5⟩:=hh
 obtain ⟨a1,c1,rfl,-⟩:=zab h1
 obtain ⟨b3,o3,c3,rfl,hc3,hc4⟩:∃ b off c,sk=.slice (some ⟨b,off,none⟩) K.length c∧K.length≤c∧c≤maxLen:=by
  rcases s3 with ⟨_,h0⟩ | h
  ·omega
  ·exact h
 rcases s5 with ⟨rfl,h0⟩ | ⟨b5,o5,c5,rfl,hc5,hc6⟩
 ·skip
  obtain ⟨ka,kc,rfl,-⟩:=zab hk
  obtain ⟨ya,yc,rfl,-⟩:=zab hy
  unfold maxLen at hc4
  have HH:=L_ h
  obtain ⟨n3,hn3⟩:∃ n,n=K.length:=⟨_,rfl⟩
  obtain ⟨n5,hn5⟩:∃ n,n=B.length:=⟨_,rfl⟩
  obtain ⟨nk,hnk⟩:∃ n,n=k'.length:=⟨_,rfl⟩
  obtain ⟨ny,hny⟩:∃ n,n=y'.length:=⟨_,rfl⟩
  obtain ⟨lo,hlo⟩:∃ n,n=f:=⟨_,rfl⟩
  obtain ⟨hi,hhi⟩:∃ n,n=t - 1:=⟨_,rfl⟩
  rw [←hlo,←hhi] at HH
  have P3:=L_ h3
  have P5:=L_ h5
  have R2:=L_ hk
  have R5:=L_ hy
  have R1:Hid (zbd F (.slice (some ⟨b3,o3,none⟩) f c3) (K.take f)):=L_ (zbw zba P3.out f (by omega))
  have R3:Hid (zbd F (.slice (if c3=t then some ⟨b3,o3,none⟩ else some ⟨b3,o3+t,none⟩) (n3 - t) (c3 - t)) (K.drop t)):=L_ (by
   have h:=za6 zba P3.out t (by omega) (by omega)
   rw [Nat.mul_one,←hn3] at h
   exact h)
  obtain ⟨ad,had⟩:∃ ad:Option Addr,(if c3=t then some ⟨b3,o3,none⟩ else some ⟨b3,o3+t,none⟩)=ad:=⟨_,rfl⟩
  rw [had] at R3
  have hB:B=[]:=List.eq_nil_of_length_eq_zero h0
  have R4:Hid (zbe F (.slice none 0 0) (B.take lo)):=L_ (by rw [hB,List.take_nil];exact zas _ _ _)
  have R6:Hid (zbe F (.slice none 0 0) (B.drop hi)):=L_ (by rw [hB,List.drop_nil];exact zas _ _ _)
  have l4:True:=trivial
  have Q1:Hid ((K.take f).length≤10000):=L_ (by rw [List.length_take];omega)
  have Q2:Hid (k'.length≤10000):=L_ (by omega)
  have Q3:Hid ((K.drop t).length≤10000):=L_ (by rw [List.length_drop];omega)
  have Q4:Hid ((B.take lo).length≤10000):=L_ (by rw [List.length_take];omega)
  have Q5:Hid (y'.length≤10000):=L_ (by omega)
  have Q6:Hid ((B.drop hi).length≤10000):=L_ (by rw [List.length_drop];omega)
  have B3:Hid ((K.take f++k'++K.drop t).length≤1000000):=L_ (by simp only [List.length_append,List.length_take,List.length_drop];omega)
  have B5:Hid ((B.take lo++y'++B.drop hi).length≤1000000):=L_ (by simp only [List.length_append,List.length_take,List.length_drop];omega)
  rw [←hnk] at R2
  rw [←hny] at R5
  have i0:(0:Int)≤(f:Int):=by omega
  have i1:¬ (f:Int)<0:=by omega
  have i2:(f:Int)<(t:Int):=by omega
  have i3:¬ (t:Int)≤(f:Int):=by omega
  have i4:(t:Int)≤(n3:Int):=by omega
  have i5:¬ (n3:Int)<(t:Int):=by omega
  have i6:(f:Int)≤(n3:Int):=by omega
  have i7:(f:Int)≤(c3:Int):=by omega
  have i8:(0:Int)≤(t:Int):=by omega
  have i9:(n3:Int)≤(c3:Int):=by omega
  have i10:(t:Int)≤(c3:Int):=by omega
  have l0:(0:Int)≤(lo:Int):=by omega
  have l1:(lo:Int)≤(n5:Int):=by omega
  have l2:(0:Int)≤(hi:Int):=by omega
  have l3:(hi:Int)≤(n5:Int):=by omega
  have u1:(f:Int)≤4000:=by omega
  have u2:(t:Int)≤4000:=by omega
  have u3:(n3:Int)≤4000:=by omega
  have u4:(nk:Int)≤1000:=by omega
  have u5:(ny:Int)≤1000:=by omega
  have u6:(lo:Int)≤4000:=by omega
  have u7:(hi:Int)≤4000:=by omega
  have u8:(n5:Int)≤4000:=by omega
  have f1:(0:Int)<(nk:Int):=by omega
  have f2:¬ (nk:Int)=0:=by omega
  have f4:(0:Int)≤(ny:Int):=by omega
  have f5:(nk:Int) - 1=(ny:Int):=by omega
  have f6:max (ny:Int) 0=(ny:Int):=by omega
  have f7:(t:Int) - 1=(hi:Int):=by omega
  have z1:f=0:=by omega
  have z2:t=1:=by omega
  have z3:lo=0:=by omega
  have z4:hi=0:=by omega
  clear hlo
  rw [←hnk,←hny]
  change Calls Tryz.prog 119 #[.agg #[.bool false,.slice a1 0 c1,.slice (some ⟨b3,o3,none⟩) K.length c3,.slice none 0 0],.int .i64 (f:Int),.int .i64 (t:Int),.slice ka nk kc,.slice ya ny yc] w R
  rw [←hn3]
  have I:=(((Io.refl w).alloc (.cells #[.bool false,.slice a1 0 c1,.slice (some ⟨b3,o3,none⟩) n3 c3,.slice none 0 0] 151)).alloc (.cells #[.bool false,.slice none 0 0,.slice none 0 0,.slice none 0 0] 151))
  have H:=((H.new (.cells #[.bool false,.slice a1 0 c1,.slice (some ⟨b3,o3,none⟩) n3 c3,.slice none 0 0] 151)).new (.cells #[.bool false,.slice none 0 0,.slice none 0 0,.slice none 0 0] 151)).ze8
  simp only [heap_alloc,Nat.add_assoc,Nat.reduceAdd] at H
  clear h h1 s1 h3 s3 h5 hk hy hky hkl hyl hl hlen hc3 hc4 hft htl hn3 hn5 hnk hny hhi P3 P5
  subst z1 z2 z3 z4
  go_enter Tryz.func119,Tryz.ntmps119
  go_upto_region 1 with fail
  generalize ((w.alloc _).alloc _)=w1 at *
  generalize hb:w.heap.size=b at *
  obtain ⟨q0,q1,q2,q3⟩:=nd4 H.right.right
  go_upto_region 8 with fail
  have Zu:=nd4 H.right.right
  replace I:=I.drew
  replace H:=H.drew
  clear q0 q1 q2 q3
  have Z:=nd4 H.right.right
  have Y:=nd4 H.right
  have Yf:=zd7 H.right
  go_region_held3 (fun W=>W.cell? ⟨b,0,none⟩=some (.bool false)∧W.cell? ⟨b,1,none⟩=some (.slice a1 0 c1)∧W.cell? ⟨b,2,none⟩=some (.slice (some ⟨b3,o3,none⟩) n3 c3)∧W.cell? ⟨b,3,none⟩=some (.slice none 0 0)) ((with_reducible (first | exact Z | (refine zpi ?_;assumption) | (refine zmv ?_;assumption) | (refine zj9 ?_;assumption)))) ((first
   | (go_at_call 148;(with_reducible (first | refine zaj H I (fun HS IS=>?_) | refine zaj (H.n1 _) (I.alloc _) (fun HS IS=>?_) | refine zaj ((H.n1 _).n1 _) ((I.alloc _).alloc _) (fun HS IS=>?_) | refine zaj (((H.n1 _).n1 _).n1 _) (((I.alloc _).alloc _).alloc _) (fun HS IS=>?_) | refine zaj ((((H.n1 _).n1 _).n1 _).n1 _) ((((I.alloc _).alloc _).alloc _).alloc _) (fun HS IS=>?_)));(try simp only [heap_alloc,Nat.add_assoc,Nat.reduceAdd] at HS);(with_reducible (first | refine zal (R1.out.imp (fun _ hw=>hw.right.right.right)) Q1.out (R2.out.imp (fun _ hw=>hw.right.right.right)) Q2.out (R3.out.imp (fun _ hw=>hw.right.right.right)) Q3.out HS.p1 ?_ | refine zal (R1.out.imp (fun _ hw=>hw.right.right.right)) Q1.out (R2.out.imp (fun _ hw=>hw.right.right.right)) Q2.out (R3.out.imp (fun _ hw=>hw.right.right.right)) Q3.out HS.p2 ?_ | refine zal (R1.out.imp (fun _ hw=>hw.right.right.right)) Q1.out (R2.out.imp (fun _ hw=>hw.right.right.right)) Q2.out (R3.out.imp (fun _ hw=>hw.right.right.right)) Q3.out HS.p3 ?_ | refine zal (R1.out.imp (fun _ hw=>hw.right.right.right)) Q1.out (R2.out.imp (fun _ hw=>hw.right.right.right)) Q2.out (R3.out.imp (fun _ hw=>hw.right.right.right)) Q3.out HS.p4 ?_ | refine zal (R1.out.imp (fun _ hw=>hw.right.right.right)) Q1.out (R2.out.imp (fun _ hw=>hw.right.right.right)) Q2.out (R3.out.imp (fun _ hw=>hw.right.right.right)) Q3.out HS.p5 ?_ | refine zal (R1.out.imp (fun _ hw=>hw.right.right.right)) Q1.out (R2.out.imp (fun _ hw=>hw.right.right.right)) Q2.out (R3.out.imp (fun _ hw=>hw.right.right.right)) Q3.out HS.p6 ?_ | refine zal (R1.out.imp (fun _ hw=>hw.right.right.right)) Q1.out (R2.out.imp (fun _ hw=>hw.right.right.right)) Q2.out (R3.out.imp (fun _ hw=>hw.right.right.right)) Q3.out HS.p7 ?_ | refine zal (R1.out.imp (fun _ hw=>hw.right.right.right)) Q1.out (R2.out.imp (fun _ hw=>hw.right.right.right)) Q2.out (R3.out.imp (fun _ hw=>hw.right.right.right)) Q3.out HS.p8 ?_));clear H I Z Y Yf;(try clear Zu);intro vA wA H5 I5;obtain ⟨aA,mA,cA,rfl⟩:=zaf H5;have RA:=L_ (Reads.zau (za3 H5.left) B3.out);have SA:=L_ (za2 H5);have H:=H5.push;have I:=IS.trans I5;clear H5 I5 HS IS;have Z:=nd4 H.right.right;have Y:=nd4 H.right;have Yf:=zd7 H.right)
   | (go_at_call 149;(with_reducible (first | refine zaj H I (fun HS IS=>?_) | refine zaj (H.n1 _) (I.alloc _) (fun HS IS=>?_) | refine zaj ((H.n1 _).n1 _) ((I.alloc _).alloc _) (fun HS IS=>?_) | refine zaj (((H.n1 _).n1 _).n1 _) (((I.alloc _).alloc _).alloc _) (fun HS IS=>?_) | refine zaj ((((H.n1 _).n1 _).n1 _).n1 _) ((((I.alloc _).alloc _).alloc _).alloc _) (fun HS IS=>?_)));(try simp only [heap_alloc,Nat.add_assoc,Nat.reduceAdd] at HS);(with_reducible (first | refine zak (R4.out.imp (fun _ hw=>hw.right.right.right)) Q4.out (R5.out.imp (fun _ hw=>hw.right.right.right)) Q5.out (R6.out.imp (fun _ hw=>hw.right.right.right)) Q6.out HS.p1 ?_ | refine zak (R4.out.imp (fun _ hw=>hw.right.right.right)) Q4.out (R5.out.imp (fun _ hw=>hw.right.right.right)) Q5.out (R6.out.imp (fun _ hw=>hw.right.right.right)) Q6.out HS.p2 ?_ | refine zak (R4.out.imp (fun _ hw=>hw.right.right.right)) Q4.out (R5.out.imp (fun _ hw=>hw.right.right.right)) Q5.out (R6.out.imp (fun _ hw=>hw.right.right.right)) Q6.out HS.p3 ?_ | refine zak (R4.out.imp (fun _ hw=>hw.right.right.right)) Q4.out (R5.out.imp (fun _ hw=>hw.right.right.right)) Q5.out (R6.out.imp (fun _ hw=>hw.right.right.right)) Q6.out HS.p4 ?_ | refine zak (R4.out.imp (fun _ hw=>hw.right.right.right)) Q4.out (R5.out.imp (fun _ hw=>hw.right.right.right)) Q5.out (R6.out.imp (fun _ hw=>hw.right.right.right)) Q6.out HS.p5 ?_ | refine zak (R4.out.imp (fun _ hw=>hw.right.right.right)) Q4.out (R5.out.imp (fun _ hw=>hw.right.right.right)) Q5.out (R6.out.imp (fun _ hw=>hw.right.right.right)) Q6.out HS.p6 ?_ | refine zak (R4.out.imp (fun _ hw=>hw.right.right.right)) Q4.out (R5.out.imp (fun _ hw=>hw.right.right.right)) Q5.out (R6.out.imp (fun _ hw=>hw.right.right.right)) Q6.out HS.p7 ?_ | refine zak (R4.out.imp (fun _ hw=>hw.right.right.right)) Q4.out (R5.out.imp (fun _ hw=>hw.right.right.right)) Q5.out (R6.out.imp (fun _ hw=>hw.right.right.right)) Q6.out HS.p8 ?_));clear H I Z Y Yf;(try clear Zu);intro vB wB H5 I5;obtain ⟨aB,mB,cB,rfl⟩:=zaf H5;have RB:=L_ (Reads.zau (za3 H5.left) B5.out);have SB:=L_ (za2 H5);have H:=H5.push;have I:=IS.trans I5;clear H5 I5 HS IS;have Z:=nd4 H.right.right;have Y:=nd4 H.right;have Yf:=zd7 H.right)))
  all_goals (
   have K:=(H.sw).cells4 (x':=.bool false) (y':=.slice none 0 0) (z':=.slice aA mA cA) (u':=.slice aB mB cB)
   have J:=(((I.setCell ⟨b+1,0,none⟩ (.bool false)).setCell ⟨b+1,1,none⟩ (.slice none 0 0)).setCell ⟨b+1,2,none⟩ (.slice aA mA cA)).setCell ⟨b+1,3,none⟩ (.slice aB mB cB)
   go_wp2_with fail
   generalize ((((wB.setCell ⟨b+1,0,none⟩ (.bool false)).setCell ⟨b+1,1,none⟩ (.slice none 0 0)).setCell ⟨b+1,2,none⟩ (.slice aA mA cA)).setCell ⟨b+1,3,none⟩ (.slice aB mB cB))=W at *
   clear Z Y Yf
   obtain ⟨y0,y1,y2,y3⟩:=nd4 K
   exact bodyPost_ret (v:=.agg #[.bool false,.slice none 0 0,.slice aA mA cA,.slice aB mB cB]) (by simp [results,Tryz.results119,go_sem,y0,y1,y2,y3]) rfl (HH.out _ _ _ ⟨_,_,_,rfl,⟨zas _ none 0,ze7⟩,⟨(RA.out.imp (fun _ hw=>za3 hw.right.left)),SA.out⟩,(RB.out.imp (fun _ hw=>za3 hw.left)),SB.out⟩ K.right.drop1 J))
 ·skip
  obtain ⟨ka,kc,rfl,-⟩:=zab hk
  obtain ⟨ya,yc,rfl,-⟩:=zab hy
  unfold maxLen at hc4
  have HH:=L_ h
  obtain ⟨n3,hn3⟩:∃ n,n=K.length:=⟨_,rfl⟩
  obtain ⟨n5,hn5⟩:∃ n,n=B.length:=⟨_,rfl⟩
  obtain ⟨nk,hnk⟩:∃ n,n=k'.length:=⟨_,rfl⟩
  obtain ⟨ny,hny⟩:∃ n,n=y'.length:=⟨_,rfl⟩
  obtain ⟨lo,hlo⟩:∃ n,n=f:=⟨_,rfl⟩
  obtain ⟨hi,hhi⟩:∃ n,n=t - 1:=⟨_,rfl⟩
  rw [←hlo,←hhi] at HH
  have P3:=L_ h3
  have P5:=L_ h5
  have R2:=L_ hk
  have R5:=L_ hy
  have R1:Hid (zbd F (.slice (some ⟨b3,o3,none⟩) f c3) (K.take f)):=L_ (zbw zba P3.out f (by omega))
  have R3:Hid (zbd F (.slice (if c3=t then some ⟨b3,o3,none⟩ else some ⟨b3,o3+t,none⟩) (n3 - t) (c3 - t)) (K.drop t)):=L_ (by
   have h:=za6 zba P3.out t (by omega) (by omega)
   rw [Nat.mul_one,←hn3] at h
   exact h)
  obtain ⟨ad,had⟩:∃ ad:Option Addr,(if c3=t then some ⟨b3,o3,none⟩ else some ⟨b3,o3+t,none⟩)=ad:=⟨_,rfl⟩
  rw [had] at R3
  unfold maxLen at hc6
  have R4:Hid (zbe F (.slice (some ⟨b5,o5,none⟩) lo c5) (B.take lo)):=L_ (zbw zbu P5.out lo (by omega))
  have R6:Hid (zbe F (.slice (if c5=hi then some ⟨b5,o5,none⟩ else some ⟨b5,o5+hi,none⟩) (n5 - hi) (c5 - hi)) (B.drop hi)):=L_ (by
   have h:=za6 zbu P5.out hi (by omega) (by omega)
   rw [Nat.mul_one,←hn5] at h
   exact h)
  obtain ⟨ae,hae⟩:∃ ae:Option Addr,(if c5=hi then some ⟨b5,o5,none⟩ else some ⟨b5,o5+hi,none⟩)=ae:=⟨_,rfl⟩
  rw [hae] at R6
  have l4:(lo:Int)≤(c5:Int):=by omega
  have l5:(hi:Int)≤(c5:Int):=by omega
  have l6:(n5:Int)≤(c5:Int):=by omega
  clear hc5 hc6
  have Q1:Hid ((K.take f).length≤10000):=L_ (by rw [List.length_take];omega)
  have Q2:Hid (k'.length≤10000):=L_ (by omega)
  have Q3:Hid ((K.drop t).length≤10000):=L_ (by rw [List.length_drop];omega)
  have Q4:Hid ((B.take lo).length≤10000):=L_ (by rw [List.length_take];omega)
  have Q5:Hid (y'.length≤10000):=L_ (by omega)
  have Q6:Hid ((B.drop hi).length≤10000):=L_ (by rw [List.length_drop];omega)
  have B3:Hid ((K.take f++k'++K.drop t).length≤1000000):=L_ (by simp only [List.length_append,List.length_take,List.length_drop];omega)
  have B5:Hid ((B.take lo++y'++B.drop hi).length≤1000000):=L_ (by simp only [List.length_append,List.length_take,List.length_drop];omega)
  rw [←hnk] at R2
  rw [←hny] at R5
  have i0:(0:Int)≤(f:Int):=by omega
  have i1:¬ (f:Int)<0:=by omega
  have i2:(f:Int)<(t:Int):=by omega
  have i3:¬ (t:Int)≤(f:Int):=by omega
  have i4:(t:Int)≤(n3:Int):=by omega
  have i5:¬ (n3:Int)<(t:Int):=by omega
  have i6:(f:Int)≤(n3:Int):=by omega
  have i7:(f:Int)≤(c3:Int):=by omega
  have i8:(0:Int)≤(t:Int):=by omega
  have i9:(n3:Int)≤(c3:Int):=by omega
  have i10:(t:Int)≤(c3:Int):=by omega
  have l0:(0:Int)≤(lo:Int):=by omega
  have l1:(lo:Int)≤(n5:Int):=by omega
  have l2:(0:Int)≤(hi:Int):=by omega
  have l3:(hi:Int)≤(n5:Int):=by omega
  have u1:(f:Int)≤4000:=by omega
  have u2:(t:Int)≤4000:=by omega
  have u3:(n3:Int)≤4000:=by omega
  have u4:(nk:Int)≤1000:=by omega
  have u5:(ny:Int)≤1000:=by omega
  have u6:(lo:Int)≤4000:=by omega
  have u7:(hi:Int)≤4000:=by omega
  have u8:(n5:Int)≤4000:=by omega
  have f1:(0:Int)<(nk:Int):=by omega
  have f2:¬ (nk:Int)=0:=by omega
  have f4:(0:Int)≤(ny:Int):=by omega
  have f5:(nk:Int) - 1=(ny:Int):=by omega
  have f6:max (ny:Int) 0=(ny:Int):=by omega
  have f7:(t:Int) - 1=(hi:Int):=by omega
  have hlf:f=lo:=hlo.symm
  clear hlo
  subst hlf
  rw [←hnk,←hny]
  change Calls Tryz.prog 119 #[.agg #[.bool false,.slice a1 0 c1,.slice (some ⟨b3,o3,none⟩) K.length c3,.slice (some ⟨b5,o5,none⟩) B.length c5],.int .i64 (f:Int),.int .i64 (t:Int),.slice ka nk kc,.slice ya ny yc] w R
  rw [←hn3,←hn5]
  have I:=(((Io.refl w).alloc (.cells #[.bool false,.slice a1 0 c1,.slice (some ⟨b3,o3,none⟩) n3 c3,.slice (some ⟨b5,o5,none⟩) n5 c5] 151)).alloc (.cells #[.bool false,.slice none 0 0,.slice none 0 0,.slice none 0 0] 151))
  have H:=((H.new (.cells #[.bool false,.slice a1 0 c1,.slice (some ⟨b3,o3,none⟩) n3 c3,.slice (some ⟨b5,o5,none⟩) n5 c5] 151)).new (.cells #[.bool false,.slice none 0 0,.slice none 0 0,.slice none 0 0] 151)).ze8
  simp only [heap_alloc,Nat.add_assoc,Nat.reduceAdd] at H
  clear h h1 s1 h3 s3 h5 hk hy hky hkl hyl hl hlen hc3 hc4 hft htl hn3 hn5 hnk hny hhi P3 P5
  go_enter Tryz.func119,Tryz.ntmps119
  go_upto_region 1 with fail
  generalize ((w.alloc _).alloc _)=w1 at *
  generalize hb:w.heap.size=b at *
  obtain ⟨q0,q1,q2,q3⟩:=nd4 H.right.right
  go_upto_region 8 with fail
  have Zu:=nd4 H.right.right
  replace I:=I.drew
  replace H:=H.drew
  clear q0 q1 q2 q3
  have Z:=nd4 H.right.right
  have Y:=nd4 H.right
  have Yf:=zd7 H.right
  go_region_held3 (fun W=>W.cell? ⟨b,0,none⟩=some (.bool false)∧W.cell? ⟨b,1,none⟩=some (.slice a1 0 c1)∧W.cell? ⟨b,2,none⟩=some (.slice (some ⟨b3,o3,none⟩) n3 c3)∧W.cell? ⟨b,3,none⟩=some (.slice (some ⟨b5,o5,none⟩) n5 c5)) ((with_reducible (first | exact Z | (refine zpi ?_;assumption) | (refine zmv ?_;assumption) | (refine zj9 ?_;assumption)))) ((first
   | (go_at_call 148;(with_reducible (first | refine zaj H I (fun HS IS=>?_) | refine zaj (H.n1 _) (I.alloc _) (fun HS IS=>?_) | refine zaj ((H.n1 _).n1 _) ((I.alloc _).alloc _) (fun HS IS=>?_) | refine zaj (((H.n1 _).n1 _).n1 _) (((I.alloc _).alloc _).alloc _) (fun HS IS=>?_) | refine zaj ((((H.n1 _).n1 _).n1 _).n1 _) ((((I.alloc _).alloc _).alloc _).alloc _) (fun HS IS=>?_)));(try simp only [heap_alloc,Nat.add_assoc,Nat.reduceAdd] at HS);(with_reducible (first | refine zal (R1.out.imp (fun _ hw=>hw.right.right.right)) Q1.out (R2.out.imp (fun _ hw=>hw.right.right.right)) Q2.out (R3.out.imp (fun _ hw=>hw.right.right.right)) Q3.out HS.p1 ?_ | refine zal (R1.out.imp (fun _ hw=>hw.right.right.right)) Q1.out (R2.out.imp (fun _ hw=>hw.right.right.right)) Q2.out (R3.out.imp (fun _ hw=>hw.right.right.right)) Q3.out HS.p2 ?_ | refine zal (R1.out.imp (fun _ hw=>hw.right.right.right)) Q1.out (R2.out.imp (fun _ hw=>hw.right.right.right)) Q2.out (R3.out.imp (fun _ hw=>hw.right.right.right)) Q3.out HS.p3 ?_ | refine zal (R1.out.imp (fun _ hw=>hw.right.right.right)) Q1.out (R2.out.imp (fun _ hw=>hw.right.right.right)) Q2.out (R3.out.imp (fun _ hw=>hw.right.right.right)) Q3.out HS.p4 ?_ | refine zal (R1.out.imp (fun _ hw=>hw.right.right.right)) Q1.out (R2.out.imp (fun _ hw=>hw.right.right.right)) Q2.out (R3.out.imp (fun _ hw=>hw.right.right.right)) Q3.out HS.p5 ?_ | refine zal (R1.out.imp (fun _ hw=>hw.right.right.right)) Q1.out (R2.out.imp (fun _ hw=>hw.right.right.right)) Q2.out (R3.out.imp (fun _ hw=>hw.right.right.right)) Q3.out HS.p6 ?_ | refine zal (R1.out.imp (fun _ hw=>hw.right.right.right)) Q1.out (R2.out.imp (fun _ hw=>hw.right.right.right)) Q2.out (R3.out.imp (fun _ hw=>hw.right.right.right)) Q3.out HS.p7 ?_ | refine zal (R1.out.imp (fun _ hw=>hw.right.right.right)) Q1.out (R2.out.imp (fun _ hw=>hw.right.right.right)) Q2.out (R3.out.imp (fun _ hw=>hw.right.right.right)) Q3.out HS.p8 ?_));clear H I Z Y Yf;(try clear Zu);intro vA wA H5 I5;obtain ⟨aA,mA,cA,rfl⟩:=zaf H5;have RA:=L_ (Reads.zau (za3 H5.left) B3.out);have SA:=L_ (za2 H5);have H:=H5.push;have I:=IS.trans I5;clear H5 I5 HS IS;have Z:=nd4 H.right.right;have Y:=nd4 H.right;have Yf:=zd7 H.right)
   | (go_at_call 149;(with_reducible (first | refine zaj H I (fun HS IS=>?_) | refine zaj (H.n1 _) (I.alloc _) (fun HS IS=>?_) | refine zaj ((H.n1 _).n1 _) ((I.alloc _).alloc _) (fun HS IS=>?_) | refine zaj (((H.n1 _).n1 _).n1 _) (((I.alloc _).alloc _).alloc _) (fun HS IS=>?_) | refine zaj ((((H.n1 _).n1 _).n1 _).n1 _) ((((I.alloc _).alloc _).alloc _).alloc _) (fun HS IS=>?_)));(try simp only [heap_alloc,Nat.add_assoc,Nat.reduceAdd] at HS);(with_reducible (first | refine zak (R4.out.imp (fun _ hw=>hw.right.right.right)) Q4.out (R5.out.imp (fun _ hw=>hw.right.right.right)) Q5.out (R6.out.imp (fun _ hw=>hw.right.right.right)) Q6.out HS.p1 ?_ | refine zak (R4.out.imp (fun _ hw=>hw.right.right.right)) Q4.out (R5.out.imp (fun _ hw=>hw.right.right.right)) Q5.out (R6.out.imp (fun _ hw=>hw.right.right.right)) Q6.out HS.p2 ?_ | refine zak (R4.out.imp (fun _ hw=>hw.right.right.right)) Q4.out (R5.out.imp (fun _ hw=>hw.right.right.right)) Q5.out (R6.out.imp (fun _ hw=>hw.right.right.right)) Q6.out HS.p3 ?_ | refine zak (R4.out.imp (fun _ hw=>hw.right.right.right)) Q4.out (R5.out.imp (fun _ hw=>hw.right.right.right)) Q5.out (R6.out.imp (fun _ hw=>hw.right.right.right)) Q6.out HS.p4 ?_ | refine zak (R4.out.imp (fun _ hw=>hw.right.right.right)) Q4.out (R5.out.imp (fun _ hw=>hw.right.right.right)) Q5.out (R6.out.imp (fun _ hw=>hw.right.right.right)) Q6.out HS.p5 ?_ | refine zak (R4.out.imp (fun _ hw=>hw.right.right.right)) Q4.out (R5.out.imp (fun _ hw=>hw.right.right.right)) Q5.out (R6.out.imp (fun _ hw=>hw.right.right.right)) Q6.out HS.p6 ?_ | refine zak (R4.out.imp (fun _ hw=>hw.right.right.right)) Q4.out (R5.out.imp (fun _ hw=>hw.right.right.right)) Q5.out (R6.out.imp (fun _ hw=>hw.right.right.right)) Q6.out HS.p7 ?_ | refine zak (R4.out.imp (fun _ hw=>hw.right.right.right)) Q4.out (R5.out.imp (fun _ hw=>hw.right.right.right)) Q5.out (R6.out.imp (fun _ hw=>hw.right.right.right)) Q6.out HS.p8 ?_));clear H I Z Y Yf;(try clear Zu);intro vB wB H5 I5;obtain ⟨aB,mB,cB,rfl⟩:=zaf H5;have RB:=L_ (Reads.zau (za3 H5.left) B5.out);have SB:=L_ (za2 H5);have H:=H5.push;have I:=IS.trans I5;clear H5 I5 HS IS;have Z:=nd4 H.right.right;have Y:=nd4 H.right;have Yf:=zd7 H.right)))
  all_goals (
   have K:=(H.sw).cells4 (x':=.bool false) (y':=.slice none 0 0) (z':=.slice aA mA cA) (u':=.slice aB mB cB)
   have J:=(((I.setCell ⟨b+1,0,none⟩ (.bool false)).setCell ⟨b+1,1,none⟩ (.slice none 0 0)).setCell ⟨b+1,2,none⟩ (.slice aA mA cA)).setCell ⟨b+1,3,none⟩ (.slice aB mB cB)
   go_wp2_with fail
   generalize ((((wB.setCell ⟨b+1,0,none⟩ (.bool false)).setCell ⟨b+1,1,none⟩ (.slice none 0 0)).setCell ⟨b+1,2,none⟩ (.slice aA mA cA)).setCell ⟨b+1,3,none⟩ (.slice aB mB cB))=W at *
   clear Z Y Yf
   obtain ⟨y0,y1,y2,y3⟩:=nd4 K
   exact bodyPost_ret (v:=.agg #[.bool false,.slice none 0 0,.slice aA mA cA,.slice aB mB cB]) (by simp [results,Tryz.results119,go_sem,y0,y1,y2,y3]) rfl (HH.out _ _ _ ⟨_,_,_,rfl,⟨zas _ none 0,ze7⟩,⟨(RA.out.imp (fun _ hw=>za3 hw.right.left)),SA.out⟩,(RB.out.imp (fun _ hw=>za3 hw.left)),SB.out⟩ K.right.drop1 J))
end
section
variable {F:Asn} {w:World} {R:Ending→World→Prop}
theorem xef {K k':List Int} {B y':List Ky.Nm} {f t:Nat} {v kv yv:Value} (hlen:K.length=B.length+1) (hl:K.length≤4000) (hft:f<t) (htl:t≤K.length) (hk:zbd F kv k') (hy:zbe F yv y') (hky:k'.length=0∧0<f∧y'.length=0) (hkl:k'.length≤1000) (hyl:y'.length≤1000) (hv:NdV F v (Ky.inn K B)) (H:Sat F w)
  (h:∀ G v' w',NdV G v' (Ky.inn (K.take f++k'++K.drop t) (B.take (f - 1)++y'++B.drop (t - 1)))→Sat (G*F) w'→Io w w'→R (.returned v') w') :
  Calls Tryz.prog 119 #[v,.int .i64 (f:Int),.int .i64 (t:Int),kv,yv] w R:=by
 obtain ⟨se,sk,sx,rfl,hh⟩:=hv
 dsimp only [Ky.inn] at hh
 obtain ⟨⟨h1,s1⟩,⟨h3,s3⟩,h5,s5⟩:=hh
 obtain ⟨a1,c1,rfl,-⟩:=zab h1
 obtain ⟨b3,o3,c3,rfl,hc3,hc4⟩:∃ b off c,sk=.slice (some ⟨b,off,none⟩) K.length c∧K.length≤c∧c≤maxLen:=by
  rcases s3 with ⟨_,h0⟩ | h
  ·omega
  ·exact h
 rcases s5 with ⟨rfl,h0⟩ | ⟨b5,o5,c5,rfl,hc5,hc6⟩
 ·omega
 ·skip
  obtain ⟨ka,kc,rfl,-⟩:=zab hk
  obtain ⟨ya,yc,rfl,-⟩:=zab hy
  unfold maxLen at hc4
  have HH:=L_ h
  obtain ⟨n3,hn3⟩:∃ n,n=K.length:=⟨_,rfl⟩
  obtain ⟨n5,hn5⟩:∃ n,n=B.length:=⟨_,rfl⟩
  obtain ⟨nk,hnk⟩:∃ n,n=k'.length:=⟨_,rfl⟩
  obtain ⟨ny,hny⟩:∃ n,n=y'.length:=⟨_,rfl⟩
  obtain ⟨lo,hlo⟩:∃ n,n=f - 1:=⟨_,rfl⟩
  obtain ⟨hi,hhi⟩:∃ n,n=t - 1:=⟨_,rfl⟩
  rw [←hlo,←hhi] at HH
  have P3:=L_ h3
  have P5:=L_ h5
  have R2:=L_ hk
  have R5:=L_ hy
  have R1:Hid (zbd F (.slice (some ⟨b3,o3,none⟩) f c3) (K.take f)):=L_ (zbw zba P3.out f (by omega))
  have R3:Hid (zbd F (.slice (if c3=t then some ⟨b3,o3,none⟩ else some ⟨b3,o3+t,none⟩) (n3 - t) (c3 - t)) (K.drop t)):=L_ (by
   have h:=za6 zba P3.out t (by omega) (by omega)
   rw [Nat.mul_one,←hn3] at h
   exact h)
  obtain ⟨ad,had⟩:∃ ad:Option Addr,(if c3=t then some ⟨b3,o3,none⟩ else some ⟨b3,o3+t,none⟩)=ad:=⟨_,rfl⟩
  rw [had] at R3
  unfold maxLen at hc6
  have R4:Hid (zbe F (.slice (some ⟨b5,o5,none⟩) lo c5) (B.take lo)):=L_ (zbw zbu P5.out lo (by omega))
  have R6:Hid (zbe F (.slice (if c5=hi then some ⟨b5,o5,none⟩ else some ⟨b5,o5+hi,none⟩) (n5 - hi) (c5 - hi)) (B.drop hi)):=L_ (by
   have h:=za6 zbu P5.out hi (by omega) (by omega)
   rw [Nat.mul_one,←hn5] at h
   exact h)
  obtain ⟨ae,hae⟩:∃ ae:Option Addr,(if c5=hi then some ⟨b5,o5,none⟩ else some ⟨b5,o5+hi,none⟩)=ae:=⟨_,rfl⟩
  rw [hae] at R6
  have l4:(lo:Int)≤(c5:Int):=by omega
  have l5:(hi:Int)≤(c5:Int):=by omega
  have l6:(n5:Int)≤(c5:Int):=by omega
  clear hc5 hc6
  have Q1:Hid ((K.take f).length≤10000):=L_ (by rw [List.length_take];omega)
  have Q2:Hid (k'.length≤10000):=L_ (by omega)
  have Q3:Hid ((K.drop t).length≤10000):=L_ (by rw [List.length_drop];omega)
  have Q4:Hid ((B.take lo).length≤10000):=L_ (by rw [List.length_take];omega)
  have Q5:Hid (y'.length≤10000):=L_ (by omega)
  have Q6:Hid ((B.drop hi).length≤10000):=L_ (by rw [List.length_drop];omega)
  have B3:Hid ((K.take f++k'++K.drop t).length≤1000000):=L_ (by simp only [List.length_append,List.length_take,List.length_drop];omega)
  have B5:Hid ((B.take lo++y'++B.drop hi).length≤1000000):=L_ (by simp only [List.length_append,List.length_take,List.length_drop];omega)
  rw [←hnk] at R2
  rw [←hny] at R5
  have i0:(0:Int)≤(f:Int):=by omega
  have i1:¬ (f:Int)<0:=by omega
  have i2:(f:Int)<(t:Int):=by omega
  have i3:¬ (t:Int)≤(f:Int):=by omega
  have i4:(t:Int)≤(n3:Int):=by omega
  have i5:¬ (n3:Int)<(t:Int):=by omega
  have i6:(f:Int)≤(n3:Int):=by omega
  have i7:(f:Int)≤(c3:Int):=by omega
  have i8:(0:Int)≤(t:Int):=by omega
  have i9:(n3:Int)≤(c3:Int):=by omega
  have i10:(t:Int)≤(c3:Int):=by omega
  have l0:(0:Int)≤(lo:Int):=by omega
  have l1:(lo:Int)≤(n5:Int):=by omega
  have l2:(0:Int)≤(hi:Int):=by omega
  have l3:(hi:Int)≤(n5:Int):=by omega
  have u1:(f:Int)≤4000:=by omega
  have u2:(t:Int)≤4000:=by omega
  have u3:(n3:Int)≤4000:=by omega
  have u4:(nk:Int)≤1000:=by omega
  have u5:(ny:Int)≤1000:=by omega
  have u6:(lo:Int)≤4000:=by omega
  have u7:(hi:Int)≤4000:=by omega
  have u8:(n5:Int)≤4000:=by omega
  have f1:nk=0:=by omega
  have f2:ny=0:=by omega
  have f3:(0:Int)<(f:Int):=by omega
  have f7:(t:Int) - 1=(hi:Int):=by omega
  have f9:(f:Int) - 1=(lo:Int):=by omega
  rw [←hnk,←hny]
  change Calls Tryz.prog 119 #[.agg #[.bool false,.slice a1 0 c1,.slice (some ⟨b3,o3,none⟩) K.length c3,.slice (some ⟨b5,o5,none⟩) B.length c5],.int .i64 (f:Int),.int .i64 (t:Int),.slice ka nk kc,.slice ya ny yc] w R
  rw [←hn3,←hn5]
  have I:=(((Io.refl w).alloc (.cells #[.bool false,.slice a1 0 c1,.slice (some ⟨b3,o3,none⟩) n3 c3,.slice (some ⟨b5,o5,none⟩) n5 c5] 151)).alloc (.cells #[.bool false,.slice none 0 0,.slice none 0 0,.slice none 0 0] 151))
  have H:=((H.new (.cells #[.bool false,.slice a1 0 c1,.slice (some ⟨b3,o3,none⟩) n3 c3,.slice (some ⟨b5,o5,none⟩) n5 c5] 151)).new (.cells #[.bool false,.slice none 0 0,.slice none 0 0,.slice none 0 0] 151)).ze8
  simp only [heap_alloc,Nat.add_assoc,Nat.reduceAdd] at H
  clear h h1 s1 h3 s3 h5 hk hy hky hkl hyl hl hlen hc3 hc4 hft htl hn3 hn5 hnk hny hhi P3 P5
  clear hlo
  subst f1 f2
  go_enter Tryz.func119,Tryz.ntmps119
  go_upto_region 1 with fail
  generalize ((w.alloc _).alloc _)=w1 at *
  generalize hb:w.heap.size=b at *
  obtain ⟨q0,q1,q2,q3⟩:=nd4 H.right.right
  go_upto_region 8 with fail
  have Zu:=nd4 H.right.right
  replace I:=I.drew
  replace H:=H.drew
  clear q0 q1 q2 q3
  have Z:=nd4 H.right.right
  have Y:=nd4 H.right
  have Yf:=zd7 H.right
  go_region_held3 (fun W=>W.cell? ⟨b,0,none⟩=some (.bool false)∧W.cell? ⟨b,1,none⟩=some (.slice a1 0 c1)∧W.cell? ⟨b,2,none⟩=some (.slice (some ⟨b3,o3,none⟩) n3 c3)∧W.cell? ⟨b,3,none⟩=some (.slice (some ⟨b5,o5,none⟩) n5 c5)) ((with_reducible (first | exact Z | (refine zpi ?_;assumption) | (refine zmv ?_;assumption) | (refine zj9 ?_;assumption)))) ((first
   | (go_at_call 148;(with_reducible (first | refine zaj H I (fun HS IS=>?_) | refine zaj (H.n1 _) (I.alloc _) (fun HS IS=>?_) | refine zaj ((H.n1 _).n1 _) ((I.alloc _).alloc _) (fun HS IS=>?_) | refine zaj (((H.n1 _).n1 _).n1 _) (((I.alloc _).alloc _).alloc _) (fun HS IS=>?_) | refine zaj ((((H.n1 _).n1 _).n1 _).n1 _) ((((I.alloc _).alloc _).alloc _).alloc _) (fun HS IS=>?_)));(try simp only [heap_alloc,Nat.add_assoc,Nat.reduceAdd] at HS);(with_reducible (first | refine zal (R1.out.imp (fun _ hw=>hw.right.right.right)) Q1.out (R2.out.imp (fun _ hw=>hw.right.right.right)) Q2.out (R3.out.imp (fun _ hw=>hw.right.right.right)) Q3.out HS.p1 ?_ | refine zal (R1.out.imp (fun _ hw=>hw.right.right.right)) Q1.out (R2.out.imp (fun _ hw=>hw.right.right.right)) Q2.out (R3.out.imp (fun _ hw=>hw.right.right.right)) Q3.out HS.p2 ?_ | refine zal (R1.out.imp (fun _ hw=>hw.right.right.right)) Q1.out (R2.out.imp (fun _ hw=>hw.right.right.right)) Q2.out (R3.out.imp (fun _ hw=>hw.right.right.right)) Q3.out HS.p3 ?_ | refine zal (R1.out.imp (fun _ hw=>hw.right.right.right)) Q1.out (R2.out.imp (fun _ hw=>hw.right.right.right)) Q2.out (R3.out.imp (fun _ hw=>hw.right.right.right)) Q3.out HS.p4 ?_ | refine zal (R1.out.imp (fun _ hw=>hw.right.right.right)) Q1.out (R2.out.imp (fun _ hw=>hw.right.right.right)) Q2.out (R3.out.imp (fun _ hw=>hw.right.right.right)) Q3.out HS.p5 ?_ | refine zal (R1.out.imp (fun _ hw=>hw.right.right.right)) Q1.out (R2.out.imp (fun _ hw=>hw.right.right.right)) Q2.out (R3.out.imp (fun _ hw=>hw.right.right.right)) Q3.out HS.p6 ?_ | refine zal (R1.out.imp (fun _ hw=>hw.right.right.right)) Q1.out (R2.out.imp (fun _ hw=>hw.right.right.right)) Q2.out (R3.out.imp (fun _ hw=>hw.right.right.right)) Q3.out HS.p7 ?_ | refine zal (R1.out.imp (fun _ hw=>hw.right.right.right)) Q1.out (R2.out.imp (fun _ hw=>hw.right.right.right)) Q2.out (R3.out.imp (fun _ hw=>hw.right.right.right)) Q3.out HS.p8 ?_));clear H I Z Y Yf;(try clear Zu);intro vA wA H5 I5;obtain ⟨aA,mA,cA,rfl⟩:=zaf H5;have RA:=L_ (Reads.zau (za3 H5.left) B3.out);have SA:=L_ (za2 H5);have H:=H5.push;have I:=IS.trans I5;clear H5 I5 HS IS;have Z:=nd4 H.right.right;have Y:=nd4 H.right;have Yf:=zd7 H.right)
   | (go_at_call 149;(with_reducible (first | refine zaj H I (fun HS IS=>?_) | refine zaj (H.n1 _) (I.alloc _) (fun HS IS=>?_) | refine zaj ((H.n1 _).n1 _) ((I.alloc _).alloc _) (fun HS IS=>?_) | refine zaj (((H.n1 _).n1 _).n1 _) (((I.alloc _).alloc _).alloc _) (fun HS IS=>?_) | refine zaj ((((H.n1 _).n1 _).n1 _).n1 _) ((((I.alloc _).alloc _).alloc _).alloc _) (fun HS IS=>?_)));(try simp only [heap_alloc,Nat.add_assoc,Nat.reduceAdd] at HS);(with_reducible (first | refine zak (R4.out.imp (fun _ hw=>hw.right.right.right)) Q4.out (R5.out.imp (fun _ hw=>hw.right.right.right)) Q5.out (R6.out.imp (fun _ hw=>hw.right.right.right)) Q6.out HS.p1 ?_ | refine zak (R4.out.imp (fun _ hw=>hw.right.right.right)) Q4.out (R5.out.imp (fun _ hw=>hw.right.right.right)) Q5.out (R6.out.imp (fun _ hw=>hw.right.right.right)) Q6.out HS.p2 ?_ | refine zak (R4.out.imp (fun _ hw=>hw.right.right.right)) Q4.out (R5.out.imp (fun _ hw=>hw.right.right.right)) Q5.out (R6.out.imp (fun _ hw=>hw.right.right.right)) Q6.out HS.p3 ?_ | refine zak (R4.out.imp (fun _ hw=>hw.right.right.right)) Q4.out (R5.out.imp (fun _ hw=>hw.right.right.right)) Q5.out (R6.out.imp (fun _ hw=>hw.right.right.right)) Q6.out HS.p4 ?_ | refine zak (R4.out.imp (fun _ hw=>hw.right.right.right)) Q4.out (R5.out.imp (fun _ hw=>hw.right.right.right)) Q5.out (R6.out.imp (fun _ hw=>hw.right.right.right)) Q6.out HS.p5 ?_ | refine zak (R4.out.imp (fun _ hw=>hw.right.right.right)) Q4.out (R5.out.imp (fun _ hw=>hw.right.right.right)) Q5.out (R6.out.imp (fun _ hw=>hw.right.right.right)) Q6.out HS.p6 ?_ | refine zak (R4.out.imp (fun _ hw=>hw.right.right.right)) Q4.out (R5.out.imp (fun _ hw=>hw.right.right.right)) Q5.out (R6.out.imp (fun _ hw=>hw.right.right.right)) Q6.out HS.p7 ?_ | refine zak (R4.out.imp (fun _ hw=>hw.right.right.right)) Q4.out (R5.out.imp (fun _ hw=>hw.right.right.right)) Q5.out (R6.out.imp (fun _ hw=>hw.right.right.right)) Q6.out HS.p8 ?_));clear H I Z Y Yf;(try clear Zu);intro vB wB H5 I5;obtain ⟨aB,mB,cB,rfl⟩:=zaf H5;have RB:=L_ (Reads.zau (za3 H5.left) B5.out);have SB:=L_ (za2 H5);have H:=H5.push;have I:=IS.trans I5;clear H5 I5 HS IS;have Z:=nd4 H.right.right;have Y:=nd4 H.right;have Yf:=zd7 H.right)))
  all_goals (
   have K:=(H.sw).cells4 (x':=.bool false) (y':=.slice none 0 0) (z':=.slice aA mA cA) (u':=.slice aB mB cB)
   have J:=(((I.setCell ⟨b+1,0,none⟩ (.bool false)).setCell ⟨b+1,1,none⟩ (.slice none 0 0)).setCell ⟨b+1,2,none⟩ (.slice aA mA cA)).setCell ⟨b+1,3,none⟩ (.slice aB mB cB)
   go_wp2_with fail
   generalize ((((wB.setCell ⟨b+1,0,none⟩ (.bool false)).setCell ⟨b+1,1,none⟩ (.slice none 0 0)).setCell ⟨b+1,2,none⟩ (.slice aA mA cA)).setCell ⟨b+1,3,none⟩ (.slice aB mB cB))=W at *
   clear Z Y Yf
   obtain ⟨y0,y1,y2,y3⟩:=nd4 K
   exact bodyPost_ret (v:=.agg #[.bool false,.slice none 0 0,.slice aA mA cA,.slice aB mB cB]) (by simp [results,Tryz.results119,go_sem,y0,y1,y2,y3]) rfl (HH.out _ _ _ ⟨_,_,_,rfl,⟨zas _ none 0,ze7⟩,⟨(RA.out.imp (fun _ hw=>za3 hw.right.left)),SA.out⟩,(RB.out.imp (fun _ hw=>za3 hw.left)),SB.out⟩ K.right.drop1 J))
end
section
variable {F:Asn} {w:World} {R:Ending→World→Prop}
theorem xee {K k':List Int} {B y':List Ky.Nm} {f t:Nat} {v kv yv:Value} (hlen:K.length=B.length+1) (hl:K.length≤4000) (hft:f<t) (htl:t≤K.length) (hk:zbd F kv k') (hy:zbe F yv y') (hky:k'.length=0∧f=0∧y'.length=0) (hkl:k'.length≤1000) (hyl:y'.length≤1000) (hv:NdV F v (Ky.inn K B)) (H:Sat F w)
  (h:∀ G v' w',NdV G v' (Ky.inn (K.take f++k'++K.drop t) (B.take (0)++y'++B.drop (min t B.length)))→Sat (G*F) w'→Io w w'→R (.returned v') w') :
  Calls Tryz.prog 119 #[v,.int .i64 (f:Int),.int .i64 (t:Int),kv,yv] w R:=by
 obtain ⟨se,sk,sx,rfl,hh⟩:=hv
 dsimp only [Ky.inn] at hh
 obtain ⟨⟨h1,s1⟩,⟨h3,s3⟩,h5,s5⟩:=hh
 obtain ⟨a1,c1,rfl,-⟩:=zab h1
 obtain ⟨b3,o3,c3,rfl,hc3,hc4⟩:∃ b off c,sk=.slice (some ⟨b,off,none⟩) K.length c∧K.length≤c∧c≤maxLen:=by
  rcases s3 with ⟨_,h0⟩ | h
  ·omega
  ·exact h
 rcases s5 with ⟨rfl,h0⟩ | ⟨b5,o5,c5,rfl,hc5,hc6⟩
 ·skip
  obtain ⟨ka,kc,rfl,-⟩:=zab hk
  obtain ⟨ya,yc,rfl,-⟩:=zab hy
  unfold maxLen at hc4
  have HH:=L_ h
  obtain ⟨n3,hn3⟩:∃ n,n=K.length:=⟨_,rfl⟩
  obtain ⟨n5,hn5⟩:∃ n,n=B.length:=⟨_,rfl⟩
  obtain ⟨nk,hnk⟩:∃ n,n=k'.length:=⟨_,rfl⟩
  obtain ⟨ny,hny⟩:∃ n,n=y'.length:=⟨_,rfl⟩
  obtain ⟨lo,hlo⟩:∃ n,n=0:=⟨_,rfl⟩
  obtain ⟨hi,hhi⟩:∃ n,n=min t B.length:=⟨_,rfl⟩
  rw [←hlo,←hhi] at HH
  have P3:=L_ h3
  have P5:=L_ h5
  have R2:=L_ hk
  have R5:=L_ hy
  have R1:Hid (zbd F (.slice (some ⟨b3,o3,none⟩) f c3) (K.take f)):=L_ (zbw zba P3.out f (by omega))
  have R3:Hid (zbd F (.slice (if c3=t then some ⟨b3,o3,none⟩ else some ⟨b3,o3+t,none⟩) (n3 - t) (c3 - t)) (K.drop t)):=L_ (by
   have h:=za6 zba P3.out t (by omega) (by omega)
   rw [Nat.mul_one,←hn3] at h
   exact h)
  obtain ⟨ad,had⟩:∃ ad:Option Addr,(if c3=t then some ⟨b3,o3,none⟩ else some ⟨b3,o3+t,none⟩)=ad:=⟨_,rfl⟩
  rw [had] at R3
  have hB:B=[]:=List.eq_nil_of_length_eq_zero h0
  have R4:Hid (zbe F (.slice none 0 0) (B.take lo)):=L_ (by rw [hB,List.take_nil];exact zas _ _ _)
  have R6:Hid (zbe F (.slice none 0 0) (B.drop hi)):=L_ (by rw [hB,List.drop_nil];exact zas _ _ _)
  have l4:True:=trivial
  have Q1:Hid ((K.take f).length≤10000):=L_ (by rw [List.length_take];omega)
  have Q2:Hid (k'.length≤10000):=L_ (by omega)
  have Q3:Hid ((K.drop t).length≤10000):=L_ (by rw [List.length_drop];omega)
  have Q4:Hid ((B.take lo).length≤10000):=L_ (by rw [List.length_take];omega)
  have Q5:Hid (y'.length≤10000):=L_ (by omega)
  have Q6:Hid ((B.drop hi).length≤10000):=L_ (by rw [List.length_drop];omega)
  have B3:Hid ((K.take f++k'++K.drop t).length≤1000000):=L_ (by simp only [List.length_append,List.length_take,List.length_drop];omega)
  have B5:Hid ((B.take lo++y'++B.drop hi).length≤1000000):=L_ (by simp only [List.length_append,List.length_take,List.length_drop];omega)
  rw [←hnk] at R2
  rw [←hny] at R5
  have i0:(0:Int)≤(f:Int):=by omega
  have i1:¬ (f:Int)<0:=by omega
  have i2:(f:Int)<(t:Int):=by omega
  have i3:¬ (t:Int)≤(f:Int):=by omega
  have i4:(t:Int)≤(n3:Int):=by omega
  have i5:¬ (n3:Int)<(t:Int):=by omega
  have i6:(f:Int)≤(n3:Int):=by omega
  have i7:(f:Int)≤(c3:Int):=by omega
  have i8:(0:Int)≤(t:Int):=by omega
  have i9:(n3:Int)≤(c3:Int):=by omega
  have i10:(t:Int)≤(c3:Int):=by omega
  have l0:(0:Int)≤(lo:Int):=by omega
  have l1:(lo:Int)≤(n5:Int):=by omega
  have l2:(0:Int)≤(hi:Int):=by omega
  have l3:(hi:Int)≤(n5:Int):=by omega
  have u1:(f:Int)≤4000:=by omega
  have u2:(t:Int)≤4000:=by omega
  have u3:(n3:Int)≤4000:=by omega
  have u4:(nk:Int)≤1000:=by omega
  have u5:(ny:Int)≤1000:=by omega
  have u6:(lo:Int)≤4000:=by omega
  have u7:(hi:Int)≤4000:=by omega
  have u8:(n5:Int)≤4000:=by omega
  have f1:nk=0:=by omega
  have f2:ny=0:=by omega
  have f3:f=0:=by omega
  have f4:lo=0:=by omega
  have f7:(1:Int)≤(t:Int):=by omega
  have f8:min (t:Int) (n5:Int)=(hi:Int):=by omega
  have z8:max (-1:Int) 0=0:=by decide
  have z2:t=1:=by omega
  have z4:hi=0:=by omega
  have z7:min (1:Int) 0=0:=by decide
  clear hlo
  rw [←hnk,←hny]
  change Calls Tryz.prog 119 #[.agg #[.bool false,.slice a1 0 c1,.slice (some ⟨b3,o3,none⟩) K.length c3,.slice none 0 0],.int .i64 (f:Int),.int .i64 (t:Int),.slice ka nk kc,.slice ya ny yc] w R
  rw [←hn3]
  have I:=(((Io.refl w).alloc (.cells #[.bool false,.slice a1 0 c1,.slice (some ⟨b3,o3,none⟩) n3 c3,.slice none 0 0] 151)).alloc (.cells #[.bool false,.slice none 0 0,.slice none 0 0,.slice none 0 0] 151))
  have H:=((H.new (.cells #[.bool false,.slice a1 0 c1,.slice (some ⟨b3,o3,none⟩) n3 c3,.slice none 0 0] 151)).new (.cells #[.bool false,.slice none 0 0,.slice none 0 0,.slice none 0 0] 151)).ze8
  simp only [heap_alloc,Nat.add_assoc,Nat.reduceAdd] at H
  clear h h1 s1 h3 s3 h5 hk hy hky hkl hyl hl hlen hc3 hc4 hft htl hn3 hn5 hnk hny hhi P3 P5
  subst f1 f2 f3 f4 z2 z4
  go_enter Tryz.func119,Tryz.ntmps119
  go_upto_region 1 with fail
  generalize ((w.alloc _).alloc _)=w1 at *
  generalize hb:w.heap.size=b at *
  obtain ⟨q0,q1,q2,q3⟩:=nd4 H.right.right
  go_upto_region 8 with fail
  have Zu:=nd4 H.right.right
  replace I:=I.drew
  replace H:=H.drew
  clear q0 q1 q2 q3
  have Z:=nd4 H.right.right
  have Y:=nd4 H.right
  have Yf:=zd7 H.right
  go_region_held3 (fun W=>W.cell? ⟨b,0,none⟩=some (.bool false)∧W.cell? ⟨b,1,none⟩=some (.slice a1 0 c1)∧W.cell? ⟨b,2,none⟩=some (.slice (some ⟨b3,o3,none⟩) n3 c3)∧W.cell? ⟨b,3,none⟩=some (.slice none 0 0)) ((with_reducible (first | exact Z | (refine zpi ?_;assumption) | (refine zmv ?_;assumption) | (refine zj9 ?_;assumption)))) ((first
   | (go_at_call 148;(with_reducible (first | refine zaj H I (fun HS IS=>?_) | refine zaj (H.n1 _) (I.alloc _) (fun HS IS=>?_) | refine zaj ((H.n1 _).n1 _) ((I.alloc _).alloc _) (fun HS IS=>?_) | refine zaj (((H.n1 _).n1 _).n1 _) (((I.alloc _).alloc _).alloc _) (fun HS IS=>?_) | refine zaj ((((H.n1 _).n1 _).n1 _).n1 _) ((((I.alloc _).alloc _).alloc _).alloc _) (fun HS IS=>?_)));(try simp only [heap_alloc,Nat.add_assoc,Nat.reduceAdd] at HS);(with_reducible (first | refine zal (R1.out.imp (fun _ hw=>hw.right.right.right)) Q1.out (R2.out.imp (fun _ hw=>hw.right.right.right)) Q2.out (R3.out.imp (fun _ hw=>hw.right.right.right)) Q3.out HS.p1 ?_ | refine zal (R1.out.imp (fun _ hw=>hw.right.right.right)) Q1.out (R2.out.imp (fun _ hw=>hw.right.right.right)) Q2.out (R3.out.imp (fun _ hw=>hw.right.right.right)) Q3.out HS.p2 ?_ | refine zal (R1.out.imp (fun _ hw=>hw.right.right.right)) Q1.out (R2.out.imp (fun _ hw=>hw.right.right.right)) Q2.out (R3.out.imp (fun _ hw=>hw.right.right.right)) Q3.out HS.p3 ?_ | refine zal (R1.out.imp (fun _ hw=>hw.right.right.right)) Q1.out (R2.out.imp (fun _ hw=>hw.right.right.right)) Q2.out (R3.out.imp (fun _ hw=>hw.right.right.right)) Q3.out HS.p4 ?_ | refine zal (R1.out.imp (fun _ hw=>hw.right.right.right)) Q1.out (R2.out.imp (fun _ hw=>hw.right.right.right)) Q2.out (R3.out.imp (fun _ hw=>hw.right.right.right)) Q3.out HS.p5 ?_ | refine zal (R1.out.imp (fun _ hw=>hw.right.right.right)) Q1.out (R2.out.imp (fun _ hw=>hw.right.right.right)) Q2.out (R3.out.imp (fun _ hw=>hw.right.right.right)) Q3.out HS.p6 ?_ | refine zal (R1.out.imp (fun _ hw=>hw.right.right.right)) Q1.out (R2.out.imp (fun _ hw=>hw.right.right.right)) Q2.out (R3.out.imp (fun _ hw=>hw.right.right.right)) Q3.out HS.p7 ?_ | refine zal (R1.out.imp (fun _ hw=>hw.right.right.right)) Q1.out (R2.out.imp (fun _ hw=>hw.right.right.right)) Q2.out (R3.out.imp (fun _ hw=>hw.right.right.right)) Q3.out HS.p8 ?_));clear H I Z Y Yf;(try clear Zu);intro vA wA H5 I5;obtain ⟨aA,mA,cA,rfl⟩:=zaf H5;have RA:=L_ (Reads.zau (za3 H5.left) B3.out);have SA:=L_ (za2 H5);have H:=H5.push;have I:=IS.trans I5;clear H5 I5 HS IS;have Z:=nd4 H.right.right;have Y:=nd4 H.right;have Yf:=zd7 H.right)
   | (go_at_call 149;(with_reducible (first | refine zaj H I (fun HS IS=>?_) | refine zaj (H.n1 _) (I.alloc _) (fun HS IS=>?_) | refine zaj ((H.n1 _).n1 _) ((I.alloc _).alloc _) (fun HS IS=>?_) | refine zaj (((H.n1 _).n1 _).n1 _) (((I.alloc _).alloc _).alloc _) (fun HS IS=>?_) | refine zaj ((((H.n1 _).n1 _).n1 _).n1 _) ((((I.alloc _).alloc _).alloc _).alloc _) (fun HS IS=>?_)));(try simp only [heap_alloc,Nat.add_assoc,Nat.reduceAdd] at HS);(with_reducible (first | refine zak (R4.out.imp (fun _ hw=>hw.right.right.right)) Q4.out (R5.out.imp (fun _ hw=>hw.right.right.right)) Q5.out (R6.out.imp (fun _ hw=>hw.right.right.right)) Q6.out HS.p1 ?_ | refine zak (R4.out.imp (fun _ hw=>hw.right.right.right)) Q4.out (R5.out.imp (fun _ hw=>hw.right.right.right)) Q5.out (R6.out.imp (fun _ hw=>hw.right.right.right)) Q6.out HS.p2 ?_ | refine zak (R4.out.imp (fun _ hw=>hw.right.right.right)) Q4.out (R5.out.imp (fun _ hw=>hw.right.right.right)) Q5.out (R6.out.imp (fun _ hw=>hw.right.right.right)) Q6.out HS.p3 ?_ | refine zak (R4.out.imp (fun _ hw=>hw.right.right.right)) Q4.out (R5.out.imp (fun _ hw=>hw.right.right.right)) Q5.out (R6.out.imp (fun _ hw=>hw.right.right.right)) Q6.out HS.p4 ?_ | refine zak (R4.out.imp (fun _ hw=>hw.right.right.right)) Q4.out (R5.out.imp (fun _ hw=>hw.right.right.right)) Q5.out (R6.out.imp (fun _ hw=>hw.right.right.right)) Q6.out HS.p5 ?_ | refine zak (R4.out.imp (fun _ hw=>hw.right.right.right)) Q4.out (R5.out.imp (fun _ hw=>hw.right.right.right)) Q5.out (R6.out.imp (fun _ hw=>hw.right.right.right)) Q6.out HS.p6 ?_ | refine zak (R4.out.imp (fun _ hw=>hw.right.right.right)) Q4.out (R5.out.imp (fun _ hw=>hw.right.right.right)) Q5.out (R6.out.imp (fun _ hw=>hw.right.right.right)) Q6.out HS.p7 ?_ | refine zak (R4.out.imp (fun _ hw=>hw.right.right.right)) Q4.out (R5.out.imp (fun _ hw=>hw.right.right.right)) Q5.out (R6.out.imp (fun _ hw=>hw.right.right.right)) Q6.out HS.p8 ?_));clear H I Z Y Yf;(try clear Zu);intro vB wB H5 I5;obtain ⟨aB,mB,cB,rfl⟩:=zaf H5;have RB:=L_ (Reads.zau (za3 H5.left) B5.out);have SB:=L_ (za2 H5);have H:=H5.push;have I:=IS.trans I5;clear H5 I5 HS IS;have Z:=nd4 H.right.right;have Y:=nd4 H.right;have Yf:=zd7 H.right)))
  all_goals (
   have K:=(H.sw).cells4 (x':=.bool false) (y':=.slice none 0 0) (z':=.slice aA mA cA) (u':=.slice aB mB cB)
   have J:=(((I.setCell ⟨b+1,0,none⟩ (.bool false)).setCell ⟨b+1,1,none⟩ (.slice none 0 0)).setCell ⟨b+1,2,none⟩ (.slice aA mA cA)).setCell ⟨b+1,3,none⟩ (.slice aB mB cB)
   go_wp2_with fail
   generalize ((((wB.setCell ⟨b+1,0,none⟩ (.bool false)).setCell ⟨b+1,1,none⟩ (.slice none 0 0)).setCell ⟨b+1,2,none⟩ (.slice aA mA cA)).setCell ⟨b+1,3,none⟩ (.slice aB mB cB))=W at *
   clear Z Y Yf
   obtain ⟨y0,y1,y2,y3⟩:=nd4 K
   exact bodyPost_ret (v:=.agg #[.bool false,.slice none 0 0,.slice aA mA cA,.slice aB mB cB]) (by simp [results,Tryz.results119,go_sem,y0,y1,y2,y3]) rfl (HH.out _ _ _ ⟨_,_,_,rfl,⟨zas _ none 0,ze7⟩,⟨(RA.out.imp (fun _ hw=>za3 hw.right.left)),SA.out⟩,(RB.out.imp (fun _ hw=>za3 hw.left)),SB.out⟩ K.right.drop1 J))
 ·skip
  obtain ⟨ka,kc,rfl,-⟩:=zab hk
  obtain ⟨ya,yc,rfl,-⟩:=zab hy
  unfold maxLen at hc4
  have HH:=L_ h
  obtain ⟨n3,hn3⟩:∃ n,n=K.length:=⟨_,rfl⟩
  obtain ⟨n5,hn5⟩:∃ n,n=B.length:=⟨_,rfl⟩
  obtain ⟨nk,hnk⟩:∃ n,n=k'.length:=⟨_,rfl⟩
  obtain ⟨ny,hny⟩:∃ n,n=y'.length:=⟨_,rfl⟩
  obtain ⟨lo,hlo⟩:∃ n,n=0:=⟨_,rfl⟩
  obtain ⟨hi,hhi⟩:∃ n,n=min t B.length:=⟨_,rfl⟩
  rw [←hlo,←hhi] at HH
  have P3:=L_ h3
  have P5:=L_ h5
  have R2:=L_ hk
  have R5:=L_ hy
  have R1:Hid (zbd F (.slice (some ⟨b3,o3,none⟩) f c3) (K.take f)):=L_ (zbw zba P3.out f (by omega))
  have R3:Hid (zbd F (.slice (if c3=t then some ⟨b3,o3,none⟩ else some ⟨b3,o3+t,none⟩) (n3 - t) (c3 - t)) (K.drop t)):=L_ (by
   have h:=za6 zba P3.out t (by omega) (by omega)
   rw [Nat.mul_one,←hn3] at h
   exact h)
  obtain ⟨ad,had⟩:∃ ad:Option Addr,(if c3=t then some ⟨b3,o3,none⟩ else some ⟨b3,o3+t,none⟩)=ad:=⟨_,rfl⟩
  rw [had] at R3
  unfold maxLen at hc6
  have R4:Hid (zbe F (.slice (some ⟨b5,o5,none⟩) lo c5) (B.take lo)):=L_ (zbw zbu P5.out lo (by omega))
  have R6:Hid (zbe F (.slice (if c5=hi then some ⟨b5,o5,none⟩ else some ⟨b5,o5+hi,none⟩) (n5 - hi) (c5 - hi)) (B.drop hi)):=L_ (by
   have h:=za6 zbu P5.out hi (by omega) (by omega)
   rw [Nat.mul_one,←hn5] at h
   exact h)
  obtain ⟨ae,hae⟩:∃ ae:Option Addr,(if c5=hi then some ⟨b5,o5,none⟩ else some ⟨b5,o5+hi,none⟩)=ae:=⟨_,rfl⟩
  rw [hae] at R6
  have l4:(lo:Int)≤(c5:Int):=by omega
  have l5:(hi:Int)≤(c5:Int):=by omega
  have l6:(n5:Int)≤(c5:Int):=by omega
  clear hc5 hc6
  have Q1:Hid ((K.take f).length≤10000):=L_ (by rw [List.length_take];omega)
  have Q2:Hid (k'.length≤10000):=L_ (by omega)
  have Q3:Hid ((K.drop t).length≤10000):=L_ (by rw [List.length_drop];omega)
  have Q4:Hid ((B.take lo).length≤10000):=L_ (by rw [List.length_take];omega)
  have Q5:Hid (y'.length≤10000):=L_ (by omega)
  have Q6:Hid ((B.drop hi).length≤10000):=L_ (by rw [List.length_drop];omega)
  have B3:Hid ((K.take f++k'++K.drop t).length≤1000000):=L_ (by simp only [List.length_append,List.length_take,List.length_drop];omega)
  have B5:Hid ((B.take lo++y'++B.drop hi).length≤1000000):=L_ (by simp only [List.length_append,List.length_take,List.length_drop];omega)
  rw [←hnk] at R2
  rw [←hny] at R5
  have i0:(0:Int)≤(f:Int):=by omega
  have i1:¬ (f:Int)<0:=by omega
  have i2:(f:Int)<(t:Int):=by omega
  have i3:¬ (t:Int)≤(f:Int):=by omega
  have i4:(t:Int)≤(n3:Int):=by omega
  have i5:¬ (n3:Int)<(t:Int):=by omega
  have i6:(f:Int)≤(n3:Int):=by omega
  have i7:(f:Int)≤(c3:Int):=by omega
  have i8:(0:Int)≤(t:Int):=by omega
  have i9:(n3:Int)≤(c3:Int):=by omega
  have i10:(t:Int)≤(c3:Int):=by omega
  have l0:(0:Int)≤(lo:Int):=by omega
  have l1:(lo:Int)≤(n5:Int):=by omega
  have l2:(0:Int)≤(hi:Int):=by omega
  have l3:(hi:Int)≤(n5:Int):=by omega
  have u1:(f:Int)≤4000:=by omega
  have u2:(t:Int)≤4000:=by omega
  have u3:(n3:Int)≤4000:=by omega
  have u4:(nk:Int)≤1000:=by omega
  have u5:(ny:Int)≤1000:=by omega
  have u6:(lo:Int)≤4000:=by omega
  have u7:(hi:Int)≤4000:=by omega
  have u8:(n5:Int)≤4000:=by omega
  have f1:nk=0:=by omega
  have f2:ny=0:=by omega
  have f3:f=0:=by omega
  have f4:lo=0:=by omega
  have f7:(1:Int)≤(t:Int):=by omega
  have f8:min (t:Int) (n5:Int)=(hi:Int):=by omega
  have z8:max (-1:Int) 0=0:=by decide
  rw [←hnk,←hny]
  change Calls Tryz.prog 119 #[.agg #[.bool false,.slice a1 0 c1,.slice (some ⟨b3,o3,none⟩) K.length c3,.slice (some ⟨b5,o5,none⟩) B.length c5],.int .i64 (f:Int),.int .i64 (t:Int),.slice ka nk kc,.slice ya ny yc] w R
  rw [←hn3,←hn5]
  have I:=(((Io.refl w).alloc (.cells #[.bool false,.slice a1 0 c1,.slice (some ⟨b3,o3,none⟩) n3 c3,.slice (some ⟨b5,o5,none⟩) n5 c5] 151)).alloc (.cells #[.bool false,.slice none 0 0,.slice none 0 0,.slice none 0 0] 151))
  have H:=((H.new (.cells #[.bool false,.slice a1 0 c1,.slice (some ⟨b3,o3,none⟩) n3 c3,.slice (some ⟨b5,o5,none⟩) n5 c5] 151)).new (.cells #[.bool false,.slice none 0 0,.slice none 0 0,.slice none 0 0] 151)).ze8
  simp only [heap_alloc,Nat.add_assoc,Nat.reduceAdd] at H
  clear h h1 s1 h3 s3 h5 hk hy hky hkl hyl hl hlen hc3 hc4 hft htl hn3 hn5 hnk hny hhi P3 P5
  clear hlo
  subst f1 f2 f3 f4
  go_enter Tryz.func119,Tryz.ntmps119
  go_upto_region 1 with fail
  generalize ((w.alloc _).alloc _)=w1 at *
  generalize hb:w.heap.size=b at *
  obtain ⟨q0,q1,q2,q3⟩:=nd4 H.right.right
  go_upto_region 8 with fail
  have Zu:=nd4 H.right.right
  replace I:=I.drew
  replace H:=H.drew
  clear q0 q1 q2 q3
  have Z:=nd4 H.right.right
  have Y:=nd4 H.right
  have Yf:=zd7 H.right
  go_region_held3 (fun W=>W.cell? ⟨b,0,none⟩=some (.bool false)∧W.cell? ⟨b,1,none⟩=some (.slice a1 0 c1)∧W.cell? ⟨b,2,none⟩=some (.slice (some ⟨b3,o3,none⟩) n3 c3)∧W.cell? ⟨b,3,none⟩=some (.slice (some ⟨b5,o5,none⟩) n5 c5)) ((with_reducible (first | exact Z | (refine zpi ?_;assumption) | (refine zmv ?_;assumption) | (refine zj9 ?_;assumption)))) ((first
   | (go_at_call 148;(with_reducible (first | refine zaj H I (fun HS IS=>?_) | refine zaj (H.n1 _) (I.alloc _) (fun HS IS=>?_) | refine zaj ((H.n1 _).n1 _) ((I.alloc _).alloc _) (fun HS IS=>?_) | refine zaj (((H.n1 _).n1 _).n1 _) (((I.alloc _).alloc _).alloc _) (fun HS IS=>?_) | refine zaj ((((H.n1 _).n1 _).n1 _).n1 _) ((((I.alloc _).alloc _).alloc _).alloc _) (fun HS IS=>?_)));(try simp only [heap_alloc,Nat.add_assoc,Nat.reduceAdd] at HS);(with_reducible (first | refine zal (R1.out.imp (fun _ hw=>hw.right.right.right)) Q1.out (R2.out.imp (fun _ hw=>hw.right.right.right)) Q2.out (R3.out.imp (fun _ hw=>hw.right.right.right)) Q3.out HS.p1 ?_ | refine zal (R1.out.imp (fun _ hw=>hw.right.right.right)) Q1.out (R2.out.imp (fun _ hw=>hw.right.right.right)) Q2.out (R3.out.imp (fun _ hw=>hw.right.right.right)) Q3.out HS.p2 ?_ | refine zal (R1.out.imp (fun _ hw=>hw.right.right.right)) Q1.out (R2.out.imp (fun _ hw=>hw.right.right.right)) Q2.out (R3.out.imp (fun _ hw=>hw.right.right.right)) Q3.out HS.p3 ?_ | refine zal (R1.out.imp (fun _ hw=>hw.right.right.right)) Q1.out (R2.out.imp (fun _ hw=>hw.right.right.right)) Q2.out (R3.out.imp (fun _ hw=>hw.right.right.right)) Q3.out HS.p4 ?_ | refine zal (R1.out.imp (fun _ hw=>hw.right.right.right)) Q1.out (R2.out.imp (fun _ hw=>hw.right.right.right)) Q2.out (R3.out.imp (fun _ hw=>hw.right.right.right)) Q3.out HS.p5 ?_ | refine zal (R1.out.imp (fun _ hw=>hw.right.right.right)) Q1.out (R2.out.imp (fun _ hw=>hw.right.right.right)) Q2.out (R3.out.imp (fun _ hw=>hw.right.right.right)) Q3.out HS.p6 ?_ | refine zal (R1.out.imp (fun _ hw=>hw.right.right.right)) Q1.out (R2.out.imp (fun _ hw=>hw.right.right.right)) Q2.out (R3.out.imp (fun _ hw=>hw.right.right.right)) Q3.out HS.p7 ?_ | refine zal (R1.out.imp (fun _ hw=>hw.right.right.right)) Q1.out (R2.out.imp (fun _ hw=>hw.right.right.right)) Q2.out (R3.out.imp (fun _ hw=>hw.right.right.right)) Q3.out HS.p8 ?_));clear H I Z Y Yf;(try clear Zu);intro vA wA H5 I5;obtain ⟨aA,mA,cA,rfl⟩:=zaf H5;have RA:=L_ (Reads.zau (za3 H5.left) B3.out);have SA:=L_ (za2 H5);have H:=H5.push;have I:=IS.trans I5;clear H5 I5 HS IS;have Z:=nd4 H.right.right;have Y:=nd4 H.right;have Yf:=zd7 H.right)
   | (go_at_call 149;(with_reducible (first | refine zaj H I (fun HS IS=>?_) | refine zaj (H.n1 _) (I.alloc _) (fun HS IS=>?_) | refine zaj ((H.n1 _).n1 _) ((I.alloc _).alloc _) (fun HS IS=>?_) | refine zaj (((H.n1 _).n1 _).n1 _) (((I.alloc _).alloc _).alloc _) (fun HS IS=>?_) | refine zaj ((((H.n1 _).n1 _).n1 _).n1 _) ((((I.alloc _).alloc _).alloc _).alloc _) (fun HS IS=>?_)));(try simp only [heap_alloc,Nat.add_assoc,Nat.reduceAdd] at HS);(with_reducible (first | refine zak (R4.out.imp (fun _ hw=>hw.right.right.right)) Q4.out (R5.out.imp (fun _ hw=>hw.right.right.right)) Q5.out (R6.out.imp (fun _ hw=>hw.right.right.right)) Q6.out HS.p1 ?_ | refine zak (R4.out.imp (fun _ hw=>hw.right.right.right)) Q4.out (R5.out.imp (fun _ hw=>hw.right.right.right)) Q5.out (R6.out.imp (fun _ hw=>hw.right.right.right)) Q6.out HS.p2 ?_ | refine zak (R4.out.imp (fun _ hw=>hw.right.right.right)) Q4.out (R5.out.imp (fun _ hw=>hw.right.right.right)) Q5.out (R6.out.imp (fun _ hw=>hw.right.right.right)) Q6.out HS.p3 ?_ | refine zak (R4.out.imp (fun _ hw=>hw.right.right.right)) Q4.out (R5.out.imp (fun _ hw=>hw.right.right.right)) Q5.out (R6.out.imp (fun _ hw=>hw.right.right.right)) Q6.out HS.p4 ?_ | refine zak (R4.out.imp (fun _ hw=>hw.right.right.right)) Q4.out (R5.out.imp (fun _ hw=>hw.right.right.right)) Q5.out (R6.out.imp (fun _ hw=>hw.right.right.right)) Q6.out HS.p5 ?_ | refine zak (R4.out.imp (fun _ hw=>hw.right.right.right)) Q4.out (R5.out.imp (fun _ hw=>hw.right.right.right)) Q5.out (R6.out.imp (fun _ hw=>hw.right.right.right)) Q6.out HS.p6 ?_ | refine zak (R4.out.imp (fun _ hw=>hw.right.right.right)) Q4.out (R5.out.imp (fun _ hw=>hw.right.right.right)) Q5.out (R6.out.imp (fun _ hw=>hw.right.right.right)) Q6.out HS.p7 ?_ | refine zak (R4.out.imp (fun _ hw=>hw.right.right.right)) Q4.out (R5.out.imp (fun _ hw=>hw.right.right.right)) Q5.out (R6.out.imp (fun _ hw=>hw.right.right.right)) Q6.out HS.p8 ?_));clear H I Z Y Yf;(try clear Zu);intro vB wB H5 I5;obtain ⟨aB,mB,cB,rfl⟩:=zaf H5;have RB:=L_ (Reads.zau (za3 H5.left) B5.out);have SB:=L_ (za2 H5);have H:=H5.push;have I:=IS.trans I5;clear H5 I5 HS IS;have Z:=nd4 H.right.right;have Y:=nd4 H.right;have Yf:=zd7 H.right)))
  all_goals (
   have K:=(H.sw).cells4 (x':=.bool false) (y':=.slice none 0 0) (z':=.slice aA mA cA) (u':=.slice aB mB cB)
   have J:=(((I.setCell ⟨b+1,0,none⟩ (.bool false)).setCell ⟨b+1,1,none⟩ (.slice none 0 0)).setCell ⟨b+1,2,none⟩ (.slice aA mA cA)).setCell ⟨b+1,3,none⟩ (.slice aB mB cB)
   go_wp2_with fail
   generalize ((((wB.setCell ⟨b+1,0,none⟩ (.bool false)).setCell ⟨b+1,1,none⟩ (.slice none 0 0)).setCell ⟨b+1,2,none⟩ (.slice aA mA cA)).setCell ⟨b+1,3,none⟩ (.slice aB mB cB))=W at *
   clear Z Y Yf
   obtain ⟨y0,y1,y2,y3⟩:=nd4 K
   exact bodyPost_ret (v:=.agg #[.bool false,.slice none 0 0,.slice aA mA cA,.slice aB mB cB]) (by simp [results,Tryz.results119,go_sem,y0,y1,y2,y3]) rfl (HH.out _ _ _ ⟨_,_,_,rfl,⟨zas _ none 0,ze7⟩,⟨(RA.out.imp (fun _ hw=>za3 hw.right.left)),SA.out⟩,(RB.out.imp (fun _ hw=>za3 hw.left)),SB.out⟩ K.right.drop1 J))
end
section
variable {F:Asn} {w:World} {R:Ending→World→Prop}
theorem swap_any {K k':List Int} {B y':List Ky.Nm} {f t:Nat} {v kv yv:Value} (hlen:K.length=B.length+1) (hl:K.length≤4000) (hft:f<t) (htl:t≤K.length) (hk:zbd F kv k') (hy:zbe F yv y') (hky:y'.length=k'.length - 1) (hkl:k'.length≤1000) (hyl:y'.length≤1000) (hv:NdV F v (Ky.inn K B)) (H:Sat F w)
  (h:∀ G v' w',NdV G v' (Ky.inn (Tb.swK K f t k') (Tb.swB B f t k' y'))→Sat (G*F) w'→Io w w'→R (.returned v') w') :
  Calls Tryz.prog 119 #[v,.int .i64 (f:Int),.int .i64 (t:Int),kv,yv] w R:=by
 unfold Tb.swK Tb.swB Tb.zlc Tb.zgt at h
 by_cases h0:k'.length=0
 ·have e:k'=[]:=List.eq_nil_of_length_eq_zero h0
  by_cases hf:0<f
  ·rw [if_pos ⟨e,hf⟩,if_neg (by omega)] at h
   exact xef hlen hl hft htl hk hy ⟨h0,hf,by omega⟩ hkl hyl hv H h
  ·obtain rfl:f=0:=by omega
   rw [if_neg (by omega),if_pos ⟨e,rfl⟩] at h
   exact xee hlen hl hft htl hk hy ⟨h0,rfl,by omega⟩ hkl hyl hv H h
 ·have e:¬ k'=[]:=fun e=>h0 (by rw [e];rfl)
  rw [if_neg (fun q=>e q.1),if_neg (fun q=>e q.1)] at h
  exact xeg hlen hl hft htl hk hy ⟨by omega,hky⟩ hkl hyl hv H h
end
theorem eight {A B C D A' B' C' D':Prop} (h:A∧B∧C∧D) (k:A'∧B'∧C'∧D'):A∧B∧C∧D∧A'∧B'∧C'∧D':=⟨h.1,h.2.1,h.2.2.1,h.2.2.2,k⟩
theorem zh6 {W:World} {b b':Nat} {x y z u x' y' z' u':Value} {ob:Obj} (h:W.cell? ⟨b,0,none⟩=some x∧W.cell? ⟨b,1,none⟩=some y∧W.cell? ⟨b,2,none⟩=some z∧W.cell? ⟨b,3,none⟩=some u∧W.cell? ⟨b',0,none⟩=some x'∧W.cell? ⟨b',1,none⟩=some y'∧W.cell? ⟨b',2,none⟩=some z'∧W.cell? ⟨b',3,none⟩=some u') :
  (W.alloc ob).cell? ⟨b,0,none⟩=some x∧(W.alloc ob).cell? ⟨b,1,none⟩=some y∧(W.alloc ob).cell? ⟨b,2,none⟩=some z∧(W.alloc ob).cell? ⟨b,3,none⟩=some u∧(W.alloc ob).cell? ⟨b',0,none⟩=some x'∧(W.alloc ob).cell? ⟨b',1,none⟩=some y'∧(W.alloc ob).cell? ⟨b',2,none⟩=some z'∧(W.alloc ob).cell? ⟨b',3,none⟩=some u':=by
 obtain ⟨h0,h1,h2,h3,h4,h5,h6,h7⟩:=h
 simp [h0,h1,h2,h3,h4,h5,h6,h7,World.cell?_alloc_some]
theorem xfz {W:World} {b b':Nat} {x y z u x' y' z' u':Value} {ob:Obj} (h:W.drew.cell? ⟨b,0,none⟩=some x∧W.drew.cell? ⟨b,1,none⟩=some y∧W.drew.cell? ⟨b,2,none⟩=some z∧W.drew.cell? ⟨b,3,none⟩=some u∧W.drew.cell? ⟨b',0,none⟩=some x'∧W.drew.cell? ⟨b',1,none⟩=some y'∧W.drew.cell? ⟨b',2,none⟩=some z'∧W.drew.cell? ⟨b',3,none⟩=some u') :
  (W.alloc ob).drew.cell? ⟨b,0,none⟩=some x∧(W.alloc ob).drew.cell? ⟨b,1,none⟩=some y∧(W.alloc ob).drew.cell? ⟨b,2,none⟩=some z∧(W.alloc ob).drew.cell? ⟨b,3,none⟩=some u∧(W.alloc ob).drew.cell? ⟨b',0,none⟩=some x'∧(W.alloc ob).drew.cell? ⟨b',1,none⟩=some y'∧(W.alloc ob).drew.cell? ⟨b',2,none⟩=some z'∧(W.alloc ob).drew.cell? ⟨b',3,none⟩=some u':=zh6 (W:=W.drew) (ob:=ob) h
theorem z6c {W:World} {b b' b'':Nat} {x y z u x' y' z' u' p q r s:Value} (hb:b''≠b) (hb':b''≠b') (h:W.cell? ⟨b,0,none⟩=some x∧W.cell? ⟨b,1,none⟩=some y∧W.cell? ⟨b,2,none⟩=some z∧W.cell? ⟨b,3,none⟩=some u∧W.cell? ⟨b',0,none⟩=some x'∧W.cell? ⟨b',1,none⟩=some y'∧W.cell? ⟨b',2,none⟩=some z'∧W.cell? ⟨b',3,none⟩=some u') :
  ((((W.setCell ⟨b'',0,none⟩ p).setCell ⟨b'',1,none⟩ q).setCell ⟨b'',2,none⟩ r).setCell ⟨b'',3,none⟩ s).cell? ⟨b,0,none⟩=some x∧((((W.setCell ⟨b'',0,none⟩ p).setCell ⟨b'',1,none⟩ q).setCell ⟨b'',2,none⟩ r).setCell ⟨b'',3,none⟩ s).cell? ⟨b,1,none⟩=some y∧((((W.setCell ⟨b'',0,none⟩ p).setCell ⟨b'',1,none⟩ q).setCell ⟨b'',2,none⟩ r).setCell ⟨b'',3,none⟩ s).cell? ⟨b,2,none⟩=some z∧((((W.setCell ⟨b'',0,none⟩ p).setCell ⟨b'',1,none⟩ q).setCell ⟨b'',2,none⟩ r).setCell ⟨b'',3,none⟩ s).cell? ⟨b,3,none⟩=some u∧((((W.setCell ⟨b'',0,none⟩ p).setCell ⟨b'',1,none⟩ q).setCell ⟨b'',2,none⟩ r).setCell ⟨b'',3,none⟩ s).cell? ⟨b',0,none⟩=some x'∧((((W.setCell ⟨b'',0,none⟩ p).setCell ⟨b'',1,none⟩ q).setCell ⟨b'',2,none⟩ r).setCell ⟨b'',3,none⟩ s).cell? ⟨b',1,none⟩=some y'∧((((W.setCell ⟨b'',0,none⟩ p).setCell ⟨b'',1,none⟩ q).setCell ⟨b'',2,none⟩ r).setCell ⟨b'',3,none⟩ s).cell? ⟨b',2,none⟩=some z'∧((((W.setCell ⟨b'',0,none⟩ p).setCell ⟨b'',1,none⟩ q).setCell ⟨b'',2,none⟩ r).setCell ⟨b'',3,none⟩ s).cell? ⟨b',3,none⟩=some u':=by
 obtain ⟨h0,h1,h2,h3,h4,h5,h6,h7⟩:=h
 simp [h0,h1,h2,h3,h4,h5,h6,h7,hb,hb',World.cell?_setCell_far]
section
variable {F:Asn} {w:World} {R:Ending→World→Prop}
theorem z4x {es es':List Ky.En} {v u:Value} (y:ByteArray) (hl:es.length≤5000∧es'.length≤5000) (hv:NdV F v (Ky.lf es)) (hu:NdV F u (Ky.lf es')) (H:Sat F w)
  (h:∀ G v' w',NdV G v' (Ky.lf (es++es'))→Sat (G*F) w'→Io w w'→R (.returned v') w') :
  Calls Tryz.prog 154 #[v,.string y,u] w R:=by
 obtain ⟨se,sk,sx,rfl,hh⟩:=hv
 dsimp only [Ky.inn,Ky.lf] at hh
 obtain ⟨⟨h1,s1⟩,⟨h3,s3⟩,h5,s5⟩:=hh
 obtain ⟨te,tk,tx,rfl,hh⟩:=hu
 dsimp only [Ky.inn,Ky.lf] at hh
 obtain ⟨⟨g1,t1⟩,⟨g3,t3⟩,g5,t5⟩:=hh
 obtain ⟨a1,c1,rfl,-⟩:=zab h1
 obtain ⟨a3,c3,rfl,-⟩:=zab h3
 obtain ⟨a5,c5,rfl,-⟩:=zab h5
 obtain ⟨e1,d1,rfl,-⟩:=zab g1
 obtain ⟨e3,d3,rfl,-⟩:=zab g3
 obtain ⟨e5,d5,rfl,-⟩:=zab g5
 have HH:=L_ h
 have R1:=L_ h1
 have R3:=L_ h3
 have R5:=L_ h5
 have T1:=L_ g1
 have T3:=L_ g3
 have T5:=L_ g5
 obtain ⟨n1,hn1⟩:∃ n,n=es.length:=⟨_,rfl⟩
 obtain ⟨l1,hl1⟩:∃ n,n=es'.length:=⟨_,rfl⟩
 rw [←hn1] at R1
 rw [←hl1] at T1
 simp only [Ky.lf,←hn1,←hl1]
 have Q1:Hid (es.length≤10000):=L_ (by omega)
 have V1:Hid (es'.length≤10000):=L_ (by omega)
 have Q3:Hid (([]:List Int).length≤10000):=L_ (by simp)
 have Q5:Hid (([]:List Ky.Nm).length≤10000):=L_ (by simp)
 have B1:Hid ((es++es').length≤1000000):=L_ (by rw [List.length_append];omega)
 have B3:Hid ((([]:List Int)++[]).length≤1000000):=L_ (by simp)
 have B5:Hid ((([]:List Ky.Nm)++[]).length≤1000000):=L_ (by simp)
 clear hn1 hl1
 have I:=(((Io.refl w).alloc (.cells #[.bool true,.slice a1 n1 c1,.slice a3 0 c3,.slice a5 0 c5] 151)).alloc (.cells #[.bool true,.slice e1 l1 d1,.slice e3 0 d3,.slice e5 0 d5] 151)).alloc (.cells #[.bool false,.slice none 0 0,.slice none 0 0,.slice none 0 0] 151)
 have H:=(((H.new (.cells #[.bool true,.slice a1 n1 c1,.slice a3 0 c3,.slice a5 0 c5] 151)).new (.cells #[.bool true,.slice e1 l1 d1,.slice e3 0 d3,.slice e5 0 d5] 151)).new (.cells #[.bool false,.slice none 0 0,.slice none 0 0,.slice none 0 0] 151)).ze8
 simp only [heap_alloc,Nat.add_assoc,Nat.reduceAdd] at H
 change Calls Tryz.prog 154 #[.agg #[.bool true,.slice a1 n1 c1,.slice a3 0 c3,.slice a5 0 c5],.string y,.agg #[.bool true,.slice e1 l1 d1,.slice e3 0 d3,.slice e5 0 d5]] w R
 clear h h1 s1 h3 s3 h5 s5 g1 t1 g3 t3 g5 t5 hl
 go_enter Tryz.func154,Tryz.ntmps154
 go_upto_region 1 with fail
 generalize (((w.alloc _).alloc _).alloc _)=w1 at *
 generalize hb:w.heap.size=b at *
 simp only [Nat.add_assoc,Nat.reduceAdd]
 have hb1:b+2≠b:=by omega
 have hb2:b+2≠b+1:=by omega
 obtain ⟨q0,q1,q2,q3⟩:=nd4 H.right.right.right
 obtain ⟨p0,p1,p2,p3⟩:=nd4 H.right.right
 go_upto_region 4 with fail
 have Zu:=eight (nd4 H.right.right.right) (nd4 H.right.right)
 replace I:=I.drew
 replace H:=H.drew
 clear q0 q1 q2 q3 p0 p1 p2 p3
 have Z:=eight (nd4 H.right.right.right) (nd4 H.right.right)
 have Y:=nd4 H.right
 have Yf:=zd7 H.right
 go_region_held3 (fun W=>W.cell? ⟨b,0,none⟩=some (.bool true)∧W.cell? ⟨b,1,none⟩=some (.slice a1 n1 c1)∧W.cell? ⟨b,2,none⟩=some (.slice a3 0 c3)∧W.cell? ⟨b,3,none⟩=some (.slice a5 0 c5)∧W.cell? ⟨b+1,0,none⟩=some (.bool true)∧W.cell? ⟨b+1,1,none⟩=some (.slice e1 l1 d1)∧W.cell? ⟨b+1,2,none⟩=some (.slice e3 0 d3)∧W.cell? ⟨b+1,3,none⟩=some (.slice e5 0 d5)) ((with_reducible (first | exact Z | (refine xfz ?_;assumption) | (refine zh6 ?_;assumption) | (refine z6c hb1 hb2 ?_;assumption)))) ((first
  | (go_at_call 147;(with_reducible (first | refine zaj H I (fun HS IS=>?_) | refine zaj (H.n1 _) (I.alloc _) (fun HS IS=>?_) | refine zaj ((H.n1 _).n1 _) ((I.alloc _).alloc _) (fun HS IS=>?_) | refine zaj (((H.n1 _).n1 _).n1 _) (((I.alloc _).alloc _).alloc _) (fun HS IS=>?_) | refine zaj ((((H.n1 _).n1 _).n1 _).n1 _) ((((I.alloc _).alloc _).alloc _).alloc _) (fun HS IS=>?_)));(try simp only [heap_alloc,Nat.add_assoc,Nat.reduceAdd] at HS);(with_reducible (first | refine zcs (R1.out.imp (fun _ hw=>hw.right.right.right.right)) Q1.out (T1.out.imp (fun _ hw=>hw.right.right.right.right)) V1.out HS.p1 ?_ | refine zcs (R1.out.imp (fun _ hw=>hw.right.right.right.right)) Q1.out (T1.out.imp (fun _ hw=>hw.right.right.right.right)) V1.out HS.p2 ?_ | refine zcs (R1.out.imp (fun _ hw=>hw.right.right.right.right)) Q1.out (T1.out.imp (fun _ hw=>hw.right.right.right.right)) V1.out HS.p3 ?_ | refine zcs (R1.out.imp (fun _ hw=>hw.right.right.right.right)) Q1.out (T1.out.imp (fun _ hw=>hw.right.right.right.right)) V1.out HS.p4 ?_ | refine zcs (R1.out.imp (fun _ hw=>hw.right.right.right.right)) Q1.out (T1.out.imp (fun _ hw=>hw.right.right.right.right)) V1.out HS.p5 ?_ | refine zcs (R1.out.imp (fun _ hw=>hw.right.right.right.right)) Q1.out (T1.out.imp (fun _ hw=>hw.right.right.right.right)) V1.out HS.p6 ?_ | refine zcs (R1.out.imp (fun _ hw=>hw.right.right.right.right)) Q1.out (T1.out.imp (fun _ hw=>hw.right.right.right.right)) V1.out HS.p7 ?_ | refine zcs (R1.out.imp (fun _ hw=>hw.right.right.right.right)) Q1.out (T1.out.imp (fun _ hw=>hw.right.right.right.right)) V1.out HS.p8 ?_));clear H I Z Y Yf;(try clear Zu);intro vA wA H5 I5;obtain ⟨aA,mA,cA,rfl⟩:=zaf H5;have RA:=L_ (Reads.zau (za3 H5.left) B1.out);have SA:=L_ (za2 H5);have H:=H5.push;have I:=IS.trans I5;clear H5 I5 HS IS;have Z:=eight (nd4 H.right.right.right) (nd4 H.right.right);have Y:=nd4 H.right;have Yf:=zd7 H.right)
  | (go_at_call 148;(with_reducible (first | refine zaj H I (fun HS IS=>?_) | refine zaj (H.n1 _) (I.alloc _) (fun HS IS=>?_) | refine zaj ((H.n1 _).n1 _) ((I.alloc _).alloc _) (fun HS IS=>?_) | refine zaj (((H.n1 _).n1 _).n1 _) (((I.alloc _).alloc _).alloc _) (fun HS IS=>?_) | refine zaj ((((H.n1 _).n1 _).n1 _).n1 _) ((((I.alloc _).alloc _).alloc _).alloc _) (fun HS IS=>?_)));(try simp only [heap_alloc,Nat.add_assoc,Nat.reduceAdd] at HS);(with_reducible (first | refine zce (R3.out.imp (fun _ hw=>hw.right.right.right.right)) Q3.out (T3.out.imp (fun _ hw=>hw.right.right.right.right)) Q3.out HS.p1 ?_ | refine zce (R3.out.imp (fun _ hw=>hw.right.right.right.right)) Q3.out (T3.out.imp (fun _ hw=>hw.right.right.right.right)) Q3.out HS.p2 ?_ | refine zce (R3.out.imp (fun _ hw=>hw.right.right.right.right)) Q3.out (T3.out.imp (fun _ hw=>hw.right.right.right.right)) Q3.out HS.p3 ?_ | refine zce (R3.out.imp (fun _ hw=>hw.right.right.right.right)) Q3.out (T3.out.imp (fun _ hw=>hw.right.right.right.right)) Q3.out HS.p4 ?_ | refine zce (R3.out.imp (fun _ hw=>hw.right.right.right.right)) Q3.out (T3.out.imp (fun _ hw=>hw.right.right.right.right)) Q3.out HS.p5 ?_ | refine zce (R3.out.imp (fun _ hw=>hw.right.right.right.right)) Q3.out (T3.out.imp (fun _ hw=>hw.right.right.right.right)) Q3.out HS.p6 ?_ | refine zce (R3.out.imp (fun _ hw=>hw.right.right.right.right)) Q3.out (T3.out.imp (fun _ hw=>hw.right.right.right.right)) Q3.out HS.p7 ?_ | refine zce (R3.out.imp (fun _ hw=>hw.right.right.right.right)) Q3.out (T3.out.imp (fun _ hw=>hw.right.right.right.right)) Q3.out HS.p8 ?_));clear H I Z Y Yf;(try clear Zu);intro vB wB H5 I5;obtain ⟨aB,mB,cB,rfl⟩:=zaf H5;have RB:=L_ (Reads.zau (za3 H5.left) B3.out);have SB:=L_ (za2 H5);have H:=H5.push;have I:=IS.trans I5;clear H5 I5 HS IS;have Z:=eight (nd4 H.right.right.right) (nd4 H.right.right);have Y:=nd4 H.right;have Yf:=zd7 H.right)
  | (go_at_call 149;(with_reducible (first | refine zaj H I (fun HS IS=>?_) | refine zaj (H.n1 _) (I.alloc _) (fun HS IS=>?_) | refine zaj ((H.n1 _).n1 _) ((I.alloc _).alloc _) (fun HS IS=>?_) | refine zaj (((H.n1 _).n1 _).n1 _) (((I.alloc _).alloc _).alloc _) (fun HS IS=>?_) | refine zaj ((((H.n1 _).n1 _).n1 _).n1 _) ((((I.alloc _).alloc _).alloc _).alloc _) (fun HS IS=>?_)));(try simp only [heap_alloc,Nat.add_assoc,Nat.reduceAdd] at HS);(with_reducible (first | refine zco (R5.out.imp (fun _ hw=>hw.right.right.right.right)) Q5.out (T5.out.imp (fun _ hw=>hw.right.right.right.right)) Q5.out HS.p1 ?_ | refine zco (R5.out.imp (fun _ hw=>hw.right.right.right.right)) Q5.out (T5.out.imp (fun _ hw=>hw.right.right.right.right)) Q5.out HS.p2 ?_ | refine zco (R5.out.imp (fun _ hw=>hw.right.right.right.right)) Q5.out (T5.out.imp (fun _ hw=>hw.right.right.right.right)) Q5.out HS.p3 ?_ | refine zco (R5.out.imp (fun _ hw=>hw.right.right.right.right)) Q5.out (T5.out.imp (fun _ hw=>hw.right.right.right.right)) Q5.out HS.p4 ?_ | refine zco (R5.out.imp (fun _ hw=>hw.right.right.right.right)) Q5.out (T5.out.imp (fun _ hw=>hw.right.right.right.right)) Q5.out HS.p5 ?_ | refine zco (R5.out.imp (fun _ hw=>hw.right.right.right.right)) Q5.out (T5.out.imp (fun _ hw=>hw.right.right.right.right)) Q5.out HS.p6 ?_ | refine zco (R5.out.imp (fun _ hw=>hw.right.right.right.right)) Q5.out (T5.out.imp (fun _ hw=>hw.right.right.right.right)) Q5.out HS.p7 ?_ | refine zco (R5.out.imp (fun _ hw=>hw.right.right.right.right)) Q5.out (T5.out.imp (fun _ hw=>hw.right.right.right.right)) Q5.out HS.p8 ?_));clear H I Z Y Yf;(try clear Zu);intro vC wC H5 I5;obtain ⟨aC,mC,cC,rfl⟩:=zaf H5;have RC:=L_ (Reads.zau (za3 H5.left) B5.out);have SC:=L_ (za2 H5);have H:=H5.push;have I:=IS.trans I5;clear H5 I5 HS IS;have Z:=eight (nd4 H.right.right.right) (nd4 H.right.right);have Y:=nd4 H.right;have Yf:=zd7 H.right)))
 all_goals (
  have K:=(H.sw).cells4 (x':=.bool true) (y':=.slice aA mA cA) (z':=.slice aB mB cB) (u':=.slice aC mC cC)
  have J:=(((I.setCell ⟨b+2,0,none⟩ (.bool true)).setCell ⟨b+2,1,none⟩ (.slice aA mA cA)).setCell ⟨b+2,2,none⟩ (.slice aB mB cB)).setCell ⟨b+2,3,none⟩ (.slice aC mC cC)
  go_wp2_with fail
  generalize ((((wC.setCell ⟨b+2,0,none⟩ (.bool true)).setCell ⟨b+2,1,none⟩ (.slice aA mA cA)).setCell ⟨b+2,2,none⟩ (.slice aB mB cB)).setCell ⟨b+2,3,none⟩ (.slice aC mC cC))=W at *
  clear Z Y Yf
  obtain ⟨y0,y1,y2,y3⟩:=nd4 K
  exact bodyPost_ret (v:=.agg #[.bool true,.slice aA mA cA,.slice aB mB cB,.slice aC mC cC]) (by simp [results,Tryz.results154,go_sem,y0,y1,y2,y3]) rfl (HH.out _ _ _ ⟨_,_,_,rfl,⟨(RA.out.imp (fun _ hw=>(by with_reducible first | exact za3 hw.right.right.left | exact za3 hw.right.right.right.left))),SA.out⟩,⟨(RB.out.imp (fun _ hw=>(by with_reducible first | exact za3 hw.right.left | exact za3 hw.right.right.left))),SB.out⟩,(RC.out.imp (fun _ hw=>za3 hw.left)),SC.out⟩ K.right.drop2 J))
end
end Go.Proofs.YtfknjmoekbabcaaGreatDoor
