/-
  A part of a proof. It proves no statement by itself.
-/
import Derived.Test.YtfknjmoekbabcaaGreatDoorEQtd0
set_option linter.unusedSimpArgs false
set_option linter.unusedVariables false
set_option linter.unusedSectionVars false
set_option maxRecDepth 100000
set_option maxHeartbeats 64000000
namespace Go.Proofs.YtfknjmoekbabcaaGreatDoor
open Go.RowKit Go.Lib
open Sq (Tk Nd Mp LL)
def zxc (x:Bool):List Value:=[.bool x]
theorem zy0:Enc zxc 1:=⟨fun _=>rfl,fun x u hu=>by simp [zxc] at hu;subst hu;rfl⟩
theorem zwi {F:Asn} {v:Value} {l:List Bool} (h:Reads zxc F v l):∃ a c,v=.slice a l.length c∧(l.length:Int)≤9223372036854775807:=by
 obtain ⟨a,c,h1,h2,_⟩:=h
 exact ⟨a,c,h1,by omega⟩
theorem zwj {F:Asn} {a:Option Addr} {n c:Nat} {l:List Bool} (hl:Reads zxc F (.slice a n c) l) (k:Nat) (hk:k<l.length):∃ b off x,a=some ⟨b,off,none⟩∧l[k]=x∧∀ w,Sat F w→w.cell? ⟨b,off+k,none⟩=some (.bool x):=by
 obtain ⟨b,off,h1,h2⟩:=hl.get zy0 k hk
 exact ⟨b,off,_,h1,rfl,fun w hw=>by have:=h2 w hw 0 _ (by omega) rfl;rwa [Nat.mul_one,Nat.add_zero] at this⟩
section
variable {F:Asn} {w:World} {R:Ending→World→Prop}
theorem bd_in3 {A B:Asn} {v u:Value} {l m:List Tk} (H:Sat (zar v l*(A*(B*(zar u m*F)))) w):Sat (zar v l*(zar u m*(A*(B*F)))) w:=H.of_eq (by unfold zar;ac_rfl)
theorem bd_out {A B:Asn} {v u:Value} {l m:List Tk} (H:Sat (zar v l*(zar u m*(A*(B*F)))) w):Sat (A*(zar v l*F)) w:=(H.of_eq (show _=(zar u m*B)*(A*(zar v l*F)) from by unfold zar;ac_rfl)).right
theorem bd_sw {A:Asn} {v u:Value} {l m:List Tk} (H:Sat (zar v l*(A*(zar u m*F))) w):Sat (A*(zar v l*(zar u m*F))) w:=H.of_eq (by unfold zar;ac_rfl)
theorem bd_ws {A:Asn} {v u:Value} {l m:List Tk} (H:Sat (A*(zar v l*(zar u m*F))) w):Sat (zar v l*(zar u m*(A*F))) w:=H.of_eq (by unfold zar;ac_rfl)
theorem bd_sw2 {A:Asn} {v u:Value} {l m:List Tk} (H:Sat (zar v l*(zar u m*(A*F))) w):Sat (A*(zar u m*F)) w:=(H.of_eq (show _=zar v l*(A*(zar u m*F)) from by unfold zar;ac_rfl)).right
theorem z6t {A:Asn} {g n c:Nat} {l:List Tk} {k:Nat} {x1 x2 y1 y2:Int} (h0:l[0]?=some (x1,x2)) (h:l[k]?=some (y1,y2)) (H:Sat (A*(zar (.slice (some ⟨g,0,none⟩) n c) l*F)) w) :
  (w.cell? ⟨g,k*2,none⟩=some (.int .i64 y1)∧w.cell? ⟨g,k*2+1,none⟩=some (.int .i64 y2))∧(w.cell? ⟨g,0,none⟩=some (.int .i64 x1)∧w.cell? ⟨g,1,none⟩=some (.int .i64 x2)) :=
 ⟨zer H.right k h,zdo H.right h0⟩
theorem zon (n cut:Int) {l:List Bool} {v:Value} (hv:Reads zxc F v l) (H:Sat F w) (h:∀ w',Sat F w'→Io w w'→R (.returned (.bool true)) w') :
  Calls Tryz.prog 4 #[.int .i64 n,v,.int .i64 cut] w R:=by
 have HH:=L_ h
 obtain ⟨a0,c0,rfl,hm'⟩:=zwi hv
 have HV:=L_ (fun k hk=>zwj hv k hk)
 clear h hv
 go_enter Tryz.func4,Tryz.ntmps4
 go_upto_region 4 with (first
  | (go_at_call 9;(with_reducible refine zii H ?_);intro w1 H1 I1)
  | fail)
 by_cases hn1:n<1
 ·have FIN:=L_ (HH.out _ H1 I1)
  clear HV
  go_wp2_with fail
  exact FIN.out
 ·by_cases hn2:(120:Int)<n
  ·have FIN:=L_ (HH.out _ H1 I1)
   clear HV
   go_wp2_with fail
   exact FIN.out
  ·by_cases hl:(120:Int)<(l.length:Int)
   ·have FIN:=L_ (HH.out _ H1 I1)
    clear HV
    go_wp2_with fail
    exact FIN.out
   ·obtain ⟨N,rfl⟩:∃ N:Nat,n=N:=⟨n.toNat,by omega⟩
    have hN0:(1:Int)≤(N:Int):=by omega
    have hN1:(N:Int)≤120:=by omega
    have HN:Hid (1≤N∧N≤120):=L_ (by omega)
    go_upto_region 7 with (first
     | (go_at_call 10;(with_reducible refine zjg (s:=3000) (L_ (by decide)) (L_ (by decide)) H1 ?_);intro c w3 hn H3 I3;have HC:=L_ (show c.k.n=3000 from hn.out);clear hn)
     | (go_at_call 11;(refine zlp (c:=c) (O:=[]) (L_ ⟨by constructor<;>simp,by simp⟩) H3 ?_);intro s w4 H4 I4)
     | fail)
    have J3:=(I1.trans I3).trans I4
    have S3:Sat (SqL (Sx.at s c [] 60 0 0) (Sq.LW [])*(zar (.slice none 0 0) []*F)) w4:=by
     rw [Sx.zrn]
     exact zai (za5 H4)
    clear H H1 H3 H4 I1 I3 I4 hn1 hn2
    go_wp2_with fail
    go_loopw [9,10] (fun vx vi wr=>∃ (i:Nat) (W:List Tk) (vw:Value),vw=vx∧i≤N∧vi=.int .i64 (i:Int)∧Hid (Sq.Bw N i W)∧Sat (SqL (Sx.at s c [] 60 0 i) (Sq.LW W)*(zar vw W*F)) wr∧Io w wr) (fun _ vi _=>130 - (RowKit.intOf vi).toNat)
    case atStart=>exact ⟨0,[],_,rfl,by omega,rfl,L_ (Sq.bw_nil N),S3,J3⟩
    case round =>
     obtain ⟨i,W,vw,rfl,hi,rfl,hB,Hk,Ik⟩:=hrel
     clear S3 J3
     have hi0:(0:Int)≤(i:Int):=by omega
     have hi60:(i:Int)≤120:=by omega
     by_cases hlt:(i:Int)<(N:Int)
     ·have HI:Hid (i+1≤122):=L_ (by omega)
      have HLT:Hid (i<N):=L_ (by omega)
      have RM:Hid (zck c 60 0 (i+1)):=zp7 HC HI.out
      have HM:Hid (Sq.zdk (Sq.LW W) ((i:Int),(N:Int) - (i:Int))=(0,Sq.LW W++[[((i:Int),(N:Int) - (i:Int))]])):=L_ (Sq.xce hB.out HLT.out HN.out.2)
      have HLN:Hid ((Sq.LW W++[[((i:Int),(N:Int) - (i:Int))]]).flatten.length≤250):=L_ (by rw [List.flatten_append,List.length_append,Sq.z3y,hB.out.len];simp;omega)
      have HKL:Hid (i+1≤N):=L_ (by omega)
      have HGN:Hid (Value.int IntKind.i64 ((i:Int)+1)=Value.int IntKind.i64 ((i+1:Nat):Int)):=L_ (by go_num)
      have hdi:(0:Int)≤(N:Int) - (i:Int):=by omega
      have hdj:(N:Int) - (i:Int)≤200:=by omega
      obtain ⟨a9,c9,hvw⟩:=zg1 (zai Hk)
      rw [hB.out.len] at hvw
      subst hvw
      obtain ⟨k2,hk2⟩:∃ k2:Int,k2=(N:Int) - (i:Int):=⟨_,rfl⟩
      rw [←hk2] at HM HLN
      have HTB:Hid (Sq.tkb N i=((i:Int),k2)):=L_ (by rw [hk2];rfl)
      have B1:Hid (Sq.Bw N (i+1) (W++[((i:Int),k2)])):=L_ (by have:=hB.out.back;rwa [HTB.out] at this)
      have B2:Hid (Sq.Bw N (i+1) ([((i:Int),k2)]++W)):=L_ (by have:=hB.out.front;rwa [HTB.out] at this)
      by_cases h0:i=0
      ·have HZ:=L_ h0
       clear h0
       have E1:Hid (Sq.LW W++[[((i:Int),k2)]]=Sq.LW (W++[((i:Int),k2)])):=L_ (Sq.lw_one (hB.out.len.trans HZ.out))
       have H2:=z8y (Hk.new (.cells #[.int .i64 (i:Int),.int .i64 k2] 29))
       have I2:=io1 H2 Ik
       rw [hk2] at H2 I2
       go_upto_region 12 with fail
       rw [←hk2] at *
       generalize wr.alloc _=w2 at *
       generalize wr.heap.size=b9 at *
       clear Hk Ik hdi hdj hi
       clear hk2
       obtain ⟨y0,y1⟩:=tk2 H2.right
       generalize hii:(i:Int)=ii at *
       have hz:(ii == 0)=true:=by rw [←hii,HZ.out];rfl
       clear hii
       go_wp2_with (first
        | (go_at_call 13;(with_reducible refine zeu (k:=i) ii k2 HM RM H2 ?_);intro w5 H5 I5;have Z5:=tk2 H5.right;obtain ⟨z0,z1⟩:=Z5;have K14:=z1m H5)
        | (at_builtin;refine zat zlf zbp rfl (.tmp 58) (.tmp 60) rfl rfl K14 (by rw [hB.out.len];have:=HI.out;omega) (ii,k2) rfl rfl ?_;intro v3 w7 H7 I7))
       go_roundw
       case rel=>exact ⟨i+1,_,_,rfl,HKL.out,HGN.out,B1,z1o (by rw [E1.out] at H7;exact H7),(I2.trans I5).trans I7⟩
       case measure=>simp [RowKit.intOf];have:=HZ.out;omega
      ·have HIP:Hid (0<i):=L_ (Nat.pos_of_ne_zero h0)
       have hWL:Hid (0<W.length):=L_ (by rw [hB.out.len];exact HIP.out)
       obtain ⟨g,e9⟩:=zo0 Hk.right hWL.out
       subst e9
       obtain ⟨⟨f1, f2⟩, hf⟩ : ∃ f, W[0]? = some f := ⟨W[0]'hWL.out, List.getElem?_eq_getElem _⟩
       have HF:=L_ hf
       have HJ:=L_ (Sq.xcf hB.out hf HLT.out HN.out.2)
       rw [HTB.out] at HJ
       have HJ1:=L_ HJ.out.1
       have HJ2:=L_ HJ.out.2
       clear hf HJ h0
       by_cases hil:i<l.length
       ·obtain ⟨bb,ob,xb,rfl,hxb,hcell⟩:=HV.out i hil
        have HIL:=L_ hil
        clear hxb hil
        cases xb with
        | true =>
         have H2:=z8y (Hk.new (.cells #[.int .i64 (i:Int),.int .i64 k2] 29))
         have I2:=io1 H2 Ik
         rw [hk2] at H2 I2
         go_upto_region 12 with fail
         rw [←hk2] at *
         generalize wr.alloc _=w2 at *
         generalize wr.heap.size=b9 at *
         clear Hk Ik hdi hdj hi
         clear hk2
         obtain ⟨y0,y1⟩:=tk2 H2.right
         generalize hii:(i:Int)=ii at *
         have htn:ii.toNat=i:=by omega
         clear hii
         have hz:(ii == 0)=false:=beq_false_of_ne (by have:=HIP.out;omega)
         have hili:ii<(l.length:Int):=by have:=HIL.out;omega
         go_upto_region 17 with (go_at_call 13;(with_reducible refine zeu (k:=i) ii k2 HM RM H2 ?_);intro w5 H5 I5;have Z5:=tk2 H5.right;obtain ⟨z0,z1⟩:=Z5;have qb:=hcell _ H5.right.right.right)
         clear qb hcell
         have HTN:=L_ htn
         clear htn hz hili
         have h0:0<i:=HIP.out
         have hip:(0:Int)<(i:Int):=by omega
         have Kd:=H5.drew
         have Jd:=(I2.trans I5).drew
         clear y0 y1 z0 z1 H5 H2 I2 I5
         refine rh Kd (fun W Kd=>zjy HF.out Kd) fun hHeld=>?_
         refine tk ?_ ?_ [0,1,2,3,4] ?_ hHeld ?_;rotate_left 2;exact tt
         refine rd [5] (rc fun K hK=>?_)
         go_simp
         go_at_call 14;(refine zg6 (k:=i+1) ii k2 f1 f2 HJ1 HLN RM Kd ?_);intro w6 H6 I6
         refine hK.out _ _ (by exact zjy HF.out H6) fun hHeld=>?_
         clear hK K
         try simp only [sp]
         refine tk ?_ ?_ [6] ?_ hHeld ?_;rotate_left 2;exact tt
         refine wpAnyH_done (by kernel_rfl) ?_ _
         clear hHeld
         obtain ⟨y0,y1⟩:=tk2 H6.right
         have K15:=za5 (sz:=2) (enc:=zlh) (e:=29) H6
         have JJ:=Jd.trans I6
         go_wp2_with (first
          | (at_builtin;refine zat zlf zbp rfl (.tmp 79) (.tmp 81) rfl rfl K15 (by simp) (ii,k2) rfl rfl ?_;intro v7 w7 H7 I7;have H7:=bd_in3 H7;obtain ⟨a7,c7,e7⟩:=zg1 H7;subst e7)
          | (at_builtin;refine zae zlf zbp rfl (.tmp 83) (.tmp 84) rfl rfl H7 (by simp) (by rw [hB.out.len];have:=HI.out;omega) rfl (Reads.zau H7.right (by rw [hB.out.len];have:=HI.out;omega)) ?_;intro v8 w8 H8 I8;obtain ⟨a8,c8,e8⟩:=zg1 H8;subst e8))
         go_roundw
         case rel=>exact ⟨i+1,[(ii,k2)]++W,_,rfl,HKL.out,HGN.out,B2,bd_out H8,(JJ.trans I7).trans I8⟩
         case measure=>simp [RowKit.intOf];have:=HTN.out;omega
        | false =>
         have H2:=z8y (Hk.new (.cells #[.int .i64 (i:Int),.int .i64 k2] 29))
         have I2:=io1 H2 Ik
         rw [hk2] at H2 I2
         go_upto_region 12 with fail
         rw [←hk2] at *
         generalize wr.alloc _=w2 at *
         generalize wr.heap.size=b9 at *
         clear Hk Ik hdi hdj hi
         clear hk2
         obtain ⟨y0,y1⟩:=tk2 H2.right
         generalize hii:(i:Int)=ii at *
         have htn:ii.toNat=i:=by omega
         clear hii
         have hz:(ii == 0)=false:=beq_false_of_ne (by have:=HIP.out;omega)
         have hili:ii<(l.length:Int):=by have:=HIL.out;omega
         go_upto_region 23 with (go_at_call 13;(with_reducible refine zeu (k:=i) ii k2 HM RM H2 ?_);intro w5 H5 I5;have Z5:=tk2 H5.right;obtain ⟨z0,z1⟩:=Z5;have qb:=hcell _ H5.right.right.right)
         clear qb hcell
         have HTN:=L_ htn
         clear htn hz hili
         have h0:0<i:=HIP.out
         have hip:(0:Int)<(i:Int):=by omega
         have Kd:=H5.drew
         have Jd:=(I2.trans I5).drew
         clear y0 y1 z0 z1 H5 H2 I2 I5
         refine rh Kd (fun W Kd=>zjy HF.out Kd) fun hHeld=>?_
         refine tk ?_ ?_ [0,1,2,3,4] ?_ hHeld ?_;rotate_left 2;exact tt
         refine rd [5] (rc fun K hK=>?_)
         go_simp
         go_at_call 14;(refine zg6 (k:=i+1) f1 f2 ii k2 HJ2 HLN RM Kd ?_);intro w6 H6 I6
         refine hK.out _ _ (by exact zjy HF.out H6) fun hHeld=>?_
         clear hK K
         try simp only [sp]
         refine tk ?_ ?_ [6] ?_ hHeld ?_;rotate_left 2;exact tt
         refine wpAnyH_done (by kernel_rfl) ?_ _
         clear hHeld
         obtain ⟨y0,y1⟩:=tk2 H6.right
         have K14:=z1m H6
         have JJ:=Jd.trans I6
         go_wp2_with (at_builtin;refine zat zlf zbp rfl (.tmp 94) (.tmp 96) rfl rfl K14 (by rw [hB.out.len];have:=HI.out;omega) (ii,k2) rfl rfl ?_;intro v7 w7 H7 I7)
         go_roundw
         case rel=>exact ⟨i+1,W++[(ii,k2)],_,rfl,HKL.out,HGN.out,B1,z1o H7,JJ.trans I7⟩
         case measure=>simp [RowKit.intOf];have:=HTN.out;omega
       ·have HIL:=L_ hil
        clear hil
        have H2:=z8y (Hk.new (.cells #[.int .i64 (i:Int),.int .i64 k2] 29))
        have I2:=io1 H2 Ik
        rw [hk2] at H2 I2
        go_upto_region 12 with fail
        rw [←hk2] at *
        generalize wr.alloc _=w2 at *
        generalize wr.heap.size=b9 at *
        clear Hk Ik hdi hdj hi
        clear hk2
        obtain ⟨y0,y1⟩:=tk2 H2.right
        generalize hii:(i:Int)=ii at *
        have htn:ii.toNat=i:=by omega
        clear hii
        have hz:(ii == 0)=false:=beq_false_of_ne (by have:=HIP.out;omega)
        have hili:¬ ii<(l.length:Int):=by have:=HIL.out;omega
        have hild:decide (ii<(l.length:Int))=false:=decide_eq_false hili
        go_upto_region 23 with (go_at_call 13;(with_reducible refine zeu (k:=i) ii k2 HM RM H2 ?_);intro w5 H5 I5;have Z5:=tk2 H5.right;obtain ⟨z0,z1⟩:=Z5)
        have HTN:=L_ htn
        clear htn hz hili
        have h0:0<i:=HIP.out
        have hip:(0:Int)<(i:Int):=by omega
        have Kd:=H5.drew
        have Jd:=(I2.trans I5).drew
        clear y0 y1 z0 z1 H5 H2 I2 I5
        refine rh Kd (fun W Kd=>zjy HF.out Kd) fun hHeld=>?_
        refine tk ?_ ?_ [0,1,2,3,4] ?_ hHeld ?_;rotate_left 2;exact tt
        refine rd [5] (rc fun K hK=>?_)
        go_simp
        go_at_call 14;(refine zg6 (k:=i+1) f1 f2 ii k2 HJ2 HLN RM Kd ?_);intro w6 H6 I6
        refine hK.out _ _ (by exact zjy HF.out H6) fun hHeld=>?_
        clear hK K
        try simp only [sp]
        refine tk ?_ ?_ [6] ?_ hHeld ?_;rotate_left 2;exact tt
        refine wpAnyH_done (by kernel_rfl) ?_ _
        clear hHeld
        obtain ⟨y0,y1⟩:=tk2 H6.right
        have K14:=z1m H6
        have JJ:=Jd.trans I6
        go_wp2_with (at_builtin;refine zat zlf zbp rfl (.tmp 94) (.tmp 96) rfl rfl K14 (by rw [hB.out.len];have:=HI.out;omega) (ii,k2) rfl rfl ?_;intro v7 w7 H7 I7)
        go_roundw
        case rel=>exact ⟨i+1,W++[(ii,k2)],_,rfl,HKL.out,HGN.out,B1,z1o H7,JJ.trans I7⟩
        case measure=>simp [RowKit.intOf];have:=HTN.out;omega
     ·obtain rfl:i=N:=by omega
      have RM:Hid (zck c 60 0 i):=zp7 HC (by have:=HN.out;omega)
      have hWL:Hid (0<W.length):=L_ (by rw [hB.out.len];exact HN.out.1)
      obtain ⟨g,cv,hvw⟩:∃ g cv,vw=.slice (some ⟨g,0,none⟩) W.length cv:=zd4 (zai Hk) hWL.out
      rw [hB.out.len] at hvw
      subst hvw
      have hW:Hid (W.length=i∧W.Nodup∧∀ y∈W,Sq.OkT y):=L_ ⟨hB.out.len,hB.out.nd,hB.out.ok (Nat.le_refl _) HN.out.2⟩
      obtain ⟨cc,hcc,hcn⟩:∃ cc:Nat,min (max cut 0) ((i:Int) - 1)=(cc:Int)∧cc<i:=⟨(min (max cut 0) ((i:Int) - 1)).toNat,by have:=HN.out;omega,by have:=HN.out;omega⟩
      obtain ⟨⟨f1, f2⟩, hf⟩ : ∃ f, W[0]? = some f := ⟨W[0]'hWL.out, List.getElem?_eq_getElem _⟩
      obtain ⟨⟨w1, w2⟩, hw⟩ : ∃ f, W[cc]? = some f := ⟨W[cc]'(by have := hW.out.1; omega), List.getElem?_eq_getElem _⟩
      have HF:=L_ hf
      have HW2:=L_ hw
      have HWL:Hid (W.length=i∧cc<i):=L_ ⟨hW.out.1,hcn⟩
      have hcc0:(0:Int)≤(cc:Int):=by omega
      have hcci:(cc:Int)<(i:Int):=by omega
      have HCC:=L_ hcc
      have hcv:i≤cv:=by
       have h:=zai Hk
       unfold zar RowOf at h
       rw [hW.out.1] at h
       exact (zma h).1
      have hcap:¬ cv=cc:=by omega
      have hcle:cc≤cv:=by omega
      have H2:Sat (SqL (Sx.at s c [] 60 0 i) [W]*(zar (.slice (some ⟨g,0,none⟩) i cv) W*F)) wr:=by
       have e:Sq.LW W=[W]:=Sq.xap (fun e=>by have:=hWL.out;rw [e] at this;cases this)
       rw [←e];exact Hk
      obtain ⟨L1,YL,L2,m1,m2,m3,m4,m5,m6,m7,m8,m9⟩:=Sq.xf8 hW.out.2.2 hW.out.2.1 hf hw
      have M1:=L_ m1
      have M2:=L_ m2
      have M3:=L_ m3
      have M4:=L_ m4
      have M5:=L_ m5
      have M6:=L_ m6
      have M9:Hid (L1.flatten.length≤250∧L2.flatten.length≤250∧YL.length≤250):=L_ (by have:=HWL.out;have:=HN.out;omega)
      have LN1:=L_ M9.out.1
      have LN2:=L_ M9.out.2.1
      have HWA:Hid (Sq.zcz [W] (f1,f2)=0∧Sq.lst [W] (f1,f2)=W):=L_ (Sq.zmh (List.mem_of_getElem? hf) (hW.out.2.2 _ (List.mem_of_getElem? hf)))
      have HRW:Hid (Sq.rowOf [W] (f1,f2)=W):=L_ ((Sq.zj7 HWA.out.1).symm.trans HWA.out.2)
      have HWA1:=L_ HWA.out.1
      have HLN:Hid (([W]:LL).flatten.length≤250):=L_ (by have:=HWL.out;have:=HN.out;simp;omega)
      clear HV Hk hi hcn hcv m1 m2 m3 m4 m5 m6 m7 m8 m9 hf hw hlt hcc
      obtain ⟨y0,y1⟩:=zdo H2.right HF.out
      go_upto_region 27 with (go_at_call 17;(with_reducible refine zin (k:=i) f1 f2 HWA HLN RM H2 ?_);intro v9 w9 H9 I9)
      have J9:=Ik.trans I9
      clear y0 y1 H2 Ik I9
      have H10:=bd_sw H9
      obtain ⟨y0,y1⟩:=zdo H10.right.right HF.out
      go_upto_region 28 with (go_at_call 18;(with_reducible refine z3z (k:=i) f1 f2 HWA1 HLN RM H10 ?_);intro q w11 hq H11 I11)
      have J11:=J9.trans I11
      clear y0 y1 H9 H10 I11
      have H12:=bd_ws H11
      have HB:Hid (W.length≤1000000):=L_ (by have:=HWL.out;have:=HN.out;omega)
      go_upto_region 29 with (go_at_call 19;(with_reducible refine zdn (l:=W) (m:=W) (d:=true) (Reads.zau H12 HB.out) ((Reads.zau H12.right HB.out).with) (L_ (decide_eq_true rfl).symm) H12 ?_);intro w13 H13 I13)
      have J13:=J11.trans I13
      clear H11 H12 I13
      have hqq:1≤q∧q≤(Sq.rowOf [W] (f1,f2)).length∧Sq.least q≤(Sq.rowOf [W] (f1,f2)).length:=by
       first | exact hq.out.2 rfl | exact hq.out.2 trivial
      rw [HRW.out,HWL.out.1] at hqq
      have HQ:Hid (1≤q∧q≤1000∧Sq.least q≤1000):=L_ (by have:=HN.out;omega)
      obtain ⟨lq,hlq⟩:∃ lq,lq=Sq.least q:=⟨_,rfl⟩
      have hql:¬ (i:Int)<(lq:Int):=by omega
      have HLQ:=L_ hlq
      clear hlq hqq
      go_upto_region 31 with (go_at_call 20;(refine z4i q HQ H13 ?_);rw [←HLQ.out];intro w15 H15 I15)
      have H16:=bd_sw2 H15
      have J16:=J13.trans I15
      clear H13 H15 I15 hql
      have hcc:=HCC.out
      go_upto_region 32 with fail
      clear hcc
      obtain ⟨y0,y1⟩:=zer H16.right cc HW2.out
      go_upto_region 34 with (go_at_call 15;(with_reducible refine zqx (k:=i) w1 w2 M1 HLN RM H16 ?_);intro w17 H17 I17)
      have J17:=J16.trans I17
      clear y0 y1 H16 I17
      obtain ⟨y0,y1⟩:=zer H17.right cc HW2.out
      go_upto_region 35 with (go_at_call 17;(with_reducible refine zin (k:=i) w1 w2 M2 LN1 RM H17 ?_);intro v18 w18 H18 I18)
      have J18:=J17.trans I18
      clear y0 y1 H17 I18
      have H19:=bd_sw H18
      obtain ⟨y0,y1⟩:=zdo H19.right.right HF.out
      go_upto_region 36 with (go_at_call 17;(with_reducible refine zin (k:=i) f1 f2 M3 LN1 RM H19 ?_);intro v20 w20 H20 I20)
      have J20:=J18.trans I20
      clear y0 y1 H18 H19 I20
      have H21:Sat (zar v18 (W.drop cc)*(zar v20 YL*(zar (.slice (some ⟨g,0,none⟩) i cv) W*(SqL (Sx.at s c [] 60 0 i) L1*F)))) w20:=H20.of_eq (by unfold zar;ac_rfl)
      have HDL:Hid ((W.drop cc).length≤1000000):=L_ (by rw [List.length_drop];have:=HB.out;omega)
      clear H20
      go_upto_region 37 with (go_at_call 19;(refine zdn (l:=W.drop cc) (m:=W.drop cc) (d:=true) (Reads.zau H21 HDL.out) ((zim zbp H21.right.right HB.out (by have:=HWL.out;omega) HWL.out.1 _).with.with) (L_ (decide_eq_true rfl).symm) H21 ?_);intro w22 H22 I22)
      have J22:=J20.trans I22
      clear H21 I22
      by_cases hz:cc=0
      ·have EL:Hid (L2=L1):=L_ (M5.out hz)
       have hcp:¬ (0:Int)<(cc:Int):=by omega
       have hcq:¬ 0<cc:=by omega
       have hcd:decide (0<cc)=false:=decide_eq_false hcq
       have hce:(cc:Int)=0:=by omega
       clear hz
       go_upto_region 40 with fail
       have Kd:=H22.drew
       have Jd:=J22.drew
       clear H22 J22 hce
       refine rh Kd (fun W Kd=>z6t HF.out HW2.out (Kd.right.right.of_eq (show _=SqL (Sx.at s c [] 60 0 i) L1*(zar (.slice (some ⟨g,0,none⟩) i cv) _*F) from by unfold zar;ac_rfl))) fun hHeld=>?_
       refine tk ?_ ?_ [0,1,2,3,4,5,6,7,8,9,10,11,12,13] ?_ hHeld ?_;rotate_left 2;exact tt
       refine wpAnyH_done (by kernel_rfl) ?_ _
       clear hHeld hcp hcq hcd
       have JJ:=Jd
       have H30:Sat (SqL (Sx.at s c [] 60 0 i) L2*(zar (.slice (some ⟨g,0,none⟩) i cv) W*F)) w22.drew:=by rw [EL.out];exact Kd.right.right.of_eq (by unfold zar;ac_rfl)
       clear Kd Jd
       obtain ⟨y0,y1⟩:=zdo H30.right HF.out
       go_upto_region 43 with (go_at_call 17;(with_reducible refine zin (k:=i) f1 f2 M6 LN2 RM H30 ?_);intro v31 w31 H31 I31)
       have J31:=JJ.trans I31
       clear y0 y1 H30 JJ I31
       have K32:Sat (zar (.slice none 0 0) []*(zar (.slice (some ⟨g,0,none⟩) i cv) W*(zar v31 (W.drop cc++W.take cc)*(SqL (Sx.at s c [] 60 0 i) L2*F)))) w31:=(za5 (sz:=2) (enc:=zlh) (e:=29) H31).of_eq (by unfold zar;ac_rfl)
       clear H31
       go_upto_region 46 with (first
        | (at_builtin;refine zae zlf zbp rfl (.tmp 212) (.tmp 215) rfl rfl K32 (by simp) (by have:=HWL.out;have:=HB.out;rw [List.length_drop];omega) rfl (zim zbp K32.right HB.out (by have:=HWL.out;omega) HWL.out.1 _) ?_;intro v33 w33 H33 I33;have H33:=H33)
        | (at_builtin;refine zae zlf zbp rfl (.tmp 217) (.tmp 220) rfl rfl H33 (by have:=HWL.out;have:=HB.out;simp;omega) (by have:=HWL.out;have:=HB.out;rw [List.length_take];omega) rfl (zil zbp H33.right HB.out (by have:=HWL.out;omega) _) ?_;intro v34 w34 H34 I34)
        | fail)
       have J34:=(J31.trans I33).trans I34
       have e34:([]++W.drop cc)++W.take cc=W.drop cc++W.take cc:=by rw [List.nil_append]
       rw [e34] at H34
       have HTL:Hid ((W.drop cc++W.take cc).length≤1000000):=L_ (by have:=HB.out;simp;omega)
       have H35:Sat (zar v34 (W.drop cc++W.take cc)*(zar v31 (W.drop cc++W.take cc)*(zar (.slice (some ⟨g,0,none⟩) i cv) W*(SqL (Sx.at s c [] 60 0 i) L2*F)))) w34:=H34.of_eq (by unfold zar;ac_rfl)
       clear H33 H34 K32 I33 I34 e34
       go_wp2_with (go_at_call 19;(with_reducible refine zdn (l:=W.drop cc++W.take cc) (m:=W.drop cc++W.take cc) (d:=true) (Reads.zau H35.right HTL.out).with (Reads.zau H35 HTL.out) (L_ (decide_eq_true rfl).symm) H35 ?_);intro w36 H36 I36)
       exact HH.out _ H36.right.right.right.right (J34.trans I36)
      ·have hz:0<cc:=Nat.pos_of_ne_zero hz
       have HZ:=L_ hz
       have hcp:(0:Int)<(cc:Int):=by omega
       have hcz:¬ (cc:Int)=0:=by omega
       have hczd:¬ cc=0:=by omega
       have HY:Hid (YL.length≤1000000):=L_ (by have:=M9.out.2.2;omega)
       have HJN:=L_ (M4.out hz).2
       have EY:=L_ (M4.out hz).1
       clear hz
       go_upto_region 40 with (go_at_call 19;(refine zdn (l:=YL) (m:=W.take cc) (d:=true) (Reads.zau H22.right HY.out).with ((zil zbp H22.right.right HB.out (by have:=HWL.out;omega) _).with.with) (L_ (decide_eq_true EY.out).symm) H22 ?_);intro w23 H23 I23)
       have Kd0:Sat (SqL (Sx.at s c [] 60 0 i) L1*(zar (.slice (some ⟨g,0,none⟩) i cv) W*F)) w23:=H23.right.right.of_eq (by unfold zar;ac_rfl)
       have Kd:=Kd0.drew
       have Jd:=(J22.trans I23).drew
       clear H22 J22 H23 I23 Kd0 hcz hczd
       have hz:0<cc:=HZ.out
       have hi0:0<i:=HN.out.1
       have hip:(0:Int)<(i:Int):=by omega
       have hci:cc<i:=HWL.out.2
       refine rh Kd (fun W Kd=>z6t HF.out HW2.out Kd) fun hHeld=>?_
       refine tk ?_ ?_ [0,1,2,3,4,5,6,7,8,9,10] ?_ hHeld ?_;rotate_left 2;exact tt
       refine rd [11] (rc fun K hK=>?_)
       go_simp
       go_at_call 14;(refine zg6 (k:=i) w1 w2 f1 f2 HJN LN1 RM Kd ?_);intro w24 H24 I24
       refine hK.out _ _ (by exact z6t HF.out HW2.out H24) fun hHeld=>?_
       clear hK K
       try simp only [sp]
       refine tk ?_ ?_ [12,13] ?_ hHeld ?_;rotate_left 2;exact tt
       refine wpAnyH_done (by kernel_rfl) ?_ _
       clear hHeld
       have JJ:=Jd.trans I24
       have H30:=H24
       clear H24 Kd Jd I24
       obtain ⟨y0,y1⟩:=zdo H30.right HF.out
       go_upto_region 43 with (go_at_call 17;(with_reducible refine zin (k:=i) f1 f2 M6 LN2 RM H30 ?_);intro v31 w31 H31 I31)
       have J31:=JJ.trans I31
       clear y0 y1 H30 JJ I31
       have K32:Sat (zar (.slice none 0 0) []*(zar (.slice (some ⟨g,0,none⟩) i cv) W*(zar v31 (W.drop cc++W.take cc)*(SqL (Sx.at s c [] 60 0 i) L2*F)))) w31:=(za5 (sz:=2) (enc:=zlh) (e:=29) H31).of_eq (by unfold zar;ac_rfl)
       clear H31
       go_upto_region 46 with (first
        | (at_builtin;refine zae zlf zbp rfl (.tmp 212) (.tmp 215) rfl rfl K32 (by simp) (by have:=HWL.out;have:=HB.out;rw [List.length_drop];omega) rfl (zim zbp K32.right HB.out (by have:=HWL.out;omega) HWL.out.1 _) ?_;intro v33 w33 H33 I33;have H33:=H33)
        | (at_builtin;refine zae zlf zbp rfl (.tmp 217) (.tmp 220) rfl rfl H33 (by have:=HWL.out;have:=HB.out;simp;omega) (by have:=HWL.out;have:=HB.out;rw [List.length_take];omega) rfl (zil zbp H33.right HB.out (by have:=HWL.out;omega) _) ?_;intro v34 w34 H34 I34)
        | fail)
       have J34:=(J31.trans I33).trans I34
       have e34:([]++W.drop cc)++W.take cc=W.drop cc++W.take cc:=by rw [List.nil_append]
       rw [e34] at H34
       have HTL:Hid ((W.drop cc++W.take cc).length≤1000000):=L_ (by have:=HB.out;simp;omega)
       have H35:Sat (zar v34 (W.drop cc++W.take cc)*(zar v31 (W.drop cc++W.take cc)*(zar (.slice (some ⟨g,0,none⟩) i cv) W*(SqL (Sx.at s c [] 60 0 i) L2*F)))) w34:=H34.of_eq (by unfold zar;ac_rfl)
       clear H33 H34 K32 I33 I34 e34
       go_wp2_with (go_at_call 19;(with_reducible refine zdn (l:=W.drop cc++W.take cc) (m:=W.drop cc++W.take cc) (d:=true) (Reads.zau H35.right HTL.out).with (Reads.zau H35 HTL.out) (L_ (decide_eq_true rfl).symm) H35 ?_);intro w36 H36 I36)
       exact HH.out _ H36.right.right.right.right (J34.trans I36)
end
end Go.Proofs.YtfknjmoekbabcaaGreatDoor
