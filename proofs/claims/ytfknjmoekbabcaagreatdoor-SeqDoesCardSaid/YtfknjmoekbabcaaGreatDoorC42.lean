/-
  A part of a proof. It proves no statement by itself.
-/
import Derived.Test.YtfknjmoekbabcaaGreatDoorC27
import Derived.Test.YtfknjmoekbabcaaGreatDoorC41
import Derived.Test.YtfknjmoekbabcaaGreatDoorC40
import Derived.Test.YtfknjmoekbabcaaGreatDoorC39
set_option linter.unusedSimpArgs false
set_option linter.unusedVariables false
set_option linter.unusedSectionVars false
set_option maxRecDepth 100000
set_option maxHeartbeats 64000000
namespace Go.Proofs.YtfknjmoekbabcaaGreatDoor
open Go.RowKit Go.Lib
section
variable {F:Asn} {w:World} {R:Ending→World→Prop}
theorem Al.Ok.first {room:Int} (h:2≤room):Al.Ok room ⟨[],2,[]⟩ where
 canon:=by simp [Rs.Canon]
 low:=by simp
 high:=h
 free:=fun i hi=>absurd hi (Rs.zcu i)
 keys:=by simp
 full:=fun i h1 h2=>by simp only at h2;omega
theorem z0h:Rs.meet [] [(2,1)]=[]:=by decide
theorem z7j {q p n:Nat} (hn:n≤3000) (H:Sat (zr3 q p (Dk.new n)*F) w)
  (hR:∀ t b w',Sat (zzh ⟨t,b,q,p,n⟩ []*F) w'→Io w w'→R (.returned (.pointer (some ⟨t,0,none⟩))) w') :
  Calls Tryz.prog 41 #[.pointer (some ⟨q,0,none⟩),.slice none 0 0,.int .i64 2] w R:=by
 have HH:=L_ hR
 have hl:(Dk.new n).sure.length≤16384:=by simp [Dk.new];omega
 have hln:((Dk.new n).sure.length:Int)=(n:Int):=by simp [Dk.new]
 have HLE:=L_ hl
 have hmm:=@run_makeMap Tryz.prog
 clear hR
 have hmin:min (2:Int) (max (n:Int) 2)=2:=by omega
 go_enter Tryz.func41,Tryz.ntmps41
 have H1:=zqh zcp (2,1) (H.new (.cells #[.int .i64 2,.int .i64 1] 119))
 have I1:=io1 H1 (Io.refl w)
 have RD:=L_ ((Reads.zau (za3 H1.left) (by simp)).imp (G:=zen (.slice (some ⟨w.heap.size,0,none⟩) 1 1) [(2,1)]*(zr3 q p (Dk.new n)*F)) (fun _ hw=>za3 hw.left))
 go_wp2_with (first
  | (go_at_call 72;refine z3g H HLE.out ?_;rw [hln])
  | (go_at_call 73;refine zyr (zas _ none 0) (by simp) RD.out (by simp) H1 ?_;intro v' w2 H2 I2;rw [z0h] at H2;obtain ⟨a3,n3,c3,hq⟩:=zmb H2;subst hq))
 have H3:=(xe8 (ek:=ekC) (ev:=evC) H2).new (.cells #[.pointer (some ⟨q,0,none⟩),.slice a3 n3 c3,.int .i64 2,.map (some w2.heap.size)] 123)
 have e1:(w2.alloc (.map #[] 0)).heap.size=w2.heap.size+1:=by simp
 rw [e1] at H3
 refine HH.out (w2.heap.size+1) w2.heap.size _ (zdd.2 ⟨.slice a3 n3 c3,⟨[],2,[]⟩,Al.Ok.first (by unfold Tq.room;simp only;omega),.refl _,?_⟩) ((((I1.trans I2).alloc _).alloc _))
 exact (H3.of_eq (show _=(zbo ⟨w2.heap.size+1,w2.heap.size,q,p,n⟩ (.slice a3 n3 c3) ⟨[],2,[]⟩*F)*zen (.slice (some ⟨w.heap.size,0,none⟩) 1 1) [(2,1)] from by unfold zbo zge zen;ac_rfl)).left
theorem z6i {k:Tq} {L:Tb.Pg} (H:Sat (zzh k L*F) w)
  (hR:∀ tr w',Sat (zaq ⟨tr,k⟩ 0 0 L*F) w'→Io w w'→R (.returned (.pointer (some ⟨tr,0,none⟩))) w') :
  Calls Tryz.prog 40 #[.pointer (some ⟨k.t,0,none⟩),.int .i64 0] w R:=by
 have H1:=H.new (.cells #[.pointer (some ⟨k.t,0,none⟩),.int .i64 0,.int .i64 0] 80)
 have HH:=L_ (hR w.heap.size _ (H1.of_eq (show _=zaq ⟨w.heap.size,k⟩ 0 0 L*F from by unfold zaq zbm;ac_rfl)) ((Io.refl w).alloc _))
 clear hR
 go_enter Tryz.func40,Tryz.ntmps40
 go_wp2_with fail
 exact HH.out
theorem z8y {c:Cq} {q g:Nat} (H:Sat (zaq c 0 0 []*F) w):Sat (ze1 c [] q g*F) w:=zes.2 ⟨0,[],.inl ⟨rfl,rfl,rfl⟩,by simp [Tb.psi],H⟩
end
end Go.Proofs.YtfknjmoekbabcaaGreatDoor
namespace Go.Proofs.YtfknjmoekbabcaaGreatDoor
open Go.RowKit Go.Lib
open Sq (Tk Nd Mp LL)
namespace Sq
theorem xe9:Ls nope []:=⟨[],⟨by simp,by simp,by simp,by simp [flat],by simp [flat],fun k n h=>by cases h⟩,rfl⟩
end Sq
section
variable {F:Asn} {w:World} {R:Ending→World→Prop}
theorem z3a {s:Int} (hs:Hid (s≤3000)) (hm:Hid (-9223372036854775808≤s)) (H:Sat F w) (h:∀ p w',Sat (z8g p (Dk.new s.toNat)*F) w'→Io w w'→R (.returned (.pointer (some ⟨p,0,none⟩))) w') :
  Calls Tryz.prog 43 #[.int .i64 s] w R:=by
 have hs0:=hs.out
 refine new_any s hm.out (by omega) H fun p w' H' I=>h p w' ?_ I
 have en:(min (max s 0) 16384).toNat=s.toNat:=by omega
 rw [en] at H'
 exact H'
theorem zjh {s:Int} (hs:Hid (s≤3000)) (hm:Hid (-9223372036854775808≤s)) (H:Sat F w)
  (hR:∀ c w',Hid (c.k.n=s.toNat)→Sat (ze1 c [] 60 0*F) w'→Io w w'→R (.returned (.pointer (some ⟨c.tr,0,none⟩))) w') :
  Calls Tryz.prog 10 #[.int .i64 s] w R:=by
 have HH:=L_ hR
 have HN:Hid (s.toNat≤3000):=L_ (by have:=hs.out;omega)
 clear hR
 go_enter Tryz.func10,Tryz.ntmps10
 go_wp2_with (first
  | (go_at_call 43;(with_reducible refine z3a hs hm H ?_);intro p w1 H1 I1)
  | (go_at_call 42;(with_reducible refine pf_new H1 ?_);intro q w2 H2 I2)
  | (go_at_call 41;(with_reducible refine z7j HN.out H2 ?_);intro t b w3 H3 I3)
  | (go_at_call 40;(with_reducible refine z6i (k:=⟨t,b,q,p,s.toNat⟩) H3 ?_);intro tr w4 H4 I4;have H5:=z8y (q:=60) (g:=0) H4))
 exact HH.out ⟨tr,⟨t,b,q,p,s.toNat⟩⟩ w4 (L_ rfl) H5 (((I1.trans I2).trans I3).trans I4)
theorem zlp {c:Cq} {O:List Ky.En} {q g:Nat} (hO:Hid (Ky.Right O∧∀ x∈O,∀ k,x.1≠Sq.kk k)) (H:Sat (ze1 c O q g*F) w)
  (hR:∀ s w',Sat (SqL ⟨s,c,O,q,g⟩ []*F) w'→Io w w'→R (.returned (.pointer (some ⟨s,0,none⟩))) w') :
  Calls Tryz.prog 11 #[.pointer (some ⟨c.tr,0,none⟩)] w R:=by
 have H1:=H.new (.cells #[.pointer (some ⟨c.tr,0,none⟩),.int .i64 0] 78)
 have HH:=L_ (hR w.heap.size _ (za7.2 ⟨Sq.nope,Sq.xe9,zbt.2 ⟨O,Sq.xes hO.out.1 hO.out.2,H1.of_eq (show _=ze1 c O q g*(pts w.heap.size (.cells #[.pointer (some ⟨c.tr,0,none⟩),.int .i64 0] 78 (0,0))*F) from by ac_rfl)⟩⟩) ((Io.refl w).alloc _))
 clear hR
 go_enter Tryz.func11,Tryz.ntmps11
 go_wp2_with fail
 exact HH.out
end
theorem xah {x:Sx} {n:Nat} (hc:x.c.k.n=n) (h:30+Tb.most x.q x.g<n):¬ x.full:=by
 unfold Sx.full Tq.room
 rw [hc]
 omega
def Sx.at (s:Nat) (c:Cq) (O:List Ky.En) (q0 g0 k:Nat):Sx:=⟨s,c,O,q0+40*k,g0+k⟩
theorem Sx.z7f (s:Nat) (c:Cq) (O:List Ky.En) (q0 g0 k:Nat):(Sx.at s c O q0 g0 k).grow 40=Sx.at s c O q0 g0 (k+1):=by
 unfold Sx.at Sx.grow
 simp only [Sx.mk.injEq,true_and]
 omega
theorem Sx.at_ok {s:Nat} {c:Cq} {O:List Ky.En} {q0 g0 k:Nat} (h1:c.k.n≤3000) (h2:g0+k≤240) (h3:60≤q0):(Sx.at s c O q0 g0 k).Ok:=⟨h1,h2,by show 60≤q0+40*k;omega⟩
theorem Sx.zrp (s:Nat) (c:Cq) (O:List Ky.En) (q0 g0:Nat):Sx.at s c O q0 g0 0=⟨s,c,O,q0,g0⟩:=by unfold Sx.at;simp
end Go.Proofs.YtfknjmoekbabcaaGreatDoor
namespace Go.Proofs.YtfknjmoekbabcaaGreatDoor
open Go.RowKit Go.Lib
open Sq (Tk)
abbrev zp0 (F:Asn) (v:Value) (l:List Tk):Prop:=Reads zlh F v l
theorem zo6 {F:Asn} {v:Value} {l:List Tk} (h:zp0 F v l):∃ a c,v=.slice a l.length c∧(l.length:Int)≤9223372036854775807:=by
 obtain ⟨a,c,h1,h2,_⟩:=h
 exact ⟨a,c,h1,by omega⟩
theorem zo7 {F:Asn} {a:Option Addr} {n c:Nat} {l:List Tk} (hl:zp0 F (.slice a n c) l) (k:Nat) (hk:k<l.length):∃ b off x1 x2,a=some ⟨b,off,none⟩∧l[k]=(x1,x2)∧∀ w,Sat F w →
  w.cell? ⟨b,off+k*2,none⟩=some (.int .i64 x1)∧w.cell? ⟨b,off+k*2+1,none⟩=some (.int .i64 x2):=by
 obtain ⟨b,off,h1,h2⟩:=Reads.get zbq hl k hk
 exact ⟨b,off,_,_,h1,rfl,fun w hw=>⟨h2 w hw 0 _ (by omega) rfl,h2 w hw 1 _ (by omega) rfl⟩⟩
section
variable {F:Asn} {w:World} {R:Ending→World→Prop} {l m:List Tk} {v u:Value}
theorem zdo (hv:zp0 F v l) (hu:zp0 F u m) {d:Bool} (hd:Hid (d=decide (l=m))) (H:Sat F w) (h:∀ w',Sat F w'→Io w w'→R (.returned (.bool d)) w') :
  Calls Tryz.prog 19 #[v,u] w R:=by
 obtain ⟨a,c,rfl,hm⟩:=zo6 hv
 obtain ⟨a',c',rfl,hm'⟩:=zo6 hu
 have HV:=L_ (fun k hk=>zo7 hv k hk)
 have HU:=L_ (fun k hk=>zo7 hu k hk)
 have HH:=L_ h
 clear h hv hu
 by_cases hn:l.length=m.length
 ·go_enter Tryz.func19,Tryz.ntmps19
  go_wp2_with fail
  go_loopw [5] (fun x wr=>∃ (k:Nat),k≤l.length∧x=.int .i64 (k:Int)∧Hid (l.take k=m.take k)∧Sat F wr∧Io w wr) (fun x _=>l.length - (RowKit.intOf x).toNat)
  case atStart=>exact ⟨0,by omega,rfl,L_ rfl,H,Io.refl _⟩
  case round =>
   obtain ⟨k,hk,rfl,hs,Hk,Ik⟩:=hrel
   by_cases hlt:k<l.length
   ·have zph:(k:Int)<(l.length:Int):=by omega
    have hltm:(k:Int)<(m.length:Int):=by omega
    obtain ⟨b,off,x1,x2,rfl,hx,hc⟩:=HV.out k hlt
    obtain ⟨b',off',y1,y2,rfl,hy,hc'⟩:=HU.out k (by omega)
    have Hn:=fun n=>Hk.drewN n
    have In:=fun n=>Ik.drewN n
    obtain ⟨c0,c1⟩:=hc wr Hk
    obtain ⟨e0,e1⟩:=hc' wr Hk
    have EQ:=fun W=>zds x1 x2 y1 y2 W
    obtain ⟨eq,heq⟩:∃ e,e=decide ((x1,x2)=(y1,y2)):=⟨_,rfl⟩
    rw [←heq] at EQ
    have HE : Hid (eq = decide (l[k] = m[k]'(by omega))) := L_ (by rw [heq, hx, hy])
    clear hc hc' hx hy heq
    cases eq with
    | true =>
     have HS':Hid (l.take (k+1)=m.take (k+1)):=L_ (by rw [List.take_succ_eq_append_getElem hlt,List.take_succ_eq_append_getElem (by omega),hs.out,of_decide_eq_true HE.out.symm])
     simp only [Bool.not_true] at EQ
     clear HE hs
     go_wp2_with fail
     go_quiet (fail)
     go_wp2_with fail
     go_roundw
     case rel=>exact ⟨k+1,by omega,by go_num,HS',Hn _,In _⟩
     case measure=>simp [RowKit.intOf];omega
    | false =>
     have fin:=fun n=>HH.out _ (Hn n) (In n)
     have hne:d=false:=by
      rw [hd.out]
      refine decide_eq_false ?_
      rintro rfl
      exact of_decide_eq_false HE.out.symm rfl
     subst hne
     simp only [Bool.not_false] at EQ
     clear HE hs HH
     go_wp2_with fail
     go_quiet (fail)
     go_wp2_with fail
     exact fin _
   ·obtain rfl:k=l.length:=by omega
    have hge:¬ (l.length:Int)<(l.length:Int):=by omega
    have he:d=true:=by
     rw [hd.out]
     refine decide_eq_true ?_
     have:=hs.out
     rwa [List.take_length,hn,List.take_length] at this
    subst he
    clear HV HU
    go_wp2_with fail
    exact HH.out _ Hk Ik
 ·have hni:¬ (l.length:Int)=(m.length:Int):=by omega
  have he:d=false:=by
   rw [hd.out]
   refine decide_eq_false ?_
   rintro rfl
   exact hn rfl
  subst he
  have HN:=L_ hn
  have hq:((l.length:Int) != (m.length:Int))=true:=by rw [bne_iff_ne];exact hni
  clear HV HU hn hni
  go_enter Tryz.func19,Tryz.ntmps19
  go_wp2_with fail
  exact HH.out _ H (Io.refl _)
theorem zo1 (a b:Int) {d:Bool} (hd:Hid (d=decide (Sq.OkT (a,b)))) (H:Sat F w) (h:∀ w',Sat F w'→Io w w'→R (.returned (.bool d)) w') :
  Calls Tryz.prog 16 #[.agg #[.int .i64 a,.int .i64 b]] w R:=by
 have HH:=L_ h
 have H1:=H.new (.cells #[.int .i64 a,.int .i64 b] 29)
 have I1:=io1 H1 (Io.refl w)
 have FIN:=L_ (HH.out _ H1.right I1)
 clear h HH
 obtain ⟨z0,z1⟩:=tk2 H1
 have hdd:=hd.out
 unfold Sq.OkT at hdd
 by_cases h1:0≤a
 ·by_cases h2:a<1048576
  ·by_cases h3:0≤b
   ·by_cases h4:b<1048576
    ·have e:d=true:=by rw [hdd];simp [h1,h2,h3,h4]
     subst e
     clear hd hdd
     go_enter Tryz.func16,Tryz.ntmps16
     go_wp2_with fail
     exact FIN.out
    ·have e:d=false:=by rw [hdd];simp [h1,h2,h3,h4]
     subst e
     clear hd hdd
     go_enter Tryz.func16,Tryz.ntmps16
     go_wp2_with fail
     exact FIN.out
   ·have e:d=false:=by rw [hdd];simp [h1,h2,h3]
    subst e
    clear hd hdd
    go_enter Tryz.func16,Tryz.ntmps16
    go_wp2_with fail
    exact FIN.out
  ·have e:d=false:=by rw [hdd];simp [h1,h2]
   subst e
   clear hd hdd
   go_enter Tryz.func16,Tryz.ntmps16
   go_wp2_with fail
   exact FIN.out
 ·have e:d=false:=by rw [hdd];simp [h1]
  subst e
  clear hd hdd
  go_enter Tryz.func16,Tryz.ntmps16
  go_wp2_with fail
  exact FIN.out
theorem least_le {a b:Nat} (h:a≤b):Sq.least a≤Sq.least b:=by
 induction h with
 | refl=>exact Nat.le_refl _
 | step _ ih=>exact Nat.le_trans ih (Sq.zpe _)
theorem z4m (q:Nat) (hq:Hid (1≤q∧q≤1000∧Sq.least q≤1000)) (H:Sat F w) (h:∀ w',Sat F w'→Io w w'→R (.returned (.int .i64 (Sq.least q:Nat))) w') :
  Calls Tryz.prog 20 #[.int .i64 (q:Nat)] w R:=by
 have HH:=L_ h
 have q0:(1:Int)≤(q:Int):=by have:=hq.out;omega
 have q1:(q:Int)≤1000:=by have:=hq.out;omega
 have qn:¬ (q:Int)<1:=by omega
 clear h
 go_enter Tryz.func20,Tryz.ntmps20
 go_wp2_with fail
 go_loopw [3,4,5,6] (fun xa xb xi xc wr=>∃ (i sa sb:Nat),Hid (1≤i∧i≤q∧sa=Sq.least (i - 1)∧sb=Sq.least i)∧xa=.int .i64 (sa:Int)∧xb=.int .i64 (sb:Int)∧xi=.int .i64 (i:Int)∧Sat F wr∧Io w wr) (fun _ _ xi _ _=>2000 - (RowKit.intOf xi).toNat)
 case atStart=>exact ⟨1,0,1,L_ ⟨Nat.le_refl _,hq.out.1,rfl,rfl⟩,rfl,rfl,rfl,H,Io.refl w⟩
 case round =>
  obtain ⟨i,sa,sb,hi,rfl,rfl,rfl,Hk,Ik⟩:=hrel
  have i0:(1:Int)≤(i:Int):=by have:=hi.out;omega
  have i1:(i:Int)≤1000:=by have:=hi.out;omega
  by_cases hlt:(i:Int)<(q:Int)
  ·have hb:(sb:Int)+(sa:Int)+1=((Sq.least (i+1):Nat):Int)∧Sq.least (i+1)≤1000:=by
    obtain ⟨h1,h2,h3,h4⟩:=hi.out
    obtain ⟨j,rfl⟩:∃ j,i=j+1:=⟨i - 1,by omega⟩
    rw [Nat.add_sub_cancel] at h3
    have e:Sq.least (j+1+1)=Sq.least j+Sq.least (j+1)+1:=rfl
    have:=least_le (a:=j+1+1) (b:=q) (by omega)
    have:=hq.out
    refine ⟨by omega,by omega⟩
   have s0:(0:Int)≤(sa:Int):=by omega
   have s1:(0:Int)≤(sb:Int):=by omega
   have s2:(sa:Int)+(sb:Int)≤1000:=by omega
   have HB:=L_ hb
   have HI:Hid (1≤i+1∧i+1≤q∧sb=Sq.least (i+1 - 1)∧sa+sb+1=Sq.least (i+1)):=L_ (by
    obtain ⟨h1,h2,h3,h4⟩:=hi.out
    refine ⟨by omega,by omega,by rw [Nat.add_sub_cancel];exact h4,by omega⟩)
   clear hb hi
   go_wp2_with fail
   go_roundw
   case rel=>exact ⟨i+1,sb,sa+sb+1,HI,rfl,by go_num,by go_num,Hk,Ik⟩
   case measure=>simp [RowKit.intOf];omega
  ·obtain ⟨h1,h2,h3,h4⟩:=hi.out
   obtain rfl:i=q:=by omega
   subst h4
   clear h1 h2 h3
   go_wp2_with fail
   exact HH.out _ Hk Ik
end
end Go.Proofs.YtfknjmoekbabcaaGreatDoor
namespace Go.Proofs.YtfknjmoekbabcaaGreatDoor
open Go.RowKit Go.Lib
open Sq (Tk Nd Mp LL)
section
variable {s:Nat} {c:Cq} {O:List Ky.En} {q0 g0 k:Nat} {L L':LL} {F:Asn} {w:World} {R:Ending→World→Prop}
structure zcl (c:Cq) (q0 g0 k:Nat):Prop where
 n:c.k.n≤3000
 g:g0+k≤240
 q:60≤q0
 room:30+Tb.most (q0+40*k) (g0+k)<c.k.n
theorem zcl.ok (h:zcl c q0 g0 k):(Sx.at s c O q0 g0 k).Ok:=Sx.at_ok h.n h.g h.q
theorem zcl.nf (h:zcl c q0 g0 k):¬ (Sx.at s c O q0 g0 k).full:=xah rfl h.room
theorem zcl.mono {k':Nat} (h:zcl c q0 g0 k) (hk:k'≤k):zcl c q0 g0 k':=⟨h.n,by have:=h.g;omega,h.q,by
 have:=zjg (q:=q0+40*k') (q':=q0+40*k) (g:=g0+k') (g':=g0+k) (by omega) (by omega)
 have:=h.room
 omega⟩
theorem zew (a b:Int) {e:Int} (hm:Hid (Sq.zdl L (a,b)=(e,L'))) (hr:Hid (zcl c q0 g0 (k+1))) (H:Sat (SqL (Sx.at s c O q0 g0 k) L*F) w) (h:∀ w',Sat (SqL (Sx.at s c O q0 g0 (k+1)) L'*F) w'→Io w w'→R (.returned (.int .i64 e)) w') :
  Calls Tryz.prog 13 #[.pointer (some ⟨s,0,none⟩),tkA a b] w R :=
 z4i (x:=Sx.at s c O q0 g0 k) a b (L_ (hr.out.mono (Nat.le_succ k)).ok) H fun o w' ho H' I=>by
  rw [Sx.z7f] at H'
  rw [hm.out] at ho
  have:=zlm ho.out hr.out.nf H'
  subst this
  rw [hm.out]
  exact h w' H' I
theorem zg6 (a1 b1 a2 b2:Int) {e:Int} (hm:Hid (Sq.zcw L (a1,b1) (a2,b2)=(e,L'))) (hc:Hid (L.flatten.length≤250)) (hr:Hid (zcl c q0 g0 k)) (H:Sat (SqL (Sx.at s c O q0 g0 k) L*F) w) (h:∀ w',Sat (SqL (Sx.at s c O q0 g0 k) L'*F) w'→Io w w'→R (.returned (.int .i64 e)) w') :
  Calls Tryz.prog 14 #[.pointer (some ⟨s,0,none⟩),tkA a1 b1,tkA a2 b2] w R :=
 z4j (x:=Sx.at s c O q0 g0 k) a1 b1 a2 b2 hc (L_ hr.out.ok) H fun o w' ho H' I=>by
  rw [hm.out] at ho
  have:=zlm ho.out hr.out.nf H'
  subst this
  rw [hm.out]
  exact h w' H' I
theorem zqz (a b:Int) {e:Int} (hm:Hid (Sq.zdw L (a,b) 0=(e,L'))) (hc:Hid (L.flatten.length≤250)) (hr:Hid (zcl c q0 g0 k)) (H:Sat (SqL (Sx.at s c O q0 g0 k) L*F) w) (h:∀ w',Sat (SqL (Sx.at s c O q0 g0 k) L'*F) w'→Io w w'→R (.returned (.int .i64 e)) w') :
  Calls Tryz.prog 15 #[.pointer (some ⟨s,0,none⟩),tkA a b] w R :=
 zyw (x:=Sx.at s c O q0 g0 k) a b hc (L_ hr.out.ok) H fun o w' ho H' I=>by
  rw [hm.out] at ho
  have:=zlm ho.out hr.out.nf H'
  subst this
  rw [hm.out]
  exact h w' H' I
theorem xaw (a b:Int) {e:Int} (hm:Hid (Sq.zdw L (a,b) 1=(e,L'))) (hc:Hid (L.flatten.length≤250)) (hr:Hid (zcl c q0 g0 k)) (H:Sat (SqL (Sx.at s c O q0 g0 k) L*F) w) (h:∀ w',Sat (SqL (Sx.at s c O q0 g0 k) L'*F) w'→Io w w'→R (.returned (.int .i64 e)) w') :
  Calls Tryz.prog 24 #[.pointer (some ⟨s,0,none⟩),tkA a b] w R :=
 xa2 (x:=Sx.at s c O q0 g0 k) a b hc (L_ hr.out.ok) H fun o w' ho H' I=>by
  rw [hm.out] at ho
  have:=zlm ho.out hr.out.nf H'
  subst this
  rw [hm.out]
  exact h w' H' I
theorem ztq (a b:Int) {e:Int} (hm:Hid (Sq.zft L (a,b)=(e,L'))) (hr:Hid (zcl c q0 g0 k)) (H:Sat (SqL (Sx.at s c O q0 g0 k) L*F) w) (h:∀ w',Sat (SqL (Sx.at s c O q0 g0 k) L'*F) w'→Io w w'→R (.returned (.int .i64 e)) w') :
  Calls Tryz.prog 25 #[.pointer (some ⟨s,0,none⟩),tkA a b] w R :=
 z4h (x:=Sx.at s c O q0 g0 k) a b (L_ hr.out.ok) (L_ hr.out.nf) H fun w' H' I=>by
  rw [hm.out] at H' ⊢
  exact h w' H' I
theorem zio (a b:Int) {e:Int} {l:List Tk} (hm:Hid (Sq.zcz L (a,b)=e∧Sq.lst L (a,b)=l)) (hc:Hid (L.flatten.length≤250)) (hr:Hid (zcl c q0 g0 k)) (H:Sat (SqL (Sx.at s c O q0 g0 k) L*F) w) (h:∀ v w',Sat (zar v l*(SqL (Sx.at s c O q0 g0 k) L*F)) w'→Io w w'→R (.returned (.tuple #[v,.int .i64 e])) w') :
  Calls Tryz.prog 17 #[.pointer (some ⟨s,0,none⟩),tkA a b] w R :=
 xfc (x:=Sx.at s c O q0 g0 k) a b hc (L_ hr.out.ok) H fun v w' H' I=>by
  rw [hm.out.2] at H'
  rw [hm.out.1]
  exact h v w' H' I
theorem xav (a b:Int) {e:Int} {n:Int} (hm:Hid (Sq.zcz L (a,b)=e∧((Sq.lst L (a,b)).length:Int)=n)) (hc:Hid (L.flatten.length≤250)) (hr:Hid (zcl c q0 g0 k)) (H:Sat (SqL (Sx.at s c O q0 g0 k) L*F) w) (h:∀ w',Sat (SqL (Sx.at s c O q0 g0 k) L*F) w'→Io w w'→R (.returned (.tuple #[.int .i64 n,.int .i64 e])) w') :
  Calls Tryz.prog 38 #[.pointer (some ⟨s,0,none⟩),tkA a b] w R :=
 xax (x:=Sx.at s c O q0 g0 k) a b hc (L_ hr.out.ok) H fun w' H' I=>by
  rw [hm.out.2,hm.out.1]
  exact h w' H' I
theorem xfa (a b:Int) {e:Int} {n:Int} (hm:Hid (Sq.zcz L (a,b)=e∧(if Sq.zcz L (a,b)=0 then (Sq.fj (Sq.rowOf L (a,b)) (a,b):Int) else 0)=n)) (hc:Hid (L.flatten.length≤250)) (hr:Hid (zcl c q0 g0 k)) (H:Sat (SqL (Sx.at s c O q0 g0 k) L*F) w) (h:∀ w',Sat (SqL (Sx.at s c O q0 g0 k) L*F) w'→Io w w'→R (.returned (.tuple #[.int .i64 n,.int .i64 e])) w') :
  Calls Tryz.prog 37 #[.pointer (some ⟨s,0,none⟩),tkA a b] w R :=
 xfb (x:=Sx.at s c O q0 g0 k) a b hc (L_ hr.out.ok) H fun w' H' I=>by
  rw [hm.out.2,hm.out.1]
  exact h w' H' I
theorem xh9 (a b i:Int) {e t1 t2:Int} (hm:Hid (atE L (a,b) i=e∧atT L (a,b) i=(t1,t2))) (hc:Hid (L.flatten.length≤250)) (hr:Hid (zcl c q0 g0 k)) (H:Sat (SqL (Sx.at s c O q0 g0 k) L*F) w) (h:∀ w',Sat (SqL (Sx.at s c O q0 g0 k) L*F) w'→Io w w'→R (.returned (.tuple #[tkA t1 t2,.int .i64 e])) w') :
  Calls Tryz.prog 39 #[.pointer (some ⟨s,0,none⟩),tkA a b,.int .i64 i] w R :=
 lq_at (x:=Sx.at s c O q0 g0 k) a b i hc (L_ hr.out.ok) H fun w' H' I=>by
  rw [hm.out.2,hm.out.1]
  exact h w' H' I
theorem z4d (a b:Int) {e:Int} (hm:Hid (Sq.zcz L (a,b)=e)) (hc:Hid (L.flatten.length≤250)) (hr:Hid (zcl c q0 g0 k)) (H:Sat (SqL (Sx.at s c O q0 g0 k) L*F) w)
  (h:∀ q w',Hid ((e≠0→q=0)∧(e=0→1≤q∧q≤(Sq.rowOf L (a,b)).length∧Sq.least q≤(Sq.rowOf L (a,b)).length))→Sat (SqL (Sx.at s c O q0 g0 k) L*F) w'→Io w w'→R (.returned (.tuple #[.int .i64 (q:Nat),.int .i64 e])) w') :
  Calls Tryz.prog 18 #[.pointer (some ⟨s,0,none⟩),tkA a b] w R :=
 z4e (x:=Sx.at s c O q0 g0 k) a b hc (L_ hr.out.ok) H fun q w' hq H' I=>by
  rw [hm.out] at hq ⊢
  exact h q w' hq H' I
end
namespace Sq
theorem ex_m1:zdl [] (1,1)=(0,[[(1,1)]]):=by decide +kernel
theorem ex_m2:zdl [[(1,1)]] (1,2)=(0,[[(1,1)],[(1,2)]]):=by decide +kernel
theorem ex_m3:zdl [[(1,1)],[(1,2)]] (2,2)=(0,[[(1,1)],[(1,2)],[(2,2)]]):=by decide +kernel
theorem ex_j1:zcw [[(1,1)],[(1,2)],[(2,2)]] (1,1) (1,2)=(0,[[(2,2)],[(1,1),(1,2)]]):=by decide +kernel
theorem ex_j2:zcw [[(2,2)],[(1,1),(1,2)]] (1,1) (2,2)=(0,[[(1,1),(1,2),(2,2)]]):=by decide +kernel
theorem ex_l1:zcz [[(1,1),(1,2),(2,2)]] (1,2)=0∧lst [[(1,1),(1,2),(2,2)]] (1,2)=[(1,1),(1,2),(2,2)]:=by decide +kernel
theorem ex_r1:zcz [[(1,1),(1,2),(2,2)]] (2,2)=0∧(if zcz [[(1,1),(1,2),(2,2)]] (2,2)=0 then (fj (rowOf [[(1,1),(1,2),(2,2)]] (2,2)) (2,2):Int) else 0)=2:=by decide +kernel
theorem ex_n1:zcz [[(1,1),(1,2),(2,2)]] (1,1)=0∧((lst [[(1,1),(1,2),(2,2)]] (1,1)).length:Int)=3:=by decide +kernel
theorem ex_t1:atE [[(1,1),(1,2),(2,2)]] (1,1) 1=0∧atT [[(1,1),(1,2),(2,2)]] (1,1) 1=(1,2):=by decide +kernel
theorem ex_c1:zdw [[(1,1),(1,2),(2,2)]] (1,2) 0=(0,[[(1,1)],[(1,2),(2,2)]]):=by decide +kernel
theorem ex_l2:zcz [[(1,1)],[(1,2),(2,2)]] (2,2)=0∧lst [[(1,1)],[(1,2),(2,2)]] (2,2)=[(1,2),(2,2)]:=by decide +kernel
theorem ex_m4:zdl [[(1,1)],[(1,2),(2,2)]] (1,1)=(180,[[(1,1)],[(1,2),(2,2)]]):=by decide +kernel
theorem ex_x1:zft [[(1,1)],[(1,2),(2,2)]] (1,2)=(1,[[(1,1)],[(1,2),(2,2)]]):=by decide +kernel
theorem ex_m5:zdl [[(1,1)],[(1,2),(2,2)]] (-1,0)=(30,[[(1,1)],[(1,2),(2,2)]]):=by decide +kernel
end Sq
theorem z2v {b:Nat} {t:TypeId} {a1 a2 b1 b2 c1 c2:Int} {G:Asn}:zp0 (pts b (.cells #[.int .i64 a1,.int .i64 a2,.int .i64 b1,.int .i64 b2,.int .i64 c1,.int .i64 c2] t (0,0))*G) (.slice (some ⟨b,0,none⟩) 3 3) [(a1,a2),(b1,b2),(c1,c2)]:=by
 refine ⟨some ⟨b,0,none⟩,3,rfl,by simp,.inr ⟨b,0,rfl,fun w hw j u hu=>?_⟩⟩
 have e:cellsOf zlh [(a1,a2),(b1,b2),(c1,c2)]=[.int .i64 a1,.int .i64 a2,.int .i64 b1,.int .i64 b2,.int .i64 c1,.int .i64 c2]:=rfl
 rw [e] at hu
 match j,hu with
 | 0,hu=>cases hu;exact Sat.read hw.left.at 0
 | 1,hu=>cases hu;exact Sat.read hw.left.at 1
 | 2,hu=>cases hu;exact Sat.read hw.left.at 2
 | 3,hu=>cases hu;exact Sat.read hw.left.at 3
 | 4,hu=>cases hu;exact Sat.read hw.left.at 4
 | 5,hu=>cases hu;exact Sat.read hw.left.at 5
theorem z2w {b:Nat} {t:TypeId} {a1 a2 b1 b2:Int} {G:Asn}:zp0 (pts b (.cells #[.int .i64 a1,.int .i64 a2,.int .i64 b1,.int .i64 b2] t (0,0))*G) (.slice (some ⟨b,0,none⟩) 2 2) [(a1,a2),(b1,b2)]:=by
 refine ⟨some ⟨b,0,none⟩,2,rfl,by simp,.inr ⟨b,0,rfl,fun w hw j u hu=>?_⟩⟩
 have e:cellsOf zlh [(a1,a2),(b1,b2)]=[.int .i64 a1,.int .i64 a2,.int .i64 b1,.int .i64 b2]:=rfl
 rw [e] at hu
 match j,hu with
 | 0,hu=>cases hu;exact Sat.read hw.left.at 0
 | 1,hu=>cases hu;exact Sat.read hw.left.at 1
 | 2,hu=>cases hu;exact Sat.read hw.left.at 2
 | 3,hu=>cases hu;exact Sat.read hw.left.at 3
section
variable {F:Asn} {w:World} {R:Ending→World→Prop}
theorem zdb {c:Cq} (hc:Hid (c.k.n=60)) {k:Nat} (hk:k≤5):Hid (zcl c 60 0 k):=L_ ⟨by have:=hc.out;omega,by omega,by omega,by
 have h1:Tb.most (60+40*k) (0+k)≤Tb.most (60+40*5) (0+5):=zjg (by omega) (by omega)
 have h2:30+Tb.most (60+40*5) (0+5)<60:=by decide +kernel
 have:=hc.out
 omega⟩
theorem zx1 {A B C:Asn} (H:Sat (A*(B*C)) w):Sat (B*(A*C)) w:=H.of_eq (by ac_rfl)
theorem zv2 {A G:Asn} {bc bb ba bt:Nat} {tt:TypeId} {v0 v1 v2 v3 v4 v5 v6 v7:Value} (H:Sat (A*(pts bc (.cells #[v0,v1] tt (0,0))*(pts bb (.cells #[v2,v3] tt (0,0))*(pts ba (.cells #[v4,v5] tt (0,0))*(pts bt (.cells #[v6,v7] tt (0,0))*G))))) w) :
  ((w.cell? ⟨bc,0,none⟩=some v0∧w.cell? ⟨bc,1,none⟩=some v1)∧(w.cell? ⟨bb,0,none⟩=some v2∧w.cell? ⟨bb,1,none⟩=some v3))∧((w.cell? ⟨ba,0,none⟩=some v4∧w.cell? ⟨ba,1,none⟩=some v5)∧(w.cell? ⟨bt,0,none⟩=some v6∧w.cell? ⟨bt,1,none⟩=some v7)) :=
 ⟨⟨tk2 H.right,tk2 H.right.right⟩,⟨tk2 H.right.right.right,tk2 H.right.right.right.right⟩⟩
theorem zij (H:Sat F w) (h:∀ w',Sat F w'→Io w w'→R (.returned (.bool true)) w'):Calls Tryz.prog 9 #[] w R:=by
 have HH:=L_ h
 clear h
 go_enter Tryz.func9,Tryz.ntmps9
 go_upto_region 4 with (first
  | (go_at_call 10;(with_reducible refine zjh (s:=60) (L_ (by decide)) (L_ (by decide)) H ?_);intro c w1 HC H1 I1)
  | (go_at_call 11;(refine zlp (c:=c) (O:=[]) (L_ ⟨by constructor<;>simp,by simp⟩) H1 ?_);intro s w2 H2 I2)
  | fail)
 have HC:Hid (c.k.n=60):=L_ HC.out
 rw [←Sx.zrp] at H2
 have II:=I1.trans I2
 clear H H1 I1 I2
 have H3:=zx1 (H2.new (.cells #[.int .i64 1,.int .i64 1] 29))
 have II:=io1 H3 II
 go_upto_region 5 with fail
 clear H2
 generalize w2.alloc _=w3 at *
 generalize w2.heap.size=ba at *
 have H4:=zx1 (H3.new (.cells #[.int .i64 1,.int .i64 2] 29))
 have II:=io1 H4 II
 go_upto_region 6 with fail
 clear H3
 generalize w3.alloc _=w4 at *
 generalize w3.heap.size=bb at *
 have H5:=zx1 (H4.new (.cells #[.int .i64 2,.int .i64 2] 29))
 have II:=io1 H5 II
 go_upto_region 7 with fail
 clear H4
 generalize w4.alloc _=w5 at *
 generalize w4.heap.size=bc at *
 obtain ⟨c0,c1⟩:=tk2 H5.right
 obtain ⟨b0,b1⟩:=tk2 H5.right.right
 obtain ⟨a0,a1⟩:=tk2 H5.right.right.right
 go_upto_region 8 with (go_at_call 13;(refine zew (k:=0) 1 1 (L_ Sq.ex_m1) (zdb HC (by decide)) H5 ?_);intro w6 H6 I6)
 have II:=II.trans I6
 clear a0 a1 b0 b1 c0 c1 H5 I6
 obtain ⟨c0,c1⟩:=tk2 H6.right
 obtain ⟨b0,b1⟩:=tk2 H6.right.right
 obtain ⟨a0,a1⟩:=tk2 H6.right.right.right
 go_upto_region 9 with (go_at_call 13;(refine zew (k:=1) 1 2 (L_ Sq.ex_m2) (zdb HC (by decide)) H6 ?_);intro w7 H7 I7)
 have II:=II.trans I7
 clear a0 a1 b0 b1 c0 c1 H6 I7
 obtain ⟨c0,c1⟩:=tk2 H7.right
 obtain ⟨b0,b1⟩:=tk2 H7.right.right
 obtain ⟨a0,a1⟩:=tk2 H7.right.right.right
 go_upto_region 10 with (go_at_call 13;(refine zew (k:=2) 2 2 (L_ Sq.ex_m3) (zdb HC (by decide)) H7 ?_);intro w8 H8 I8)
 have II:=II.trans I8
 clear a0 a1 b0 b1 c0 c1 H7 I8
 obtain ⟨c0,c1⟩:=tk2 H8.right
 obtain ⟨b0,b1⟩:=tk2 H8.right.right
 obtain ⟨a0,a1⟩:=tk2 H8.right.right.right
 go_upto_region 11 with (go_at_call 14;(refine zg6 (k:=3) 1 1 1 2 (L_ Sq.ex_j1) (L_ (by decide +kernel)) (zdb HC (by decide)) H8 ?_);intro w9 H9 I9)
 have II:=II.trans I9
 clear a0 a1 b0 b1 c0 c1 H8 I9
 obtain ⟨c0,c1⟩:=tk2 H9.right
 obtain ⟨b0,b1⟩:=tk2 H9.right.right
 obtain ⟨a0,a1⟩:=tk2 H9.right.right.right
 go_upto_region 12 with (go_at_call 14;(refine zg6 (k:=3) 1 1 2 2 (L_ Sq.ex_j2) (L_ (by decide +kernel)) (zdb HC (by decide)) H9 ?_);intro w10 H10 I10)
 have II:=II.trans I10
 clear a0 a1 b0 b1 c0 c1 H9 I10
 obtain ⟨c0,c1⟩:=tk2 H10.right
 obtain ⟨b0,b1⟩:=tk2 H10.right.right
 obtain ⟨a0,a1⟩:=tk2 H10.right.right.right
 go_upto_region 13 with (go_at_call 17;(refine zio (k:=3) 1 2 (L_ Sq.ex_l1) (L_ (by decide +kernel)) (zdb HC (by decide)) H10 ?_);intro v1 w11 H11 I11)
 have II:=II.trans I11
 clear a0 a1 b0 b1 c0 c1 H10 I11
 have H12:Sat (SqL (Sx.at s c [] 60 0 3) [[(1,1),(1,2),(2,2)]]*(pts bc (.cells #[.int .i64 2,.int .i64 2] 29 (0,0))*(pts bb (.cells #[.int .i64 1,.int .i64 2] 29 (0,0))*(pts ba (.cells #[.int .i64 1,.int .i64 1] 29 (0,0))*(zar v1 [(1,1),(1,2),(2,2)]*F))))) w11:=H11.of_eq (by unfold zar;ac_rfl)
 clear H11
 obtain ⟨c0,c1⟩:=tk2 H12.right
 obtain ⟨b0,b1⟩:=tk2 H12.right.right
 obtain ⟨a0,a1⟩:=tk2 H12.right.right.right
 go_upto_region 14 with (go_at_call 37;(refine xfa (k:=3) 2 2 (L_ Sq.ex_r1) (L_ (by decide +kernel)) (zdb HC (by decide)) H12 ?_);intro w13 H13 I13)
 have II:=II.trans I13
 clear a0 a1 b0 b1 c0 c1 H12 I13
 obtain ⟨c0,c1⟩:=tk2 H13.right
 obtain ⟨b0,b1⟩:=tk2 H13.right.right
 obtain ⟨a0,a1⟩:=tk2 H13.right.right.right
 go_upto_region 15 with (go_at_call 38;(refine xav (k:=3) 1 1 (L_ Sq.ex_n1) (L_ (by decide +kernel)) (zdb HC (by decide)) H13 ?_);intro w14 H14 I14)
 have II:=II.trans I14
 clear a0 a1 b0 b1 c0 c1 H13 I14
 obtain ⟨c0,c1⟩:=tk2 H14.right
 obtain ⟨b0,b1⟩:=tk2 H14.right.right
 obtain ⟨a0,a1⟩:=tk2 H14.right.right.right
 go_upto_region 16 with (go_at_call 39;(refine xh9 (k:=3) 1 1 1 (L_ Sq.ex_t1) (L_ (by decide +kernel)) (zdb HC (by decide)) H14 ?_);intro w15 H15 I15)
 have H16:=zx1 (H15.new (.cells #[.int .i64 1,.int .i64 2] 29))
 have II:=(II.trans I15).alloc (.cells #[.int .i64 1,.int .i64 2] 29)
 clear H15 a0 a1 b0 b1 c0 c1 H14 I15
 generalize w15.alloc _=w16 at *
 generalize w15.heap.size=bt at *
 have H17:Sat (SqL (Sx.at s c [] 60 0 3) [[(1,1),(1,2),(2,2)]]*(pts bc (.cells #[.int .i64 2,.int .i64 2] 29 (0,0))*(pts bb (.cells #[.int .i64 1,.int .i64 2] 29 (0,0))*(pts ba (.cells #[.int .i64 1,.int .i64 1] 29 (0,0))*(pts bt (.cells #[.int .i64 1,.int .i64 2] 29 (0,0))*(zar v1 [(1,1),(1,2),(2,2)]*F)))))) w16:=H16.of_eq (by unfold zar;ac_rfl)
 clear H16
 obtain ⟨c0,c1⟩:=tk2 H17.right
 obtain ⟨b0,b1⟩:=tk2 H17.right.right
 obtain ⟨a0,a1⟩:=tk2 H17.right.right.right
 go_upto_region 17 with (go_at_call 15;(refine zqz (k:=3) 1 2 (L_ Sq.ex_c1) (L_ (by decide +kernel)) (zdb HC (by decide)) H17 ?_);intro w18 H18 I18)
 have II:=II.trans I18
 clear a0 a1 b0 b1 c0 c1 H17 I18
 obtain ⟨c0,c1⟩:=tk2 H18.right
 obtain ⟨b0,b1⟩:=tk2 H18.right.right
 obtain ⟨a0,a1⟩:=tk2 H18.right.right.right
 go_upto_region 18 with (go_at_call 17;(refine zio (k:=3) 2 2 (L_ Sq.ex_l2) (L_ (by decide +kernel)) (zdb HC (by decide)) H18 ?_);intro v2 w19 H19 I19)
 have II:=II.trans I19
 clear a0 a1 b0 b1 c0 c1 H18 I19
 have H20:Sat (SqL (Sx.at s c [] 60 0 3) [[(1,1)],[(1,2),(2,2)]]*(pts bc (.cells #[.int .i64 2,.int .i64 2] 29 (0,0))*(pts bb (.cells #[.int .i64 1,.int .i64 2] 29 (0,0))*(pts ba (.cells #[.int .i64 1,.int .i64 1] 29 (0,0))*(pts bt (.cells #[.int .i64 1,.int .i64 2] 29 (0,0))*(zar v1 [(1,1),(1,2),(2,2)]*(zar v2 [(1,2),(2,2)]*F))))))) w19:=H19.of_eq (by unfold zar;ac_rfl)
 clear H19
 obtain ⟨c0,c1⟩:=tk2 H20.right
 obtain ⟨b0,b1⟩:=tk2 H20.right.right
 obtain ⟨a0,a1⟩:=tk2 H20.right.right.right
 have K1:=(H20.of_eq (show _=zar v1 [(1,1),(1,2),(2,2)]*(zar v2 [(1,2),(2,2)]*(SqL (Sx.at s c [] 60 0 3) [[(1,1)],[(1,2),(2,2)]]*(pts bc (.cells #[.int .i64 2,.int .i64 2] 29 (0,0))*(pts bb (.cells #[.int .i64 1,.int .i64 2] 29 (0,0))*(pts ba (.cells #[.int .i64 1,.int .i64 1] 29 (0,0))*(pts bt (.cells #[.int .i64 1,.int .i64 2] 29 (0,0))*F)))))) from by unfold zar;ac_rfl)).new (.cells #[.int .i64 1,.int .i64 1,.int .i64 1,.int .i64 2,.int .i64 2,.int .i64 2] 29)
 go_upto_region 19 with (go_at_call 19;(refine zdo (l:=[(1,1),(1,2),(2,2)]) (m:=[(1,1),(1,2),(2,2)]) (d:=true) ((Reads.zau K1.right (by decide)).with) z2v (L_ (by decide)) K1 ?_);intro w21 H21 I21)
 have JJ:=(II.alloc (.cells #[.int .i64 1,.int .i64 1,.int .i64 1,.int .i64 2,.int .i64 2,.int .i64 2] 29)).trans I21
 have H22:Sat (SqL (Sx.at s c [] 60 0 3) [[(1,1)],[(1,2),(2,2)]]*(pts bc (.cells #[.int .i64 2,.int .i64 2] 29 (0,0))*(pts bb (.cells #[.int .i64 1,.int .i64 2] 29 (0,0))*(pts ba (.cells #[.int .i64 1,.int .i64 1] 29 (0,0))*(pts bt (.cells #[.int .i64 1,.int .i64 2] 29 (0,0))*(zar v2 [(1,2),(2,2)]*(zar v1 [(1,1),(1,2),(2,2)]*(pts w19.heap.size (.cells #[.int .i64 1,.int .i64 1,.int .i64 1,.int .i64 2,.int .i64 2,.int .i64 2] 29 (0,0))*F)))))))) w21:=H21.of_eq (by unfold zar;ac_rfl)
 clear II a0 a1 b0 b1 c0 c1 H20 K1 H21 I21
 have K2:=(H22.of_eq (show _=zar v2 [(1,2),(2,2)]*(SqL (Sx.at s c [] 60 0 3) [[(1,1)],[(1,2),(2,2)]]*(pts bc (.cells #[.int .i64 2,.int .i64 2] 29 (0,0))*(pts bb (.cells #[.int .i64 1,.int .i64 2] 29 (0,0))*(pts ba (.cells #[.int .i64 1,.int .i64 1] 29 (0,0))*(pts bt (.cells #[.int .i64 1,.int .i64 2] 29 (0,0))*(zar v1 [(1,1),(1,2),(2,2)]*(pts w19.heap.size (.cells #[.int .i64 1,.int .i64 1,.int .i64 1,.int .i64 2,.int .i64 2,.int .i64 2] 29 (0,0))*F))))))) from by unfold zar;ac_rfl)).new (.cells #[.int .i64 1,.int .i64 2,.int .i64 2,.int .i64 2] 29)
 obtain ⟨⟨⟨c0,c1⟩,⟨b0,b1⟩⟩,⟨⟨a0,a1⟩,⟨t0,t1⟩⟩⟩:=zv2 H22
 have EQ:=fun W=>zci 1 2 1 2 W
 simp only [decide_true] at EQ
 go_wp2_with (first
  | (go_at_call 19;(refine zdo (l:=[(1,2),(2,2)]) (m:=[(1,2),(2,2)]) (d:=true) ((Reads.zau K2.right (by decide)).with) z2w (L_ (by decide)) K2 ?_);intro w23 H23 I23;have H24:Sat (SqL (Sx.at s c [] 60 0 3) [[(1,1)],[(1,2),(2,2)]]*(pts bc (.cells #[.int .i64 2,.int .i64 2] 29 (0,0))*(pts bb (.cells #[.int .i64 1,.int .i64 2] 29 (0,0))*(pts ba (.cells #[.int .i64 1,.int .i64 1] 29 (0,0))*(pts bt (.cells #[.int .i64 1,.int .i64 2] 29 (0,0))*(zar v2 [(1,2),(2,2)]*(zar v1 [(1,1),(1,2),(2,2)]*(pts w19.heap.size (.cells #[.int .i64 1,.int .i64 1,.int .i64 1,.int .i64 2,.int .i64 2,.int .i64 2] 29 (0,0))*(pts w21.heap.size (.cells #[.int .i64 1,.int .i64 2,.int .i64 2,.int .i64 2] 29 (0,0))*F))))))))) w23:=H23.of_eq (by unfold zar;ac_rfl);have Z:=zv2 H24;obtain ⟨⟨⟨c0,c1⟩,⟨b0,b1⟩⟩,⟨⟨a0,a1⟩,⟨t0,t1⟩⟩⟩:=Z)
  | (go_at_call 13;(with_reducible refine zew (k:=3) 1 1 (L_ Sq.ex_m4) (zdb HC (by decide)) H24 ?_);intro w25 H25 I25;have Z:=zv2 H25;obtain ⟨⟨⟨c0,c1⟩,⟨b0,b1⟩⟩,⟨⟨a0,a1⟩,⟨t0,t1⟩⟩⟩:=Z)
  | (go_at_call 25;(with_reducible refine ztq (k:=4) 1 2 (L_ Sq.ex_x1) (zdb HC (by decide)) H25 ?_);intro w26 H26 I26)
  | (go_at_call 13;(with_reducible refine zew (k:=4) (-1) 0 (L_ Sq.ex_m5) (zdb HC (by decide)) H26 ?_);intro w27 H27 I27)
  | fail)
 have HF:Sat F w27:=H27.right.right.right.right.right.right.right.right.right
 exact HH.out _ HF (((((JJ.alloc _).trans I23).trans I25).trans I26).trans I27)
end
end Go.Proofs.YtfknjmoekbabcaaGreatDoor
