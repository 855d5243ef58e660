/-
  A part of a proof. It proves no statement by itself.
-/
import Derived.Test.YtfknjmoekbabcaaGreatDoorC42
import Derived.Test.YtfknjmoekbabcaaGreatDoorEQrr
import Derived.Test.YtfknjmoekbabcaaGreatDoorEQta
import Derived.Deep.CutBlock
set_option linter.unusedSimpArgs false
set_option linter.unusedVariables false
set_option linter.unusedSectionVars false
set_option maxRecDepth 100000
set_option maxHeartbeats 64000000
namespace Go.Proofs.YtfknjmoekbabcaaGreatDoor
open Go.RowKit Go.Lib
open Sq (Tk Nd Mp LL)
namespace Sq
theorem z3x (L:LL) (k:Tk):(zdk L k).1≠2∧(zdk L k).1≠3:=by
 unfold zdk
 split
 ·simp
 ·split<;>simp
theorem xck (L:LL) (k:Tk):zcz L k≠2∧zcz L k≠3:=by
 unfold zcz
 split
 ·decide
 ·split<;>decide
theorem z8s (L:LL) (a b:Tk):(two L a b).2≠2∧(two L a b).2≠3:=by
 rw [zv2]
 split
 ·decide
 ·split<;>decide
theorem z4q (L:LL) (a b:Tk):(zcw L a b).1≠2∧(zcw L a b).1≠3:=by
 unfold zcw
 split
 ·exact z8s L a b
 ·split<;>simp
theorem xb1 (L:LL) (k:Tk) (n:Nat):(zdv L k n).1≠2∧(zdv L k n).1≠3:=by
 unfold zdv
 split
 ·exact xck L k
 ·split<;>simp
theorem xa1 {L:LL} {a b:Tk} (h:L.flatten.Nodup):(zcw L a b).2.flatten.length=L.flatten.length:=(zs6 h).length_eq
theorem xe9 {L:LL} {k:Tk} {n:Nat}:(zdv L k n).2.flatten.length=L.flatten.length:=zjb.length_eq
end Sq
def GS (s:Nat) (c:Cq) (k:Nat) (F:Asn) (w:World):Prop:=∃ j L,j≤k∧L.flatten.length≤j∧Sat (SqL (Sx.at s c [] 60 0 j) L*F) w
def BS (s:Nat) (c:Cq) (k:Nat) (F:Asn) (w:World):Prop:=∃ j e0,j≤k∧Sat (zca (Sx.at s c [] 60 0 j) e0*F) w
section
variable {s:Nat} {c:Cq} {k:Nat} {F:Asn} {w:World} {R:Ending→World→Prop}
theorem GS.new (H:GS s c k F w) (o:List Value) (t:TypeId):GS s c k (pts w.heap.size (.cells o.toArray t (0,0))*F) (w.alloc (.cells o.toArray t)):=by
 obtain ⟨j,L,h1,h2,H⟩:=H
 exact ⟨j,L,h1,h2,zai (H.new (.cells o.toArray t))⟩
theorem BS.new (H:BS s c k F w) (o:List Value) (t:TypeId):BS s c k (pts w.heap.size (.cells o.toArray t (0,0))*F) (w.alloc (.cells o.toArray t)):=by
 obtain ⟨j,e0,h1,H⟩:=H
 exact ⟨j,e0,h1,zai (H.new (.cells o.toArray t))⟩
theorem GS.right (H:GS s c k F w):Sat F w:=by obtain ⟨j,L,h1,h2,H⟩:=H;exact H.right
theorem BS.right (H:BS s c k F w):Sat F w:=by obtain ⟨j,e0,h1,H⟩:=H;exact H.right
theorem GS.drop {X:Asn} (H:GS s c k (X*F) w):GS s c k F w:=by obtain ⟨j,L,h1,h2,H⟩:=H;exact ⟨j,L,h1,h2,(zai H).right⟩
theorem BS.drop {X:Asn} (H:BS s c k (X*F) w):BS s c k F w:=by obtain ⟨j,e0,h1,H⟩:=H;exact ⟨j,e0,h1,(zai H).right⟩
theorem GS.mono {k':Nat} (h:k≤k') (H:GS s c k F w):GS s c k' F w:=by obtain ⟨j,L,h1,h2,H⟩:=H;exact ⟨j,L,by omega,h2,H⟩
theorem BS.mono {k':Nat} (h:k≤k') (H:BS s c k F w):BS s c k' F w:=by obtain ⟨j,e0,h1,H⟩:=H;exact ⟨j,e0,by omega,H⟩
theorem zyg {r e:Int} (H:Sat (zbl c r e*F) w) (hR:R (.returned (.int .i64 e)) w) :
  Calls Tryz.prog 12 #[.pointer (some ⟨c.tr,0,none⟩)] w R:=by
 have HH:=L_ hR
 have z:w.cell? ⟨c.tr,2,none⟩=some (.int .i64 e):=by
  unfold zbl at H
  exact Sat.read H.left.at 2
 clear hR H
 go_enter Tryz.func12,Tryz.ntmps12
 go_wp2_with fail
 exact HH.out
theorem gs_err (H:GS s c k F w) (hR:∀ w',GS s c k F w'→Io w w'→R (.returned (.int .i64 0)) w') :
  Calls Tryz.prog 12 #[.pointer (some ⟨c.tr,0,none⟩)] w R:=by
 have HG:=H
 obtain ⟨j,L,h1,h2,H⟩:=H
 obtain ⟨M,_,H⟩:=za7.1 H
 obtain ⟨es,_,K⟩:=zbt.1 H
 obtain ⟨r,P,_,_,K⟩:=zeq.1 K
 exact zyg (c:=c) (K.of_eq (show _=zbl c r 0*(zzd c.k P*(zeo (Sx.at s c [] 60 0 j) 0*F)) from by unfold zaq;show (zbl c r 0*zzd c.k P)*_=_;ac_rfl)) (hR w HG (Io.refl w))
theorem zjr (H:BS s c k F w) (hR:∀ w',BS s c k F w'→Io w w'→R (.returned (.int .i64 2)) w') :
  Calls Tryz.prog 12 #[.pointer (some ⟨c.tr,0,none⟩)] w R:=by
 have HG:=H
 obtain ⟨j,e0,h1,H⟩:=H
 obtain ⟨_,K⟩:=zhz.1 H
 unfold zid at K
 obtain ⟨r,K⟩:=zdm.1 K
 exact zyg (c:=c) K (hR w HG (Io.refl w))
def GOut (s:Nat) (c:Cq) (k:Nat) (F:Asn) (w:World) (e:Int):Prop:=(e≠2∧e≠3∧GS s c k F w)∨(e=2∧BS s c k F w)
theorem zw6 {j:Nat} {o:Option LL} {L':LL} {e:Int} (hj:j≤k) (he:e≠2∧e≠3) (hl:L'.flatten.length≤j) (ho:o=some L'∨o=none) (H:Sat (SqO (Sx.at s c [] 60 0 j) o*F) w):GOut s c k F w (xad o e):=by
 rcases ho with rfl | rfl
 ·exact .inl ⟨he.1,he.2,j,L',hj,hl,H⟩
 ·exact .inr ⟨rfl,j,2,hj,xe6 H⟩
theorem zpx {j:Nat} (hc:c.k.n≤3000) (hj:j≤120):(Sx.at s c [] 60 0 j).Ok:=Sx.at_ok hc (by omega) (by omega)
theorem z5e (a b:Int) (hk:k≤120) (hc:Hid (c.k.n≤3000)) (H:GS s c k F w) (h:∀ e w',Hid (GOut s c (k+1) F w' e)→Io w w'→R (.returned (.int .i64 e)) w') :
  Calls Tryz.prog 13 #[.pointer (some ⟨s,0,none⟩),tkA a b] w R:=by
 obtain ⟨j,L,h1,h2,H⟩:=H
 refine z4e (x:=Sx.at s c [] 60 0 j) a b (L_ (zpx hc.out (by omega))) H fun o w' ho H' I=>?_
 rw [Sx.z7b] at H'
 exact h _ w' (L_ (zw6 (by omega) (Sq.z3x _ _) (by have:=Sq.xaz (L:=L) (k:=(a,b));omega) ho.out H')) I
theorem xfj (a1 b1 a2 b2:Int) (hk:k≤120) (hc:Hid (c.k.n≤3000)) (H:GS s c k F w) (h:∀ e w',Hid (GOut s c (k+1) F w' e)→Io w w'→R (.returned (.int .i64 e)) w') :
  Calls Tryz.prog 14 #[.pointer (some ⟨s,0,none⟩),tkA a1 b1,tkA a2 b2] w R:=by
 obtain ⟨j,L,h1,h2,H⟩:=H
 have hn:L.flatten.Nodup:=by obtain ⟨M,hl,_⟩:=za7.1 H;exact hl.nodup
 exact z4f (x:=Sx.at s c [] 60 0 j) a1 b1 a2 b2 (L_ (by omega)) (L_ (zpx hc.out (by omega))) H fun o w' ho H' I =>
  h _ w' (L_ (zw6 (by omega) (Sq.z4q _ _ _) (by rw [Sq.xa1 hn];omega) ho.out H')) I
theorem xbg (a b:Int) (hk:k≤120) (hc:Hid (c.k.n≤3000)) (H:GS s c k F w) (h:∀ e w',Hid (GOut s c (k+1) F w' e)→Io w w'→R (.returned (.int .i64 e)) w') :
  Calls Tryz.prog 15 #[.pointer (some ⟨s,0,none⟩),tkA a b] w R:=by
 obtain ⟨j,L,h1,h2,H⟩:=H
 exact zyr (x:=Sx.at s c [] 60 0 j) a b (L_ (by omega)) (L_ (zpx hc.out (by omega))) H fun o w' ho H' I =>
  h _ w' (L_ (zw6 (by omega) (Sq.xb1 _ _ _) (by rw [Sq.xe9];omega) ho.out H')) I
theorem z6m (a b:Int) {e:Int} (he:Hid (e=if ¬ (Sq.OkT (a,b)) then 30 else 2)) (hk:k≤120) (hc:Hid (c.k.n≤3000)) (H:BS s c k F w) (h:∀ w',BS s c k F w'→Io w w'→R (.returned (.int .i64 e)) w') :
  Calls Tryz.prog 13 #[.pointer (some ⟨s,0,none⟩),tkA a b] w R:=by
 obtain ⟨j,e0,h1,H⟩:=H
 exact zzq (x:=Sx.at s c [] 60 0 j) a b he (L_ (zpx hc.out (by omega))) H fun w' H' I=>h w' ⟨j,0,h1,H'⟩ I
theorem xf6 (a1 b1 a2 b2:Int) {e:Int} (he:Hid (e=if ¬ (Sq.OkT (a1,b1)∧Sq.OkT (a2,b2)) then 30 else 2)) (hk:k≤120) (hc:Hid (c.k.n≤3000)) (H:BS s c k F w) (h:∀ w',BS s c k F w'→Io w w'→R (.returned (.int .i64 e)) w') :
  Calls Tryz.prog 14 #[.pointer (some ⟨s,0,none⟩),tkA a1 b1,tkA a2 b2] w R:=by
 obtain ⟨j,e0,h1,H⟩:=H
 exact zzu (x:=Sx.at s c [] 60 0 j) a1 b1 a2 b2 he (L_ (zpx hc.out (by omega))) H fun w' H' I=>h w' ⟨j,0,h1,H'⟩ I
theorem xcd (a b:Int) {e:Int} (he:Hid (e=if ¬ (Sq.OkT (a,b)) then 30 else 2)) (hk:k≤120) (hc:Hid (c.k.n≤3000)) (H:BS s c k F w) (h:∀ w',BS s c k F w'→Io w w'→R (.returned (.int .i64 e)) w') :
  Calls Tryz.prog 15 #[.pointer (some ⟨s,0,none⟩),tkA a b] w R:=by
 obtain ⟨j,e0,h1,H⟩:=H
 exact zv5 (x:=Sx.at s c [] 60 0 j) a b he (L_ (zpx hc.out (by omega))) H fun w' H' I=>h w' ⟨j,0,h1,H'⟩ I
def BOut (x0 e:Int) (d1 d2:Bool):Prop:=(0≤x0.tmod 4→d1=true→(x0.tmod 4=2→d2=true)→e=2)∧(e=0∨e=2∨e=30)
theorem xf7 {x0 e a b:Int} {d1 d2:Bool} (hd:d1=decide (Sq.OkT (a,b))) (he:e=if ¬ (Sq.OkT (a,b)) then 30 else 2):BOut x0 e d1 d2:=by
 refine ⟨fun _ h _=>?_,?_⟩
 ·rw [h] at hd
  rw [he,if_neg (not_not_intro (of_decide_eq_true hd.symm))]
 ·rcases xav he with h | h<;>omega
theorem bout2 {x0 e a1 b1 a2 b2:Int} {d1 d2:Bool} (hd1:d1=decide (Sq.OkT (a1,b1))) (hd2:d2=decide (Sq.OkT (a2,b2))) (hr:x0.tmod 4=2) (he:e=if ¬ (Sq.OkT (a1,b1)∧Sq.OkT (a2,b2)) then 30 else 2):BOut x0 e d1 d2:=by
 refine ⟨fun _ h h2=>?_,?_⟩
 ·rw [h] at hd1
  rw [h2 hr] at hd2
  rw [he,if_neg (not_not_intro ⟨of_decide_eq_true hd1.symm,of_decide_eq_true hd2.symm⟩)]
 ·rcases xe7 he with h | h<;>omega
theorem zyn (a b:Int) {d:Bool} (hd:Hid (d=decide (Sq.OkT (a,b)))) (H:GS s c k F w) (h:∀ w',GS s c k F w'→Io w w'→R (.returned (.bool d)) w') :
  Calls Tryz.prog 16 #[tkA a b] w R:=by
 obtain ⟨j,L,h1,h2,H⟩:=H
 exact zo1 a b hd H fun w' H' I=>h w' ⟨j,L,h1,h2,H'⟩ I
theorem zde (a b:Int) {d:Bool} (hd:Hid (d=decide (Sq.OkT (a,b)))) (H:BS s c k F w) (h:∀ w',BS s c k F w'→Io w w'→R (.returned (.bool d)) w') :
  Calls Tryz.prog 16 #[tkA a b] w R:=by
 obtain ⟨j,e0,h1,H⟩:=H
 exact zo1 a b hd H fun w' H' I=>h w' ⟨j,e0,h1,H'⟩ I
theorem zsk (n:Int) (hm:Hid (-9223372036854775808≤n)) {l:List zxv} {v:Value} (hv:Reads zko F v l) (H:Sat F w) (h:∀ w',Sat F w'→Io w w'→R (.returned (.bool true)) w') :
  Calls Tryz.prog 3 #[.int .i64 n,v] w R:=by
 have HH:=L_ h
 obtain ⟨a0,c0,rfl,hm'⟩:=zkk hv
 have HV:=L_ (fun k hk=>zkl hv k hk)
 clear h hv
 go_enter Tryz.func3,Tryz.ntmps3
 go_upto_region 4 with (first
  | (go_at_call 9;(with_reducible refine zii H ?_);intro w1 H1 I1)
  | fail)
 by_cases hl:(120:Int)<(l.length:Int)
 ·have FIN:=L_ (HH.out _ H1 I1)
  clear HV
  go_wp2_with fail
  exact FIN.out
 ·by_cases h6:(60:Int)<n
  ·have FIN:=L_ (HH.out _ H1 I1)
   clear HV
   go_wp2_with fail
   exact FIN.out
  ·have HL:Hid (l.length≤120):=L_ (by omega)
   have HN:Hid (n≤3000):=L_ (by omega)
   go_upto_region 8 with (first
    | (go_at_call 10;(with_reducible refine zjg HN hm H1 ?_);intro c w3 hn H3 I3;have HC:=L_ (show c.k.n≤3000 by have:=HN.out;have:=hn.out;omega);clear hn)
    | (go_at_call 11;(refine zlp (c:=c) (O:=[]) (L_ ⟨by constructor<;>simp,by simp⟩) H3 ?_);intro s w4 H4 I4)
    | fail)
   have J3:=(I1.trans I3).trans I4
   have S3:GS s c 0 F w4:=⟨0,[],by omega,by simp,by rw [Sx.zrn];exact H4⟩
   clear H H1 H3 H4 I1 I3 I4
   go_wp2_with fail
   go_loopw [8] (fun x wr=>∃ (k:Nat),k≤l.length∧x=.int .i64 (k:Int)∧Hid (GS s c k F wr∨BS s c k F wr)∧Io w wr) (fun x _=>l.length - (RowKit.intOf x).toNat)
   case atStart=>exact ⟨0,by omega,rfl,L_ (.inl S3),J3⟩
   case round =>
    obtain ⟨k,hk,rfl,Hk,Ik⟩:=hrel
    clear S3 J3
    by_cases hlt:k<l.length
    ·have zph:(k:Int)<(l.length:Int):=by omega
     have hk0:(0:Int)≤(k:Int):=by omega
     have HKL:Hid (k+1≤l.length):=L_ (by omega)
     have HGN:Hid (Value.int IntKind.i64 ((k:Int)+1)=Value.int IntKind.i64 ((k+1:Nat):Int)):=L_ (by go_num)
     have hkl:(k:Int)≤200:=by omega
     obtain ⟨b1,o1,x0,x1,x2,x3,x4,x5,rfl,hx,hc⟩:=HV.out k hlt
     have HK1:Hid (k≤120):=L_ (by have:=HL.out;omega)
     obtain ⟨d1,hd1⟩:∃ d1,d1=decide (Sq.OkT (x1,x2)):=⟨_,rfl⟩
     obtain ⟨d2,hd2⟩:∃ d2,d2=decide (Sq.OkT (x3,x4)):=⟨_,rfl⟩
     have HD1:=L_ hd1
     have HD2:=L_ hd2
     clear hd1 hd2 hx
     rcases Hk.out with Hk | Hk
     ·obtain ⟨g0,g1,g2,g3,g4,g5⟩:=hc _ Hk.right
      have H2:GS s c k (pts wr.heap.size (.cells #[.int .i64 x0,.int .i64 x1,.int .i64 x2,.int .i64 x3,.int .i64 x4,.int .i64 x5] 31 (0,0))*F) (wr.alloc (.cells #[.int .i64 x0,.int .i64 x1,.int .i64 x2,.int .i64 x3,.int .i64 x4,.int .i64 x5] 31)):=Hk.new [.int .i64 x0,.int .i64 x1,.int .i64 x2,.int .i64 x3,.int .i64 x4,.int .i64 x5] 31
      have I2:=Ik.alloc (.cells #[.int .i64 x0,.int .i64 x1,.int .i64 x2,.int .i64 x3,.int .i64 x4,.int .i64 x5] 31)
      clear hc
      go_upto_region 12 with fail
      generalize wr.alloc _=w2 at *
      generalize wr.heap.size=bz at *
      clear g0 g1 g2 g3 g4 g5 Hk Ik
      go_upto_region 13 with (go_at_call 12;(with_reducible refine gs_err H2 ?_);intro w3 H3 I3;have J3:=I2.trans I3)
      obtain ⟨y0,y1,y2,y3,y4,y5⟩:=zjw H3.right
      clear H2 I2 I3
      go_upto_block 2 with fail
      go_cut [11] from 42 to 63 (fun ve wc=>∃ e,ve=.int .i64 e∧Hid (GOut s c (k+1) (pts bz (.cells #[.int .i64 x0,.int .i64 x1,.int .i64 x2,.int .i64 x3,.int .i64 x4,.int .i64 x5] 31 (0,0))*F) wc e)∧Io w wc)
      case first =>
       by_cases r0:x0.tmod 4=0
       ·go_wp2_with (first | (go_at_call 13;(with_reducible refine z5e x1 x2 HK1.out HC H3 ?_);intro e w5 he H5) | fail)
        go_meet
        case rel=>exact ⟨e,rfl,he,J3.trans H5⟩
       ·by_cases r1:x0.tmod 4=1
        ·go_wp2_with (first | (go_at_call 13;(with_reducible refine z5e x1 x2 HK1.out HC H3 ?_);intro e w5 he H5) | fail)
         go_meet
         case rel=>exact ⟨e,rfl,he,J3.trans H5⟩
        ·by_cases r2:x0.tmod 4=2
         ·go_wp2_with (first | (go_at_call 14;(with_reducible refine xfj x1 x2 x3 x4 HK1.out HC H3 ?_);intro e w5 he H5) | fail)
          go_meet
          case rel=>exact ⟨e,rfl,he,J3.trans H5⟩
         ·by_cases r3:x0.tmod 4=3
          ·go_wp2_with (first | (go_at_call 15;(with_reducible refine xbg x1 x2 HK1.out HC H3 ?_);intro e w5 he H5) | fail)
           go_meet
           case rel=>exact ⟨e,rfl,he,J3.trans H5⟩
          ·go_wp2_with fail
           go_meet
           case rel=>exact ⟨0,rfl,L_ (.inl ⟨by decide,by decide,H3.mono (Nat.le_succ k)⟩),J3⟩
      case rest =>
       obtain ⟨e,rfl,he,Jc⟩:=hcut
       clear y0 y1 y2 y3 y4 y5 H3 J3
       rcases he.out with ⟨e2,e3,Hc⟩ | ⟨rfl,Hc⟩
       ·obtain ⟨y0,y1,y2,y3,y4,y5⟩:=zjw Hc.right
        have de2:decide (e=2)=false:=decide_eq_false e2
        have be2:(e == 2)=false:=by simpa using e2
        have de3:decide (e=3)=false:=decide_eq_false e3
        have be3:(e == 3)=false:=by simpa using e3
        cases d1 with
        | false =>
         go_upto_region 23 with (first | (go_at_call 16;(with_reducible refine zyn x1 x2 HD1 Hc ?_);intro w6 H6 I6;have Z6:=zjw H6.right;obtain ⟨z0,z1,z2,z3,z4,z5⟩:=Z6) | fail)
         clear y0 y1 y2 y3 y4 y5
         go_wp2_with fail
         go_roundw
         case rel=>exact ⟨k+1,HKL.out,HGN.out,L_ (.inl H6.drop),Jc.trans I6⟩
         case measure=>simp [RowKit.intOf];omega
        | true =>
         by_cases r2:x0.tmod 4=2
         ·go_upto_region 23 with (first | (go_at_call 16;(with_reducible refine zyn x1 x2 HD1 Hc ?_);intro w6 H6 I6;have Z6:=zjw H6.right;obtain ⟨z0,z1,z2,z3,z4,z5⟩:=Z6) | (go_at_call 16;(with_reducible refine zyn x3 x4 HD2 H6 ?_);intro w7 H7 I7;clear z0 z1 z2 z3 z4 z5;have Z7:=zjw H7.right;obtain ⟨z0,z1,z2,z3,z4,z5⟩:=Z7) | fail)
          clear y0 y1 y2 y3 y4 y5
          go_wp2_with fail
          go_roundw
          case rel=>exact ⟨k+1,HKL.out,HGN.out,L_ (.inl H7.drop),(Jc.trans I6).trans I7⟩
          case measure=>simp [RowKit.intOf];omega
         ·go_upto_region 23 with (first | (go_at_call 16;(with_reducible refine zyn x1 x2 HD1 Hc ?_);intro w6 H6 I6;have Z6:=zjw H6.right;obtain ⟨z0,z1,z2,z3,z4,z5⟩:=Z6) | fail)
          clear y0 y1 y2 y3 y4 y5
          go_wp2_with fail
          go_roundw
          case rel=>exact ⟨k+1,HKL.out,HGN.out,L_ (.inl H6.drop),Jc.trans I6⟩
          case measure=>simp [RowKit.intOf];omega
       ·obtain ⟨y0,y1,y2,y3,y4,y5⟩:=zjw Hc.right
        cases d1 with
        | false =>
         go_upto_region 23 with (first | (go_at_call 16;(with_reducible refine zde x1 x2 HD1 Hc ?_);intro w6 H6 I6;have Z6:=zjw H6.right;obtain ⟨z0,z1,z2,z3,z4,z5⟩:=Z6) | fail)
         clear y0 y1 y2 y3 y4 y5
         go_wp2_with (first | (go_at_call 12;(with_reducible refine zjr H6 ?_);intro w8 H8 I8) | fail)
         go_roundw
         case rel=>exact ⟨k+1,HKL.out,HGN.out,L_ (.inr (H8.drop)),(Jc.trans I6).trans I8⟩
         case measure=>simp [RowKit.intOf];omega
        | true =>
         by_cases r2:x0.tmod 4=2
         ·go_upto_region 23 with (first | (go_at_call 16;(with_reducible refine zde x1 x2 HD1 Hc ?_);intro w6 H6 I6;have Z6:=zjw H6.right;obtain ⟨z0,z1,z2,z3,z4,z5⟩:=Z6) | (go_at_call 16;(with_reducible refine zde x3 x4 HD2 H6 ?_);intro w7 H7 I7;clear z0 z1 z2 z3 z4 z5;have Z7:=zjw H7.right;obtain ⟨z0,z1,z2,z3,z4,z5⟩:=Z7) | fail)
          clear y0 y1 y2 y3 y4 y5
          go_wp2_with (first | (go_at_call 12;(with_reducible refine zjr H7 ?_);intro w8 H8 I8) | fail)
          go_roundw
          case rel=>exact ⟨k+1,HKL.out,HGN.out,L_ (.inr (H8.drop)),((Jc.trans I6).trans I7).trans I8⟩
          case measure=>simp [RowKit.intOf];omega
         ·go_upto_region 23 with (first | (go_at_call 16;(with_reducible refine zde x1 x2 HD1 Hc ?_);intro w6 H6 I6;have Z6:=zjw H6.right;obtain ⟨z0,z1,z2,z3,z4,z5⟩:=Z6) | fail)
          clear y0 y1 y2 y3 y4 y5
          go_wp2_with (first | (go_at_call 12;(with_reducible refine zjr H6 ?_);intro w8 H8 I8) | fail)
          go_roundw
          case rel=>exact ⟨k+1,HKL.out,HGN.out,L_ (.inr (H8.drop)),(Jc.trans I6).trans I8⟩
          case measure=>simp [RowKit.intOf];omega
     ·obtain ⟨g0,g1,g2,g3,g4,g5⟩:=hc _ Hk.right
      have H2:BS s c k (pts wr.heap.size (.cells #[.int .i64 x0,.int .i64 x1,.int .i64 x2,.int .i64 x3,.int .i64 x4,.int .i64 x5] 31 (0,0))*F) (wr.alloc (.cells #[.int .i64 x0,.int .i64 x1,.int .i64 x2,.int .i64 x3,.int .i64 x4,.int .i64 x5] 31)):=Hk.new [.int .i64 x0,.int .i64 x1,.int .i64 x2,.int .i64 x3,.int .i64 x4,.int .i64 x5] 31
      have I2:=Ik.alloc (.cells #[.int .i64 x0,.int .i64 x1,.int .i64 x2,.int .i64 x3,.int .i64 x4,.int .i64 x5] 31)
      clear hc
      go_upto_region 12 with fail
      generalize wr.alloc _=w2 at *
      generalize wr.heap.size=bz at *
      clear g0 g1 g2 g3 g4 g5 Hk Ik
      go_upto_region 13 with (go_at_call 12;(with_reducible refine zjr H2 ?_);intro w3 H3 I3;have J3:=I2.trans I3)
      obtain ⟨y0,y1,y2,y3,y4,y5⟩:=zjw H3.right
      clear H2 I2 I3
      go_upto_block 2 with fail
      go_cut [11] from 42 to 63 (fun ve wc=>∃ e,ve=.int .i64 e∧Hid (BOut x0 e d1 d2)∧BS s c k (pts bz (.cells #[.int .i64 x0,.int .i64 x1,.int .i64 x2,.int .i64 x3,.int .i64 x4,.int .i64 x5] 31 (0,0))*F) wc∧Io w wc)
      case first =>
       by_cases r0:x0.tmod 4=0
       ·obtain ⟨ev,hev⟩:∃ ev:Int,ev=if ¬ (Sq.OkT (x1,x2)) then 30 else 2:=⟨_,rfl⟩
        have HEV:=L_ hev
        clear hev
        go_wp2_with (first | (go_at_call 13;(with_reducible refine z6m x1 x2 HEV HK1.out HC H3 ?_);intro w5 H5 I5) | fail)
        go_meet
        case rel=>exact ⟨ev,rfl,L_ (xf7 HD1.out HEV.out),H5,J3.trans I5⟩
       ·by_cases r1:x0.tmod 4=1
        ·obtain ⟨ev,hev⟩:∃ ev:Int,ev=if ¬ (Sq.OkT (x1,x2)) then 30 else 2:=⟨_,rfl⟩
         have HEV:=L_ hev
         clear hev
         go_wp2_with (first | (go_at_call 13;(with_reducible refine z6m x1 x2 HEV HK1.out HC H3 ?_);intro w5 H5 I5) | fail)
         go_meet
         case rel=>exact ⟨ev,rfl,L_ (xf7 HD1.out HEV.out),H5,J3.trans I5⟩
        ·by_cases r2:x0.tmod 4=2
         ·obtain ⟨ev,hev⟩:∃ ev:Int,ev=if ¬ (Sq.OkT (x1,x2)∧Sq.OkT (x3,x4)) then 30 else 2:=⟨_,rfl⟩
          have HEV:=L_ hev
          clear hev
          go_wp2_with (first | (go_at_call 14;(with_reducible refine xf6 x1 x2 x3 x4 HEV HK1.out HC H3 ?_);intro w5 H5 I5) | fail)
          go_meet
          case rel=>exact ⟨ev,rfl,L_ (bout2 HD1.out HD2.out r2 HEV.out),H5,J3.trans I5⟩
         ·by_cases r3:x0.tmod 4=3
          ·obtain ⟨ev,hev⟩:∃ ev:Int,ev=if ¬ (Sq.OkT (x1,x2)) then 30 else 2:=⟨_,rfl⟩
           have HEV:=L_ hev
           clear hev
           go_wp2_with (first | (go_at_call 15;(with_reducible refine xcd x1 x2 HEV HK1.out HC H3 ?_);intro w5 H5 I5) | fail)
           go_meet
           case rel=>exact ⟨ev,rfl,L_ (xf7 HD1.out HEV.out),H5,J3.trans I5⟩
          ·have hneg:¬ 0≤x0.tmod 4:=by
            have:=Int.tmod_lt_of_pos x0 (show (0:Int)<4 by decide)
            omega
           go_wp2_with fail
           go_meet
           case rel=>exact ⟨0,rfl,L_ ⟨fun h=>by omega,.inl rfl⟩,H3,J3⟩
      case rest =>
       obtain ⟨e,rfl,he,Hc,Jc⟩:=hcut
       clear y0 y1 y2 y3 y4 y5 H3 J3
       obtain ⟨y0,y1,y2,y3,y4,y5⟩:=zjw Hc.right
       cases d1 with
       | false =>
        rcases he.out.2 with rfl | rfl | rfl
        ·go_upto_region 23 with (first | (go_at_call 16;(with_reducible refine zde x1 x2 HD1 Hc ?_);intro w6 H6 I6;have Z6:=zjw H6.right;obtain ⟨z0,z1,z2,z3,z4,z5⟩:=Z6) | fail)
         clear y0 y1 y2 y3 y4 y5
         go_wp2_with fail
         go_roundw
         case rel=>exact ⟨k+1,HKL.out,HGN.out,L_ (.inr ((H6.drop).mono (Nat.le_succ k))),Jc.trans I6⟩
         case measure=>simp [RowKit.intOf];omega
        ·go_upto_region 23 with (first | (go_at_call 16;(with_reducible refine zde x1 x2 HD1 Hc ?_);intro w6 H6 I6;have Z6:=zjw H6.right;obtain ⟨z0,z1,z2,z3,z4,z5⟩:=Z6) | fail)
         clear y0 y1 y2 y3 y4 y5
         go_wp2_with (first | (go_at_call 12;(with_reducible refine zjr H6 ?_);intro w8 H8 I8) | fail)
         go_roundw
         case rel=>exact ⟨k+1,HKL.out,HGN.out,L_ (.inr ((H8.drop).mono (Nat.le_succ k))),(Jc.trans I6).trans I8⟩
         case measure=>simp [RowKit.intOf];omega
        ·go_upto_region 23 with (first | (go_at_call 16;(with_reducible refine zde x1 x2 HD1 Hc ?_);intro w6 H6 I6;have Z6:=zjw H6.right;obtain ⟨z0,z1,z2,z3,z4,z5⟩:=Z6) | fail)
         clear y0 y1 y2 y3 y4 y5
         go_wp2_with fail
         go_roundw
         case rel=>exact ⟨k+1,HKL.out,HGN.out,L_ (.inr ((H6.drop).mono (Nat.le_succ k))),Jc.trans I6⟩
         case measure=>simp [RowKit.intOf];omega
       | true =>
        by_cases r2:x0.tmod 4=2
        ·cases d2 with
         | false =>
          rcases he.out.2 with rfl | rfl | rfl
          ·go_upto_region 23 with (first | (go_at_call 16;(with_reducible refine zde x1 x2 HD1 Hc ?_);intro w6 H6 I6;have Z6:=zjw H6.right;obtain ⟨z0,z1,z2,z3,z4,z5⟩:=Z6) | (go_at_call 16;(with_reducible refine zde x3 x4 HD2 H6 ?_);intro w7 H7 I7;clear z0 z1 z2 z3 z4 z5;have Z7:=zjw H7.right;obtain ⟨z0,z1,z2,z3,z4,z5⟩:=Z7) | fail)
           clear y0 y1 y2 y3 y4 y5
           go_wp2_with fail
           go_roundw
           case rel=>exact ⟨k+1,HKL.out,HGN.out,L_ (.inr ((H7.drop).mono (Nat.le_succ k))),(Jc.trans I6).trans I7⟩
           case measure=>simp [RowKit.intOf];omega
          ·go_upto_region 23 with (first | (go_at_call 16;(with_reducible refine zde x1 x2 HD1 Hc ?_);intro w6 H6 I6;have Z6:=zjw H6.right;obtain ⟨z0,z1,z2,z3,z4,z5⟩:=Z6) | (go_at_call 16;(with_reducible refine zde x3 x4 HD2 H6 ?_);intro w7 H7 I7;clear z0 z1 z2 z3 z4 z5;have Z7:=zjw H7.right;obtain ⟨z0,z1,z2,z3,z4,z5⟩:=Z7) | fail)
           clear y0 y1 y2 y3 y4 y5
           go_wp2_with (first | (go_at_call 12;(with_reducible refine zjr H7 ?_);intro w8 H8 I8) | fail)
           go_roundw
           case rel=>exact ⟨k+1,HKL.out,HGN.out,L_ (.inr ((H8.drop).mono (Nat.le_succ k))),((Jc.trans I6).trans I7).trans I8⟩
           case measure=>simp [RowKit.intOf];omega
          ·go_upto_region 23 with (first | (go_at_call 16;(with_reducible refine zde x1 x2 HD1 Hc ?_);intro w6 H6 I6;have Z6:=zjw H6.right;obtain ⟨z0,z1,z2,z3,z4,z5⟩:=Z6) | (go_at_call 16;(with_reducible refine zde x3 x4 HD2 H6 ?_);intro w7 H7 I7;clear z0 z1 z2 z3 z4 z5;have Z7:=zjw H7.right;obtain ⟨z0,z1,z2,z3,z4,z5⟩:=Z7) | fail)
           clear y0 y1 y2 y3 y4 y5
           go_wp2_with fail
           go_roundw
           case rel=>exact ⟨k+1,HKL.out,HGN.out,L_ (.inr ((H7.drop).mono (Nat.le_succ k))),(Jc.trans I6).trans I7⟩
           case measure=>simp [RowKit.intOf];omega
         | true =>
          obtain rfl:e=2:=he.out.1 (by omega) rfl (fun _=>rfl)
          go_upto_region 23 with (first | (go_at_call 16;(with_reducible refine zde x1 x2 HD1 Hc ?_);intro w6 H6 I6;have Z6:=zjw H6.right;obtain ⟨z0,z1,z2,z3,z4,z5⟩:=Z6) | (go_at_call 16;(with_reducible refine zde x3 x4 HD2 H6 ?_);intro w7 H7 I7;clear z0 z1 z2 z3 z4 z5;have Z7:=zjw H7.right;obtain ⟨z0,z1,z2,z3,z4,z5⟩:=Z7) | fail)
          clear y0 y1 y2 y3 y4 y5
          go_wp2_with (first | (go_at_call 12;(with_reducible refine zjr H7 ?_);intro w8 H8 I8) | fail)
          go_roundw
          case rel=>exact ⟨k+1,HKL.out,HGN.out,L_ (.inr ((H8.drop).mono (Nat.le_succ k))),((Jc.trans I6).trans I7).trans I8⟩
          case measure=>simp [RowKit.intOf];omega
        ·by_cases r4:0≤x0.tmod 4
         ·obtain rfl:e=2:=he.out.1 r4 rfl (fun h=>absurd h r2)
          go_upto_region 23 with (first | (go_at_call 16;(with_reducible refine zde x1 x2 HD1 Hc ?_);intro w6 H6 I6;have Z6:=zjw H6.right;obtain ⟨z0,z1,z2,z3,z4,z5⟩:=Z6) | fail)
          clear y0 y1 y2 y3 y4 y5
          go_wp2_with (first | (go_at_call 12;(with_reducible refine zjr H6 ?_);intro w8 H8 I8) | fail)
          go_roundw
          case rel=>exact ⟨k+1,HKL.out,HGN.out,L_ (.inr ((H8.drop).mono (Nat.le_succ k))),(Jc.trans I6).trans I8⟩
          case measure=>simp [RowKit.intOf];omega
         ·rcases he.out.2 with rfl | rfl | rfl
          ·go_upto_region 23 with (first | (go_at_call 16;(with_reducible refine zde x1 x2 HD1 Hc ?_);intro w6 H6 I6;have Z6:=zjw H6.right;obtain ⟨z0,z1,z2,z3,z4,z5⟩:=Z6) | fail)
           clear y0 y1 y2 y3 y4 y5
           go_wp2_with fail
           go_roundw
           case rel=>exact ⟨k+1,HKL.out,HGN.out,L_ (.inr ((H6.drop).mono (Nat.le_succ k))),Jc.trans I6⟩
           case measure=>simp [RowKit.intOf];omega
          ·go_upto_region 23 with (first | (go_at_call 16;(with_reducible refine zde x1 x2 HD1 Hc ?_);intro w6 H6 I6;have Z6:=zjw H6.right;obtain ⟨z0,z1,z2,z3,z4,z5⟩:=Z6) | fail)
           clear y0 y1 y2 y3 y4 y5
           go_wp2_with (first | (go_at_call 12;(with_reducible refine zjr H6 ?_);intro w8 H8 I8) | fail)
           go_roundw
           case rel=>exact ⟨k+1,HKL.out,HGN.out,L_ (.inr ((H8.drop).mono (Nat.le_succ k))),(Jc.trans I6).trans I8⟩
           case measure=>simp [RowKit.intOf];omega
          ·go_upto_region 23 with (first | (go_at_call 16;(with_reducible refine zde x1 x2 HD1 Hc ?_);intro w6 H6 I6;have Z6:=zjw H6.right;obtain ⟨z0,z1,z2,z3,z4,z5⟩:=Z6) | fail)
           clear y0 y1 y2 y3 y4 y5
           go_wp2_with fail
           go_roundw
           case rel=>exact ⟨k+1,HKL.out,HGN.out,L_ (.inr ((H6.drop).mono (Nat.le_succ k))),Jc.trans I6⟩
           case measure=>simp [RowKit.intOf];omega
    ·obtain rfl:k=l.length:=by omega
     have hge:¬ (l.length:Int)<(l.length:Int):=by omega
     have HF:Sat F wr:=by
      rcases Hk.out with h | h
      ·exact h.right
      ·exact h.right
     clear HV Hk
     go_wp2_with fail
     exact HH.out _ HF Ik
end
end Go.Proofs.YtfknjmoekbabcaaGreatDoor
