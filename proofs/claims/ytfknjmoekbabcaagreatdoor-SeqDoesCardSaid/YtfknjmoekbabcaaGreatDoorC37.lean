/-
  A part of a proof. It proves no statement by itself.
-/
import Derived.Test.YtfknjmoekbabcaaGreatDoorC35
import Derived.Test.YtfknjmoekbabcaaGreatDoorC36
import Derived.LoopN
import Derived.Test.YtfknjmoekbabcaaGreatDoorC27
set_option linter.unusedSimpArgs false
set_option linter.unusedVariables false
set_option linter.unusedSectionVars false
set_option maxRecDepth 100000
set_option maxHeartbeats 64000000
namespace Go.Proofs.YtfknjmoekbabcaaGreatDoor
open Go.RowKit Go.Lib
open Sq (Tk Nd Mp zca InT Fr)
namespace Sq
def okV (v:Int):Prop:=0≤v∧v<1048576
instance (v:Int):Decidable (okV v):=by unfold okV;exact inferInstance
def vE (v:Int):Int:=if okV v then 0 else 30
def zfw (M:Mp) (k:Tk):Int:=if ¬ OkT k then 30 else if M k=none then 181 else 0
def ze0 (M:Mp) (a b:Tk):Int:=if ¬ OkT a∨¬ OkT b then 30 else if M a=none∨M b=none then 181 else 0
end Sq
section
variable {x:Sx} {M:Mp} {F:Asn} {w:World} {R:Ending→World→Prop}
theorem zy1 (H:Sat (zav x (some M)*F) w):Sat (zav x (some M)*F) (w.setCell ⟨x.s,1,none⟩ (.int .i64 0)):=by
 obtain ⟨es,h,H⟩:=zbt.1 H
 exact zbt.2 ⟨es,h,zai ((zai H).cell 1 (.int .i64 0))⟩
theorem zc9 (v:Int) {e:Int} (he:Hid (e=Sq.vE v)) (h:R (.returned (.int .i64 e)) w):Calls Tryz.prog 76 #[.int .i64 v] w R:=by
 have he:=he.out
 unfold Sq.vE at he
 by_cases h0:v<0
 ·rw [if_neg (fun h=>by unfold Sq.okV at h;omega)] at he
  subst he
  have hd:decide (v<0)=true:=by simpa using h0
  go_enter Tryz.func76,Tryz.ntmps76
  go_wp2_with fail
  exact h
 ·have hd:decide (v<0)=false:=by simpa using h0
  by_cases h1:v<1048576
  ·rw [if_pos (show Sq.okV v from ⟨by omega,h1⟩)] at he
   subst he
   go_enter Tryz.func76,Tryz.ntmps76
   go_wp2_with fail
   exact h
  ·rw [if_neg (fun h=>h1 h.2)] at he
   subst he
   have h1':1048576≤v:=by omega
   go_enter Tryz.func76,Tryz.ntmps76
   go_wp2_with fail
   exact h
theorem zq7 {es O:List Ky.En} {q g:Nat} {c:Cq} {a b:Int} {key:ByteArray} {d:Bool} (hg:Hid (g≤240)) (rep:Hid (Sq.Rep es M O)) (ok:Hid (Sq.OkT (a,b))) (hk:Hid (Sq.kk (a,b)=key)) (hd:Hid (d=decide (M (a,b)≠none))) (H:Sat (ze1 c es q g*F) w)
  (hR:∀ val w',Sat (ze1 c es q g*F) w'→Io w w'→R (.returned (.tuple #[.string val,.bool d,.int .i64 0])) w'):Calls Tryz.prog 77 #[.pointer (some ⟨c.tr,0,none⟩),.string key] w R:=by
 obtain rfl:=hk.out
 have hd:=hd.out
 cases hm:M (a,b) with
 | none =>
  obtain rfl:d=false:=by rw [hd,hm];rfl
  exact zjo hg.out (L_ (.inr ⟨rfl,rfl,rep.out.get_none ok.out hm⟩)) H fun w' H' I=>hR _ w' H' I
 | some n =>
  obtain rfl:d=true:=by rw [hd,hm];rfl
  exact zjo hg.out (L_ (.inl ⟨rfl,rep.out.get hm⟩)) H fun w' H' I=>hR _ w' H' I
theorem zxu {A B:Asn} (H:Sat (A*(zav x (some M)*(B*F))) w):∃ es,Sq.Rep es M x.O∧Sat (A*(ze1 x.c es x.q x.g*(zeq x 0*(B*F)))) w:=by
 obtain ⟨es,h,K⟩:=zbt.1 (zai H)
 exact ⟨es,h,K.of_eq (by ac_rfl)⟩
theorem zro {A B:Asn} {es:List Ky.En} (h:Sq.Rep es M x.O) (H:Sat (A*(ze1 x.c es x.q x.g*(zeq x 0*(B*F)))) w):Sat (zav x (some M)*(B*F)) w :=
 zbt.2 ⟨es,h,H.right⟩
theorem zd4 {bl:Nat} {e:Int} (a1 b1:Int) (he:Hid (e=Sq.zfw M (a1,b1))) (hx:Hid x.Ok) (H:Sat (zav x (some M)*(pts bl (.cells #[.int .i64 a1,.int .i64 b1] 29 (0,0))*F)) w)
  (h:∀ w',Sat (zav x (some M)*(pts bl (.cells #[.int .i64 a1,.int .i64 b1] 29 (0,0))*F)) w'→Io w w'→R (.returned (.int .i64 e)) w') :
  Calls Tryz.prog 44 #[.pointer (some ⟨x.s,0,none⟩),.slice (some ⟨bl,0,none⟩) 1 1] w R:=by
 have HH:=L_ h
 have he':=he.out
 unfold Sq.zfw at he'
 have HE':=L_ he'
 clear he'
 have Z:=zeg H
 obtain ⟨⟨y0,y1⟩,f0,f1⟩:=Z
 have K1:=zy1 H
 have J1:=(Io.refl w).setCell ⟨x.s,1,none⟩ (.int .i64 0)
 clear h H
 go_enter Tryz.func44,Tryz.ntmps44
 go_upto_region 2 with fail
 clear y0 y1 f0 f1
 generalize w.setCell ⟨x.s,1,none⟩ (.int .i64 0)=w1 at *
 obtain ⟨r0,r1⟩:=tk2 K1.right
 go_wp2_with fail
 refine wp_loop_rounds 2 ?_
 rw [rounds_succ]
 have p1H:=K1.new (.cells #[.int .i64 a1,.int .i64 b1] 29)
 have p1J:=io1 p1H J1
 go_upto_region 5 with fail
 generalize World.alloc w1 (.cells #[.int .i64 a1,.int .i64 b1] 29)=p1w at *
 generalize w1.heap.size=p1b at *
 obtain ⟨p10,p11⟩:=tk2 p1H
 have p1K:=p1H.right
 clear r0 r1
 obtain ⟨r0,r1⟩:=tk2 p1K.right
 by_cases va1:Sq.okV a1
 ·have Va1:Hid ((0:Int)=Sq.vE a1):=L_ (by unfold Sq.vE;rw [if_pos va1])
  by_cases vb1:Sq.okV b1
  ·have Vb1:Hid ((0:Int)=Sq.vE b1):=L_ (by unfold Sq.vE;rw [if_pos vb1])
   go_wp2_with (first
    | (go_at_call 76;with_reducible refine zc9 a1 Va1 ?_)
    | (go_at_call 76;with_reducible refine zc9 b1 Vb1 ?_))
   clear p10 p11
   rw [rounds_succ]
   go_wp2_with fail
   refine wp_loop_rounds 2 ?_
   rw [rounds_succ]
   have p2H:=p1K.new (.cells #[.int .i64 a1,.int .i64 b1] 29)
   have p2J:=(p1J).alloc (.cells #[.int .i64 a1,.int .i64 b1] 29)
   go_upto_region 11 with fail
   generalize World.alloc p1w (.cells #[.int .i64 a1,.int .i64 b1] 29)=p2w at *
   generalize p1w.heap.size=p2b at *
   clear r0 r1
   have Ip21:Hid (zca a1):=L_ (Sq.OkT.inT (k:=(a1,b1)) ⟨va1,vb1⟩).1
   have Ip22:Hid (zca b1):=L_ (Sq.OkT.inT (k:=(a1,b1)) ⟨va1,vb1⟩).2
   obtain ⟨keyp2,hkp2⟩:∃ s,Sq.kk (a1,b1)=s:=⟨_,rfl⟩
   have HKp2:=L_ hkp2
   have OKp2:Hid (Sq.OkT (a1,b1)):=L_ ⟨va1,vb1⟩
   have HGp2:Hid (x.g≤240):=L_ hx.out.g
   obtain ⟨esp2,repp2,p2T⟩:=zxu p2H
   have RPp2:=L_ repp2
   obtain ⟨dp2,hdp2⟩:∃ d,d=decide (M (a1,b1)≠none):=⟨_,rfl⟩
   have HDp2:=L_ hdp2
   clear hkp2 repp2 hdp2
   have xdr:=p2T.drew
   have p2Jd:=p2J.drew
   have p2S0:=And.intro (tk2 xdr) (tk2 xdr.right.right).1
   go_region_held3 (fun W=>(W.cell? ⟨p2b,0,none⟩=some (.int .i64 a1)∧W.cell? ⟨p2b,1,none⟩=some (.int .i64 b1))∧(W.cell? ⟨x.s,0,none⟩=some (.pointer (some ⟨x.c.tr,0,none⟩)))) (with_reducible (first | exact p2S0 | exact p2S1 | exact p2S2)) (first
    | (go_at_call 60;(with_reducible refine ze3 a1 b1 Ip21 Ip22 HKp2 xdr ?_);intro p2w2 xdt p2I2;have p2S1:=And.intro (tk2 xdt) (tk2 xdt.right.right).1;have p2K2:=zai xdt)
    | (go_at_call 77;(with_reducible refine zq7 HGp2 RPp2 OKp2 HKp2 HDp2 p2K2 ?_);intro valp2 p2w3 p2X3 p2I3;have xds:=zai p2X3;have p2S2:=And.intro (tk2 xds) (tk2 xds.right.right).1))
   have p2Z:=zro RPp2.out xds
   have p2Q:=(p2Jd.trans p2I2).trans p2I3
   clear p2S0 p2S1 p2S2 xdt p2K2 p2X3 xds p2T xdr
   by_cases m1:M (a1,b1)=none
   ·obtain rfl:dp2=false:=by rw [HDp2.out,m1];rfl
    obtain rfl:e=181:=by rw [HE'.out,if_neg (not_not_intro ⟨va1,vb1⟩),if_pos (m1)]
    have FIN:=L_ (HH.out _ p2Z p2Q)
    go_wp2_with fail
    exact FIN.out
   ·obtain rfl:dp2=true:=by rw [HDp2.out];exact decide_eq_true m1
    obtain ⟨r0,r1⟩:=tk2 p2Z.right
    go_wp2_with fail
    have e9:e=0:=by
     rw [HE'.out,if_neg (not_not_intro ⟨va1,vb1⟩),if_neg (m1)]
    subst e9
    rw [rounds_succ]
    have FIN:=L_ (HH.out _ p2Z (p2Q))
    go_wp2_with fail
    exact FIN.out
  ·have Vb1:Hid ((30:Int)=Sq.vE b1):=L_ (by unfold Sq.vE;rw [if_neg vb1])
   obtain rfl:e=30:=by rw [HE'.out];exact if_pos (fun ok=>vb1 ok.2)
   have FIN:=L_ (HH.out _ p1K p1J)
   go_wp2_with (first
    | (go_at_call 76;with_reducible refine zc9 a1 Va1 ?_)
    | (go_at_call 76;with_reducible refine zc9 b1 Vb1 ?_))
   exact FIN.out
 ·have Va1:Hid ((30:Int)=Sq.vE a1):=L_ (by unfold Sq.vE;rw [if_neg va1])
  obtain rfl:e=30:=by rw [HE'.out];exact if_pos (fun ok=>va1 ok.1)
  have FIN:=L_ (HH.out _ p1K p1J)
  go_wp2_with (go_at_call 76;with_reducible refine zc9 a1 Va1 ?_)
  exact FIN.out
theorem zst {bl:Nat} {e:Int} (a1 b1 a2 b2:Int) (he:Hid (e=Sq.ze0 M (a1,b1) (a2,b2))) (hx:Hid x.Ok) (H:Sat (zav x (some M)*(pts bl (.cells #[.int .i64 a1,.int .i64 b1,.int .i64 a2,.int .i64 b2] 29 (0,0))*F)) w)
  (h:∀ w',Sat (zav x (some M)*(pts bl (.cells #[.int .i64 a1,.int .i64 b1,.int .i64 a2,.int .i64 b2] 29 (0,0))*F)) w'→Io w w'→R (.returned (.int .i64 e)) w') :
  Calls Tryz.prog 44 #[.pointer (some ⟨x.s,0,none⟩),.slice (some ⟨bl,0,none⟩) 2 2] w R:=by
 have HH:=L_ h
 have he':=he.out
 unfold Sq.ze0 at he'
 have HE':=L_ he'
 clear he'
 have Z:=zeg H
 obtain ⟨⟨y0,y1⟩,f0,f1⟩:=Z
 have K1:=zy1 H
 have J1:=(Io.refl w).setCell ⟨x.s,1,none⟩ (.int .i64 0)
 clear h H
 go_enter Tryz.func44,Tryz.ntmps44
 go_upto_region 2 with fail
 clear y0 y1 f0 f1
 generalize w.setCell ⟨x.s,1,none⟩ (.int .i64 0)=w1 at *
 obtain ⟨r0,r1,r2,r3⟩:=nd4 K1.right
 go_wp2_with fail
 refine wp_loop_rounds 3 ?_
 rw [rounds_succ]
 have p1H:=K1.new (.cells #[.int .i64 a1,.int .i64 b1] 29)
 have p1J:=io1 p1H J1
 go_upto_region 5 with fail
 generalize World.alloc w1 (.cells #[.int .i64 a1,.int .i64 b1] 29)=p1w at *
 generalize w1.heap.size=p1b at *
 obtain ⟨p10,p11⟩:=tk2 p1H
 have p1K:=p1H.right
 clear r0 r1 r2 r3
 obtain ⟨r0,r1,r2,r3⟩:=nd4 p1K.right
 by_cases va1:Sq.okV a1
 ·have Va1:Hid ((0:Int)=Sq.vE a1):=L_ (by unfold Sq.vE;rw [if_pos va1])
  by_cases vb1:Sq.okV b1
  ·have Vb1:Hid ((0:Int)=Sq.vE b1):=L_ (by unfold Sq.vE;rw [if_pos vb1])
   go_wp2_with (first
    | (go_at_call 76;with_reducible refine zc9 a1 Va1 ?_)
    | (go_at_call 76;with_reducible refine zc9 b1 Vb1 ?_))
   clear p10 p11
   rw [rounds_succ]
   have p2H:=p1K.new (.cells #[.int .i64 a2,.int .i64 b2] 29)
   have p2J:=(p1J).alloc (.cells #[.int .i64 a2,.int .i64 b2] 29)
   go_upto_region 5 with fail
   generalize World.alloc p1w (.cells #[.int .i64 a2,.int .i64 b2] 29)=p2w at *
   generalize p1w.heap.size=p2b at *
   obtain ⟨p20,p21⟩:=tk2 p2H
   have p2K:=p2H.right
   clear r0 r1 r2 r3
   obtain ⟨r0,r1,r2,r3⟩:=nd4 p2K.right
   by_cases va2:Sq.okV a2
   ·have Va2:Hid ((0:Int)=Sq.vE a2):=L_ (by unfold Sq.vE;rw [if_pos va2])
    by_cases vb2:Sq.okV b2
    ·have Vb2:Hid ((0:Int)=Sq.vE b2):=L_ (by unfold Sq.vE;rw [if_pos vb2])
     go_wp2_with (first
      | (go_at_call 76;with_reducible refine zc9 a2 Va2 ?_)
      | (go_at_call 76;with_reducible refine zc9 b2 Vb2 ?_))
     clear p20 p21
     rw [rounds_succ]
     go_wp2_with fail
     refine wp_loop_rounds 3 ?_
     rw [rounds_succ]
     have p3H:=p2K.new (.cells #[.int .i64 a1,.int .i64 b1] 29)
     have p3J:=(p2J).alloc (.cells #[.int .i64 a1,.int .i64 b1] 29)
     go_upto_region 11 with fail
     generalize World.alloc p2w (.cells #[.int .i64 a1,.int .i64 b1] 29)=p3w at *
     generalize p2w.heap.size=p3b at *
     clear r0 r1 r2 r3
     have Ip31:Hid (zca a1):=L_ (Sq.OkT.inT (k:=(a1,b1)) ⟨va1,vb1⟩).1
     have Ip32:Hid (zca b1):=L_ (Sq.OkT.inT (k:=(a1,b1)) ⟨va1,vb1⟩).2
     obtain ⟨keyp3,hkp3⟩:∃ s,Sq.kk (a1,b1)=s:=⟨_,rfl⟩
     have HKp3:=L_ hkp3
     have OKp3:Hid (Sq.OkT (a1,b1)):=L_ ⟨va1,vb1⟩
     have HGp3:Hid (x.g≤240):=L_ hx.out.g
     obtain ⟨esp3,repp3,p3T⟩:=zxu p3H
     have RPp3:=L_ repp3
     obtain ⟨dp3,hdp3⟩:∃ d,d=decide (M (a1,b1)≠none):=⟨_,rfl⟩
     have HDp3:=L_ hdp3
     clear hkp3 repp3 hdp3
     have xdo:=p3T.drew
     have p3Jd:=p3J.drew
     have p3S0:=And.intro (tk2 xdo) (tk2 xdo.right.right).1
     go_region_held3 (fun W=>(W.cell? ⟨p3b,0,none⟩=some (.int .i64 a1)∧W.cell? ⟨p3b,1,none⟩=some (.int .i64 b1))∧(W.cell? ⟨x.s,0,none⟩=some (.pointer (some ⟨x.c.tr,0,none⟩)))) (with_reducible (first | exact p3S0 | exact p3S1 | exact p3S2)) (first
      | (go_at_call 60;(with_reducible refine ze3 a1 b1 Ip31 Ip32 HKp3 xdo ?_);intro p3w2 xdq p3I2;have p3S1:=And.intro (tk2 xdq) (tk2 xdq.right.right).1;have p3K2:=zai xdq)
      | (go_at_call 77;(with_reducible refine zq7 HGp3 RPp3 OKp3 HKp3 HDp3 p3K2 ?_);intro valp3 p3w3 p3X3 p3I3;have xdp:=zai p3X3;have p3S2:=And.intro (tk2 xdp) (tk2 xdp.right.right).1))
     have p3Z:=zro RPp3.out xdp
     have p3Q:=(p3Jd.trans p3I2).trans p3I3
     clear p3S0 p3S1 p3S2 xdq p3K2 p3X3 xdp p3T xdo
     by_cases m1:M (a1,b1)=none
     ·obtain rfl:dp3=false:=by rw [HDp3.out,m1];rfl
      obtain rfl:e=181:=by rw [HE'.out,if_neg (by rintro (h | h);exact h ⟨va1,vb1⟩;exact h ⟨va2,vb2⟩),if_pos (.inl m1)]
      have FIN:=L_ (HH.out _ p3Z p3Q)
      go_wp2_with fail
      exact FIN.out
     ·obtain rfl:dp3=true:=by rw [HDp3.out];exact decide_eq_true m1
      obtain ⟨r0,r1,r2,r3⟩:=nd4 p3Z.right
      go_wp2_with fail
      rw [rounds_succ]
      have p4H:=p3Z.new (.cells #[.int .i64 a2,.int .i64 b2] 29)
      have p4J:=(p3Q).alloc (.cells #[.int .i64 a2,.int .i64 b2] 29)
      go_upto_region 11 with fail
      generalize World.alloc p3w3 (.cells #[.int .i64 a2,.int .i64 b2] 29)=p4w at *
      generalize p3w3.heap.size=p4b at *
      clear r0 r1 r2 r3
      have Ip41:Hid (zca a2):=L_ (Sq.OkT.inT (k:=(a2,b2)) ⟨va2,vb2⟩).1
      have Ip42:Hid (zca b2):=L_ (Sq.OkT.inT (k:=(a2,b2)) ⟨va2,vb2⟩).2
      obtain ⟨keyp4,hkp4⟩:∃ s,Sq.kk (a2,b2)=s:=⟨_,rfl⟩
      have HKp4:=L_ hkp4
      have OKp4:Hid (Sq.OkT (a2,b2)):=L_ ⟨va2,vb2⟩
      have HGp4:Hid (x.g≤240):=L_ hx.out.g
      obtain ⟨esp4,repp4,p4T⟩:=zxu p4H
      have RPp4:=L_ repp4
      obtain ⟨dp4,hdp4⟩:∃ d,d=decide (M (a2,b2)≠none):=⟨_,rfl⟩
      have HDp4:=L_ hdp4
      clear hkp4 repp4 hdp4
      have p4Kd:=p4T.drew
      have p4Jd:=p4J.drew
      have p4S0:=And.intro (tk2 p4Kd) (tk2 p4Kd.right.right).1
      go_region_held3 (fun W=>(W.cell? ⟨p4b,0,none⟩=some (.int .i64 a2)∧W.cell? ⟨p4b,1,none⟩=some (.int .i64 b2))∧(W.cell? ⟨x.s,0,none⟩=some (.pointer (some ⟨x.c.tr,0,none⟩)))) (with_reducible (first | exact p4S0 | exact p4S1 | exact p4S2)) (first
       | (go_at_call 60;(with_reducible refine ze3 a2 b2 Ip41 Ip42 HKp4 p4Kd ?_);intro p4w2 p4H2 p4I2;have p4S1:=And.intro (tk2 p4H2) (tk2 p4H2.right.right).1;have p4K2:=zai p4H2)
       | (go_at_call 77;(with_reducible refine zq7 HGp4 RPp4 OKp4 HKp4 HDp4 p4K2 ?_);intro valp4 p4w3 p4X3 p4I3;have p4H3:=zai p4X3;have p4S2:=And.intro (tk2 p4H3) (tk2 p4H3.right.right).1))
      have p4Z:=zro RPp4.out p4H3
      have p4Q:=(p4Jd.trans p4I2).trans p4I3
      clear p4S0 p4S1 p4S2 p4H2 p4K2 p4X3 p4H3 p4T p4Kd
      by_cases m2:M (a2,b2)=none
      ·obtain rfl:dp4=false:=by rw [HDp4.out,m2];rfl
       obtain rfl:e=181:=by rw [HE'.out,if_neg (by rintro (h | h);exact h ⟨va1,vb1⟩;exact h ⟨va2,vb2⟩),if_pos (.inr m2)]
       have FIN:=L_ (HH.out _ p4Z p4Q)
       go_wp2_with fail
       exact FIN.out
      ·obtain rfl:dp4=true:=by rw [HDp4.out];exact decide_eq_true m2
       obtain ⟨r0,r1,r2,r3⟩:=nd4 p4Z.right
       go_wp2_with fail
       have e9:e=0:=by
        rw [HE'.out,if_neg (by rintro (h | h);exact h ⟨va1,vb1⟩;exact h ⟨va2,vb2⟩),if_neg (by rintro (h | h);exact m1 h;exact m2 h)]
       subst e9
       rw [rounds_succ]
       have FIN:=L_ (HH.out _ p4Z (p4Q))
       go_wp2_with fail
       exact FIN.out
    ·have Vb2:Hid ((30:Int)=Sq.vE b2):=L_ (by unfold Sq.vE;rw [if_neg vb2])
     obtain rfl:e=30:=by rw [HE'.out];exact if_pos (.inr fun ok=>vb2 ok.2)
     have FIN:=L_ (HH.out _ p2K p2J)
     go_wp2_with (first
      | (go_at_call 76;with_reducible refine zc9 a2 Va2 ?_)
      | (go_at_call 76;with_reducible refine zc9 b2 Vb2 ?_))
     exact FIN.out
   ·have Va2:Hid ((30:Int)=Sq.vE a2):=L_ (by unfold Sq.vE;rw [if_neg va2])
    obtain rfl:e=30:=by rw [HE'.out];exact if_pos (.inr fun ok=>va2 ok.1)
    have FIN:=L_ (HH.out _ p2K p2J)
    go_wp2_with (go_at_call 76;with_reducible refine zc9 a2 Va2 ?_)
    exact FIN.out
  ·have Vb1:Hid ((30:Int)=Sq.vE b1):=L_ (by unfold Sq.vE;rw [if_neg vb1])
   obtain rfl:e=30:=by rw [HE'.out];exact if_pos (.inl fun ok=>vb1 ok.2)
   have FIN:=L_ (HH.out _ p1K p1J)
   go_wp2_with (first
    | (go_at_call 76;with_reducible refine zc9 a1 Va1 ?_)
    | (go_at_call 76;with_reducible refine zc9 b1 Vb1 ?_))
   exact FIN.out
 ·have Va1:Hid ((30:Int)=Sq.vE a1):=L_ (by unfold Sq.vE;rw [if_neg va1])
  obtain rfl:e=30:=by rw [HE'.out];exact if_pos (.inl fun ok=>va1 ok.1)
  have FIN:=L_ (HH.out _ p1K p1J)
  go_wp2_with (go_at_call 76;with_reducible refine zc9 a1 Va1 ?_)
  exact FIN.out
end
section
variable {x:Sx} {M:Mp} {F:Asn} {w:World} {R:Ending→World→Prop}
theorem z15 {m:Option Mp} (d:Nat) (H:Sat (zav x m*F) w):Sat (zav (x.grow d) m*F) w:=by
 cases m with
 | none=>exact z14 d H
 | some M =>
  obtain ⟨es,h,H⟩:=zbt.1 H
  exact zbt.2 ⟨es,h,ze1.mono (Nat.le_add_right _ _) (Nat.le_add_right _ _) H⟩
def MadeAt (M:Mp) (k:Tk) (e:Int) (m':Option Mp):Prop :=
 (e=30∧¬ Sq.OkT k∧m'=some M)∨(e=180∧Sq.OkT k∧M k≠none∧m'=some M)∨(Sq.OkT k∧M k=none∧e=zi3 m'∧∀ M',m'=some M'→Sq.zc8 M' (.node .nil k .nil) Sq.nob∧∀ y,y≠k→M' y=M y)
theorem zd6 (M:Mp) (k:Tk):(Sq.zfw M k=30∧¬ Sq.OkT k)∨(Sq.zfw M k=181∧Sq.OkT k∧M k=none)∨(Sq.zfw M k=0∧Sq.OkT k∧M k≠none):=by
 unfold Sq.zfw
 by_cases h1:Sq.OkT k
 ·rw [if_neg (not_not_intro h1)]
  by_cases h2:M k=none
  ·rw [if_pos h2];exact .inr (.inl ⟨rfl,h1,h2⟩)
  ·rw [if_neg h2];exact .inr (.inr ⟨rfl,h1,h2⟩)
 ·rw [if_pos h1];exact .inl ⟨rfl,h1⟩
theorem z2h {k:Tk} (ok:Sq.OkT k):zkf .nil .nil k:=⟨by simp [Sq.T.toks],fun y hy=>by simp only [Sq.T.toks,List.nil_append,List.mem_singleton] at hy;subst hy;exact ok,by simp [Sq.T.cnt]⟩
theorem zcf {A B:Asn} (H:Sat (A*(B*F)) w):Sat (A*F) w:=(zai H).right
theorem zzv (a b:Int) (hx:Hid x.Ok) (H:Sat (zav x (some M)*F) w) (h:∀ e m' w',Hid (MadeAt M (a,b) e m')→Sat (zav (x.grow 40) m'*F) w'→Io w w'→R (.returned (.int .i64 e)) w') :
  Calls Tryz.prog 13 #[.pointer (some ⟨x.s,0,none⟩),tkA a b] w R:=by
 have HH:=L_ h
 have H1:=zai (H.new (.cells #[.int .i64 a,.int .i64 b] 29))
 have I1:=io1 H1 (Io.refl w)
 have HE:Hid (Sq.zfw M (a,b)=Sq.zfw M (a,b)):=L_ rfl
 have K1:=zai (H1.new (.cells #[.int .i64 a,.int .i64 b] 29))
 have J1:=io1 K1 I1
 clear h H
 go_enter Tryz.func13,Tryz.ntmps13
 go_upto_region 1 with fail
 generalize w.alloc _=w1 at *
 generalize w.heap.size=bx at *
 obtain ⟨y0,y1⟩:=tk2 H1.right
 obtain ⟨e,he⟩:∃ e,e=Sq.zfw M (a,b):=⟨_,rfl⟩
 have HE2:=L_ he
 clear he
 go_upto_region 2 with (go_at_call 44;(with_reducible refine zd4 a b HE2 hx K1 ?_);intro w2 H2 I2;have K2:=zcf H2;have J2:=J1.trans I2)
 clear y0 y1 H1 I1 K1 J1 H2 I2 HE
 rcases zd6 M (a,b) with ⟨q1,q2⟩ | ⟨q1,q2,q3⟩ | ⟨q1,q2,q3⟩
 ·obtain rfl:e=30:=HE2.out.trans q1
  have FIN:=L_ (HH.out 30 (some M) w2 (L_ (.inl ⟨rfl,q2,rfl⟩)) (z15 40 (zcf K2)) J2)
  clear HE2 q1 q2
  go_wp2_with fail
  exact FIN.out
 ·obtain rfl:e=181:=HE2.out.trans q1
  have Q2:=L_ q2
  have Q3:=L_ q3
  have OK:Hid (zkf .nil .nil (a,b)):=L_ (z2h q2)
  have PR:Hid (zkr (some M) .nil .nil (a,b) 40):=L_ fun M' _=>⟨⟨(a,b),trivial⟩,⟨(a,b),trivial⟩,.inr rfl⟩
  have HL:Hid (((4294967295,4294967295):Tk)=Sq.T.nil.top):=L_ rfl
  clear HE2 q1 q2 q3
  go_upto_region 7 with fail
  have Kd:=K2.drew
  have Jd:=J2.drew
  have S0:=tk2 Kd.right
  clear K2 J2
  refine rh Kd (fun W Kd=>tk2 Kd.right) fun hHeld=>?_
  refine tk ?_ ?_ [0,1] ?_ hHeld ?_;rotate_left 2;exact tt
  refine rd [2] (rc fun K hK=>?_)
  go_simp
  go_at_call 46;(with_reducible refine zan Kd ?_);intro w3 H3 I3;have S1:=tk2 H3.right
  refine hK.out _ _ (by exact S1) fun hHeld=>?_
  clear hK K
  try simp only [sp]
  refine rd [3] (rc fun K hK=>?_)
  go_simp
  go_at_call 46;(with_reducible refine zan H3 ?_);intro w4 H4 I4;have S2:=tk2 H4.right
  refine hK.out _ _ (by exact S2) fun hHeld=>?_
  clear hK K
  try simp only [sp]
  refine rd [4] (rc fun K hK=>?_)
  go_simp
  go_at_call 45;(with_reducible refine zx7 .nil .nil a b 4294967295 4294967295 4294967295 4294967295 40 HL HL OK PR hx H4 ?_);intro m5 w5 hm H5 I5;have S3:=tk2 H5.right
  refine hK.out _ _ (by exact S3) fun hHeld=>?_
  clear hK K
  try simp only [sp]
  refine wpAnyH_done (by kernel_rfl) ?_ _
  have Y:w5.cell? ⟨x.s,0,none⟩=some (.pointer (some ⟨x.c.tr,0,none⟩))∧w5.cell? ⟨x.s,1,none⟩=some (.int .i64 (zi3 m5)):=(zeg H5).1
  obtain ⟨y0,y1⟩:=Y
  have FIN:=L_ (HH.out (zi3 m5) m5 w5 (L_ (.inr (.inr ⟨Q2.out,Q3.out,rfl,fun M' h=>by
   obtain ⟨M0,e0,h1,h2⟩:=hm.out M' h
   cases e0
   exact ⟨h1,fun y hy=>h2 y (by simpa [Sq.T.toks] using hy)⟩⟩))) (zcf H5) (((Jd.trans I3).trans I4).trans I5))
  go_wp2_with fail
  exact FIN.out
 ·obtain rfl:e=0:=HE2.out.trans q1
  have FIN:=L_ (HH.out 180 (some M) w2 (L_ (.inr (.inl ⟨rfl,q2,q3,rfl⟩))) (z15 40 (zcf K2)) J2)
  clear HE2 q1 q2 q3
  go_wp2_with fail
  exact FIN.out
theorem xhz (a b:Int) {d:Bool} {e9:Int} (hd:Hid (d=decide (M (a,b)≠none∧Sq.OkT (a,b)))) (he9:Hid (e9=if Sq.OkT (a,b) then 0 else 30)) (hx:Hid x.Ok) (H:Sat (zav x (some M)*F) w) (h:∀ w',Sat (zav x (some M)*F) w'→Io w w'→R (.returned (.tuple #[.bool d,.int .i64 e9])) w') :
  Calls Tryz.prog 62 #[.pointer (some ⟨x.s,0,none⟩),tkA a b] w R:=by
 have HH:=L_ h
 have H1:=zai (H.new (.cells #[.int .i64 a,.int .i64 b] 29))
 have I1:=io1 H1 (Io.refl w)
 have HE:Hid (Sq.zfw M (a,b)=Sq.zfw M (a,b)):=L_ rfl
 have K1:=zai (H1.new (.cells #[.int .i64 a,.int .i64 b] 29))
 have J1:=io1 K1 I1
 clear h H
 go_enter Tryz.func62,Tryz.ntmps62
 go_upto_region 1 with fail
 generalize w.alloc _=w1 at *
 generalize w.heap.size=bx at *
 obtain ⟨y0,y1⟩:=tk2 H1.right
 obtain ⟨e,he⟩:∃ e,e=Sq.zfw M (a,b):=⟨_,rfl⟩
 have HE2:=L_ he
 clear he
 go_upto_region 2 with (go_at_call 44;(with_reducible refine zd4 a b HE2 hx K1 ?_);intro w2 H2 I2;have K2:=zcf H2;have J2:=J1.trans I2)
 clear y0 y1 H1 I1 K1 J1 H2 I2 HE
 have FIN:=L_ (HH.out w2 (zcf K2) J2)
 rcases zd6 M (a,b) with ⟨q1,q2⟩ | ⟨q1,q2,q3⟩ | ⟨q1,q2,q3⟩
 ·obtain rfl:e=30:=HE2.out.trans q1
  obtain rfl:d=false:=by rw [hd.out];exact decide_eq_false fun h=>q2 h.2
  obtain rfl:e9=30:=by rw [he9.out,if_neg q2]
  clear HE2 q1 q2
  go_wp2_with fail
  first | exact FIN.out | exact bodyPost_ret (v:=.tuple #[.bool false,.int .i64 30]) (by simp [results,Tryz.results62,go_sem]) rfl FIN.out
 ·obtain rfl:e=181:=HE2.out.trans q1
  obtain rfl:d=false:=by rw [hd.out];exact decide_eq_false fun h=>h.1 q3
  obtain rfl:e9=0:=by rw [he9.out,if_pos q2]
  clear HE2 q1 q2 q3
  go_wp2_with fail
  first | exact FIN.out | exact bodyPost_ret (v:=.tuple #[.bool false,.int .i64 0]) (by simp [results,Tryz.results62,go_sem]) rfl FIN.out
 ·obtain rfl:e=0:=HE2.out.trans q1
  obtain rfl:d=true:=by rw [hd.out];exact decide_eq_true ⟨q3,q2⟩
  obtain rfl:e9=0:=by rw [he9.out,if_pos q2]
  clear HE2 q1 q2 q3
  go_wp2_with fail
  first | exact FIN.out | exact bodyPost_ret (v:=.tuple #[.bool true,.int .i64 0]) (by simp [results,Tryz.results62,go_sem]) rfl FIN.out
theorem zqj {b:Nat} {t:TypeId} {v0 v1 v2 v3 v4 v5 v6 v7:Value} (H:Sat (pts b (.cells #[v0,v1,v2,v3,v4,v5,v6,v7] t (0,0))*F) w):(w.cell? ⟨b,0,none⟩=some v0∧w.cell? ⟨b,1,none⟩=some v1)∧w.cell? ⟨b,6,none⟩=some v6:=by
 have a:=nd8 H
 exact ⟨⟨a.1,a.2.1⟩,a.2.2.2.2.2.2.1⟩
def xcs (M:Mp) (k:Tk) (e:Int) (M':Mp):Prop :=
 (e=Sq.zfw M k∧e≠0∧M'=M)∨(Sq.OkT k∧∃ n,M k=some n∧((e=1∧¬ (n.count=1∧n.up=Sq.nob)∧M'=M)∨(e=0∧n.count=1∧n.up=Sq.nob∧M'=Sq.del M k)))
theorem xb5 {es O:List Ky.En} {c:Cq} {q g:Nat} {a b:Int} {key:ByteArray} (rep:Hid (Sq.Rep es M O)) (ok:Hid (Sq.OkT (a,b))) (hm:Hid (M (a,b)≠none)) (hk:Hid (Sq.kk (a,b)=key)) (hx:Hid (c.k.n≤3000∧g≤240∧60≤q)) (room:Hid (30+(Tb.most q g:Int)<c.k.room)) (H:Sat (ze1 c es q g*F) w)
  (hR:∀ d w',Sat (ze1 c (Ky.del es key) q g*F) w'→Io w w'→R (.returned (.tuple #[.bool d,.int .i64 0])) w') :
  Calls Tryz.prog 59 #[.pointer (some ⟨c.tr,0,none⟩),.string key] w R:=by
 obtain rfl:=hk.out
 obtain ⟨h1,h2,h3⟩:=hx.out
 refine z6j h1 h2 h3 rep.out.right ((rep.out.has ok.out).2 hm.out) H fun d e w' D I=>?_
 rcases D with ⟨rfl,rfl,H'⟩ | ⟨rfl,h4,_⟩
 ·exact hR _ w' H' I
 ·have:=room.out;omega
theorem xdi {A B C:Asn} (H:Sat (A*(B*(C*F))) w):Sat (B*F) w:=(H.of_eq (show _=(A*C)*(B*F) from by ac_rfl)).right
theorem xer {A B:Asn} (H:Sat (A*(zav x (some M)*(B*F))) w):∃ es,Sq.Rep es M x.O∧Sat (B*(ze1 x.c es x.q x.g*(zeq x 0*F))) w:=by
 obtain ⟨es,h,K⟩:=zbt.1 H.right
 exact ⟨es,h,K.of_eq (by ac_rfl)⟩
theorem z9w {B:Asn} {es:List Ky.En} (h:Sq.Rep es M x.O) (H:Sat (B*(ze1 x.c es x.q x.g*(zeq x 0*F))) w):Sat (zav x (some M)*F) w:=zbt.2 ⟨es,h,H.right⟩
theorem z1z (a b:Int) (hx:Hid x.Ok) (room:Hid (30+(Tb.most x.q x.g:Int)<x.c.k.room)) (H:Sat (zav x (some M)*F) w) (h:∀ e M' w',Hid (xcs M (a,b) e M')→Sat (zav x (some M')*F) w'→Io w w'→R (.returned (.int .i64 e)) w') :
  Calls Tryz.prog 25 #[.pointer (some ⟨x.s,0,none⟩),tkA a b] w R:=by
 have HH:=L_ h
 have H1:=zai (H.new (.cells #[.int .i64 a,.int .i64 b] 29))
 have I1:=io1 H1 (Io.refl w)
 have HE:Hid (Sq.zfw M (a,b)=Sq.zfw M (a,b)):=L_ rfl
 have K1:=zai (H1.new (.cells #[.int .i64 a,.int .i64 b] 29))
 have J1:=io1 K1 I1
 clear h H
 go_enter Tryz.func25,Tryz.ntmps25
 go_upto_region 1 with fail
 generalize w.alloc _=w1 at *
 generalize w.heap.size=bx at *
 obtain ⟨y0,y1⟩:=tk2 H1.right
 obtain ⟨e,he⟩:∃ e,e=Sq.zfw M (a,b):=⟨_,rfl⟩
 have HE2:=L_ he
 clear he
 go_upto_region 2 with (go_at_call 44;(with_reducible refine zd4 a b HE2 hx K1 ?_);intro w2 H2 I2;have K2:=zcf H2;have J2:=J1.trans I2)
 clear y0 y1 H1 I1 K1 J1 H2 I2 HE
 rcases zd6 M (a,b) with ⟨q1,q2⟩ | ⟨q1,q2,q3⟩ | ⟨q1,q2,q3⟩
 ·obtain rfl:e=30:=HE2.out.trans q1
  have FIN:=L_ (HH.out 30 M w2 (L_ (.inl ⟨q1.symm,by decide,rfl⟩)) (zcf K2) J2)
  clear HE2 q1 q2
  go_wp2_with fail
  exact FIN.out
 ·obtain rfl:e=181:=HE2.out.trans q1
  have FIN:=L_ (HH.out 181 M w2 (L_ (.inl ⟨q1.symm,by decide,rfl⟩)) (zcf K2) J2)
  clear HE2 q1 q2 q3
  go_wp2_with fail
  exact FIN.out
 ·obtain rfl:e=0:=HE2.out.trans q1
  have OKT:=L_ q2
  have HNE:=L_ q3
  obtain ⟨n,hn⟩:=Option.ne_none_iff_exists'.1 q3
  obtain ⟨⟨u1,u2⟩,⟨p1,p2⟩,⟨q1',q2'⟩,ct,ht⟩:=n
  have HM:=L_ hn
  obtain ⟨y0,y1⟩:=tk2 K2.right
  clear HE2 q1 q2 q3 hn
  go_upto_region 5 with (go_at_call 58;(with_reducible refine zd2 a b HM hx K2 ?_);intro w3 H3 I3;have K3:=H3.new (.cells #[.int .i64 u1,.int .i64 u2,.int .i64 p1,.int .i64 p2,.int .i64 q1',.int .i64 q2',.int .i64 ct,.int .i64 ht] 85);have J3:=(J2.trans I3).alloc (.cells #[.int .i64 u1,.int .i64 u2,.int .i64 p1,.int .i64 p2,.int .i64 q1',.int .i64 q2',.int .i64 ct,.int .i64 ht] 85))
  clear y0 y1 K2 J2 H3 I3
  generalize w3.alloc _=w5 at *
  generalize w3.heap.size=bn at *
  obtain ⟨y0,y1⟩:=zb5 K3.right
  go_upto_region 7 with fail
  clear y0 y1
  have Kd:=K3.drew
  have Jd:=J3.drew
  have S0:=zqj Kd
  clear K3 J3
  by_cases c1:ct=1
  ·have b1:(ct != 1)=false:=by simpa using c1
   have EQ:=fun W=>zds u1 u2 4294967295 4294967295 W
   by_cases c2:((u1,u2):Tk)=Sq.nob
   ·rw [show decide ((u1,u2)=((4294967295:Int),(4294967295:Int)))=true from decide_eq_true c2] at EQ
    simp only [Bool.not_true] at EQ
    have HR0:Hid (xcs M (a,b) 0 (Sq.del M (a,b))):=L_ (.inr ⟨OKT.out,_,HM.out,.inr ⟨rfl,c1,c2,rfl⟩⟩)
    refine rh Kd (fun W Kd=>zqj Kd) fun hHeld=>?_
    refine tk ?_ ?_ [0,1,2,3,4,5] ?_ hHeld ?_;rotate_left 2;exact tt
    refine rd [6] (rc fun K hK=>?_)
    go_simp
    go_at_call 46;(with_reducible refine zan Kd ?_);intro w4 H4 I4;have S1:=zqj H4
    refine hK.out _ _ (by exact S1) fun hHeld=>?_
    clear hK K
    try simp only [sp]
    refine tk ?_ ?_ [7,8,9] ?_ hHeld ?_;rotate_left 2;exact tt
    refine wpAnyH_done (by kernel_rfl) ?_ _
    go_upto_region 9 with fail
    clear EQ S0 b1 c2
    obtain ⟨es,rep,K5⟩:=xer H4
    have RP:=L_ rep
    obtain ⟨key,hk⟩:∃ s,Sq.kk (a,b)=s:=⟨_,rfl⟩
    have HK:=L_ hk
    have IA:Hid (zca a):=L_ OKT.out.inT.1
    have IB:Hid (zca b):=L_ OKT.out.inT.2
    have HXX:Hid (x.c.k.n≤3000∧x.g≤240∧60≤x.q):=L_ ⟨hx.out.n,hx.out.g,hx.out.q⟩
    have J4:=Jd.trans I4
    clear rep hk H4 I4 Kd Jd
    have Ke:=K5.drew
    have Je:=J4.drew
    have S5:=And.intro (tk2 Ke) (tk2 Ke.right.right).1
    go_region_held3 (fun W=>(W.cell? ⟨bx,0,none⟩=some (.int .i64 a)∧W.cell? ⟨bx,1,none⟩=some (.int .i64 b))∧(W.cell? ⟨x.s,0,none⟩=some (.pointer (some ⟨x.c.tr,0,none⟩)))) (with_reducible (first | exact S5 | exact S6 | exact S7)) (first
     | (go_at_call 60;(with_reducible refine ze3 a b IA IB HK Ke ?_);intro w6 H6 I6;have S6:=And.intro (tk2 H6) (tk2 H6.right.right).1;have K6:=zai H6)
     | (go_at_call 59;(with_reducible refine xb5 RP OKT HNE HK HXX room K6 ?_);intro dd w7 X7 I7;have H7:=zai X7;have S7:=And.intro (tk2 H7) (tk2 H7.right.right).1))
    have FIN:=L_ (HH.out 0 (Sq.del M (a,b)) w7 HR0 (z9w (by have h9:=RP.out.del OKT.out;rw [HK.out] at h9;exact h9) H7) ((Je.trans I6).trans I7))
    go_wp2_with fail
    exact FIN.out
   ·rw [show decide ((u1,u2)=((4294967295:Int),(4294967295:Int)))=false from decide_eq_false c2] at EQ
    simp only [Bool.not_false] at EQ
    have HR0:Hid (xcs M (a,b) 1 M):=L_ (.inr ⟨OKT.out,_,HM.out,.inl ⟨rfl,fun h=>c2 h.2,rfl⟩⟩)
    refine wp_region_held_drew (S:=(fun W=>(W.cell? ⟨bn,0,none⟩=some (.int .i64 u1)∧W.cell? ⟨bn,1,none⟩=some (.int .i64 u2))∧W.cell? ⟨bn,6,none⟩=some (.int .i64 ct))) (by kernel_rfl) (by exact S0) (fun hHeld=>?_)
    refine tk ?_ ?_ [0,1,2,3,4,5] ?_ hHeld ?_;rotate_left 2;exact tt
    refine rd [6] (rc fun K hK=>?_)
    go_simp
    go_at_call 46;(with_reducible refine zan Kd ?_);intro w4 H4 I4;have S1:=zqj H4
    refine hK.out _ _ (by exact S1) fun hHeld=>?_
    clear hK K
    try simp only [sp]
    refine tk ?_ ?_ [7,8,9] ?_ hHeld ?_;rotate_left 2;exact tt
    refine wpAnyH_done (by kernel_rfl) ?_ _
    have FIN:=L_ (HH.out 1 M w4 HR0 (xdi H4) (Jd.trans I4))
    go_wp2_with fail
    exact FIN.out
  ·have b1:(ct != 1)=true:=by simpa using c1
   have HR0:Hid (xcs M (a,b) 1 M):=L_ (.inr ⟨OKT.out,_,HM.out,.inl ⟨rfl,fun h=>c1 h.1,rfl⟩⟩)
   refine wp_region_held_drew (S:=(fun W=>(W.cell? ⟨bn,0,none⟩=some (.int .i64 u1)∧W.cell? ⟨bn,1,none⟩=some (.int .i64 u2))∧W.cell? ⟨bn,6,none⟩=some (.int .i64 ct))) (by kernel_rfl) (by exact S0) (fun hHeld=>?_)
   refine tk ?_ ?_ [0,1,2,3,4,5,6,7,8,9] ?_ hHeld ?_;rotate_left 2;exact tt
   refine wpAnyH_done (by kernel_rfl) ?_ _
   have FIN:=L_ (HH.out 1 M _ HR0 (xdi Kd) Jd)
   go_wp2_with fail
   exact FIN.out
end
end Go.Proofs.YtfknjmoekbabcaaGreatDoor
namespace Go.Proofs.YtfknjmoekbabcaaGreatDoor
open Go.RowKit Go.Lib
open Sq (Tk Nd Mp zca InT Fr)
open Sq.Z (Step)
abbrev zv0 (x:Sx) (M:Mp) (gy:Nat) (cy:Array Value) (way:List Step) (J:Nat→Asn):Prop :=
 ∀ {F:Asn} {w:World} {R:Ending→World→Prop} (i:Nat) (s:Step),way[i]?=some s→Sat (zav x (some M)*(J i*F)) w →
  (∀ w',Sat (zav x (some M)*(J (i+1)*F)) w'→Io w w'→R (.returned (.tuple #[])) w') →
  Calls Tryz.prog gy (#[tkA s.k.1 s.k.2,ndA s.n.up.1 s.n.up.2 s.n.left.1 s.n.left.2 s.n.right.1 s.n.right.2 s.n.count s.n.height,tkA s.fr.1 s.fr.2]++cy) w R
structure zry (M:Mp) (way:List Step):Prop where
 len:way.length≤255
 here:∀ s∈way,M s.k=some s.n∧Sq.OkT s.k
 chain:Sq.Z.Chain way Sq.nob
theorem z8s {M:Mp} {way:List Step} (h:zry M way) {i:Nat} {s:Step} (hs:way[i]?=some s):(s.n.up=Sq.nob∧i+1=way.length)∨(s.n.up≠Sq.nob∧∃ s',way[i+1]?=some s'∧s'.k=s.n.up∧s'.fr=s.k):=by
 obtain ⟨hi,e⟩:=List.getElem?_eq_some_iff.1 hs
 by_cases c:i+1<way.length
 ·right
  obtain ⟨h1,h2⟩:=Sq.Z.zpv h.chain c
  rw [e] at h1 h2
  refine ⟨?_,way[i+1],List.getElem?_eq_getElem c,h1.symm,h2⟩
  rw [h1]
  exact (h.here _ (List.getElem_mem c)).2.ne
 ·left
  have:=Sq.Z.zpw h.chain (i:=i) (by omega)
  rw [e] at this
  exact ⟨this,by omega⟩
theorem zp3 {M:Mp} {way:List Step} (h:zry M way) {i:Nat} {s:Step} (hs:way[i]?=some s):M s.k=some s.n∧Sq.OkT s.k∧i<way.length:=by
 obtain ⟨hi,e⟩:=List.getElem?_eq_some_iff.1 hs
 have:=h.here s (e ▸ List.getElem_mem hi)
 exact ⟨this.1,this.2,hi⟩
section
variable {x:Sx} {M:Mp} {F:Asn} {w:World} {R:Ending→World→Prop} {gy:Nat} {cy:Array Value} {way:List Step} {J:Nat→Asn}
theorem cl_in {A B C D:Asn} (H:Sat (A*(B*(C*(D*F)))) w):Sat (B*(D*(C*(A*F)))) w:=H.of_eq (by ac_rfl)
theorem zgn {A B:Asn} {b4 b6 b7 bn:Nat} {t4 t6 t7 tn:TypeId} {x0 x1 z0 z1 f0 f1 y0 y1 y2 y3 y4 y5 y6 y7:Value} (H:Sat (pts bn (.cells #[y0,y1,y2,y3,y4,y5,y6,y7] tn (0,0))*(A*(B*(pts b7 (.cells #[f0,f1] t7 (0,0))*(pts b6 (.cells #[z0,z1] t6 (0,0))*(pts b4 (.cells #[x0,x1] t4 (0,0))*F)))))) w) :
  (w.cell? ⟨b4,0,none⟩=some x0∧w.cell? ⟨b4,1,none⟩=some x1)∧(w.cell? ⟨bn,0,none⟩=some y0∧w.cell? ⟨bn,1,none⟩=some y1) :=
 ⟨tk2 H.right.right.right.right.right,⟨(nd8 H).1,(nd8 H).2.1⟩⟩
theorem xf7 {N A B:Asn} {b4 b6 b7:Nat} {t4 t6 t7:TypeId} {x0 x1 z0 z1 f0 f1:Value} (k0 k1 u0 u1:Value) (H:Sat (N*(A*(B*(pts b7 (.cells #[f0,f1] t7 (0,0))*(pts b6 (.cells #[z0,z1] t6 (0,0))*(pts b4 (.cells #[x0,x1] t4 (0,0))*F)))))) w) :
  Sat (N*(A*(B*(pts b7 (.cells #[k0,k1] t7 (0,0))*(pts b6 (.cells #[z0,z1] t6 (0,0))*(pts b4 (.cells #[x0,x1] t4 (0,0))*F)))))) ((w.setCell ⟨b7,0,none⟩ k0).setCell ⟨b7,1,none⟩ k1) ∧
  Sat (N*(A*(B*(pts b7 (.cells #[k0,k1] t7 (0,0))*(pts b6 (.cells #[z0,z1] t6 (0,0))*(pts b4 (.cells #[u0,u1] t4 (0,0))*F)))))) ((((w.setCell ⟨b7,0,none⟩ k0).setCell ⟨b7,1,none⟩ k1).setCell ⟨b4,0,none⟩ u0).setCell ⟨b4,1,none⟩ u1):=by
 have h1:=zc2 k0 k1 (H.of_eq (show _=pts b7 (.cells #[f0,f1] t7 (0,0))*(N*(A*(B*(pts b6 (.cells #[z0,z1] t6 (0,0))*(pts b4 (.cells #[x0,x1] t4 (0,0))*F))))) from by ac_rfl))
 have h2:=zc2 u0 u1 (h1.of_eq (show _=pts b4 (.cells #[x0,x1] t4 (0,0))*(pts b7 (.cells #[k0,k1] t7 (0,0))*(N*(A*(B*(pts b6 (.cells #[z0,z1] t6 (0,0))*F))))) from by ac_rfl))
 exact ⟨h1.of_eq (by ac_rfl),h2.of_eq (by ac_rfl)⟩
theorem cl_res {N A B:Asn} {b4 b6 b7:Nat} {t4 t6 t7:TypeId} {x0 x1 z0 z1 f0 f1:Value} (k0 k1:Value) (H:Sat (N*(A*(B*(pts b7 (.cells #[f0,f1] t7 (0,0))*(pts b6 (.cells #[z0,z1] t6 (0,0))*(pts b4 (.cells #[x0,x1] t4 (0,0))*F)))))) w) :
  Sat (pts b6 (.cells #[k0,k1] t6 (0,0))*(A*(B*F))) ((w.setCell ⟨b6,0,none⟩ k0).setCell ⟨b6,1,none⟩ k1):=by
 have h1:=zc2 k0 k1 (H.of_eq (show _=pts b6 (.cells #[z0,z1] t6 (0,0))*((N*(pts b7 (.cells #[f0,f1] t7 (0,0))*pts b4 (.cells #[x0,x1] t4 (0,0))))*(A*(B*F))) from by ac_rfl))
 exact (h1.of_eq (show _=(N*(pts b7 (.cells #[f0,f1] t7 (0,0))*pts b4 (.cells #[x0,x1] t4 (0,0))))*(pts b6 (.cells #[k0,k1] t6 (0,0))*(A*(B*F))) from by ac_rfl)).right
theorem xf8 {N A B C:Asn} (H:Sat (N*(A*(B*(C*F)))) w):Sat (A*(B*(N*(C*F)))) w:=H.of_eq (by ac_rfl)
theorem xf9 {N A B C:Asn} (H:Sat (A*(B*(N*(C*F)))) w):Sat (N*(A*(B*(C*F)))) w:=H.of_eq (by ac_rfl)
theorem zj1 (eg:∀ args w,(callFunc gy args).run Tryz.prog w=.ok (.enter gy args) w) (hy:zv0 x M gy cy way J) (hw:Hid (zry M way)) (s0:Step) (h0:Hid (way[0]?=some s0∧s0.fr=Sq.nob)) (k1 k2:Int) (hk:Hid (s0.k=(k1,k2))) (hx:Hid x.Ok) (H:Sat (zav x (some M)*(J 0*F)) w)
  (h:∀ r1 r2 w',Hid (∃ s,way[way.length - 1]?=some s∧s.k=(r1,r2))→Sat (zav x (some M)*(J way.length*F)) w'→Io w w'→R (.returned (tkA r1 r2)) w') :
  Calls Tryz.prog 70 #[.pointer (some ⟨x.s,0,none⟩),tkA k1 k2,.func (.func gy) #[] cy] w R:=by
 have HH:=L_ h
 have HY:Hid (zv0 x M gy cy way J):=L_ hy
 have H1:=cl_in (((H.new (.cells #[.int .i64 k1,.int .i64 k2] 29)).new (.cells #[.int .i64 0,.int .i64 0] 29)).of_eq (show _=pts (w.alloc (.cells #[.int .i64 k1,.int .i64 k2] 29)).heap.size (.cells #[.int .i64 0,.int .i64 0] 29)*(zav x (some M)*(J 0*(pts w.heap.size (.cells #[.int .i64 k1,.int .i64 k2] 29)*F))) from by ac_rfl))
 have I1:=io2 H1 (Io.refl w)
 rw [World.size_alloc] at H1
 clear h H hy
 go_enter Tryz.func70,Tryz.ntmps70
 go_upto_region 1 with fail
 generalize (w.alloc _).alloc _=w1 at *
 generalize w.heap.size=bx at *
 go_upto_region 2 with (go_at_call 46;(with_reducible refine zan H1 ?_);intro w2 H2 I2;have K2:=H2.new (.cells #[.int .i64 4294967295,.int .i64 4294967295] 29);have J2:=(I1.trans I2).alloc (.cells #[.int .i64 4294967295,.int .i64 4294967295] 29))
 clear H1 I1 H2 I2
 generalize w2.alloc _=w3 at *
 generalize w2.heap.size=b7 at *
 have K3:Sat (zav x (some M)*(J 0*(pts b7 (.cells #[.int .i64 4294967295,.int .i64 4294967295] 29 (0,0))*(pts (bx+1) (.cells #[.int .i64 0,.int .i64 0] 29 (0,0))*(pts bx (.cells #[.int .i64 k1,.int .i64 k2] 29 (0,0))*F))))) w3:=K2.of_eq (by ac_rfl)
 clear K2
 go_wp2_with fail
 go_loopw [10] (fun y wr=>∃ (i:Nat) (k1 k2 f1 f2:Int) (n:Nd),Hid (way[i]?=some ⟨(k1,k2),n,(f1,f2)⟩)∧y=.int .i64 (i:Int)∧Sat (zav x (some M)*(J i*(pts b7 (.cells #[.int .i64 f1,.int .i64 f2] 29 (0,0))*(pts (bx+1) (.cells #[.int .i64 0,.int .i64 0] 29 (0,0))*(pts bx (.cells #[.int .i64 k1,.int .i64 k2] 29 (0,0))*F))))) wr∧Io w wr) (fun y _=>300 - (RowKit.intOf y).toNat)
 case atStart=>exact ⟨0,k1,k2,4294967295,4294967295,s0.n,L_ (by rw [h0.out.1];congr 1;obtain ⟨a,b,c⟩:=s0;have e1:=hk.out;have e2:=h0.out.2;simp only at e1 e2;rw [e1,e2];rfl),rfl,K3,J2⟩
 case round =>
  obtain ⟨i,k1,k2,f1,f2,n,hs,rfl,Hk,Ik⟩:=hrel
  obtain ⟨⟨u1,u2⟩,⟨p1,p2⟩,⟨q1,q2⟩,ct,ht⟩:=n
  clear K3 J2 hk
  have hst:=L_ (z8s hw.out hs.out)
  have HM:Hid (M (k1,k2)=some ⟨(u1,u2),(p1,p2),(q1,q2),ct,ht⟩):=L_ (zp3 hw.out hs.out).1
  have hi:(i:Int)<255:=by have:=(zp3 hw.out hs.out).2.2;have:=hw.out.len;omega
  have hi2:Hid (i+1≤way.length):=L_ (by have:=(zp3 hw.out hs.out).2.2;omega)
  have hi0:(0:Int)≤(i:Int):=by omega
  obtain ⟨y0,y1⟩:=tk2 Hk.right.right.right.right
  go_upto_region 5 with (go_at_call 58;(with_reducible refine zd2 k1 k2 HM hx Hk ?_);intro w4 H4 I4;have K4:=H4.new (.cells #[.int .i64 u1,.int .i64 u2,.int .i64 p1,.int .i64 p2,.int .i64 q1,.int .i64 q2,.int .i64 ct,.int .i64 ht] 85);have J4:=(Ik.trans I4).alloc (.cells #[.int .i64 u1,.int .i64 u2,.int .i64 p1,.int .i64 p2,.int .i64 q1,.int .i64 q2,.int .i64 ct,.int .i64 ht] 85))
  clear y0 y1 Hk Ik H4 I4
  generalize w4.alloc _=w5 at *
  generalize w4.heap.size=bn at *
  obtain ⟨y0,y1⟩:=zb5 K4.right
  have ZZ:=nd8 K4
  obtain ⟨n0,n1,n2,n3,n4,n5,n6,n7⟩:=ZZ
  obtain ⟨z0,z1⟩:=tk2 K4.right.right.right.right.right
  obtain ⟨z2,z3⟩:=tk2 K4.right.right.right
  go_upto_region 8 with (go_at_fn gy;refine HY.out i ⟨(k1,k2),⟨(u1,u2),(p1,p2),(q1,q2),ct,ht⟩,(f1,f2)⟩ hs.out (xf8 K4) ?_;intro w6 H6 I6)
  have K6:=xf9 H6
  have J6:=J4.trans I6
  clear y0 y1 n0 n1 n2 n3 n4 n5 n6 n7 z0 z1 z2 z3 K4 J4 H6 I6
  have Kd:=K6.drew
  have Jd:=J6.drew
  have S0:=zgn Kd
  have EQ:=fun W=>zci u1 u2 4294967295 4294967295 W
  rcases hst.out with ⟨h1,h2⟩ | ⟨h1,s',h2,h3,h4⟩
  ·rw [show decide ((u1,u2)=((4294967295:Int),(4294967295:Int)))=true from decide_eq_true h1] at EQ
   have HE:Hid (i+1=way.length):=L_ h2
   clear h1 h2 hst
   refine rh Kd (fun W Kd=>zgn Kd) fun hHeld=>?_
   refine tk ?_ ?_ [0,1] ?_ hHeld ?_;rotate_left 2;exact tt
   refine rd [2] (rc fun K hK=>?_)
   go_simp
   go_at_call 46;(with_reducible refine zan Kd ?_);intro w7 H7 I7;have S1:=zgn H7
   refine hK.out _ _ (by exact S1) fun hHeld=>?_
   clear hK K
   try simp only [sp]
   refine tk ?_ ?_ [3] ?_ hHeld ?_;rotate_left 2;exact tt
   refine wpAnyH_done (by kernel_rfl) ?_ _
   have ZZ:=zgn H7
   obtain ⟨⟨z0,z1⟩,-⟩:=ZZ
   obtain ⟨f0',f1'⟩:=zgf H7.right.right.right.right
   obtain ⟨g0,g1⟩:=tk2 H7.right.right.right.right
   have KE:=cl_res (.int .i64 k1) (.int .i64 k2) H7
   have JE:=zay (b:=bx+1) (.int .i64 k1) (.int .i64 k2) (Jd.trans I7)
   obtain ⟨q0,q1⟩:=tk2 KE
   have FIN:=L_ (HH.out k1 k2 _ (L_ ⟨_,by rw [←HE.out];exact hs.out,rfl⟩) (by rw [←HE.out];exact KE.right) JE)
   go_wp2_with fail
   have hag:=Tryz.isAgg29
   have hsz:=Tryz.sizeOf29
   exact bodyPost_ret (v:=tkA k1 k2) (by simp [results,Tryz.results70,go_sem,q0,q1]) rfl FIN.out
  ·rw [show decide ((u1,u2)=((4294967295:Int),(4294967295:Int)))=false from decide_eq_false h1] at EQ
   obtain ⟨⟨s1,s2⟩,n',⟨s3,s4⟩⟩:=s'
   have HS:Hid (way[i+1]?=some ⟨(u1,u2),n',(k1,k2)⟩):=L_ (by rw [h2];simp only at h3 h4;rw [h3,h4])
   clear h1 h2 h3 h4 hst
   refine wp_region_held_drew (S:=(fun W=>(W.cell? ⟨bx,0,none⟩=some (.int .i64 k1)∧W.cell? ⟨bx,1,none⟩=some (.int .i64 k2))∧(W.cell? ⟨bn,0,none⟩=some (.int .i64 u1)∧W.cell? ⟨bn,1,none⟩=some (.int .i64 u2)))) (by kernel_rfl) (by exact S0) (fun hHeld=>?_)
   refine tk ?_ ?_ [0,1] ?_ hHeld ?_;rotate_left 2;exact tt
   refine rd [2] (rc fun K hK=>?_)
   go_simp
   go_at_call 46;(with_reducible refine zan Kd ?_);intro w7 H7 I7;have S1:=zgn H7
   refine hK.out _ _ (by exact S1) fun hHeld=>?_
   clear hK K
   try simp only [sp]
   refine tk ?_ ?_ [3] ?_ hHeld ?_;rotate_left 2;exact tt
   refine wpAnyH_done (by kernel_rfl) ?_ _
   go_upto_region 10 with fail
   have Ke:=H7.drew
   have Je:=(Jd.trans I7).drew
   clear EQ S0 Kd Jd H7 I7
   have S5:=zgn Ke
   have FL:=xf7 (.int .i64 k1) (.int .i64 k2) (.int .i64 u1) (.int .i64 u2) Ke
   obtain ⟨f0',f1'⟩:=zgf Ke.right.right.right
   obtain ⟨g0,g1⟩:=tk2 Ke.right.right.right
   obtain ⟨f2',f3'⟩:=zgf FL.1.right.right.right.right.right
   obtain ⟨g2,g3⟩:=tk2 FL.1.right.right.right.right.right
   have JE:=zay (b:=bx) (.int .i64 u1) (.int .i64 u2) (zay (b:=b7) (.int .i64 k1) (.int .i64 k2) Je)
   refine wp_region_held_drew (S:=fun W=>(W.cell? ⟨bn,0,none⟩=some (.int .i64 u1)∧W.cell? ⟨bn,1,none⟩=some (.int .i64 u2))) (by kernel_rfl) (by exact S5.2) (fun hHeld=>?_)
   generalize w7.drew=wd at *
   refine tk ?_ ?_ [1,2] ?_ hHeld ?_;rotate_left 2;exact tt
   obtain ⟨⟨x0,x1⟩,-⟩:=S5
   refine rd [0] (rc fun K hK=>?_)
   go_simp
   refine hK.out _ _ (by exact (zgn Ke).2) fun hHeld=>?_
   clear hK K
   try simp only [sp]
   refine rd [3] (rc fun K hK=>?_)
   go_simp
   refine hK.out _ _ (by exact (zgn FL.1).2) fun hHeld=>?_
   clear hK K
   try simp only [sp]
   refine rd [4] (rc fun K hK=>?_)
   go_simp
   refine hK.out _ _ (by exact (zgn FL.2).2) fun hHeld=>?_
   clear hK K
   try simp only [sp]
   refine wpAnyH_done (by kernel_rfl) ?_ _
   go_wp2_with fail
   go_roundw
   case rel=>exact ⟨i+1,u1,u2,k1,k2,n',HS,by go_num,FL.2.right,JE⟩
   case measure=>simp [RowKit.intOf];omega
end
end Go.Proofs.YtfknjmoekbabcaaGreatDoor
