/-
  A part of a proof. It proves no statement by itself.
-/
import Derived.Test.YtfknjmoekbabcaaGreatDoorC07
import Derived.Test.YtfknjmoekbabcaaGreatDoorC10
set_option linter.unusedSimpArgs false
set_option linter.unusedVariables false
set_option linter.unusedSectionVars false
set_option maxRecDepth 100000
set_option maxHeartbeats 64000000
namespace Go.Proofs.YtfknjmoekbabcaaGreatDoor
open Go.RowKit Go.Lib
def xbx (x:Int):List Value:=[.int .i64 x]
theorem zba:Enc xbx 1:=⟨fun _=>rfl,fun x u hu=>by simp [xbx] at hu;rw [hu];rfl⟩
theorem Tryz.zqi:zkg Tryz.prog 47 3 1 8:=⟨Tryz.underlying47,⟨.int .i64 0,rfl,by kernel_rfl⟩,by omega⟩
abbrev za1 (v:Value) (l:List Int):Asn:=RowOf 3 1 xbx v l
abbrev zbd (F:Asn) (v:Value) (l:List Int):Prop:=Reads xbx F v l
def zrg (x:ByteArray):List Value:=[.string x]
theorem zbu:Enc zrg 1:=⟨fun _=>rfl,fun x u hu=>by simp [zrg] at hu;rw [hu];rfl⟩
theorem Tryz.zoo:zkg Tryz.prog 58 9 1 16:=⟨Tryz.underlying58,⟨.string ⟨#[]⟩,rfl,by kernel_rfl⟩,by omega⟩
abbrev zbj (v:Value) (l:List ByteArray):Asn:=RowOf 9 1 zrg v l
abbrev zbe (F:Asn) (v:Value) (l:List ByteArray):Prop:=Reads zrg F v l
theorem zab {α:Type} {enc:α→List Value} {F:Asn} {v:Value} {l:List α} (h:Reads enc F v l):∃ a c,v=.slice a l.length c∧(l.length:Int)≤9223372036854775807:=by
 obtain ⟨a,c,h1,h2,_⟩:=h
 exact ⟨a,c,h1,by omega⟩
theorem zc4 {A B C:Asn} {w:World} (h:Sat (A*(B*C)) w):Sat (A*C) w:=(h.of_eq (show A*(B*C)=B*(A*C) from by ac_rfl)).right
section
variable {F:Asn} {w:World} {R:Ending→World→Prop}
theorem z5k (n:Nat) (hn:n≤1000000) (H:Sat F w) (h:∀ v' w',Sat (zda v' []*F) w'→Io w w'→R (.returned v') w') :
  Calls Tryz.prog 125 #[.slice none 0 0,.int .i64 (n:Int)] w R:=by
 have HH:=L_ h
 clear h
 cases n with
 | zero =>
  go_enter Tryz.func125,Tryz.ntmps125
  go_wp2_with fail
  exact HH.out _ _ (za5 H) (Io.refl _)
 | succ n =>
  obtain ⟨i0,z,hi,hz0,hz1,hz2,hz3⟩:=Tryz.z1h.parts
  obtain ⟨g,c,w3,hr,H3,I3⟩:=ze5 (P:=Tryz.prog) (t:=59) (tn:=3) (ty:=59) (kn:=.i64) Tryz.underlying59 Tryz.underlying3 hi hz0 hz1 hz2 hz3 (by omega) H (n+1) (by omega) (by unfold maxLen;omega) (by omega) .i64
  have hcap:=(zma H3).2
  have H4:=zh0 H3 (k:=0) (by omega)
  have q1:(0:Int)<((n+1:Nat):Int):=by omega
  have q2:(0:Int)≤(c:Int):=by omega
  have q3:(c:Int)≤9223372036854775807:=by unfold maxLen at hcap;omega
  have q4:((n+1:Nat):Int)≤1000000:=by omega
  have fin:Hid (Sat (zda (.slice (some ⟨g,0,none⟩) 0 c) []*F) w3):=L_ (by
   refine H4.of_eq ?_
   unfold zda RowOf
   rw [Nat.zero_mul,List.take_zero]
   rfl)
  generalize hN:((n+1:Nat):Int)=N at *
  clear H H3 H4
  go_enter Tryz.func125,Tryz.ntmps125
  go_wp2_with (at_builtin;refine Lib.wpList_append_run _ rfl _ _ _ _ rfl _ _ rfl rfl _ _ hr ?_)
  exact HH.out _ _ fin.out I3
theorem zq6 (N:Int) (n:Nat) (hN:N=(n:Int)) (hn:n≤1000000) (H:Sat F w) (h:∀ v' w',Sat (zda v' []*F) w'→Io w w'→R (.returned v') w') :
  Calls Tryz.prog 125 #[.slice none 0 0,.int .i64 N] w R:=by
 subst hN
 exact z5k n hn H h
theorem zum {bb:Nat} {v1:Value} {l1:List Ky.En} (h1:zbi F v1 l1) (k1:l1.length≤10000) (H:Sat (pts bb (.cells #[v1] 59 (0,0))*F) w) (h:∀ v' w',Sat (zda v' (l1)*F) w'→Io w w'→R (.returned v') w') :
  Calls Tryz.prog 94 #[.slice (some ⟨bb,0,none⟩) 1 1] w R:=by
 obtain ⟨a1,c1,rfl,m1⟩:=zab h1
 have HH:=L_ h
 have HB:=L_ (fun G W (hW:Sat (pts bb (.cells #[.slice a1 l1.length c1] 59 (0,0))*G) W)=>(⟨Sat.read hW.left.at 0,trivial⟩:W.cell? ⟨bb,0,none⟩=some (.slice a1 l1.length c1)∧True))
 have r1:=L_ (h1.with (G:=pts bb (.cells #[.slice a1 l1.length c1] 59 (0,0))))
 obtain ⟨b0,_⟩:=HB.out _ _ H
 have p1:(0:Int)≤(l1.length:Int):=by omega
 have q1:(l1.length:Int)≤10000:=by omega
 have L1:=L_ k1
 clear h h1 k1
 go_enter Tryz.func94,Tryz.ntmps94
 go_wp2_with fail
 refine wp_loop_rounds 2 ?_
 rw [rounds_succ]
 go_wp2_with fail
 rw [rounds_succ]
 go_wp2_with (go_at_call 125;with_reducible refine zq6 _ (l1.length) (by omega) (by have:=L1.out;omega) H ?_;intro y0 w0 H0 I0;obtain ⟨d0,_⟩:=HB.out _ _ H0.right)
 refine wp_loop_rounds 2 ?_
 rw [rounds_succ]
 go_wp2_with (at_builtin;refine zae Tryz.z1h zbk rfl (.tmp 31) (.tmp 32) rfl rfl H0 (by simp) (by have:=L1.out;omega) rfl r1.out ?_;intro y1 w1 H1 I1)
 rw [rounds_succ]
 go_wp2_with fail
 rw [List.nil_append] at H1
 exact HH.out _ _ (zc4 H1) (I0.trans I1)
theorem za0 {bb:Nat} {v1:Value} {l1:List Ky.En} (h1:zbi F v1 l1) (k1:l1.length≤10000) (H:Sat (pts bb (.cells #[v1] 59 (0,0))*F) w) (h:∀ v' w',Sat (zda v' (l1)*F) w'→Io w w'→R (.returned v') w') :
  Calls Tryz.prog 147 #[.slice (some ⟨bb,0,none⟩) 1 1] w R:=by
 have HH:=L_ h
 clear h
 go_enter Tryz.func147,Tryz.ntmps147
 go_wp2_with (go_at_call 94;with_reducible refine zum h1 k1 H ?_;intro y1 w1 H1 I1)
 exact HH.out _ _ H1 I1
theorem zkq {bb:Nat} {v1 v2:Value} {l1 l2:List Ky.En} (h1:zbi F v1 l1) (k1:l1.length≤10000) (h2:zbi F v2 l2) (k2:l2.length≤10000) (H:Sat (pts bb (.cells #[v1,v2] 59 (0,0))*F) w) (h:∀ v' w',Sat (zda v' (l1++l2)*F) w'→Io w w'→R (.returned v') w') :
  Calls Tryz.prog 94 #[.slice (some ⟨bb,0,none⟩) 2 2] w R:=by
 obtain ⟨a1,c1,rfl,m1⟩:=zab h1
 obtain ⟨a2,c2,rfl,m2⟩:=zab h2
 have HH:=L_ h
 have HB:=L_ (fun G W (hW:Sat (pts bb (.cells #[.slice a1 l1.length c1,.slice a2 l2.length c2] 59 (0,0))*G) W)=>(⟨Sat.read hW.left.at 0,Sat.read hW.left.at 1⟩:W.cell? ⟨bb,0,none⟩=some (.slice a1 l1.length c1)∧W.cell? ⟨bb,1,none⟩=some (.slice a2 l2.length c2)))
 have r1:=L_ (h1.with (G:=pts bb (.cells #[.slice a1 l1.length c1,.slice a2 l2.length c2] 59 (0,0))))
 have r2:=L_ (h2.with (G:=pts bb (.cells #[.slice a1 l1.length c1,.slice a2 l2.length c2] 59 (0,0))))
 obtain ⟨b0,b1⟩:=HB.out _ _ H
 have p1:(0:Int)≤(l1.length:Int):=by omega
 have q1:(l1.length:Int)≤10000:=by omega
 have p2:(0:Int)≤(l2.length:Int):=by omega
 have q2:(l2.length:Int)≤10000:=by omega
 have s2:(0:Int)≤(l1.length:Int)+(l2.length:Int):=by omega
 have L1:=L_ k1
 have L2:=L_ k2
 clear h h1 h2 k1 k2
 go_enter Tryz.func94,Tryz.ntmps94
 go_wp2_with fail
 refine wp_loop_rounds 3 ?_
 rw [rounds_succ]
 go_wp2_with fail
 rw [rounds_succ]
 go_wp2_with fail
 rw [rounds_succ]
 go_wp2_with (go_at_call 125;with_reducible refine zq6 _ (l1.length+l2.length) (by omega) (by have:=L1.out;have:=L2.out;omega) H ?_;intro y0 w0 H0 I0;obtain ⟨d0,d1⟩:=HB.out _ _ H0.right)
 refine wp_loop_rounds 3 ?_
 rw [rounds_succ]
 go_wp2_with (at_builtin;refine zae Tryz.z1h zbk rfl (.tmp 31) (.tmp 32) rfl rfl H0 (by simp) (by have:=L1.out;have:=L2.out;omega) rfl r1.out ?_;intro y1 w1 H1 I1;obtain ⟨e1_0,e1_1⟩:=HB.out _ _ H1.right)
 rw [rounds_succ]
 go_wp2_with (at_builtin;refine zae Tryz.z1h zbk rfl (.tmp 31) (.tmp 32) rfl rfl H1 (by have:=L1.out;have:=L2.out;simp;omega) (by have:=L1.out;have:=L2.out;omega) rfl r2.out ?_;intro y2 w2 H2 I2)
 rw [rounds_succ]
 go_wp2_with fail
 simp only [List.nil_append] at H2
 exact HH.out _ _ (zc4 H2) ((I0.trans I1).trans I2)
theorem zcs {bb:Nat} {v1 v2:Value} {l1 l2:List Ky.En} (h1:zbi F v1 l1) (k1:l1.length≤10000) (h2:zbi F v2 l2) (k2:l2.length≤10000) (H:Sat (pts bb (.cells #[v1,v2] 59 (0,0))*F) w) (h:∀ v' w',Sat (zda v' (l1++l2)*F) w'→Io w w'→R (.returned v') w') :
  Calls Tryz.prog 147 #[.slice (some ⟨bb,0,none⟩) 2 2] w R:=by
 have HH:=L_ h
 clear h
 go_enter Tryz.func147,Tryz.ntmps147
 go_wp2_with (go_at_call 94;with_reducible refine zkq h1 k1 h2 k2 H ?_;intro y1 w1 H1 I1)
 exact HH.out _ _ H1 I1
theorem zkp {bb:Nat} {v1 v2 v3:Value} {l1 l2 l3:List Ky.En} (h1:zbi F v1 l1) (k1:l1.length≤10000) (h2:zbi F v2 l2) (k2:l2.length≤10000) (h3:zbi F v3 l3) (k3:l3.length≤10000) (H:Sat (pts bb (.cells #[v1,v2,v3] 59 (0,0))*F) w) (h:∀ v' w',Sat (zda v' (l1++l2++l3)*F) w'→Io w w'→R (.returned v') w') :
  Calls Tryz.prog 94 #[.slice (some ⟨bb,0,none⟩) 3 3] w R:=by
 obtain ⟨a1,c1,rfl,m1⟩:=zab h1
 obtain ⟨a2,c2,rfl,m2⟩:=zab h2
 obtain ⟨a3,c3,rfl,m3⟩:=zab h3
 have HH:=L_ h
 have HB:=L_ (fun G W (hW:Sat (pts bb (.cells #[.slice a1 l1.length c1,.slice a2 l2.length c2,.slice a3 l3.length c3] 59 (0,0))*G) W)=>(⟨Sat.read hW.left.at 0,Sat.read hW.left.at 1,Sat.read hW.left.at 2⟩:W.cell? ⟨bb,0,none⟩=some (.slice a1 l1.length c1)∧W.cell? ⟨bb,1,none⟩=some (.slice a2 l2.length c2)∧W.cell? ⟨bb,2,none⟩=some (.slice a3 l3.length c3)))
 have r1:=L_ (h1.with (G:=pts bb (.cells #[.slice a1 l1.length c1,.slice a2 l2.length c2,.slice a3 l3.length c3] 59 (0,0))))
 have r2:=L_ (h2.with (G:=pts bb (.cells #[.slice a1 l1.length c1,.slice a2 l2.length c2,.slice a3 l3.length c3] 59 (0,0))))
 have r3:=L_ (h3.with (G:=pts bb (.cells #[.slice a1 l1.length c1,.slice a2 l2.length c2,.slice a3 l3.length c3] 59 (0,0))))
 obtain ⟨b0,b1,b2⟩:=HB.out _ _ H
 have p1:(0:Int)≤(l1.length:Int):=by omega
 have q1:(l1.length:Int)≤10000:=by omega
 have p2:(0:Int)≤(l2.length:Int):=by omega
 have q2:(l2.length:Int)≤10000:=by omega
 have p3:(0:Int)≤(l3.length:Int):=by omega
 have q3:(l3.length:Int)≤10000:=by omega
 have s2:(0:Int)≤(l1.length:Int)+(l2.length:Int):=by omega
 have s3:(0:Int)≤(l1.length:Int)+(l2.length:Int)+(l3.length:Int):=by omega
 have L1:=L_ k1
 have L2:=L_ k2
 have L3:=L_ k3
 clear h h1 h2 h3 k1 k2 k3
 go_enter Tryz.func94,Tryz.ntmps94
 go_wp2_with fail
 refine wp_loop_rounds 4 ?_
 rw [rounds_succ]
 go_wp2_with fail
 rw [rounds_succ]
 go_wp2_with fail
 rw [rounds_succ]
 go_wp2_with fail
 rw [rounds_succ]
 go_wp2_with (go_at_call 125;with_reducible refine zq6 _ (l1.length+l2.length+l3.length) (by omega) (by have:=L1.out;have:=L2.out;have:=L3.out;omega) H ?_;intro y0 w0 H0 I0;obtain ⟨d0,d1,d2⟩:=HB.out _ _ H0.right)
 refine wp_loop_rounds 4 ?_
 rw [rounds_succ]
 go_wp2_with (at_builtin;refine zae Tryz.z1h zbk rfl (.tmp 31) (.tmp 32) rfl rfl H0 (by simp) (by have:=L1.out;have:=L2.out;have:=L3.out;omega) rfl r1.out ?_;intro y1 w1 H1 I1;obtain ⟨e1_0,e1_1,e1_2⟩:=HB.out _ _ H1.right)
 rw [rounds_succ]
 go_wp2_with (at_builtin;refine zae Tryz.z1h zbk rfl (.tmp 31) (.tmp 32) rfl rfl H1 (by have:=L1.out;have:=L2.out;have:=L3.out;simp;omega) (by have:=L1.out;have:=L2.out;have:=L3.out;omega) rfl r2.out ?_;intro y2 w2 H2 I2;obtain ⟨e2_0,e2_1,e2_2⟩:=HB.out _ _ H2.right)
 rw [rounds_succ]
 go_wp2_with (at_builtin;refine zae Tryz.z1h zbk rfl (.tmp 31) (.tmp 32) rfl rfl H2 (by have:=L1.out;have:=L2.out;have:=L3.out;simp;omega) (by have:=L1.out;have:=L2.out;have:=L3.out;omega) rfl r3.out ?_;intro y3 w3 H3 I3)
 rw [rounds_succ]
 go_wp2_with fail
 simp only [List.nil_append] at H3
 exact HH.out _ _ (zc4 H3) (((I0.trans I1).trans I2).trans I3)
theorem z0t (n:Nat) (hn:n≤1000000) (H:Sat F w) (h:∀ v' w',Sat (za1 v' []*F) w'→Io w w'→R (.returned v') w') :
  Calls Tryz.prog 188 #[.slice none 0 0,.int .i64 (n:Int)] w R:=by
 have HH:=L_ h
 clear h
 cases n with
 | zero =>
  go_enter Tryz.func188,Tryz.ntmps188
  go_wp2_with fail
  exact HH.out _ _ (za5 H) (Io.refl _)
 | succ n =>
  obtain ⟨i0,z,hi,hz0,hz1,hz2,hz3⟩:=Tryz.zqi.parts
  obtain ⟨g,c,w3,hr,H3,I3⟩:=ze5 (P:=Tryz.prog) (t:=47) (tn:=3) (ty:=47) (kn:=.i64) Tryz.underlying47 Tryz.underlying3 hi hz0 hz1 hz2 hz3 (by omega) H (n+1) (by omega) (by unfold maxLen;omega) (by omega) .i64
  have hcap:=(zma H3).2
  have H4:=zh0 H3 (k:=0) (by omega)
  have q1:(0:Int)<((n+1:Nat):Int):=by omega
  have q2:(0:Int)≤(c:Int):=by omega
  have q3:(c:Int)≤9223372036854775807:=by unfold maxLen at hcap;omega
  have q4:((n+1:Nat):Int)≤1000000:=by omega
  have fin:Hid (Sat (za1 (.slice (some ⟨g,0,none⟩) 0 c) []*F) w3):=L_ (by
   refine H4.of_eq ?_
   unfold za1 RowOf
   rw [Nat.zero_mul,List.take_zero]
   rfl)
  generalize hN:((n+1:Nat):Int)=N at *
  clear H H3 H4
  go_enter Tryz.func188,Tryz.ntmps188
  go_wp2_with (at_builtin;refine Lib.wpList_append_run _ rfl _ _ _ _ rfl _ _ rfl rfl _ _ hr ?_)
  exact HH.out _ _ fin.out I3
theorem zmz (N:Int) (n:Nat) (hN:N=(n:Int)) (hn:n≤1000000) (H:Sat F w) (h:∀ v' w',Sat (za1 v' []*F) w'→Io w w'→R (.returned v') w') :
  Calls Tryz.prog 188 #[.slice none 0 0,.int .i64 N] w R:=by
 subst hN
 exact z0t n hn H h
theorem zrm {bb:Nat} {v1:Value} {l1:List Int} (h1:zbd F v1 l1) (k1:l1.length≤10000) (H:Sat (pts bb (.cells #[v1] 47 (0,0))*F) w) (h:∀ v' w',Sat (za1 v' (l1)*F) w'→Io w w'→R (.returned v') w') :
  Calls Tryz.prog 173 #[.slice (some ⟨bb,0,none⟩) 1 1] w R:=by
 obtain ⟨a1,c1,rfl,m1⟩:=zab h1
 have HH:=L_ h
 have HB:=L_ (fun G W (hW:Sat (pts bb (.cells #[.slice a1 l1.length c1] 47 (0,0))*G) W)=>(⟨Sat.read hW.left.at 0,trivial⟩:W.cell? ⟨bb,0,none⟩=some (.slice a1 l1.length c1)∧True))
 have r1:=L_ (h1.with (G:=pts bb (.cells #[.slice a1 l1.length c1] 47 (0,0))))
 obtain ⟨b0,_⟩:=HB.out _ _ H
 have p1:(0:Int)≤(l1.length:Int):=by omega
 have q1:(l1.length:Int)≤10000:=by omega
 have L1:=L_ k1
 clear h h1 k1
 go_enter Tryz.func173,Tryz.ntmps173
 go_wp2_with fail
 refine wp_loop_rounds 2 ?_
 rw [rounds_succ]
 go_wp2_with fail
 rw [rounds_succ]
 go_wp2_with (go_at_call 188;with_reducible refine zmz _ (l1.length) (by omega) (by have:=L1.out;omega) H ?_;intro y0 w0 H0 I0;obtain ⟨d0,_⟩:=HB.out _ _ H0.right)
 refine wp_loop_rounds 2 ?_
 rw [rounds_succ]
 go_wp2_with (at_builtin;refine zae Tryz.zqi zba rfl (.tmp 31) (.tmp 32) rfl rfl H0 (by simp) (by have:=L1.out;omega) rfl r1.out ?_;intro y1 w1 H1 I1)
 rw [rounds_succ]
 go_wp2_with fail
 rw [List.nil_append] at H1
 exact HH.out _ _ (zc4 H1) (I0.trans I1)
theorem zb8 {bb:Nat} {v1:Value} {l1:List Int} (h1:zbd F v1 l1) (k1:l1.length≤10000) (H:Sat (pts bb (.cells #[v1] 47 (0,0))*F) w) (h:∀ v' w',Sat (za1 v' (l1)*F) w'→Io w w'→R (.returned v') w') :
  Calls Tryz.prog 148 #[.slice (some ⟨bb,0,none⟩) 1 1] w R:=by
 have HH:=L_ h
 clear h
 go_enter Tryz.func148,Tryz.ntmps148
 go_wp2_with (go_at_call 173;with_reducible refine zrm h1 k1 H ?_;intro y1 w1 H1 I1)
 exact HH.out _ _ H1 I1
theorem zrl {bb:Nat} {v1 v2:Value} {l1 l2:List Int} (h1:zbd F v1 l1) (k1:l1.length≤10000) (h2:zbd F v2 l2) (k2:l2.length≤10000) (H:Sat (pts bb (.cells #[v1,v2] 47 (0,0))*F) w) (h:∀ v' w',Sat (za1 v' (l1++l2)*F) w'→Io w w'→R (.returned v') w') :
  Calls Tryz.prog 173 #[.slice (some ⟨bb,0,none⟩) 2 2] w R:=by
 obtain ⟨a1,c1,rfl,m1⟩:=zab h1
 obtain ⟨a2,c2,rfl,m2⟩:=zab h2
 have HH:=L_ h
 have HB:=L_ (fun G W (hW:Sat (pts bb (.cells #[.slice a1 l1.length c1,.slice a2 l2.length c2] 47 (0,0))*G) W)=>(⟨Sat.read hW.left.at 0,Sat.read hW.left.at 1⟩:W.cell? ⟨bb,0,none⟩=some (.slice a1 l1.length c1)∧W.cell? ⟨bb,1,none⟩=some (.slice a2 l2.length c2)))
 have r1:=L_ (h1.with (G:=pts bb (.cells #[.slice a1 l1.length c1,.slice a2 l2.length c2] 47 (0,0))))
 have r2:=L_ (h2.with (G:=pts bb (.cells #[.slice a1 l1.length c1,.slice a2 l2.length c2] 47 (0,0))))
 obtain ⟨b0,b1⟩:=HB.out _ _ H
 have p1:(0:Int)≤(l1.length:Int):=by omega
 have q1:(l1.length:Int)≤10000:=by omega
 have p2:(0:Int)≤(l2.length:Int):=by omega
 have q2:(l2.length:Int)≤10000:=by omega
 have s2:(0:Int)≤(l1.length:Int)+(l2.length:Int):=by omega
 have L1:=L_ k1
 have L2:=L_ k2
 clear h h1 h2 k1 k2
 go_enter Tryz.func173,Tryz.ntmps173
 go_wp2_with fail
 refine wp_loop_rounds 3 ?_
 rw [rounds_succ]
 go_wp2_with fail
 rw [rounds_succ]
 go_wp2_with fail
 rw [rounds_succ]
 go_wp2_with (go_at_call 188;with_reducible refine zmz _ (l1.length+l2.length) (by omega) (by have:=L1.out;have:=L2.out;omega) H ?_;intro y0 w0 H0 I0;obtain ⟨d0,d1⟩:=HB.out _ _ H0.right)
 refine wp_loop_rounds 3 ?_
 rw [rounds_succ]
 go_wp2_with (at_builtin;refine zae Tryz.zqi zba rfl (.tmp 31) (.tmp 32) rfl rfl H0 (by simp) (by have:=L1.out;have:=L2.out;omega) rfl r1.out ?_;intro y1 w1 H1 I1;obtain ⟨e1_0,e1_1⟩:=HB.out _ _ H1.right)
 rw [rounds_succ]
 go_wp2_with (at_builtin;refine zae Tryz.zqi zba rfl (.tmp 31) (.tmp 32) rfl rfl H1 (by have:=L1.out;have:=L2.out;simp;omega) (by have:=L1.out;have:=L2.out;omega) rfl r2.out ?_;intro y2 w2 H2 I2)
 rw [rounds_succ]
 go_wp2_with fail
 simp only [List.nil_append] at H2
 exact HH.out _ _ (zc4 H2) ((I0.trans I1).trans I2)
theorem zce {bb:Nat} {v1 v2:Value} {l1 l2:List Int} (h1:zbd F v1 l1) (k1:l1.length≤10000) (h2:zbd F v2 l2) (k2:l2.length≤10000) (H:Sat (pts bb (.cells #[v1,v2] 47 (0,0))*F) w) (h:∀ v' w',Sat (za1 v' (l1++l2)*F) w'→Io w w'→R (.returned v') w') :
  Calls Tryz.prog 148 #[.slice (some ⟨bb,0,none⟩) 2 2] w R:=by
 have HH:=L_ h
 clear h
 go_enter Tryz.func148,Tryz.ntmps148
 go_wp2_with (go_at_call 173;with_reducible refine zrl h1 k1 h2 k2 H ?_;intro y1 w1 H1 I1)
 exact HH.out _ _ H1 I1
theorem zrk {bb:Nat} {v1 v2 v3:Value} {l1 l2 l3:List Int} (h1:zbd F v1 l1) (k1:l1.length≤10000) (h2:zbd F v2 l2) (k2:l2.length≤10000) (h3:zbd F v3 l3) (k3:l3.length≤10000) (H:Sat (pts bb (.cells #[v1,v2,v3] 47 (0,0))*F) w) (h:∀ v' w',Sat (za1 v' (l1++l2++l3)*F) w'→Io w w'→R (.returned v') w') :
  Calls Tryz.prog 173 #[.slice (some ⟨bb,0,none⟩) 3 3] w R:=by
 obtain ⟨a1,c1,rfl,m1⟩:=zab h1
 obtain ⟨a2,c2,rfl,m2⟩:=zab h2
 obtain ⟨a3,c3,rfl,m3⟩:=zab h3
 have HH:=L_ h
 have HB:=L_ (fun G W (hW:Sat (pts bb (.cells #[.slice a1 l1.length c1,.slice a2 l2.length c2,.slice a3 l3.length c3] 47 (0,0))*G) W)=>(⟨Sat.read hW.left.at 0,Sat.read hW.left.at 1,Sat.read hW.left.at 2⟩:W.cell? ⟨bb,0,none⟩=some (.slice a1 l1.length c1)∧W.cell? ⟨bb,1,none⟩=some (.slice a2 l2.length c2)∧W.cell? ⟨bb,2,none⟩=some (.slice a3 l3.length c3)))
 have r1:=L_ (h1.with (G:=pts bb (.cells #[.slice a1 l1.length c1,.slice a2 l2.length c2,.slice a3 l3.length c3] 47 (0,0))))
 have r2:=L_ (h2.with (G:=pts bb (.cells #[.slice a1 l1.length c1,.slice a2 l2.length c2,.slice a3 l3.length c3] 47 (0,0))))
 have r3:=L_ (h3.with (G:=pts bb (.cells #[.slice a1 l1.length c1,.slice a2 l2.length c2,.slice a3 l3.length c3] 47 (0,0))))
 obtain ⟨b0,b1,b2⟩:=HB.out _ _ H
 have p1:(0:Int)≤(l1.length:Int):=by omega
 have q1:(l1.length:Int)≤10000:=by omega
 have p2:(0:Int)≤(l2.length:Int):=by omega
 have q2:(l2.length:Int)≤10000:=by omega
 have p3:(0:Int)≤(l3.length:Int):=by omega
 have q3:(l3.length:Int)≤10000:=by omega
 have s2:(0:Int)≤(l1.length:Int)+(l2.length:Int):=by omega
 have s3:(0:Int)≤(l1.length:Int)+(l2.length:Int)+(l3.length:Int):=by omega
 have L1:=L_ k1
 have L2:=L_ k2
 have L3:=L_ k3
 clear h h1 h2 h3 k1 k2 k3
 go_enter Tryz.func173,Tryz.ntmps173
 go_wp2_with fail
 refine wp_loop_rounds 4 ?_
 rw [rounds_succ]
 go_wp2_with fail
 rw [rounds_succ]
 go_wp2_with fail
 rw [rounds_succ]
 go_wp2_with fail
 rw [rounds_succ]
 go_wp2_with (go_at_call 188;with_reducible refine zmz _ (l1.length+l2.length+l3.length) (by omega) (by have:=L1.out;have:=L2.out;have:=L3.out;omega) H ?_;intro y0 w0 H0 I0;obtain ⟨d0,d1,d2⟩:=HB.out _ _ H0.right)
 refine wp_loop_rounds 4 ?_
 rw [rounds_succ]
 go_wp2_with (at_builtin;refine zae Tryz.zqi zba rfl (.tmp 31) (.tmp 32) rfl rfl H0 (by simp) (by have:=L1.out;have:=L2.out;have:=L3.out;omega) rfl r1.out ?_;intro y1 w1 H1 I1;obtain ⟨e1_0,e1_1,e1_2⟩:=HB.out _ _ H1.right)
 rw [rounds_succ]
 go_wp2_with (at_builtin;refine zae Tryz.zqi zba rfl (.tmp 31) (.tmp 32) rfl rfl H1 (by have:=L1.out;have:=L2.out;have:=L3.out;simp;omega) (by have:=L1.out;have:=L2.out;have:=L3.out;omega) rfl r2.out ?_;intro y2 w2 H2 I2;obtain ⟨e2_0,e2_1,e2_2⟩:=HB.out _ _ H2.right)
 rw [rounds_succ]
 go_wp2_with (at_builtin;refine zae Tryz.zqi zba rfl (.tmp 31) (.tmp 32) rfl rfl H2 (by have:=L1.out;have:=L2.out;have:=L3.out;simp;omega) (by have:=L1.out;have:=L2.out;have:=L3.out;omega) rfl r3.out ?_;intro y3 w3 H3 I3)
 rw [rounds_succ]
 go_wp2_with fail
 simp only [List.nil_append] at H3
 exact HH.out _ _ (zc4 H3) (((I0.trans I1).trans I2).trans I3)
theorem zal {bb:Nat} {v1 v2 v3:Value} {l1 l2 l3:List Int} (h1:zbd F v1 l1) (k1:l1.length≤10000) (h2:zbd F v2 l2) (k2:l2.length≤10000) (h3:zbd F v3 l3) (k3:l3.length≤10000) (H:Sat (pts bb (.cells #[v1,v2,v3] 47 (0,0))*F) w) (h:∀ v' w',Sat (za1 v' (l1++l2++l3)*F) w'→Io w w'→R (.returned v') w') :
  Calls Tryz.prog 148 #[.slice (some ⟨bb,0,none⟩) 3 3] w R:=by
 have HH:=L_ h
 clear h
 go_enter Tryz.func148,Tryz.ntmps148
 go_wp2_with (go_at_call 173;with_reducible refine zrk h1 k1 h2 k2 h3 k3 H ?_;intro y1 w1 H1 I1)
 exact HH.out _ _ H1 I1
theorem z0s (n:Nat) (hn:n≤1000000) (H:Sat F w) (h:∀ v' w',Sat (zbj v' []*F) w'→Io w w'→R (.returned v') w') :
  Calls Tryz.prog 189 #[.slice none 0 0,.int .i64 (n:Int)] w R:=by
 have HH:=L_ h
 clear h
 cases n with
 | zero =>
  go_enter Tryz.func189,Tryz.ntmps189
  go_wp2_with fail
  exact HH.out _ _ (za5 H) (Io.refl _)
 | succ n =>
  obtain ⟨i0,z,hi,hz0,hz1,hz2,hz3⟩:=Tryz.zoo.parts
  obtain ⟨g,c,w3,hr,H3,I3⟩:=ze5 (P:=Tryz.prog) (t:=58) (tn:=3) (ty:=58) (kn:=.i64) Tryz.underlying58 Tryz.underlying3 hi hz0 hz1 hz2 hz3 (by omega) H (n+1) (by omega) (by unfold maxLen;omega) (by omega) .i64
  have hcap:=(zma H3).2
  have H4:=zh0 H3 (k:=0) (by omega)
  have q1:(0:Int)<((n+1:Nat):Int):=by omega
  have q2:(0:Int)≤(c:Int):=by omega
  have q3:(c:Int)≤9223372036854775807:=by unfold maxLen at hcap;omega
  have q4:((n+1:Nat):Int)≤1000000:=by omega
  have fin:Hid (Sat (zbj (.slice (some ⟨g,0,none⟩) 0 c) []*F) w3):=L_ (by
   refine H4.of_eq ?_
   unfold zbj RowOf
   rw [Nat.zero_mul,List.take_zero]
   rfl)
  generalize hN:((n+1:Nat):Int)=N at *
  clear H H3 H4
  go_enter Tryz.func189,Tryz.ntmps189
  go_wp2_with (at_builtin;refine Lib.wpList_append_run _ rfl _ _ _ _ rfl _ _ rfl rfl _ _ hr ?_)
  exact HH.out _ _ fin.out I3
theorem zmy (N:Int) (n:Nat) (hN:N=(n:Int)) (hn:n≤1000000) (H:Sat F w) (h:∀ v' w',Sat (zbj v' []*F) w'→Io w w'→R (.returned v') w') :
  Calls Tryz.prog 189 #[.slice none 0 0,.int .i64 N] w R:=by
 subst hN
 exact z0s n hn H h
theorem zrj {bb:Nat} {v1:Value} {l1:List ByteArray} (h1:zbe F v1 l1) (k1:l1.length≤10000) (H:Sat (pts bb (.cells #[v1] 58 (0,0))*F) w) (h:∀ v' w',Sat (zbj v' (l1)*F) w'→Io w w'→R (.returned v') w') :
  Calls Tryz.prog 174 #[.slice (some ⟨bb,0,none⟩) 1 1] w R:=by
 obtain ⟨a1,c1,rfl,m1⟩:=zab h1
 have HH:=L_ h
 have HB:=L_ (fun G W (hW:Sat (pts bb (.cells #[.slice a1 l1.length c1] 58 (0,0))*G) W)=>(⟨Sat.read hW.left.at 0,trivial⟩:W.cell? ⟨bb,0,none⟩=some (.slice a1 l1.length c1)∧True))
 have r1:=L_ (h1.with (G:=pts bb (.cells #[.slice a1 l1.length c1] 58 (0,0))))
 obtain ⟨b0,_⟩:=HB.out _ _ H
 have p1:(0:Int)≤(l1.length:Int):=by omega
 have q1:(l1.length:Int)≤10000:=by omega
 have L1:=L_ k1
 clear h h1 k1
 go_enter Tryz.func174,Tryz.ntmps174
 go_wp2_with fail
 refine wp_loop_rounds 2 ?_
 rw [rounds_succ]
 go_wp2_with fail
 rw [rounds_succ]
 go_wp2_with (go_at_call 189;with_reducible refine zmy _ (l1.length) (by omega) (by have:=L1.out;omega) H ?_;intro y0 w0 H0 I0;obtain ⟨d0,_⟩:=HB.out _ _ H0.right)
 refine wp_loop_rounds 2 ?_
 rw [rounds_succ]
 go_wp2_with (at_builtin;refine zae Tryz.zoo zbu rfl (.tmp 31) (.tmp 32) rfl rfl H0 (by simp) (by have:=L1.out;omega) rfl r1.out ?_;intro y1 w1 H1 I1)
 rw [rounds_succ]
 go_wp2_with fail
 rw [List.nil_append] at H1
 exact HH.out _ _ (zc4 H1) (I0.trans I1)
theorem zb7 {bb:Nat} {v1:Value} {l1:List ByteArray} (h1:zbe F v1 l1) (k1:l1.length≤10000) (H:Sat (pts bb (.cells #[v1] 58 (0,0))*F) w) (h:∀ v' w',Sat (zbj v' (l1)*F) w'→Io w w'→R (.returned v') w') :
  Calls Tryz.prog 149 #[.slice (some ⟨bb,0,none⟩) 1 1] w R:=by
 have HH:=L_ h
 clear h
 go_enter Tryz.func149,Tryz.ntmps149
 go_wp2_with (go_at_call 174;with_reducible refine zrj h1 k1 H ?_;intro y1 w1 H1 I1)
 exact HH.out _ _ H1 I1
theorem zri {bb:Nat} {v1 v2:Value} {l1 l2:List ByteArray} (h1:zbe F v1 l1) (k1:l1.length≤10000) (h2:zbe F v2 l2) (k2:l2.length≤10000) (H:Sat (pts bb (.cells #[v1,v2] 58 (0,0))*F) w) (h:∀ v' w',Sat (zbj v' (l1++l2)*F) w'→Io w w'→R (.returned v') w') :
  Calls Tryz.prog 174 #[.slice (some ⟨bb,0,none⟩) 2 2] w R:=by
 obtain ⟨a1,c1,rfl,m1⟩:=zab h1
 obtain ⟨a2,c2,rfl,m2⟩:=zab h2
 have HH:=L_ h
 have HB:=L_ (fun G W (hW:Sat (pts bb (.cells #[.slice a1 l1.length c1,.slice a2 l2.length c2] 58 (0,0))*G) W)=>(⟨Sat.read hW.left.at 0,Sat.read hW.left.at 1⟩:W.cell? ⟨bb,0,none⟩=some (.slice a1 l1.length c1)∧W.cell? ⟨bb,1,none⟩=some (.slice a2 l2.length c2)))
 have r1:=L_ (h1.with (G:=pts bb (.cells #[.slice a1 l1.length c1,.slice a2 l2.length c2] 58 (0,0))))
 have r2:=L_ (h2.with (G:=pts bb (.cells #[.slice a1 l1.length c1,.slice a2 l2.length c2] 58 (0,0))))
 obtain ⟨b0,b1⟩:=HB.out _ _ H
 have p1:(0:Int)≤(l1.length:Int):=by omega
 have q1:(l1.length:Int)≤10000:=by omega
 have p2:(0:Int)≤(l2.length:Int):=by omega
 have q2:(l2.length:Int)≤10000:=by omega
 have s2:(0:Int)≤(l1.length:Int)+(l2.length:Int):=by omega
 have L1:=L_ k1
 have L2:=L_ k2
 clear h h1 h2 k1 k2
 go_enter Tryz.func174,Tryz.ntmps174
 go_wp2_with fail
 refine wp_loop_rounds 3 ?_
 rw [rounds_succ]
 go_wp2_with fail
 rw [rounds_succ]
 go_wp2_with fail
 rw [rounds_succ]
 go_wp2_with (go_at_call 189;with_reducible refine zmy _ (l1.length+l2.length) (by omega) (by have:=L1.out;have:=L2.out;omega) H ?_;intro y0 w0 H0 I0;obtain ⟨d0,d1⟩:=HB.out _ _ H0.right)
 refine wp_loop_rounds 3 ?_
 rw [rounds_succ]
 go_wp2_with (at_builtin;refine zae Tryz.zoo zbu rfl (.tmp 31) (.tmp 32) rfl rfl H0 (by simp) (by have:=L1.out;have:=L2.out;omega) rfl r1.out ?_;intro y1 w1 H1 I1;obtain ⟨e1_0,e1_1⟩:=HB.out _ _ H1.right)
 rw [rounds_succ]
 go_wp2_with (at_builtin;refine zae Tryz.zoo zbu rfl (.tmp 31) (.tmp 32) rfl rfl H1 (by have:=L1.out;have:=L2.out;simp;omega) (by have:=L1.out;have:=L2.out;omega) rfl r2.out ?_;intro y2 w2 H2 I2)
 rw [rounds_succ]
 go_wp2_with fail
 simp only [List.nil_append] at H2
 exact HH.out _ _ (zc4 H2) ((I0.trans I1).trans I2)
theorem zco {bb:Nat} {v1 v2:Value} {l1 l2:List ByteArray} (h1:zbe F v1 l1) (k1:l1.length≤10000) (h2:zbe F v2 l2) (k2:l2.length≤10000) (H:Sat (pts bb (.cells #[v1,v2] 58 (0,0))*F) w) (h:∀ v' w',Sat (zbj v' (l1++l2)*F) w'→Io w w'→R (.returned v') w') :
  Calls Tryz.prog 149 #[.slice (some ⟨bb,0,none⟩) 2 2] w R:=by
 have HH:=L_ h
 clear h
 go_enter Tryz.func149,Tryz.ntmps149
 go_wp2_with (go_at_call 174;with_reducible refine zri h1 k1 h2 k2 H ?_;intro y1 w1 H1 I1)
 exact HH.out _ _ H1 I1
theorem zrh {bb:Nat} {v1 v2 v3:Value} {l1 l2 l3:List ByteArray} (h1:zbe F v1 l1) (k1:l1.length≤10000) (h2:zbe F v2 l2) (k2:l2.length≤10000) (h3:zbe F v3 l3) (k3:l3.length≤10000) (H:Sat (pts bb (.cells #[v1,v2,v3] 58 (0,0))*F) w) (h:∀ v' w',Sat (zbj v' (l1++l2++l3)*F) w'→Io w w'→R (.returned v') w') :
  Calls Tryz.prog 174 #[.slice (some ⟨bb,0,none⟩) 3 3] w R:=by
 obtain ⟨a1,c1,rfl,m1⟩:=zab h1
 obtain ⟨a2,c2,rfl,m2⟩:=zab h2
 obtain ⟨a3,c3,rfl,m3⟩:=zab h3
 have HH:=L_ h
 have HB:=L_ (fun G W (hW:Sat (pts bb (.cells #[.slice a1 l1.length c1,.slice a2 l2.length c2,.slice a3 l3.length c3] 58 (0,0))*G) W)=>(⟨Sat.read hW.left.at 0,Sat.read hW.left.at 1,Sat.read hW.left.at 2⟩:W.cell? ⟨bb,0,none⟩=some (.slice a1 l1.length c1)∧W.cell? ⟨bb,1,none⟩=some (.slice a2 l2.length c2)∧W.cell? ⟨bb,2,none⟩=some (.slice a3 l3.length c3)))
 have r1:=L_ (h1.with (G:=pts bb (.cells #[.slice a1 l1.length c1,.slice a2 l2.length c2,.slice a3 l3.length c3] 58 (0,0))))
 have r2:=L_ (h2.with (G:=pts bb (.cells #[.slice a1 l1.length c1,.slice a2 l2.length c2,.slice a3 l3.length c3] 58 (0,0))))
 have r3:=L_ (h3.with (G:=pts bb (.cells #[.slice a1 l1.length c1,.slice a2 l2.length c2,.slice a3 l3.length c3] 58 (0,0))))
 obtain ⟨b0,b1,b2⟩:=HB.out _ _ H
 have p1:(0:Int)≤(l1.length:Int):=by omega
 have q1:(l1.length:Int)≤10000:=by omega
 have p2:(0:Int)≤(l2.length:Int):=by omega
 have q2:(l2.length:Int)≤10000:=by omega
 have p3:(0:Int)≤(l3.length:Int):=by omega
 have q3:(l3.length:Int)≤10000:=by omega
 have s2:(0:Int)≤(l1.length:Int)+(l2.length:Int):=by omega
 have s3:(0:Int)≤(l1.length:Int)+(l2.length:Int)+(l3.length:Int):=by omega
 have L1:=L_ k1
 have L2:=L_ k2
 have L3:=L_ k3
 clear h h1 h2 h3 k1 k2 k3
 go_enter Tryz.func174,Tryz.ntmps174
 go_wp2_with fail
 refine wp_loop_rounds 4 ?_
 rw [rounds_succ]
 go_wp2_with fail
 rw [rounds_succ]
 go_wp2_with fail
 rw [rounds_succ]
 go_wp2_with fail
 rw [rounds_succ]
 go_wp2_with (go_at_call 189;with_reducible refine zmy _ (l1.length+l2.length+l3.length) (by omega) (by have:=L1.out;have:=L2.out;have:=L3.out;omega) H ?_;intro y0 w0 H0 I0;obtain ⟨d0,d1,d2⟩:=HB.out _ _ H0.right)
 refine wp_loop_rounds 4 ?_
 rw [rounds_succ]
 go_wp2_with (at_builtin;refine zae Tryz.zoo zbu rfl (.tmp 31) (.tmp 32) rfl rfl H0 (by simp) (by have:=L1.out;have:=L2.out;have:=L3.out;omega) rfl r1.out ?_;intro y1 w1 H1 I1;obtain ⟨e1_0,e1_1,e1_2⟩:=HB.out _ _ H1.right)
 rw [rounds_succ]
 go_wp2_with (at_builtin;refine zae Tryz.zoo zbu rfl (.tmp 31) (.tmp 32) rfl rfl H1 (by have:=L1.out;have:=L2.out;have:=L3.out;simp;omega) (by have:=L1.out;have:=L2.out;have:=L3.out;omega) rfl r2.out ?_;intro y2 w2 H2 I2;obtain ⟨e2_0,e2_1,e2_2⟩:=HB.out _ _ H2.right)
 rw [rounds_succ]
 go_wp2_with (at_builtin;refine zae Tryz.zoo zbu rfl (.tmp 31) (.tmp 32) rfl rfl H2 (by have:=L1.out;have:=L2.out;have:=L3.out;simp;omega) (by have:=L1.out;have:=L2.out;have:=L3.out;omega) rfl r3.out ?_;intro y3 w3 H3 I3)
 rw [rounds_succ]
 go_wp2_with fail
 simp only [List.nil_append] at H3
 exact HH.out _ _ (zc4 H3) (((I0.trans I1).trans I2).trans I3)
theorem zak {bb:Nat} {v1 v2 v3:Value} {l1 l2 l3:List ByteArray} (h1:zbe F v1 l1) (k1:l1.length≤10000) (h2:zbe F v2 l2) (k2:l2.length≤10000) (h3:zbe F v3 l3) (k3:l3.length≤10000) (H:Sat (pts bb (.cells #[v1,v2,v3] 58 (0,0))*F) w) (h:∀ v' w',Sat (zbj v' (l1++l2++l3)*F) w'→Io w w'→R (.returned v') w') :
  Calls Tryz.prog 149 #[.slice (some ⟨bb,0,none⟩) 3 3] w R:=by
 have HH:=L_ h
 clear h
 go_enter Tryz.func149,Tryz.ntmps149
 go_wp2_with (go_at_call 174;with_reducible refine zrh h1 k1 h2 k2 h3 k3 H ?_;intro y1 w1 H1 I1)
 exact HH.out _ _ H1 I1
end
namespace Ky
def put (l:List En) (k v:Nm):List En:=if has k l then l.set (pos k l) (k,v) else l.take (pos k l)++[(k,v)]++l.drop (pos k l)
def del (l:List En) (k:Nm):List En:=if has k l then l.take (pos k l)++l.drop (pos k l+1) else l
def get (l:List En) (k:Nm):Option Nm:=if has k l then (l[pos k l]?).map (·.2) else none
end Ky
theorem zbw {α:Type} {enc:α→List Value} {sz:Nat} (he:Enc enc sz) {F:Asn} {a:Option Addr} {n c c':Nat} {l:List α} (h:Reads enc F (.slice a n c) l) (k:Nat) (hk:k≤l.length):Reads enc F (.slice a k c') (l.take k):=by
 obtain ⟨a',c2,e,hm,h3⟩:=h
 cases e
 refine ⟨a,c',by rw [List.length_take,Nat.min_eq_left hk],by rw [List.length_take];omega,?_⟩
 rcases h3 with rfl | ⟨b,off,e,h3⟩
 ·exact .inl (by simp)
 ·refine .inr ⟨b,off,e,fun w hw j u hu=>h3 w hw j u ?_⟩
  have hs:cellsOf enc l=cellsOf enc (l.take k)++cellsOf enc (l.drop k):=by rw [←zbc,List.take_append_drop]
  rw [hs,List.getElem?_append_left (List.getElem?_eq_some_iff.1 hu).1]
  exact hu
theorem zo5 {α:Type} {enc:α→List Value} {sz:Nat} (he:Enc enc sz) {F:Asn} {b off n c c':Nat} {l:List α} (h:Reads enc F (.slice (some ⟨b,off,none⟩) n c) l) (k:Nat) (hk:k≤l.length) (o:Nat) (ho:k<l.length→o=off+k*sz):Reads enc F (.slice (some ⟨b,o,none⟩) (n - k) c') (l.drop k):=by
 obtain ⟨a',c2,e,hm,h3⟩:=h
 cases e
 refine ⟨_,c',by rw [List.length_drop],by rw [List.length_drop];omega,?_⟩
 by_cases hlt:k<l.length
 ·rw [ho hlt]
  rcases h3 with rfl | ⟨b',off',e,h3⟩
  ·exact .inl (by simp)
  ·cases e
   refine .inr ⟨b,off+k*sz,rfl,fun w hw j u hu=>?_⟩
   rw [Nat.add_assoc]
   refine h3 w hw (k*sz+j) u ?_
   have hs:cellsOf enc l=cellsOf enc (l.take k)++cellsOf enc (l.drop k):=by rw [←zbc,List.take_append_drop]
   have hl:(cellsOf enc (l.take k)).length=k*sz:=by rw [cellsOf_length he,List.length_take,Nat.min_eq_left hk]
   rw [hs,List.getElem?_append_right (by omega),hl,Nat.add_sub_cancel_left]
   exact hu
 ·exact .inl (List.drop_of_length_le (by omega))
theorem za6 {α:Type} {enc:α→List Value} {sz:Nat} (he:Enc enc sz) {F:Asn} {b off n c:Nat} {l:List α} (h:Reads enc F (.slice (some ⟨b,off,none⟩) n c) l) (k:Nat) (hk:k≤l.length) (hc:n≤c):Reads enc F (.slice (if c=k then some ⟨b,off,none⟩ else some ⟨b,off+k*sz,none⟩) (n - k) (c - k)) (l.drop k):=by
 have hn:n=l.length:=by obtain ⟨_,_,e2,_⟩:=h;cases e2;rfl
 by_cases e:c=k
 ·rw [if_pos e];exact zo5 he h k hk off (fun h'=>by omega)
 ·rw [if_neg e];exact zo5 he h k hk _ (fun _=>rfl)
def z1j (v:Value) (n:Nat):Prop:=(v=.slice none 0 0∧n=0)∨∃ b off c,v=.slice (some ⟨b,off,none⟩) n c∧n≤c∧c≤maxLen
theorem za2 {α:Type} {enc:α→List Value} {sz:Nat} {e:TypeId} {v:Value} {l:List α} {F:Asn} {w:World} (H:Sat (RowOf e sz enc v l*F) w):z1j v l.length:=by
 obtain ⟨_,⟨rfl,h0,_⟩ | ⟨g,cap,cur,rfl,h2,h3,_⟩⟩:=za8.1 H
 ·exact .inl ⟨rfl,h0⟩
 ·exact .inr ⟨g,0,cap,rfl,h2,h3⟩
theorem zg2 {α:Type} {enc:α→List Value} {sz:Nat} (he:Enc enc sz) {e:TypeId} {g:Nat} (y:α) {F:Asn}:Reads enc (pts g (.cells (enc y).toArray e (0,0))*F) (.slice (some ⟨g,0,none⟩) 1 1) [y]:=by
 refine ⟨_,1,rfl,by simp,.inr ⟨g,0,rfl,fun w hw j u hu=>?_⟩⟩
 rw [Nat.zero_add,Sat.read hw.left.at j]
 simpa [cellsOf] using hu
theorem zas {α:Type} {enc:α→List Value} (F:Asn) (a:Option Addr) (c:Nat):Reads enc F (.slice a 0 c) []:=⟨a,c,rfl,by simp,.inl rfl⟩
section
variable {F:Asn} {w:World} {R:Ending→World→Prop}
theorem zxj {l:List Ky.En} {v:Value} (hr:Ky.Right l) (hs:Ky.Short 1000 l) (hv:zbi F v l) (hcap:z1j v l.length) (hl:l.length≤5000) (key:ByteArray) (hh:Ky.has key l=true) (H:Sat F w) (h:∀ v' w',Sat (zda v' (Ky.del l key)*F) w'→Io w w'→R (.returned v') w') :
  Calls Tryz.prog 86 #[v,.string key] w R:=by
 have hpos:0<l.length:=by obtain ⟨h0,_⟩:=(Ky.zc1 hr).1 hh;omega
 obtain ⟨b,off,c,rfl,hc1,hc2⟩:∃ b off c,v=.slice (some ⟨b,off,none⟩) l.length c∧l.length≤c∧c≤maxLen:=by
  rcases hcap with ⟨_,h0⟩ | h
  ·omega
  ·exact h
 unfold maxLen at hc2
 have HH:=L_ h
 have HV:=L_ hv
 have HS:=L_ hs
 have HR:=L_ hr
 obtain ⟨n,hn⟩:∃ n,n=Ky.pos key l:=⟨_,rfl⟩
 obtain ⟨hlt,hat⟩:=(Ky.zc1 hr).1 hh
 rw [←hn] at hlt
 have HN:=L_ hn
 have HD:Hid (true=Ky.has key l):=L_ hh.symm
 have HDR:Hid (true=decide (Ky.Right l)):=L_ (decide_eq_true hr).symm
 have HDEL:Hid (Ky.del l key=l.take n++l.drop (n+1)):=L_ (by unfold Ky.del;rw [if_pos hh,←hn])
 rw [HDEL.out] at HH
 clear h hv hs hr hcap hn hh hat
 have n0:(0:Int)≤(n:Int):=by omega
 have n1:(n:Int)≤(l.length:Int):=by omega
 have n2:(n:Int)≤(c:Int):=by omega
 obtain ⟨m,hm1⟩:∃ m,m=n+1:=⟨_,rfl⟩
 have HM1:=L_ hm1
 rw [←hm1] at HH
 have n3:(0:Int)≤(m:Int):=by omega
 have n4:(m:Int)≤(l.length:Int):=by omega
 have hw1:IntKind.i64.wrap ((n:Int)+1)=(m:Int):=by rw [IntKind.wrap_i64];omega
 have n5:(l.length:Int)≤(c:Int):=by omega
 have R1:Hid (zbi F (.slice (some ⟨b,off,none⟩) n n) (l.take n)):=L_ (zbw zbk HV.out n (by omega))
 have R2:Hid (zbi F (.slice (if c=m then some ⟨b,off,none⟩ else some ⟨b,off+m*2,none⟩) (l.length - m) (c - m)) (l.drop m)):=L_ (za6 zbk HV.out m (by omega) hc1)
 have L1:Hid ((l.take n).length≤10000):=L_ (by rw [List.length_take];omega)
 have L2:Hid ((l.drop m).length≤10000):=L_ (by rw [List.length_drop];omega)
 clear hm1
 go_enter Tryz.func86,Tryz.ntmps86
 go_upto_region 4 with (first
  | (go_at_call 92;with_reducible refine zgm HR.out HV.out (by omega) key H HN HD ?_;intro w1 H1 I1)
  | (go_at_call 91;with_reducible refine zeu HV.out HS.out (by omega) H1 HDR ?_;intro w2 H2 I2))
 refine zwm 8 (by kernel_rfl) (by kernel_rfl) ?_
 simp only [List.take_succ_cons,List.take_zero,List.drop_succ_cons,List.drop_zero]
 repeat still_step
 refine wpStill_nil ?_
 generalize (if c=m then (some ⟨b,off,none⟩:Option Addr) else some ⟨b,off+m*2,none⟩)=ad at *
 generalize l.length - m=d1 at *
 generalize c - m=d2 at *
 have HB:=(H2.new (.cells #[.slice (some ⟨b,off,none⟩) n n,.slice ad d1 d2] 59)).drew
 have JB:=((I1.trans I2).alloc (.cells #[.slice (some ⟨b,off,none⟩) n n,.slice ad d1 d2] 59)).drew
 go_wp2_with (go_at_call 94;with_reducible refine zkq R1.out L1.out R2.out L2.out HB ?_;intro v5 w5 H5 I5)
 exact HH.out _ _ H5 (JB.trans I5)
theorem xbv {l:List Ky.En} {v:Value} (hr:Ky.Right l) (hs:Ky.Short 1000 l) (hv:zbi F v l) (hcap:z1j v l.length) (hl:l.length≤5000) (key val:ByteArray) (hc0:Ky.chk key val=0) (hz1:key.size≤1000) (hz2:val.size≤1000) (hh:Ky.has key l=false) (H:Sat F w) (h:∀ v' w',Sat (zda v' (Ky.put l key val)*F) w'→Io w w'→R (.returned v') w') :
  Calls Tryz.prog 66 #[v,.string key,.string val] w R:=by
 have HH:=L_ h
 have HV:=L_ hv
 have HS:=L_ hs
 have HR:=L_ hr
 obtain ⟨n,hn⟩:∃ n,n=Ky.pos key l:=⟨_,rfl⟩
 have hnl:n≤l.length:=by rw [hn];exact Ky.zmg key l
 have HN:=L_ hn
 have HD:Hid (false=Ky.has key l):=L_ hh.symm
 have HDR:Hid (true=decide (Ky.Right l)):=L_ (decide_eq_true hr).symm
 have HCH:Hid (0=Ky.chk key val):=L_ hc0.symm
 have HPUT:Hid (Ky.put l key val=l.take n++[(key,val)]++l.drop n):=L_ (by unfold Ky.put;rw [hh,if_neg (by simp),←hn])
 rw [HPUT.out] at HH
 have n0:(0:Int)≤(n:Int):=by omega
 have n1:(n:Int)≤(l.length:Int):=by omega
 have hz3:key.size≤1000000:=by omega
 have hz4:val.size≤1000000:=by omega
 have hcp:=hcap
 clear h hv hs hr hcap hn hh hc0
 rcases hcp with ⟨rfl,h0⟩ | ⟨b,off,c,rfl,hc1,hc2⟩
 ·obtain rfl:l=[]:=List.eq_nil_of_length_eq_zero h0
  obtain rfl:n=0:=by simpa using hnl
  have R1:Hid (zbi F (.slice none 0 0) ([]:List Ky.En)):=L_ (zas F none 0)
  have R2:=R1
  have L1:Hid (([]:List Ky.En).length≤10000):=L_ (by simp)
  have L2:=L1
  simp only [List.take_nil,List.drop_nil] at HH
  clear n1 h0 hnl hl
  go_enter Tryz.func66,Tryz.ntmps66
  go_upto_region 9 with (first
   | (go_at_call 92;with_reducible refine zgm HR.out HV.out (by simp) key H2 HN HD ?_;intro w3 H3 I3)
   | (go_at_call 63;with_reducible refine check_any key val hz3 hz4 HCH ?_)
   | (go_at_call 91;with_reducible refine zeu HV.out HS.out (by simp) H HDR ?_;intro w2 H2 I2))
  have H4:=H3.new (.cells #[.string key,.string val] 112)
  have I4:=(I2.trans I3).alloc (.cells #[.string key,.string val] 112)
  generalize w3.alloc _=w4 at *
  generalize w3.heap.size=bx at *
  have H5:=H4.new (.cells #[.string key,.string val] 112)
  have I5:=io1 H5 I4
  have hsz5:(w4.alloc (.cells #[.string key,.string val] 112)).heap.size=w4.heap.size+1:=by simp
  have H6:=H5.new (.cells #[.slice none 0 0,.slice (some ⟨w4.heap.size,0,none⟩) 1 1,.slice none 0 0] 59)
  rw [hsz5] at H6
  have I6:=io1 H6 I5
  have Z0:=zby H4.drew
  have Z1:=zby H5.right.drew
  have Z2:=zby H6.right.right.drew
  have RX:Hid (zbi (pts w4.heap.size (.cells #[.string key,.string val] 112 (0,0))*(pts bx (.cells #[.string key,.string val] 112 (0,0))*F)) (.slice (some ⟨w4.heap.size,0,none⟩) 1 1) [(key,val)]):=L_ (zg2 zbk (key,val))
  have R1':Hid (zbi (pts w4.heap.size (.cells #[.string key,.string val] 112 (0,0))*(pts bx (.cells #[.string key,.string val] 112 (0,0))*F)) (.slice none 0 0) ([]:List Ky.En)):=L_ (R1.out.with.with)
  have R2':Hid (zbi (pts w4.heap.size (.cells #[.string key,.string val] 112 (0,0))*(pts bx (.cells #[.string key,.string val] 112 (0,0))*F)) (.slice none 0 0) ([]:List Ky.En)):=L_ (R2.out.with.with)
  have L3:Hid (([(key,val)]:List Ky.En).length≤10000):=L_ (by simp)
  have H6d:=H6.drew
  go_region_held3 (fun W=>W.cell? ⟨bx,0,none⟩=some (.string key)∧W.cell? ⟨bx,1,none⟩=some (.string val)) (first | exact Z0 | exact Z1 | exact Z2 | exact Z3) ((go_at_call 94;with_reducible refine zkp R1'.out L1.out RX.out L3.out R2'.out L2.out H6d ?_;intro v7 w7 H7 I7;have Z3:=zby H7.right.right))
  all_goals
   go_wp2_with fail
   exact HH.out _ _ (zc4 (zc4 H7)) (I6.drew.trans I7)
 ·unfold maxLen at hc2
  have n2:(n:Int)≤(c:Int):=by omega
  have n5:(l.length:Int)≤(c:Int):=by omega
  have R1:Hid (zbi F (.slice (some ⟨b,off,none⟩) n n) (l.take n)):=L_ (zbw zbk HV.out n (by omega))
  have R2:Hid (zbi F (.slice (if c=n then some ⟨b,off,none⟩ else some ⟨b,off+n*2,none⟩) (l.length - n) (c - n)) (l.drop n)):=L_ (za6 zbk HV.out n (by omega) hc1)
  have L1:Hid ((l.take n).length≤10000):=L_ (by rw [List.length_take];omega)
  have L2:Hid ((l.drop n).length≤10000):=L_ (by rw [List.length_drop];omega)
  go_enter Tryz.func66,Tryz.ntmps66
  go_upto_region 9 with (first
   | (go_at_call 92;with_reducible refine zgm HR.out HV.out (by omega) key H2 HN HD ?_;intro w3 H3 I3)
   | (go_at_call 63;with_reducible refine check_any key val hz3 hz4 HCH ?_)
   | (go_at_call 91;with_reducible refine zeu HV.out HS.out (by omega) H HDR ?_;intro w2 H2 I2))
  have H4:=H3.new (.cells #[.string key,.string val] 112)
  have I4:=(I2.trans I3).alloc (.cells #[.string key,.string val] 112)
  generalize w3.alloc _=w4 at *
  generalize w3.heap.size=bx at *
  have H5:=H4.new (.cells #[.string key,.string val] 112)
  have I5:=io1 H5 I4
  have hsz5:(w4.alloc (.cells #[.string key,.string val] 112)).heap.size=w4.heap.size+1:=by simp
  generalize had:(if c=n then (some ⟨b,off,none⟩:Option Addr) else some ⟨b,off+n*2,none⟩)=ad at *
  generalize hd1:l.length - n=d1 at *
  generalize hd2:c - n=d2 at *
  have H6:=H5.new (.cells #[.slice (some ⟨b,off,none⟩) n n,.slice (some ⟨w4.heap.size,0,none⟩) 1 1,.slice ad d1 d2] 59)
  rw [hsz5] at H6
  have I6:=io1 H6 I5
  have Z0:=zby H4.drew
  have Z1:=zby H5.right.drew
  have Z2:=zby H6.right.right.drew
  have RX:Hid (zbi (pts w4.heap.size (.cells #[.string key,.string val] 112 (0,0))*(pts bx (.cells #[.string key,.string val] 112 (0,0))*F)) (.slice (some ⟨w4.heap.size,0,none⟩) 1 1) [(key,val)]):=L_ (zg2 zbk (key,val))
  have R1':Hid (zbi (pts w4.heap.size (.cells #[.string key,.string val] 112 (0,0))*(pts bx (.cells #[.string key,.string val] 112 (0,0))*F)) (.slice (some ⟨b,off,none⟩) n n) (l.take n)):=L_ (R1.out.with.with)
  have R2':Hid (zbi (pts w4.heap.size (.cells #[.string key,.string val] 112 (0,0))*(pts bx (.cells #[.string key,.string val] 112 (0,0))*F)) (.slice ad d1 d2) (l.drop n)):=L_ (R2.out.with.with)
  have L3:Hid (([(key,val)]:List Ky.En).length≤10000):=L_ (by simp)
  have H6d:=H6.drew
  go_region_held3 (fun W=>W.cell? ⟨bx,0,none⟩=some (.string key)∧W.cell? ⟨bx,1,none⟩=some (.string val)) (first | exact Z0 | exact Z1 | exact Z2 | exact Z3) ((go_at_call 94;with_reducible refine zkp R1'.out L1.out RX.out L3.out R2'.out L2.out H6d ?_;intro v7 w7 H7 I7;have Z3:=zby H7.right.right))
  all_goals
   go_wp2_with fail
   exact HH.out _ _ (zc4 (zc4 H7)) (I6.drew.trans I7)
end
theorem cellsOf_set {α:Type} {enc:α→List Value} {sz:Nat} (he:Enc enc sz):∀ (l:List α) (k:Nat) (hk:k<l.length) (i:Nat) (hi:i<sz) (y:α) (u:Value),enc y=(enc l[k]).set i u→(cellsOf enc l).set (k*sz+i) u=cellsOf enc (l.set k y)
  | x::l,0,hk,i,hi,y,u,h=>by
    unfold cellsOf
    simp only [List.flatMap_cons,List.set_cons_zero,Nat.zero_mul,Nat.zero_add]
    rw [List.set_append_left _ _ (by rw [he.len];exact hi),h]
    rfl
  | x::l,k+1,hk,i,hi,y,u,h=>by
    have:=cellsOf_set he l k (by simpa using hk) i hi y u h
    unfold cellsOf at this ⊢
    simp only [List.flatMap_cons,List.set_cons_succ]
    have e:(k+1)*sz=k*sz+sz:=Nat.succ_mul k sz
    rw [List.set_append_right _ _ (by rw [he.len];omega),he.len,show (k+1)*sz+i - sz=k*sz+i from by omega,this]
theorem zcv {α:Type} {enc:α→List Value} {sz:Nat} {e:TypeId} {v:Value} {l:List α} {F:Asn} {w:World} (hl:l≠[]) (H:Sat (RowOf e sz enc v l*F) w):∃ g c,v=.slice (some ⟨g,0,none⟩) l.length c:=by
  obtain ⟨hx,⟨rfl,h0,_⟩ | ⟨g,cap,cur,rfl,h2,h3,h4,h5,_⟩⟩:=za8.1 H
  · exact absurd (List.eq_nil_of_length_eq_zero h0) hl
  · exact ⟨_,_,rfl⟩
theorem zmc {α:Type} {enc:α→List Value} {sz:Nat} (he:Enc enc sz) {e:TypeId} {g n c:Nat} {l:List α} {F:Asn} {w:World} (H:Sat (RowOf e sz enc (.slice (some ⟨g,0,none⟩) n c) l*F) w) (k:Nat) (hk:k<l.length) (i:Nat) (hi:i<sz) (y:α) (u:Value) (h:enc y=(enc l[k]).set i u) :
    Sat (RowOf e sz enc (.slice (some ⟨g,0,none⟩) n c) (l.set k y)*F) (w.setCell ⟨g,k*sz+i,none⟩ u):=by
  have hn:n=l.length:=z9r H
  subst hn
  have:=zsw H (k*sz+i) u
  rw [cellsOf_set he l k hk i hi y u h] at this
  unfold RowOf
  rw [List.length_set]
  exact this
where
  z9r {n:Nat} {c:Nat} {g:Nat} {e:TypeId} {sz:Nat} {l:List α} {F:Asn} {w:World} (H:Sat (RowOf e sz enc (.slice (some ⟨g,0,none⟩) n c) l*F) w):n=l.length:=by
    obtain ⟨hx,⟨h0,_⟩ | ⟨g',cap,cur,e1,_⟩⟩:=za8.1 H
    · cases h0
    · cases e1;rfl
theorem za4 {α:Type} {enc:α→List Value} {sz:Nat} (he:Enc enc sz) {e:TypeId} {g n c:Nat} {l:List α} {F:Asn} {w:World} (H:Sat (RowOf e sz enc (.slice (some ⟨g,0,none⟩) n c) l*F) w) (k:Nat) (hk:k<l.length) (i:Nat) (hi:i<sz) (u:Value) (hu:(enc l[k])[i]?=some u):w.cell? ⟨g,k*sz+i,none⟩=some u:=by
  have hn:n=l.length:=by
    obtain ⟨hx,⟨h0,_⟩ | ⟨g',cap,cur,e1,_⟩⟩:=za8.1 H
    · cases h0
    · cases e1;rfl
  subst hn
  exact zi6 H (k*sz+i) u (by rw [zc3 he l k hk i hi];exact hu)
theorem zil {α:Type} {enc:α→List Value} {sz:Nat} {e:TypeId} {g n c:Nat} {l:List α} {F:Asn} {w:World} (H:Sat (RowOf e sz enc (.slice (some ⟨g,0,none⟩) n c) l*F) w) (k:Nat):w.frozen? ⟨g,k,none⟩=false:=by
  obtain ⟨hl,⟨h0,_⟩ | ⟨g',cap,cur,e1,e2,e3,e4,e5,h⟩⟩:=za8.1 H
  · cases h0
  · cases e1
    exact Sat.free h.left.at k
theorem z9u {g n c:Nat} {l:List Ky.En} {F:Asn} {w:World} (H:Sat (zda (.slice (some ⟨g,0,none⟩) n c) l*F) w) (k:Nat) (hk:k<l.length) (x y:ByteArray) :
    Sat (zda (.slice (some ⟨g,0,none⟩) n c) (l.set k (x,y))*F) ((w.setCell ⟨g,k*2,none⟩ (.string x)).setCell ⟨g,k*2+1,none⟩ (.string y)):=by
  have h1:=zmc zbk H k hk 0 (by omega) (x,(l[k]).2) (.string x) rfl
  have h2:=zmc zbk h1 k (by rw [List.length_set];exact hk) 1 (by omega) (x,y) (.string y) (by rw [List.getElem_set_self];rfl)
  rw [List.set_set] at h2
  exact h2
theorem xbt (a:Addr) (n c:Nat) (w:World):(binOp .eql 59 (.slice (some a) n c) (.slice none 0 0)).run Tryz.prog w=.ok (.bool false) w:=by kernel_rfl
section
variable {F:Asn} {w:World} {R:Ending→World→Prop}
theorem z0y {l:List Ky.En} {b off c:Nat} (hv:zbi F (.slice (some ⟨b,off,none⟩) l.length c) l) (hl:l.length≤5000) (H:Sat F w) (h:∀ v' w',Sat (zda v' l*F) w'→Io w w'→R (.returned v') w') :
    Calls Tryz.prog 93 #[.slice (some ⟨b,off,none⟩) l.length c] w R:=by
  have HH:=L_ h
  have HV:=L_ hv
  clear h hv
  have eq:=xbt ⟨b,off,none⟩ l.length c
  have H1:=H.new (.cells #[] 112)
  have I1:=io1 H1 (Io.refl w)
  have K1:Sat (zda (.slice (some ⟨w.heap.size,0,none⟩) 0 0) []*F) (w.alloc (.cells #[] 112)):=za8.2 ⟨by simp [cellsOf],.inr ⟨w.heap.size,0,#[],rfl,by simp,by unfold maxLen;omega,rfl,by simp [cellsOf],H1⟩⟩
  go_enter Tryz.func93,Tryz.ntmps93
  go_wp2_with (at_builtin;refine zae Tryz.z1h zbk rfl (.tmp 5) (.tmp 6) rfl rfl K1 (by simp) (by omega) rfl HV.out ?_;intro v2 w2 H2 I2;rw [List.nil_append] at H2)
  exact HH.out _ _ H2 (I1.trans I2)
theorem xbu {l:List Ky.En} {v:Value} (hr:Ky.Right l) (hs:Ky.Short 1000 l) (hv:zbi F v l) (hcap:z1j v l.length) (hl:l.length≤5000) (key val:ByteArray) (hc0:Ky.chk key val=0) (hz1:key.size≤1000) (hz2:val.size≤1000) (hh:Ky.has key l=true) (H:Sat F w) (h:∀ v' w',Sat (zda v' (Ky.put l key val)*F) w'→Io w w'→R (.returned v') w') :
    Calls Tryz.prog 66 #[v,.string key,.string val] w R:=by
  have hpos:0<l.length:=by obtain ⟨h0,_⟩:=(Ky.zc1 hr).1 hh;omega
  obtain ⟨b,off,c,rfl,hc1,hc2⟩:∃ b off c,v=.slice (some ⟨b,off,none⟩) l.length c∧l.length≤c∧c≤maxLen:=by
    rcases hcap with ⟨_,h0⟩ | h
    · omega
    · exact h
  have HH:=L_ h
  have HV:=L_ hv
  have HS:=L_ hs
  have HR:=L_ hr
  obtain ⟨n,hn⟩:∃ n,n=Ky.pos key l:=⟨_,rfl⟩
  obtain ⟨hlt,hat⟩:=(Ky.zc1 hr).1 hh
  rw [←hn] at hlt
  have HN:=L_ hn
  have HD:Hid (true=Ky.has key l):=L_ hh.symm
  have HDR:Hid (true=decide (Ky.Right l)):=L_ (decide_eq_true hr).symm
  have HCH:Hid (0=Ky.chk key val):=L_ hc0.symm
  have HPUT:Hid (Ky.put l key val=l.set n (key,val)):=L_ (by unfold Ky.put;rw [hh,if_pos rfl,←hn])
  rw [HPUT.out] at HH
  have n0:(0:Int)≤(n:Int):=by omega
  have n1:(n:Int)<(l.length:Int):=by omega
  have hz3:key.size≤1000000:=by omega
  have hz4:val.size≤1000000:=by omega
  have hne:l≠[]:=by rintro rfl;simp at hpos
  clear h hv hs hr hcap hn hh hc0 hat
  go_enter Tryz.func66,Tryz.ntmps66
  go_wp2_with (first
    | (go_at_call 92;with_reducible refine zgm HR.out HV.out (by omega) key H2 HN HD ?_;intro w3 H3 I3;have H4:=H3.new (.cells #[.string key,.string val] 112);have I4:=(I2.trans I3).alloc (.cells #[.string key,.string val] 112))
    | (go_at_call 63;with_reducible refine check_any key val hz3 hz4 HCH ?_)
    | (go_at_call 91;with_reducible refine zeu HV.out HS.out (by omega) H HDR ?_;intro w2 H2 I2)
    | (go_at_call 93;with_reducible refine z0y HV.out.with hl H4 ?_;intro v5 w5 H5 I5
       obtain ⟨g,c5,e5⟩:=zcv hne H5
       subst e5
       obtain ⟨z0,z1⟩:=zby H5.right
       have y0:=za4 zbk H5 n hlt 0 (by omega) (.string (l[n]).1) rfl
       have y1:=za4 zbk H5 n hlt 1 (by omega) (.string (l[n]).2) rfl
       have f0:=zil H5 (n*2)
       have f1:=zil H5 (n*2+1)
       have M1:=zmc zbk H5 n hlt 0 (by omega) (key,(l[n]).2) (.string key) rfl
       have y2:=za4 zbk M1 n (by rw [List.length_set];exact hlt) 1 (by omega) (.string (l[n]).2) (by rw [List.getElem_set_self];rfl)
       have f2:=zil M1 (n*2+1)
       simp only [Nat.add_zero] at y0 y2 f2
       have H6:=z9u H5 n hlt key val
       have I6:=((I4.trans I5).setCell ⟨g,n*2,none⟩ (.string key)).setCell ⟨g,n*2+1,none⟩ (.string val)))
  exact HH.out _ _ (zc4 H6) I6
theorem xbw {l:List Ky.En} {v:Value} (hr:Ky.Right l) (hs:Ky.Short 1000 l) (hv:zbi F v l) (hcap:z1j v l.length) (hl:l.length≤5000) (key val:ByteArray) (hc0:Ky.chk key val=0) (hz1:key.size≤1000) (hz2:val.size≤1000) (H:Sat F w) (h:∀ v' w',Sat (zda v' (Ky.put l key val)*F) w'→Io w w'→R (.returned v') w') :
    Calls Tryz.prog 66 #[v,.string key,.string val] w R:=by
  cases hh:Ky.has key l with
  | true=>exact xbu hr hs hv hcap hl key val hc0 hz1 hz2 hh H h
  | false=>exact xbv hr hs hv hcap hl key val hc0 hz1 hz2 hh H h
theorem xb0 {l:List Ky.En} {v:Value} (hr:Ky.Right l) (hs:Ky.Short 1000 l) (hv:zbi F v l) (hl:l.length≤5000) (key:ByteArray) {val:ByteArray} {d:Bool} (hg:Hid ((d=true∧Ky.get l key=some val)∨(d=false∧val=⟨#[]⟩∧Ky.get l key=none))) (H:Sat F w) (h:∀ w',Sat F w'→Io w w'→R (.returned (.tuple #[.string val,.bool d])) w') :
    Calls Tryz.prog 107 #[v,.string key] w R:=by
  obtain ⟨a,c,rfl,hm⟩:=zcr hv
  have HH:=L_ h
  have HV:=L_ hv
  have HS:=L_ hs
  have HR:=L_ hr
  obtain ⟨n,hn⟩:∃ n,n=Ky.pos key l:=⟨_,rfl⟩
  have HN:=L_ hn
  have HDR:Hid (true=decide (Ky.Right l)):=L_ (decide_eq_true hr).symm
  have hgo:=hg.out
  unfold Ky.get at hgo
  cases hh:Ky.has key l with
  | true =>
    obtain ⟨hlt,hat⟩:=(Ky.zc1 hr).1 hh
    rw [←hn] at hlt
    rw [hh,if_pos rfl,←hn,List.getElem?_eq_getElem hlt] at hgo
    have HD:Hid (true=Ky.has key l):=L_ hh.symm
    obtain ⟨b,off,xk,xv,rfl,hx,hc⟩:=zc6 hv n hlt
    obtain ⟨rfl,rfl⟩:d=true∧val=xv:=by
      rcases hgo with ⟨e1,e2⟩ | ⟨_,_,e2⟩
      · rw [hx] at e2
        simp only [Option.map_some,Option.some.injEq] at e2
        exact ⟨e1,e2.symm⟩
      · cases e2
    have HC:=L_ hc
    have n0:(0:Int)≤(n:Int):=by omega
    have n1:(n:Int)<(l.length:Int):=by omega
    clear h hv hs hr hn hh hat hx hc hgo hg
    go_enter Tryz.func107,Tryz.ntmps107
    go_wp2_with (first
      | (go_at_call 92;with_reducible refine zgm HR.out HV.out (by omega) key H HN HD ?_;intro w3 H3 I3)
      | (go_at_call 91;with_reducible refine zeu HV.out HS.out (by omega) H3 HDR ?_;intro w2 H2 I2;obtain ⟨z0,z1⟩:=HC.out _ H2))
    exact HH.out _ H2 (I3.trans I2)
  | false =>
    rw [hh,if_neg (by simp)] at hgo
    obtain ⟨rfl,rfl⟩:d=false∧val=⟨#[]⟩:=by
      rcases hgo with ⟨_,e2⟩ | ⟨e1,e2,_⟩
      · cases e2
      · exact ⟨e1,e2⟩
    have HD:Hid (false=Ky.has key l):=L_ hh.symm
    clear h hv hs hr hn hh hgo hg
    go_enter Tryz.func107,Tryz.ntmps107
    go_wp2_with (go_at_call 92;with_reducible refine zgm HR.out HV.out (by omega) key H HN HD ?_;intro w3 H3 I3)
    exact HH.out _ H3 I3
end
end Go.Proofs.YtfknjmoekbabcaaGreatDoor
