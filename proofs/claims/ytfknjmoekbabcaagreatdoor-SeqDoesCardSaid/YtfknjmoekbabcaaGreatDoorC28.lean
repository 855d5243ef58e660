/-
  A part of a proof. It proves no statement by itself.
-/
import Derived.Test.YtfknjmoekbabcaaGreatDoorC13
import Derived.Test.YtfknjmoekbabcaaGreatDoorC12
import Derived.Laws.StructEq
import Derived.Test.YtfknjmoekbabcaaGreatDoorC20
import Derived.LoopN
set_option linter.unusedSimpArgs false
set_option linter.unusedVariables false
set_option linter.unusedSectionVars false
set_option maxRecDepth 100000
set_option maxHeartbeats 64000000
namespace Go.Proofs.YtfknjmoekbabcaaGreatDoor
open Go.RowKit Go.Lib
open Sq (Tk Nd zca InT)
namespace Sq
theorem fits4 {n:Int} (h:zca n):fits 4 n=true:=by
 unfold zca at h
 unfold fits
 rw [Bool.and_eq_true,decide_eq_true_eq,decide_eq_true_eq]
 omega
theorem putS4 {n:Int} (h:zca n):zym 4 n=Ky.p4 n∧zyn 4 n=0:=by
 unfold zym zyn Ky.p4
 rw [if_pos (fits4 h),if_pos (fits4 h)]
 exact ⟨rfl,rfl⟩
theorem putS1 {n:Int} (h:0≤n∧n≤255):zym 1 n=p1 n∧zyn 1 n=0:=by
 have e:fits 1 n=true:=by
  unfold fits
  rw [Bool.and_eq_true,decide_eq_true_eq,decide_eq_true_eq]
  omega
 unfold zym zyn p1
 rw [if_pos e,if_pos e]
 exact ⟨rfl,rfl⟩
end Sq
theorem zci (x1 x2 y1 y2:Int) (w:World):(binOp .eql 29 (.agg #[.int .i64 x1,.int .i64 x2]) (.agg #[.int .i64 y1,.int .i64 y2])).run Tryz.prog w=.ok (.bool (decide ((x1,x2)=(y1,y2)))) w:=by
 have u3:=Tryz.underlying3
 have a3:=Tryz.isAgg3
 have z3:=Tryz.sizeOf3
 have hS:Tryz.prog.underlying 29=some (.struct (Tryz.prog.fieldsOf 29)):=by kernel_rfl
 have hp:Tryz.prog.stoodInHeld 29=false:=by kernel_rfl
 rw [run_eql_struct,show (10000:Nat)=9999+1 from rfl,run_equalIn_agg w 9999 29 _ _ hS hp]
 simp only [Program.fieldsOf,Tryz.underlying29]
 go_simp
 by_cases h1:x1=y1<;>by_cases h2:x2=y2<;>simp [h1,h2]
theorem zds (x1 x2 y1 y2:Int) (w:World):(binOp .neq 29 (.agg #[.int .i64 x1,.int .i64 x2]) (.agg #[.int .i64 y1,.int .i64 y2])).run Tryz.prog w=.ok (.bool (!decide ((x1,x2)=(y1,y2)))) w:=by
 have h:=zci x1 x2 y1 y2 w
 rw [run_eql_struct] at h
 rw [run_neq_struct]
 cases hr:(Op.equalIn 10000 29 (.agg #[.int .i64 x1,.int .i64 x2]) (.agg #[.int .i64 y1,.int .i64 y2])).run Tryz.prog w with
 | ok b w' =>
  rw [hr] at h
  simp only [Result.andThen_ok] at h ⊢
  cases h
  rfl
 | _=>rw [hr] at h;cases h
theorem tk2 {b:Nat} {x y:Value} {t:TypeId} {G:Asn} {w:World} (H:Sat (pts b (.cells #[x,y] t (0,0))*G) w):w.cell? ⟨b,0,none⟩=some x∧w.cell? ⟨b,1,none⟩=some y:=⟨Sat.read H.left.at 0,Sat.read H.left.at 1⟩
theorem zgf {b:Nat} {x y:Value} {t:TypeId} {G:Asn} {w:World} (H:Sat (pts b (.cells #[x,y] t (0,0))*G) w):w.frozen? ⟨b,0,none⟩=false∧w.frozen? ⟨b,1,none⟩=false:=⟨Sat.free H.left.at 0,Sat.free H.left.at 1⟩
theorem nd8 {F:Asn} {w:World} {b:Nat} {t:TypeId} {v0 v1 v2 v3 v4 v5 v6 v7:Value} (H:Sat (pts b (.cells #[v0,v1,v2,v3,v4,v5,v6,v7] t (0,0))*F) w) :
  w.cell? ⟨b,0,none⟩=some v0∧w.cell? ⟨b,1,none⟩=some v1∧w.cell? ⟨b,2,none⟩=some v2∧w.cell? ⟨b,3,none⟩=some v3∧w.cell? ⟨b,4,none⟩=some v4∧w.cell? ⟨b,5,none⟩=some v5∧w.cell? ⟨b,6,none⟩=some v6∧w.cell? ⟨b,7,none⟩=some v7 :=
 ⟨Sat.read H.left.at 0,Sat.read H.left.at 1,Sat.read H.left.at 2,Sat.read H.left.at 3,Sat.read H.left.at 4,Sat.read H.left.at 5,Sat.read H.left.at 6,Sat.read H.left.at 7⟩
theorem zb0 {F:Asn} {w:World} {b:Nat} {t:TypeId} {v0 v1 v2 v3 v4 v5 v6 v7:Value} (H:Sat (pts b (.cells #[v0,v1,v2,v3,v4,v5,v6,v7] t (0,0))*F) w) :
  w.frozen? ⟨b,0,none⟩=false∧w.frozen? ⟨b,1,none⟩=false∧w.frozen? ⟨b,2,none⟩=false∧w.frozen? ⟨b,3,none⟩=false∧w.frozen? ⟨b,4,none⟩=false∧w.frozen? ⟨b,5,none⟩=false∧w.frozen? ⟨b,6,none⟩=false∧w.frozen? ⟨b,7,none⟩=false :=
 ⟨Sat.free H.left.at 0,Sat.free H.left.at 1,Sat.free H.left.at 2,Sat.free H.left.at 3,Sat.free H.left.at 4,Sat.free H.left.at 5,Sat.free H.left.at 6,Sat.free H.left.at 7⟩
theorem zc2 {F:Asn} {w:World} {b:Nat} {t:TypeId} {y0 y1:Value} (x0 x1:Value) (H:Sat (pts b (.cells #[y0,y1] t (0,0))*F) w) :
  Sat (pts b (.cells #[x0,x1] t (0,0))*F) ((w.setCell ⟨b,0,none⟩ x0).setCell ⟨b,1,none⟩ x1):=(H.cell 0 x0).cell 1 x1
theorem zay {w w':World} {b:Nat} (x0 x1:Value) (I:Io w w'):Io w ((w'.setCell ⟨b,0,none⟩ x0).setCell ⟨b,1,none⟩ x1):=(I.setCell _ _).setCell _ _
section
variable {F:Asn} {w:World} {R:Ending→World→Prop}
theorem zan (H:Sat F w) (h:∀ w',Sat F w'→Io w w'→R (.returned (.agg #[.int .i64 4294967295,.int .i64 4294967295])) w') :
  Calls Tryz.prog 46 #[] w R:=by
 have H1:=H.new (.cells #[.int .i64 0,.int .i64 0] 29)
 have I1:=io1 H1 (Io.refl w)
 have HH:=L_ h
 clear h
 go_enter Tryz.func46,Tryz.ntmps46
 go_upto_region 1 with fail
 generalize w.alloc _=w1 at *
 generalize w.heap.size=b at *
 obtain ⟨q0,q1⟩:=tk2 H1
 obtain ⟨f0,f1⟩:=zgf H1
 have K:=zc2 (.int .i64 4294967295) (.int .i64 4294967295) H1
 have J:=zay (b:=b) (.int .i64 4294967295) (.int .i64 4294967295) I1
 obtain ⟨r0,r1⟩:=tk2 K
 have FIN:=L_ (HH.out _ K.right J)
 go_wp2_with fail
 have hag:=Tryz.isAgg29
 have hsz:=Tryz.sizeOf29
 exact bodyPost_ret (v:=.agg #[.int .i64 4294967295,.int .i64 4294967295]) (by simp [results,Tryz.results46,go_sem,r0,r1]) rfl FIN.out
theorem sp4 (n:Int) {k:ByteArray} {e:Int} (hk:Hid (zym 4 n=k)) (he:Hid (zyn 4 n=e)) (H:Sat F w) (h:∀ w',Sat F w'→Io w w'→R (.returned (.tuple #[.string k,.int .i64 e])) w') :
  Calls Tryz.prog 141 #[.int .i64 4,.int .i64 n] w R:=by
 obtain rfl:=hk.out
 obtain rfl:=he.out
 exact z95 n H h
theorem sp1 (n:Int) {k:ByteArray} {e:Int} (hk:Hid (zym 1 n=k)) (he:Hid (zyn 1 n=e)) (H:Sat F w) (h:∀ w',Sat F w'→Io w w'→R (.returned (.tuple #[.string k,.int .i64 e])) w') :
  Calls Tryz.prog 141 #[.int .i64 1,.int .i64 n] w R:=by
 obtain rfl:=hk.out
 obtain rfl:=he.out
 exact z97 n H h
theorem xei (n:Int) (hn:Hid (zca n)) {s:ByteArray} (hs:Hid (Ky.p4 n=s)) (H:Sat F w) (h:∀ w',Sat F w'→Io w w'→R (.returned (.string s)) w') :
  Calls Tryz.prog 113 #[.int .i64 4,.int .i64 n] w R:=by
 have HS:Hid (zym 4 n=s):=L_ ((Sq.putS4 hn.out).1.trans hs.out)
 have HE:Hid (zyn 4 n=0):=L_ (Sq.putS4 hn.out).2
 have HH:=L_ h
 clear h
 go_enter Tryz.func113,Tryz.ntmps113
 go_wp2_with (go_at_call 141;(with_reducible refine sp4 n HS HE H ?_);intro w1 H1 I1)
 exact HH.out _ H1 I1
theorem sput1 (n:Int) (hn:Hid (0≤n∧n≤255)) {s:ByteArray} (hs:Hid (Sq.p1 n=s)) (H:Sat F w) (h:∀ w',Sat F w'→Io w w'→R (.returned (.string s)) w') :
  Calls Tryz.prog 113 #[.int .i64 1,.int .i64 n] w R:=by
 have HS:Hid (zym 1 n=s):=L_ ((Sq.putS1 hn.out).1.trans hs.out)
 have HE:Hid (zyn 1 n=0):=L_ (Sq.putS1 hn.out).2
 have HH:=L_ h
 clear h
 go_enter Tryz.func113,Tryz.ntmps113
 go_wp2_with (go_at_call 141;(with_reducible refine sp1 n HS HE H ?_);intro w1 H1 I1)
 exact HH.out _ H1 I1
theorem zll (a b:Int) (ha:Hid (zca a)) (hb:Hid (zca b)) {s:ByteArray} (hs:Hid (Sq.tok (a,b)=s)) (H:Sat F w) (h:∀ w',Sat F w'→Io w w'→R (.returned (.string s)) w') :
  Calls Tryz.prog 87 #[.agg #[.int .i64 a,.int .i64 b]] w R:=by
 have HH:=L_ h
 obtain ⟨s1,h1⟩:∃ s,Ky.p4 a=s:=⟨_,rfl⟩
 obtain ⟨s2,h2⟩:∃ s,Ky.p4 b=s:=⟨_,rfl⟩
 have E1:=L_ h1
 have E2:=L_ h2
 have z1:(s1.size:Int)≤4:=by rw [←h1,Ky.zb6];omega
 have z2:(s2.size:Int)≤4:=by rw [←h2,Ky.zb6];omega
 have z3:¬ 9223372036854775807<s1.size+s2.size:=by omega
 obtain rfl:s=s1++s2:=by rw [←hs.out,←h1,←h2];rfl
 have H1:=H.new (.cells #[.int .i64 a,.int .i64 b] 29)
 have I1:=io1 H1 (Io.refl w)
 clear h hs h1 h2 H
 go_enter Tryz.func87,Tryz.ntmps87
 go_upto_region 1 with fail
 generalize w.alloc _=w1 at *
 generalize w.heap.size=bx at *
 have Kd:=H1.drew
 have Jd:=I1.drew
 have S0:=tk2 Kd
 clear H1 I1
 go_region_held3 (fun W=>W.cell? ⟨bx,0,none⟩=some (.int .i64 a)∧W.cell? ⟨bx,1,none⟩=some (.int .i64 b)) (with_reducible (first | exact S0 | exact S1 | exact S2)) (first
  | (go_at_call 113;(with_reducible refine xei a ha E1 Kd ?_);intro w2 H2 I2;have S1:=tk2 H2)
  | (go_at_call 113;(with_reducible refine xei b hb E2 H2 ?_);intro w3 H3 I3;have S2:=tk2 H3))
 all_goals
  go_wp2_with fail
  exact HH.out _ H3.right ((Jd.trans I2).trans I3)
theorem ze3 (a b:Int) (ha:Hid (zca a)) (hb:Hid (zca b)) {s:ByteArray} (hs:Hid (Sq.kk (a,b)=s)) (H:Sat F w) (h:∀ w',Sat F w'→Io w w'→R (.returned (.string s)) w') :
  Calls Tryz.prog 60 #[.agg #[.int .i64 a,.int .i64 b]] w R:=by
 have HH:=L_ h
 obtain ⟨s1,h1⟩:∃ s,Sq.tok (a,b)=s:=⟨_,rfl⟩
 have E1:=L_ h1
 have z1:(s1.size:Int)≤8:=by rw [←h1,Sq.zi0];omega
 have z3:¬ 9223372036854775807<1+s1.size:=by omega
 obtain rfl:s=(⟨#[78]⟩:ByteArray)++s1:=by rw [←hs.out,←h1];rfl
 have H1:=H.new (.cells #[.int .i64 a,.int .i64 b] 29)
 have I1:=io1 H1 (Io.refl w)
 clear h hs h1 H
 go_enter Tryz.func60,Tryz.ntmps60
 go_upto_region 1 with fail
 generalize w.alloc _=w1 at *
 generalize w.heap.size=bx at *
 obtain ⟨q0,q1⟩:=tk2 H1
 go_wp2_with (go_at_call 87;(with_reducible refine zll a b ha hb E1 H1 ?_);intro w2 H2 I2)
 exact HH.out _ H2.right (I1.trans I2)
end
namespace Sq
theorem xfw (n:Nd):tx (cat [tok n.up,tok n.left,tok n.right,Ky.p4 n.count,p1 n.height])=zg9 n:=by
 apply ByteArray.ext
 apply Array.toList_inj.1
 simp [cat,zg9,tok,tx,xe6]
end Sq
section
variable {F:Asn} {w:World} {R:Ending→World→Prop}
theorem cjoin5 {b g':Nat} {x y z u v r:ByteArray} (hb:b=g') (hx:Hid (x.size≤100∧y.size≤100∧z.size≤100∧u.size≤100∧v.size≤100)) (hr:Hid (tx (cat [x,y,z,u,v])=r)) (H:Sat (pts g' (.cells #[.string x,.string y,.string z,.string u,.string v] 9 (0,0))*F) w)
  (h:∀ w',Sat (pts g' (.cells #[.string x,.string y,.string z,.string u,.string v] 9 (0,0))*F) w'→Io w w'→R (.returned (.string r)) w') :
  Calls Tryz.prog 137 #[.slice (some ⟨b,0,none⟩) 5 5] w R:=by
 subst hb
 have hx:=hx.out
 refine xbb H b 5 5 [x,y,z,u,v] rfl H.left.lt (fun j s hj=>?_) (by omega) ?_ (by simp) (by rw [hr.out];exact h)
 ·have:=Sat.read H.left.at j
  rw [this]
  match j with
  | 0=>simp at hj ⊢;exact hj
  | 1=>simp at hj ⊢;exact hj
  | 2=>simp at hj ⊢;exact hj
  | 3=>simp at hj ⊢;exact hj
  | 4=>simp at hj ⊢;exact hj
  | j+5=>simp at hj
 ·have h1:=zd1 x
  have h2:=zd1 y
  have h3:=zd1 z
  have h4:=zd1 u
  have h5:=zd1 v
  simp only [cat,List.map_cons,List.map_nil,List.flatten_cons,List.flatten_nil,List.append_nil,List.length_append]
  omega
theorem z9j (u1 u2 l1 l2 r1 r2 ct ht:Int) (ok:Hid (Sq.OkN ⟨(u1,u2),(l1,l2),(r1,r2),ct,ht⟩)) {s:ByteArray} (hs:Hid (Sq.zg9 ⟨(u1,u2),(l1,l2),(r1,r2),ct,ht⟩=s)) (H:Sat F w) (h:∀ w',Sat F w'→Io w w'→R (.returned (.string s)) w') :
  Calls Tryz.prog 109 #[.agg #[.int .i64 u1,.int .i64 u2,.int .i64 l1,.int .i64 l2,.int .i64 r1,.int .i64 r2,.int .i64 ct,.int .i64 ht]] w R:=by
 have HH:=L_ h
 obtain ⟨s1,h1⟩:∃ s,Sq.tok (u1,u2)=s:=⟨_,rfl⟩
 obtain ⟨s2,h2⟩:∃ s,Sq.tok (l1,l2)=s:=⟨_,rfl⟩
 obtain ⟨s3,h3⟩:∃ s,Sq.tok (r1,r2)=s:=⟨_,rfl⟩
 obtain ⟨s4,h4⟩:∃ s,Ky.p4 ct=s:=⟨_,rfl⟩
 obtain ⟨s5,h5⟩:∃ s,Sq.p1 ht=s:=⟨_,rfl⟩
 have ZZ:Hid (s1.size≤100∧s2.size≤100∧s3.size≤100∧s4.size≤100∧s5.size≤100):=L_ (by rw [←h1,←h2,←h3,←h4,←h5,Sq.zi0,Sq.zi0,Sq.zi0,Ky.zb6,Sq.zqp];omega)
 have HX:Hid (tx (cat [s1,s2,s3,s4,s5])=s):=L_ (by rw [←h1,←h2,←h3,←h4,←h5,←hs.out];exact Sq.xfw ⟨(u1,u2),(l1,l2),(r1,r2),ct,ht⟩)
 have E1:=L_ h1
 have E2:=L_ h2
 have E3:=L_ h3
 have E4:=L_ h4
 have E5:=L_ h5
 have O1:Hid (zca u1):=L_ ok.out.up.1
 have O2:Hid (zca u2):=L_ ok.out.up.2
 have O3:Hid (zca l1):=L_ ok.out.left.1
 have O4:Hid (zca l2):=L_ ok.out.left.2
 have O5:Hid (zca r1):=L_ ok.out.right.1
 have O6:Hid (zca r2):=L_ ok.out.right.2
 have O7:Hid (zca ct):=L_ ok.out.count
 have O8:Hid (0≤ht∧ht≤255):=L_ ok.out.height
 have H1:=H.new (.cells #[.int .i64 u1,.int .i64 u2,.int .i64 l1,.int .i64 l2,.int .i64 r1,.int .i64 r2,.int .i64 ct,.int .i64 ht] 85)
 have I1:=io1 H1 (Io.refl w)
 clear h hs h1 h2 h3 h4 h5 ok H
 go_enter Tryz.func109,Tryz.ntmps109
 go_upto_region 1 with fail
 generalize w.alloc _=w1 at *
 generalize w.heap.size=bx at *
 have Kd:=H1.drew
 have Jd:=I1.drew
 have S0:=nd8 Kd
 clear H1 I1
 go_region_held3 (fun W=>W.cell? ⟨bx,0,none⟩=some (.int .i64 u1)∧W.cell? ⟨bx,1,none⟩=some (.int .i64 u2)∧W.cell? ⟨bx,2,none⟩=some (.int .i64 l1)∧W.cell? ⟨bx,3,none⟩=some (.int .i64 l2)∧W.cell? ⟨bx,4,none⟩=some (.int .i64 r1)∧W.cell? ⟨bx,5,none⟩=some (.int .i64 r2)∧W.cell? ⟨bx,6,none⟩=some (.int .i64 ct)∧W.cell? ⟨bx,7,none⟩=some (.int .i64 ht)) (with_reducible (first | exact S0 | exact S1 | exact S2 | exact S3 | exact S4 | exact S5 | exact S6 | exact S7)) (first
  | (go_at_call 87;(with_reducible refine zll u1 u2 O1 O2 E1 Kd ?_);intro w2 H2 I2;have S1:=nd8 H2)
  | (go_at_call 87;(with_reducible refine zll l1 l2 O3 O4 E2 H2 ?_);intro w3 H3 I3;have S2:=nd8 H3)
  | (go_at_call 87;(with_reducible refine zll r1 r2 O5 O6 E3 H3 ?_);intro w4 H4 I4;have S3:=nd8 H4)
  | (go_at_call 113;(with_reducible refine xei ct O7 E4 H4 ?_);intro w5 H5 I5;have S4:=nd8 H5)
  | (go_at_call 113;(with_reducible refine sput1 ht O8 E5 H5 ?_);intro w6 H6 I6;have S5:=nd8 H6;have K6:=H6.new (.cells #[.string s1,.string s2,.string s3,.string s4,.string s5] 9);have J6:=I6.alloc (.cells #[.string s1,.string s2,.string s3,.string s4,.string s5] 9);have S6:=nd8 K6.right)
  | (go_at_call 137;(refine cjoin5 rfl ZZ HX K6 ?_);intro w7 H7 I7;have S7:=nd8 H7.right))
 all_goals
  go_wp2_with fail
  exact HH.out _ H7.right.right (((((Jd.trans I2).trans I3).trans I4).trans I5).trans (J6.trans I7))
end
theorem nd6 {F:Asn} {w:World} {b:Nat} {t:TypeId} {v0 v1 v2 v3 v4 v5:Value} (H:Sat (pts b (.cells #[v0,v1,v2,v3,v4,v5] t (0,0))*F) w) :
  w.cell? ⟨b,0,none⟩=some v0∧w.cell? ⟨b,1,none⟩=some v1∧w.cell? ⟨b,2,none⟩=some v2∧w.cell? ⟨b,3,none⟩=some v3∧w.cell? ⟨b,4,none⟩=some v4∧w.cell? ⟨b,5,none⟩=some v5 :=
 ⟨Sat.read H.left.at 0,Sat.read H.left.at 1,Sat.read H.left.at 2,Sat.read H.left.at 3,Sat.read H.left.at 4,Sat.read H.left.at 5⟩
theorem nd6f {F:Asn} {w:World} {b:Nat} {t:TypeId} {v0 v1 v2 v3 v4 v5:Value} (H:Sat (pts b (.cells #[v0,v1,v2,v3,v4,v5] t (0,0))*F) w) :
  w.frozen? ⟨b,0,none⟩=false∧w.frozen? ⟨b,1,none⟩=false∧w.frozen? ⟨b,2,none⟩=false∧w.frozen? ⟨b,3,none⟩=false∧w.frozen? ⟨b,4,none⟩=false∧w.frozen? ⟨b,5,none⟩=false :=
 ⟨Sat.free H.left.at 0,Sat.free H.left.at 1,Sat.free H.left.at 2,Sat.free H.left.at 3,Sat.free H.left.at 4,Sat.free H.left.at 5⟩
theorem zaz {F:Asn} {w:World} {b:Nat} {t:TypeId} {y0 y1 y2 y3 y4 y5 y6 y7:Value} (x0 x1 x2 x3 x4 x5 x6 x7:Value) (H:Sat (pts b (.cells #[y0,y1,y2,y3,y4,y5,y6,y7] t (0,0))*F) w) :
  Sat (pts b (.cells #[x0,x1,x2,x3,x4,x5,x6,x7] t (0,0))*F) ((((((((w.setCell ⟨b,0,none⟩ x0).setCell ⟨b,1,none⟩ x1).setCell ⟨b,2,none⟩ x2).setCell ⟨b,3,none⟩ x3).setCell ⟨b,4,none⟩ x4).setCell ⟨b,5,none⟩ x5).setCell ⟨b,6,none⟩ x6).setCell ⟨b,7,none⟩ x7):=by
 have h0:Sat (pts b (.cells #[x0,y1,y2,y3,y4,y5,y6,y7] t (0,0))*F) (w.setCell ⟨b,0,none⟩ x0):=H.cell 0 x0
 have h1:Sat (pts b (.cells #[x0,x1,y2,y3,y4,y5,y6,y7] t (0,0))*F) ((w.setCell ⟨b,0,none⟩ x0).setCell ⟨b,1,none⟩ x1):=h0.cell 1 x1
 have h2:Sat (pts b (.cells #[x0,x1,x2,y3,y4,y5,y6,y7] t (0,0))*F) (((w.setCell ⟨b,0,none⟩ x0).setCell ⟨b,1,none⟩ x1).setCell ⟨b,2,none⟩ x2):=h1.cell 2 x2
 have h3:Sat (pts b (.cells #[x0,x1,x2,x3,y4,y5,y6,y7] t (0,0))*F) ((((w.setCell ⟨b,0,none⟩ x0).setCell ⟨b,1,none⟩ x1).setCell ⟨b,2,none⟩ x2).setCell ⟨b,3,none⟩ x3):=h2.cell 3 x3
 have h4:Sat (pts b (.cells #[x0,x1,x2,x3,x4,y5,y6,y7] t (0,0))*F) (((((w.setCell ⟨b,0,none⟩ x0).setCell ⟨b,1,none⟩ x1).setCell ⟨b,2,none⟩ x2).setCell ⟨b,3,none⟩ x3).setCell ⟨b,4,none⟩ x4):=h3.cell 4 x4
 have h5:Sat (pts b (.cells #[x0,x1,x2,x3,x4,x5,y6,y7] t (0,0))*F) ((((((w.setCell ⟨b,0,none⟩ x0).setCell ⟨b,1,none⟩ x1).setCell ⟨b,2,none⟩ x2).setCell ⟨b,3,none⟩ x3).setCell ⟨b,4,none⟩ x4).setCell ⟨b,5,none⟩ x5):=h4.cell 5 x5
 have h6:Sat (pts b (.cells #[x0,x1,x2,x3,x4,x5,x6,y7] t (0,0))*F) (((((((w.setCell ⟨b,0,none⟩ x0).setCell ⟨b,1,none⟩ x1).setCell ⟨b,2,none⟩ x2).setCell ⟨b,3,none⟩ x3).setCell ⟨b,4,none⟩ x4).setCell ⟨b,5,none⟩ x5).setCell ⟨b,6,none⟩ x6):=h5.cell 6 x6
 have h7:Sat (pts b (.cells #[x0,x1,x2,x3,x4,x5,x6,x7] t (0,0))*F) ((((((((w.setCell ⟨b,0,none⟩ x0).setCell ⟨b,1,none⟩ x1).setCell ⟨b,2,none⟩ x2).setCell ⟨b,3,none⟩ x3).setCell ⟨b,4,none⟩ x4).setCell ⟨b,5,none⟩ x5).setCell ⟨b,6,none⟩ x6).setCell ⟨b,7,none⟩ x7):=h6.cell 7 x7
 exact h7
theorem zac {w w':World} {b:Nat} (x0 x1 x2 x3 x4 x5 x6 x7:Value) (I:Io w w'):Io w ((((((((w'.setCell ⟨b,0,none⟩ x0).setCell ⟨b,1,none⟩ x1).setCell ⟨b,2,none⟩ x2).setCell ⟨b,3,none⟩ x3).setCell ⟨b,4,none⟩ x4).setCell ⟨b,5,none⟩ x5).setCell ⟨b,6,none⟩ x6).setCell ⟨b,7,none⟩ x7) :=
 ((((((((I.setCell _ _).setCell _ _).setCell _ _).setCell _ _).setCell _ _).setCell _ _).setCell _ _).setCell _ _)
section
variable {F:Asn} {w:World} {R:Ending→World→Prop} {p:Nat}
theorem zwd (n:Int) (hn:Hid (zca n)) {t t':ByteArray} (ht:Hid (t=Ky.p4 n++t')) (hz:Hid (t'.size≤1000)) (H:Sat (zeb p ⟨t,0⟩*F) w) (h:∀ w',Sat (zeb p ⟨t',0⟩*F) w'→Io w w'→R (.returned (.int .i64 n)) w') :
  Calls Tryz.prog 111 #[.pointer (some ⟨p,0,none⟩),.int .i64 4] w R:=by
 obtain rfl:=ht.out
 have hn:=hn.out
 unfold zca at hn
 have e:((n.toNat:Nat):Int)=n:=by omega
 have:=zmd (R:=R) n.toNat t' (by omega) (by have:=hz.out;omega) (by rw [e];exact H) (by rw [e];exact h)
 exact this
theorem sint1 (n:Int) (hn:Hid (0≤n∧n≤255)) {t t':ByteArray} (ht:Hid (t=Sq.p1 n++t')) (hz:Hid (t'.size≤1000)) (H:Sat (zeb p ⟨t,0⟩*F) w) (h:∀ w',Sat (zeb p ⟨t',0⟩*F) w'→Io w w'→R (.returned (.int .i64 n)) w') :
  Calls Tryz.prog 111 #[.pointer (some ⟨p,0,none⟩),.int .i64 1] w R:=by
 obtain rfl:=ht.out
 have hn:=hn.out
 have hz:=hz.out
 have z0:(Sq.p1 n).size=1:=Sq.zqp _
 have q2:(Sq.p1 n++t').size≤1000000:=by rw [ByteArray.size_append,z0];omega
 have b2:=xcn (a:=Sq.p1 n) (b:=t') (n:=1) z0.symm
 have n1:((⟨Sq.p1 n++t',0⟩:Rd).num 1:Int)=n:=by
  have:(⟨Sq.p1 n++t',0⟩:Rd).num 1=n.toNat:=by
   unfold Rd.num
   rw [xcm z0.symm]
   unfold Sq.p1
   rw [zv5,z1p]
   exact Nat.mod_eq_of_lt (by omega)
  rw [this]
  omega
 refine zw5 H q2 1 (.inl rfl) fun w1 H1 I1=>?_
 rw [show ((1:Nat):Int)=1 from rfl] at H1
 have b2':(⟨Sq.p1 n++t',0⟩:Rd).bR (1:Int)=⟨t',0⟩:=b2
 rw [b2'] at H1
 rw [n1]
 exact h w1 H1 I1
theorem z9i (H:Sat (zeb p ⟨Sq.xe6,0⟩*F) w) (h:∀ w',Sat (zeb p ⟨Sq.xe6,0⟩*F) w'→Io w w'→R (.returned (.int .i64 0)) w') :
  Calls Tryz.prog 112 #[.pointer (some ⟨p,0,none⟩)] w R:=zxg H h
theorem zb9 {A B C:Asn} (H:Sat (A*(B*(C*F))) w):Sat (B*(A*(C*F))) w:=H.of_eq (by ac_rfl)
theorem xeo {A B C D:Asn} (H:Sat (A*(B*(C*(D*F)))) w):Sat (D*(B*F)) w:=(H.of_eq (show _=(A*C)*(D*(B*F)) from by ac_rfl)).right
theorem z9n (u1 u2 l1 l2 r1 r2 ct ht:Int) (ok:Hid (Sq.OkN ⟨(u1,u2),(l1,l2),(r1,r2),ct,ht⟩)) {s:ByteArray} (hs:Hid (Sq.zg9 ⟨(u1,u2),(l1,l2),(r1,r2),ct,ht⟩=s)) (H:Sat F w)
  (h:∀ w',Sat F w'→Io w w'→R (.returned (.tuple #[.agg #[.int .i64 u1,.int .i64 u2,.int .i64 l1,.int .i64 l2,.int .i64 r1,.int .i64 r2,.int .i64 ct,.int .i64 ht],.int .i64 0])) w') :
  Calls Tryz.prog 84 #[.string s] w R:=by
 have HH:=L_ h
 have Y9:Hid (Sq.xe6.size≤1000):=L_ (by decide)
 have y9:Sq.xe6.size=0:=rfl
 obtain ⟨t8,h8⟩:∃ t,t=Sq.p1 ht++Sq.xe6:=⟨_,rfl⟩
 have y8:t8.size=1:=by rw [h8,ByteArray.size_append,y9,Sq.zqp]
 have Y8:Hid (t8.size≤1000):=L_ (by omega)
 have E8:=L_ h8
 obtain ⟨t7,h7⟩:∃ t,t=Ky.p4 ct++t8:=⟨_,rfl⟩
 have y7:t7.size=5:=by rw [h7,ByteArray.size_append,y8,Ky.zb6]
 have Y7:Hid (t7.size≤1000):=L_ (by omega)
 have E7:=L_ h7
 obtain ⟨t6,h6⟩:∃ t,t=Ky.p4 r2++t7:=⟨_,rfl⟩
 have y6:t6.size=9:=by rw [h6,ByteArray.size_append,y7,Ky.zb6]
 have Y6:Hid (t6.size≤1000):=L_ (by omega)
 have E6:=L_ h6
 obtain ⟨t5,h5⟩:∃ t,t=Ky.p4 r1++t6:=⟨_,rfl⟩
 have y5:t5.size=13:=by rw [h5,ByteArray.size_append,y6,Ky.zb6]
 have Y5:Hid (t5.size≤1000):=L_ (by omega)
 have E5:=L_ h5
 obtain ⟨t4,h4⟩:∃ t,t=Ky.p4 l2++t5:=⟨_,rfl⟩
 have y4:t4.size=17:=by rw [h4,ByteArray.size_append,y5,Ky.zb6]
 have Y4:Hid (t4.size≤1000):=L_ (by omega)
 have E4:=L_ h4
 obtain ⟨t3,h3⟩:∃ t,t=Ky.p4 l1++t4:=⟨_,rfl⟩
 have y3:t3.size=21:=by rw [h3,ByteArray.size_append,y4,Ky.zb6]
 have Y3:Hid (t3.size≤1000):=L_ (by omega)
 have E3:=L_ h3
 obtain ⟨t2,h2⟩:∃ t,t=Ky.p4 u2++t3:=⟨_,rfl⟩
 have y2:t2.size=25:=by rw [h2,ByteArray.size_append,y3,Ky.zb6]
 have Y2:Hid (t2.size≤1000):=L_ (by omega)
 have E2:=L_ h2
 obtain ⟨t1,h1⟩:∃ t,t=Ky.p4 u1++t2:=⟨_,rfl⟩
 have y1:t1.size=29:=by rw [h1,ByteArray.size_append,y2,Ky.zb6]
 have Y1:Hid (t1.size≤1000):=L_ (by omega)
 have E1:=L_ h1
 obtain rfl:s=t1:=by rw [←hs.out,h1,h2,h3,h4,h5,h6,h7,h8];rfl
 have O1:Hid (zca u1):=L_ ok.out.up.1
 have O2:Hid (zca u2):=L_ ok.out.up.2
 have O3:Hid (zca l1):=L_ ok.out.left.1
 have O4:Hid (zca l2):=L_ ok.out.left.2
 have O5:Hid (zca r1):=L_ ok.out.right.1
 have O6:Hid (zca r2):=L_ ok.out.right.2
 have O7:Hid (zca ct):=L_ ok.out.count
 have O8:Hid (0≤ht∧ht≤255):=L_ ok.out.height
 have H1:=H.new (.cells #[.int .i64 0,.int .i64 0,.int .i64 0,.int .i64 0,.int .i64 0,.int .i64 0,.int .i64 0,.int .i64 0] 85)
 have I1:=io1 H1 (Io.refl w)
 clear h hs h1 h2 h3 h4 h5 h6 h7 h8 y1 y2 y3 y4 y5 y6 y7 y8 y9 ok H
 go_enter Tryz.func84,Tryz.ntmps84
 go_upto_region 1 with fail
 generalize w.alloc _=w1 at *
 generalize w.heap.size=br at *
 go_upto_region 2 with (go_at_call 110;(with_reducible refine zqm H1 s ?_);intro p w2 H2 I2)
 have K3:=zb9 (H2.new (.cells #[.int .i64 0,.int .i64 0,.int .i64 0,.int .i64 0,.int .i64 0,.int .i64 0] 180))
 have J3:=(I1.trans I2).alloc (.cells #[.int .i64 0,.int .i64 0,.int .i64 0,.int .i64 0,.int .i64 0,.int .i64 0] 180)
 go_upto_region 3 with fail
 generalize w2.alloc _=w3 at *
 generalize w2.heap.size=bl at *
 clear H1 H2 I1 I2
 go_wp2_with fail
 refine wp_loop_rounds 4 ?_
 rw [rounds_succ]
 go_upto_region 7 with (go_at_call 111;(with_reducible refine zwd u1 O1 E1 Y2 K3 ?_);intro wa0 Ha0 Ia0)
 go_upto_region 8 with (go_at_call 111;(with_reducible refine zwd u2 O2 E2 Y3 Ha0 ?_);intro wb0 Hb0 Ib0;have FA:=nd6f (zb9 Hb0);obtain ⟨f0,f1,f2,f3,f4,f5⟩:=FA;have QA:=nd6 (zb9 Hb0);obtain ⟨q0,q1,q2,q3,q4,q5⟩:=QA)
 have K4:=zb9 (((zb9 Hb0).cell 0 (.int .i64 u1)).cell 1 (.int .i64 u2))
 have J4:=(((J3.trans Ia0).trans Ib0).setCell ⟨bl,0,none⟩ (.int .i64 u1)).setCell ⟨bl,1,none⟩ (.int .i64 u2)
 clear K3 J3 Ha0 Ia0 Hb0 Ib0 f0 f1 f2 f3 f4 f5 q0 q1 q2 q3 q4 q5
 generalize (wb0.setCell ⟨bl,0,none⟩ (.int .i64 u1)).setCell ⟨bl,1,none⟩ (.int .i64 u2)=w4 at *
 go_wp2_with fail
 rw [rounds_succ]
 go_upto_region 7 with (go_at_call 111;(with_reducible refine zwd l1 O3 E3 Y4 K4 ?_);intro wa1 Ha1 Ia1)
 go_upto_region 8 with (go_at_call 111;(with_reducible refine zwd l2 O4 E4 Y5 Ha1 ?_);intro wb1 Hb1 Ib1;have FA:=nd6f (zb9 Hb1);obtain ⟨f0,f1,f2,f3,f4,f5⟩:=FA;have QA:=nd6 (zb9 Hb1);obtain ⟨q0,q1,q2,q3,q4,q5⟩:=QA)
 have K5:=zb9 (((zb9 Hb1).cell 2 (.int .i64 l1)).cell 3 (.int .i64 l2))
 have J5:=(((J4.trans Ia1).trans Ib1).setCell ⟨bl,2,none⟩ (.int .i64 l1)).setCell ⟨bl,3,none⟩ (.int .i64 l2)
 clear K4 J4 Ha1 Ia1 Hb1 Ib1 f0 f1 f2 f3 f4 f5 q0 q1 q2 q3 q4 q5
 generalize (wb1.setCell ⟨bl,2,none⟩ (.int .i64 l1)).setCell ⟨bl,3,none⟩ (.int .i64 l2)=w5 at *
 go_wp2_with fail
 rw [rounds_succ]
 go_upto_region 7 with (go_at_call 111;(with_reducible refine zwd r1 O5 E5 Y6 K5 ?_);intro wa2 Ha2 Ia2)
 go_upto_region 8 with (go_at_call 111;(with_reducible refine zwd r2 O6 E6 Y7 Ha2 ?_);intro wb2 Hb2 Ib2;have FA:=nd6f (zb9 Hb2);obtain ⟨f0,f1,f2,f3,f4,f5⟩:=FA;have QA:=nd6 (zb9 Hb2);obtain ⟨q0,q1,q2,q3,q4,q5⟩:=QA)
 have K6:=zb9 (((zb9 Hb2).cell 4 (.int .i64 r1)).cell 5 (.int .i64 r2))
 have J6:=(((J5.trans Ia2).trans Ib2).setCell ⟨bl,4,none⟩ (.int .i64 r1)).setCell ⟨bl,5,none⟩ (.int .i64 r2)
 clear K5 J5 Ha2 Ia2 Hb2 Ib2 f0 f1 f2 f3 f4 f5 q0 q1 q2 q3 q4 q5
 generalize (wb2.setCell ⟨bl,4,none⟩ (.int .i64 r1)).setCell ⟨bl,5,none⟩ (.int .i64 r2)=w6 at *
 go_wp2_with fail
 rw [rounds_succ]
 obtain ⟨q0,q1,q2,q3,q4,q5⟩:=nd6 (zb9 K6)
 have K7:=zb9 (K6.new (.cells #[.int .i64 u1,.int .i64 u2,.int .i64 l1,.int .i64 l2,.int .i64 r1,.int .i64 r2,.int .i64 0,.int .i64 0] 85))
 have J7:=io1 K7 J6
 go_upto_region 10 with fail
 generalize w6.alloc _=w7 at *
 generalize w6.heap.size=bn at *
 clear q0 q1 q2 q3 q4 q5 K6 J6
 go_upto_region 11 with (first
  | (go_at_call 111;(with_reducible refine zwd ct O7 E7 Y8 K7 ?_);intro w8 H8 I8)
  | (go_at_call 111;(with_reducible refine sint1 ht O8 E8 Y9 H8 ?_);intro w9 H9 I9;have FA:=zb0 (zb9 H9);obtain ⟨f0,f1,f2,f3,f4,f5,f6,f7⟩:=FA;have QA:=nd8 (zb9 H9);obtain ⟨q0,q1,q2,q3,q4,q5,q6,q7⟩:=QA))
 have KA:=zb9 (((zb9 H9).cell 6 (.int .i64 ct)).cell 7 (.int .i64 ht))
 have JA:=(((J7.trans I8).trans I9).setCell ⟨bn,6,none⟩ (.int .i64 ct)).setCell ⟨bn,7,none⟩ (.int .i64 ht)
 clear K7 J7 H8 I8 H9 I9 f0 f1 f2 f3 f4 f5 f6 f7 q0 q1 q2 q3 q4 q5 q6 q7
 generalize (w9.setCell ⟨bn,6,none⟩ (.int .i64 ct)).setCell ⟨bn,7,none⟩ (.int .i64 ht)=wa at *
 go_upto_region 13 with (go_at_call 112;(with_reducible refine z9i KA ?_);intro wb HB IB)
 obtain ⟨q0,q1,q2,q3,q4,q5,q6,q7⟩:=nd8 (zb9 HB)
 have KB:Sat (pts br (.cells #[.int .i64 0,.int .i64 0,.int .i64 0,.int .i64 0,.int .i64 0,.int .i64 0,.int .i64 0,.int .i64 0] 85 (0,0))*(pts bn (.cells #[.int .i64 u1,.int .i64 u2,.int .i64 l1,.int .i64 l2,.int .i64 r1,.int .i64 r2,.int .i64 ct,.int .i64 ht] 85 (0,0))*F)) wb:=xeo HB
 obtain ⟨f0,f1,f2,f3,f4,f5,f6,f7⟩:=zb0 KB
 obtain ⟨e0,e1,e2,e3,e4,e5,e6,e7⟩:=nd8 KB
 have KC:=zaz (.int .i64 u1) (.int .i64 u2) (.int .i64 l1) (.int .i64 l2) (.int .i64 r1) (.int .i64 r2) (.int .i64 ct) (.int .i64 ht) KB
 have JC:=zac (b:=br) (.int .i64 u1) (.int .i64 u2) (.int .i64 l1) (.int .i64 l2) (.int .i64 r1) (.int .i64 r2) (.int .i64 ct) (.int .i64 ht) (JA.trans IB)
 obtain ⟨z0,z1,z2,z3,z4,z5,z6,z7⟩:=nd8 KC
 have FIN:=L_ (HH.out _ KC.right.right JC)
 go_wp2_with fail
 have hag:=Tryz.isAgg85
 have hsz:=Tryz.sizeOf85
 exact bodyPost_ret (v:=.tuple #[.agg #[.int .i64 u1,.int .i64 u2,.int .i64 l1,.int .i64 l2,.int .i64 r1,.int .i64 r2,.int .i64 ct,.int .i64 ht],.int .i64 0]) (by simp [results,Tryz.results84,go_sem,z0,z1,z2,z3,z4,z5,z6,z7]) rfl FIN.out
end
end Go.Proofs.YtfknjmoekbabcaaGreatDoor
