/-
  A part of a proof. It proves no statement by itself.
-/
import Derived.Test.YtfknjmoekbabcaaGreatDoorC23
import Derived.Test.YtfknjmoekbabcaaGreatDoorC24
set_option linter.unusedSimpArgs false
set_option linter.unusedVariables false
set_option linter.unusedSectionVars false
set_option maxRecDepth 100000
set_option maxHeartbeats 64000000
namespace Go.Proofs.YtfknjmoekbabcaaGreatDoor
open Go.RowKit Go.Lib
def zgw (A:Asn) (g:Nat) (cb:Array Value) (op:List Ky.En→List Ky.En) (P:List Ky.En→Prop):Prop :=
 ∀ {F:Asn} {w:World} {R:Ending→World→Prop} {l:List Ky.En} {v:Value},Ky.Right l→Ky.size l≤240→P l→zbi (A*F) v l→z1j v l.length→Sat (A*F) w →
  (∀ v' w',Sat (zda v' (op l)*(A*F)) w'→Io w w'→R (.returned v') w')→Calls Tryz.prog g (#[v]++cb) w R
theorem zh4 {F:Asn} {l:Bool} {x y z:Value} {es:List Ky.En} (h:NdV F (.agg #[.bool l,x,y,z]) (Ky.lf es)):l=true∧zbi F x es∧z1j x es.length:=by
 obtain ⟨se,sk,sx,e,⟨h1,h2⟩,_⟩:=h
 cases e
 exact ⟨rfl,h1,h2⟩
theorem zpa {v:Value} {l:List Ky.En} {F:Asn} {w:World} (H:Sat (zda v l*F) w) (hl:l.length≤5000):NdV (zda v l*emp) (.agg #[.bool true,v,.slice none 0 0,.slice none 0 0]) (Ky.lf l) :=
 ⟨_,_,_,rfl,⟨Reads.zau (za3 H.left) (by omega),za2 H⟩,⟨zas _ none 0,ze7⟩,zas _ none 0,ze7⟩
theorem zdk.frame {c:Cq} {r e:Int} {X F:Asn} {M:Tb.Pg} {B:Int} {D:List Int→List Ky.Nm→Tb.Pg→Nat→Prop} {x:Int} {u v:Value} {w:World} (h:zdk c r e (X*F) M B D x u v w) :
  ∃ Y,Sat (Y*(X*F)) w∧∀ w',Sat (Y*F) w'→zdk c r e F M B D x u v w':=by
 rcases h with ⟨rfl,kids,keys,L',c',d,H⟩ | ⟨rfl,hb,H⟩
 ·exact ⟨za1 u kids*(zbj v keys*zaq c r e (L'++M)),H.of_eq (by ac_rfl),fun w' H'=>.inl ⟨rfl,kids,keys,L',c',d,H'.of_eq (by ac_rfl)⟩⟩
 ·exact ⟨zbm c r e,H,fun w' H'=>.inr ⟨rfl,hb,H'⟩⟩
section
variable {c:Cq} {r e:Int} {L M:Tb.Pg} {F A:Asn} {w:World} {R:Ending→World→Prop}
theorem zxq {g:Nat} {cb:Array Value} {op:List Ky.En→List Ky.En} {P:List Ky.En→Prop} {key:Ky.Nm} {d:Nat} {lo hi:Tb.Bd} {id dp:Int} {es:List Ky.En} {cc:Nat}
  (s:Tb.Sub 0 lo hi id es L cc) (o:Tb.Loc op P key d) (hlo:Tb.ge lo key) (hhi:Tb.lt hi key) (hp:P es) (hd:dp<24) (hk:c.k.n≤3000) (eg:∀ args w,(callFunc g args).run Tryz.prog w=.ok (.enter g args) w) (hdo:zgw A g cb op P)
  (H:Sat (zaq c r e (L++M)*(A*F)) w)
  (h:∀ x a1 n1 c1 a2 n2 c2 w',zdk c r e (A*F) M (4+(M.length:Int)) (fun kids keys L' c'=>Tb.Done 0 lo hi cc d L kids keys (op es) L' c') x (.slice a1 n1 c1) (.slice a2 n2 c2) w'→Io w w'→R (.returned (.tuple #[.agg #[.slice a1 n1 c1,.slice a2 n2 c2],.int .i64 x])) w') :
  Calls Tryz.prog 89 #[.pointer (some ⟨c.tr,0,none⟩),.int .i64 id,.int .i64 dp,.string key,.func (.func g) #[] cb] w R:=by
 have HH:=L_ h
 have HS:=L_ s
 have HO:=L_ (And.intro o (And.intro hlo (And.intro hhi hp)))
 have s':=s
 obtain ⟨s1,s2,s3,s4,s5,s6,hL,-⟩:=s'
 have N1:Hid ((id,Ky.lf es)∈L++M):=L_ (by rw [hL];simp)
 have N2:=L_ (Ky.NdR.leaf s4)
 have N3:Hid (Ky.zbf (Ky.lf es)≤240):=L_ s6
 have HR:=L_ (And.intro s4 (And.intro s6 hp))
 have HD:=L_ hd
 have HDO:Hid (zgw A g cb op P):=L_ hdo
 have HL:Hid ((op es).length≤5000):=L_ (by
  have h1:=o.size es s4 hp
  have h2:=o.le
  have h3:=(Tb.zcj (o.right es s4).1).1
  omega)
 have H1:=(H.new zP).of_eq (show _=zaq c r e (L++M)*(pts w.heap.size zP*(A*F)) from by ac_rfl)
 have I1:=(Io.refl w).alloc zP
 clear h s o hlo hhi hp s1 s2 s3 s4 s5 s6 hL hd hdo
 go_enter Tryz.func89,Tryz.ntmps89
 go_upto_region 1 with fail
 generalize w.alloc zP=w1 at *
 generalize hb:w.heap.size=b at *
 go_upto_region 2 with (go_at_call 106;with_reducible refine zcy N1.out N2.out N3.out HD.out H1 ?_;intro G kv w2 NK H2 I2;have NK:=L_ NK;have SK:=NK.out.shape;obtain ⟨b1,x1,y1,t1,x2,y2,t2,x3,y3,t3,hq⟩:=SK;subst hq)
 obtain ⟨rfl,-,-⟩:=zh4 NK.out
 have H3:=(H2.new (.cells #[.bool true,.slice x1 y1 t1,.slice x2 y2 t2,.slice x3 y3 t3] 151)).of_eq (show _=zaq c r e (L++M)*(pts w2.heap.size (.cells #[.bool true,.slice x1 y1 t1,.slice x2 y2 t2,.slice x3 y3 t3] 151)*(pts b zP*(A*(G*F)))) from by ac_rfl)
 have I3:=(I1.trans I2).alloc (.cells #[.bool true,.slice x1 y1 t1,.slice x2 y2 t2,.slice x3 y3 t3] 151)
 generalize w2.alloc _=w3 at *
 generalize w2.heap.size=gn at *
 clear H1 H2 I1 I2
 obtain ⟨u0,u1,u2,u3⟩:=nd4 H3.right
 have H4:=H3.of_eq (show _=A*(zaq c r e (L++M)*(pts gn (.cells #[.bool true,.slice x1 y1 t1,.slice x2 y2 t2,.slice x3 y3 t3] 151)*(pts b zP*(G*F)))) from by ac_rfl)
 have RE:=L_ ((zh4 NK.out).2.1.imp (G:=A*(zaq c r e (L++M)*(pts gn (.cells #[.bool true,.slice x1 y1 t1,.slice x2 y2 t2,.slice x3 y3 t3] 151)*(pts b zP*(G*F))))) (fun _ hw=>hw.right.right.right.right.left))
 have SE:=L_ (zh4 NK.out).2.2
 go_wp2_with (first
  | (go_at_fn g;refine HDO.out HR.out.1 HR.out.2.1 HR.out.2.2 RE.out SE.out H4 ?_;intro v5 w5 H5 I5;have SV:=zaf H5;obtain ⟨a5,n5,k5,hq⟩:=SV;subst hq)
  | (go_at_call 88;with_reducible refine zzp HS.out HO.out.1 HO.out.2.1 HO.out.2.2.1 HO.out.2.2.2 hk ((zpa H5 HL.out).imp (fun _ hw=>za3 hw.left.right.left)) (H5.of_eq (show _=zaq c r e (L++M)*((pts b zP*(zda (.slice a5 n5 k5) (op es)*(pts gn (.cells #[.bool true,.slice x1 y1 t1,.slice x2 y2 t2,.slice x3 y3 t3] 151)*G)))*(A*F)) from by unfold zda;ac_rfl)) ?_;intro x a1 n1 c1 a2 n2 c2 w6 D6 I6;have D6:=L_ D6;have D7:=D6.out.frame;obtain ⟨Y,H6,hY⟩:=D7;have HY:=L_ hY;clear hY D6;have K6:=(H6.of_eq (show _=(pts b zP*(Y*(A*F)))*(zda (.slice a5 n5 k5) (op es)*(pts gn (.cells #[.bool true,.slice x1 y1 t1,.slice x2 y2 t2,.slice x3 y3 t3] 151)*G)) from by unfold zda;ac_rfl)).left;obtain ⟨y0,y1⟩:=nd2 K6;obtain ⟨f0,f1⟩:=ztl K6))
 have K:=K6.cells2 (x':=.slice a1 n1 c1) (y':=.slice a2 n2 c2)
 have J:=(((I3.trans I5).trans I6).setCell ⟨b,0,none⟩ (.slice a1 n1 c1)).setCell ⟨b,1,none⟩ (.slice a2 n2 c2)
 generalize (w6.setCell ⟨b,0,none⟩ (.slice a1 n1 c1)).setCell ⟨b,1,none⟩ (.slice a2 n2 c2)=W at *
 clear y0 y1 f0 f1
 obtain ⟨y0,y1⟩:=nd2 K
 exact bodyPost_ret (v:=.tuple #[.agg #[.slice a1 n1 c1,.slice a2 n2 c2],.int .i64 x]) (by simp [results,Tryz.results89,go_sem,y0,y1]) rfl (HH.out _ _ _ _ _ _ _ W (HY.out _ K.right) J)
end
end Go.Proofs.YtfknjmoekbabcaaGreatDoor
