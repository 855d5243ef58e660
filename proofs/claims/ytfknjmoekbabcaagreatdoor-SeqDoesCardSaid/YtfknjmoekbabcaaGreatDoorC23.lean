/-
  A part of a proof. It proves no statement by itself.
-/
import Derived.Test.YtfknjmoekbabcaaGreatDoorC19
import Derived.Test.YtfknjmoekbabcaaGreatDoorC20
import Derived.Test.YtfknjmoekbabcaaGreatDoorC13
import Derived.Test.YtfknjmoekbabcaaGreatDoorC22
set_option linter.unusedSimpArgs false
set_option linter.unusedVariables false
set_option linter.unusedSectionVars false
set_option maxRecDepth 100000
set_option maxHeartbeats 64000000
namespace Go.Proofs.YtfknjmoekbabcaaGreatDoor
open Go.RowKit Go.Lib
def pgc (p:Int × Ky.Nd):Int × Cn:=(p.1,(true,Ky.kind p.2,Ky.zg9 p.2))
def zzh (k:Tq) (L:Tb.Pg):Asn:=ex fun p:Value × Al.Tx=>on (Al.Ok k.room p.2∧p.2.fm.Perm (L.map pgc)) (zbo k p.1 p.2)
structure Cq where
 tr:Nat
 k:Tq
def zbm (c:Cq) (r e:Int):Asn:=pts c.tr (.cells #[.pointer (some ⟨c.k.t,0,none⟩),.int .i64 r,.int .i64 e] 80 (0,0))
def zaq (c:Cq) (r e:Int) (L:Tb.Pg):Asn:=zbm c r e*zzh c.k L
def zr0 (c:Cq) (r e id:Int) (L:Tb.Pg):Asn:=zbm c r e*(ex fun p:Value × Al.Tx=>on (Al.Ok c.k.room p.2∧p.2.fm.Perm ((id,cn0)::L.map pgc)) (zbo c.k p.1 p.2))
section
variable {k:Tq} {c:Cq} {r e:Int} {L M:Tb.Pg} {F:Asn} {w:World} {R:Ending→World→Prop}
theorem zdd:Sat (zzh k L*F) w↔∃ sv x,Al.Ok k.room x∧x.fm.Perm (L.map pgc)∧Sat (zbo k sv x*F) w:=by
 unfold zzh
 rw [zde]
 constructor
 ·rintro ⟨⟨sv,x⟩,h⟩
  obtain ⟨⟨h1,h2⟩,h3⟩:=ze4.1 h
  exact ⟨sv,x,h1,h2,h3⟩
 ·rintro ⟨sv,x,h1,h2,h3⟩
  exact ⟨(sv,x),ze4.2 ⟨⟨h1,h2⟩,h3⟩⟩
theorem xe1 (h:L.Perm M) (H:Sat (zzh k L*F) w):Sat (zzh k M*F) w:=by
 obtain ⟨sv,x,h1,h2,h3⟩:=zdd.1 H
 exact zdd.2 ⟨sv,x,h1,h2.trans (h.map _),h3⟩
theorem xdm (H:Sat (zzh k L*F) w):∀ p∈L,2≤p.1:=by
 obtain ⟨sv,x,h1,h2,h3⟩:=zdd.1 H
 intro p hp
 exact (h1.keys _ (h2.mem_iff.2 (List.mem_map.2 ⟨p,hp,rfl⟩))).1
theorem fm_len {x:Al.Tx} (h:x.fm.Perm (L.map pgc)):x.fm.length=L.length:=by
 have:=h.length_eq
 rwa [List.length_map] at this
theorem zt9 {sv:Value} {x:Al.Tx} (h:x.fm.Perm (L.map pgc)) (H:Sat (zbo k sv x*F) w) {id:Int} {n:Ky.Nd} (hm:(id,n)∈L):zb1 x.fm id=some (true,Ky.kind n,Ky.zg9 n):=by
 have hn:=zf9 (zbo.zrq H)
 refine zgr hn (h.mem_iff.2 ?_)
 exact List.mem_map.2 ⟨_,hm,rfl⟩
theorem xfv {x:Al.Tx} (h:x.fm.Perm (L.map pgc)) {id:Int} (hm:∀ p∈L,p.1≠id):zb1 x.fm id=none:=by
 rw [zgd]
 intro p hp
 obtain ⟨q,hq,rfl⟩:=List.mem_map.1 (h.mem_iff.1 hp)
 exact hm q hq
theorem z0c {κ ν:Type} [DecidableEq κ] {l m:List (κ × ν)} (hl:l.Nodup) (hm:m.Nodup) (h:∀ p,p∈l↔p∈m):l.Perm m:=(List.perm_ext_iff_of_nodup hl hm).2 h
theorem zjd {κ ν:Type} {l:List (κ × ν)} (h:(l.map (·.1)).Nodup):l.Nodup:=by
 induction l with
 | nil=>simp
 | cons x l ih =>
  rw [List.map_cons,List.nodup_cons] at h
  rw [List.nodup_cons]
  exact ⟨fun hx=>h.1 (List.mem_map.2 ⟨_,hx,rfl⟩),ih h.2⟩
theorem ztp {κ ν:Type} [DecidableEq κ] {l:List (κ × ν)} (hn:(l.map (·.1)).Nodup) {k:κ} {v:ν} (p:κ × ν):p∈zid l k v↔p=(k,v)∨(p∈l∧p.1≠k):=by
 obtain ⟨a,u⟩:=p
 have h1:(a,u)∈zid l k v↔zb1 (zid l k v) a=some u:=⟨fun h=>zgr (zpy hn k v) h,zjv⟩
 have h2:(a,u)∈l↔zb1 l a=some u:=⟨fun h=>zgr hn h,zjv⟩
 rw [h1,h2]
 by_cases e:k=a
 ·subst e
  rw [zek]
  simp [eq_comm]
 ·rw [zdz _ _ e]
  simp [e,Ne.symm e,eq_comm]
theorem zs9 {κ ν:Type} [DecidableEq κ] {l m:List (κ × ν)} (hn:(l.map (·.1)).Nodup) {k:κ} {u v:ν} (h:l.Perm ((k,u)::m)):(zid l k v).Perm ((k,v)::m):=by
 have hk:(((k,u)::m).map (·.1)).Nodup:=(h.map (·.1)).nodup_iff.1 hn
 rw [List.map_cons,List.nodup_cons] at hk
 have hk2:(((k,v)::m).map (·.1)).Nodup:=by
  rw [List.map_cons,List.nodup_cons]
  exact hk
 refine z0c (zjd (zpy hn _ _)) (zjd hk2) fun p=>?_
 rw [ztp hn,h.mem_iff,List.mem_cons,List.mem_cons]
 constructor
 ·rintro (rfl | ⟨rfl | h1,h2⟩)
  ·exact .inl rfl
  ·exact absurd rfl h2
  ·exact .inr h1
 ·rintro (rfl | h1)
  ·exact .inl rfl
  ·refine .inr ⟨.inr h1,?_⟩
   intro e
   exact hk.1 (List.mem_map.2 ⟨p,h1,e⟩)
theorem z90 {l:List (Int × Cn)} (hn:(l.map (·.1)).Nodup) {id:Int} {n0 n:Ky.Nd} (h:l.Perm (((id,n0)::M).map pgc)):(zid l id (true,Ky.kind n,Ky.zg9 n)).Perm (((id,n)::M).map pgc):=zs9 hn h
theorem xb6 {l:List (Int × Cn)} (hn:(l.map (·.1)).Nodup) {id:Int} {n0:Ky.Nd} (h:l.Perm (((id,n0)::M).map pgc)):(zpz l id).Perm (M.map pgc):=by
 have hk:(((id,n0)::M).map (·.1)).Nodup:=by
  have hp:=h.map (·.1)
  rw [List.map_map] at hp
  exact hp.nodup_iff.1 hn
 rw [List.map_cons,List.nodup_cons] at hk
 have:=h.filter (fun p=>decide (p.1≠id))
 rw [List.map_cons,List.filter_cons] at this
 simp only [pgc,ne_eq,not_true,decide_false,Bool.false_eq_true,if_false] at this
 refine this.trans ?_
 rw [List.filter_eq_self.2]
 intro p hp
 obtain ⟨q,hq,rfl⟩:=List.mem_map.1 hp
 simp only [decide_eq_true_eq]
 intro e
 exact hk.1 (List.mem_map.2 ⟨q,hq,e⟩)
theorem zaq.cells (H:Sat (zaq c r e L*F) w):w.cell? ⟨c.tr,0,none⟩=some (.pointer (some ⟨c.k.t,0,none⟩))∧w.cell? ⟨c.tr,1,none⟩=some (.int .i64 r)∧w.cell? ⟨c.tr,2,none⟩=some (.int .i64 e):=by
 unfold zaq zbm at H
 have h:=H.left.left.at
 exact ⟨Sat.read h 0,Sat.read h 1,Sat.read h 2⟩
theorem zaq.pg (H:Sat (zaq c r e L*F) w):Sat (zzh c.k L*(zbm c r e*F)) w:=H.of_eq (by unfold zaq;ac_rfl)
theorem zaq.xaf (H:Sat (zzh c.k L*(zbm c r e*F)) w):Sat (zaq c r e L*F) w:=H.of_eq (by unfold zaq;ac_rfl)
theorem zaq.perm (h:L.Perm M) (H:Sat (zaq c r e L*F) w):Sat (zaq c r e M*F) w:=zaq.xaf (xe1 h (zaq.pg H))
theorem zem (H:Sat (zbm c r e*F) w):w.cell? ⟨c.tr,0,none⟩=some (.pointer (some ⟨c.k.t,0,none⟩))∧w.cell? ⟨c.tr,1,none⟩=some (.int .i64 r)∧w.cell? ⟨c.tr,2,none⟩=some (.int .i64 e):=by
 unfold zbm at H
 have h:=H.left.at
 exact ⟨Sat.read h 0,Sat.read h 1,Sat.read h 2⟩
theorem zha (H:Sat (zbm c r e*F) w):w.frozen? ⟨c.tr,1,none⟩=false∧w.frozen? ⟨c.tr,2,none⟩=false:=by
 unfold zbm at H
 have h:=H.left.at
 exact ⟨Sat.free h 1,Sat.free h 2⟩
theorem z5o {id:Int} {n:Ky.Nd} (hm:(id,n)∈L) {kd:Int} (hk:kd=Ky.kind n) (H:Sat (zaq c r e L*F) w) (h:∀ w',Sat (zaq c r e L*F) w'→Io w w'→R (.returned (.tuple #[.string (Ky.zg9 n),.int .i64 0])) w') :
  Calls Tryz.prog 133 #[.pointer (some ⟨c.k.t,0,none⟩),.int .i64 id,.int .u8 kd] w R:=by
 obtain ⟨sv,x,h1,h2,h3⟩:=zdd.1 (zaq.pg H)
 refine zx5 (zt9 h2 h3 hm) (L_ (.inl ⟨hk.symm,rfl,rfl⟩)) h3 fun w' H' I'=>h w' (zaq.xaf (zdd.2 ⟨sv,x,h1,h2,H'⟩)) I'
theorem get_no {id:Int} {n:Ky.Nd} (hm:(id,n)∈L) {kd:Int} (hk:Ky.kind n≠kd) (H:Sat (zaq c r e L*F) w) (h:∀ w',Sat (zaq c r e L*F) w'→Io w w'→R (.returned (.tuple #[.string ⟨#[]⟩,.int .i64 3])) w') :
  Calls Tryz.prog 133 #[.pointer (some ⟨c.k.t,0,none⟩),.int .i64 id,.int .u8 kd] w R:=by
 obtain ⟨sv,x,h1,h2,h3⟩:=zdd.1 (zaq.pg H)
 refine zx5 (zt9 h2 h3 hm) (L_ (.inr ⟨hk,rfl,rfl⟩)) h3 fun w' H' I'=>h w' (zaq.xaf (zdd.2 ⟨sv,x,h1,h2,H'⟩)) I'
end
section
variable {k:Tq} {c:Cq} {r e:Int} {L M:Tb.Pg} {F:Asn} {w:World} {R:Ending→World→Prop}
abbrev zN:Obj:=.cells #[.bool false,.slice none 0 0,.slice none 0 0,.slice none 0 0] 151
theorem zcy {id dp:Int} {n:Ky.Nd} (hm:(id,n)∈L) (hr:Ky.NdR n) (hz:Ky.zbf n≤240) (hd:dp<24) (H:Sat (zaq c r e L*F) w)
  (h:∀ G v w',NdV G v n→Sat (G*(zaq c r e L*F)) w'→Io w w'→R (.returned (.tuple #[v,.int .i64 0])) w') :
  Calls Tryz.prog 106 #[.pointer (some ⟨c.tr,0,none⟩),.int .i64 id,.int .i64 dp] w R:=by
 have HH:=L_ h
 have HR:=L_ hr
 have HM:=L_ hm
 have hdn:¬ (24:Int)≤dp:=by omega
 have H1:=(H.new zN).of_eq (show _=zaq c r e L*(pts w.heap.size zN*F) from by ac_rfl)
 have I1:=(Io.refl w).alloc zN
 obtain ⟨p0,p1,p2⟩:=zaq.cells H1
 cases hk:n.leaf with
 | true =>
  have K1:Hid ((1:Int)=Ky.kind n):=L_ (by unfold Ky.kind;rw [hk];rfl)
  clear h hr hm hk hd
  go_enter Tryz.func106,Tryz.ntmps106
  go_upto_region 4 with fail
  generalize w.alloc zN=w1 at *
  generalize hb:w.heap.size=b at *
  go_wp2_with (first
   | (go_at_call 133;with_reducible refine z5o HM.out K1.out H1 ?_;intro w2 H2 I2)
   | (go_at_call 134;with_reducible refine zmm HR.out hz rfl K1.out H2 ?_;intro G v w3 N3 H3 I3;have N3:=L_ N3;have N4:=N3.out.shape;obtain ⟨lf,a1,n1,c1,a2,n2,c2,a3,n3,c3,hq⟩:=N4;subst hq;obtain ⟨u0,u1,u2,u3⟩:=nd4 H3.right.right;obtain ⟨f0,f1,f2,f3⟩:=zd7 H3.right.right))
  have K:=(H3.of_eq (show _=pts b zN*(G*(zaq c r e L*F)) from by ac_rfl)).cells4 (x':=.bool lf) (y':=.slice a1 n1 c1) (z':=.slice a2 n2 c2) (u':=.slice a3 n3 c3)
  have J:=((((((I1.trans I2).trans I3).setCell ⟨b,0,none⟩ (.bool lf)).setCell ⟨b,1,none⟩ (.slice a1 n1 c1)).setCell ⟨b,2,none⟩ (.slice a2 n2 c2)).setCell ⟨b,3,none⟩ (.slice a3 n3 c3))
  generalize ((((w3.setCell ⟨b,0,none⟩ (.bool lf)).setCell ⟨b,1,none⟩ (.slice a1 n1 c1)).setCell ⟨b,2,none⟩ (.slice a2 n2 c2)).setCell ⟨b,3,none⟩ (.slice a3 n3 c3))=W at *
  clear u0 u1 u2 u3 f0 f1 f2 f3
  obtain ⟨y0,y1,y2,y3⟩:=nd4 K
  exact bodyPost_ret (v:=.tuple #[.agg #[.bool lf,.slice a1 n1 c1,.slice a2 n2 c2,.slice a3 n3 c3],.int .i64 0]) (by simp [results,Tryz.results106,go_sem,y0,y1,y2,y3]) rfl (HH.out _ _ _ N3.out K.right J)
 | false =>
  have K1:Hid (Ky.kind n≠1):=L_ (by unfold Ky.kind;rw [hk];decide)
  have K2:Hid ((2:Int)=Ky.kind n):=L_ (by unfold Ky.kind;rw [hk];rfl)
  clear h hr hm hk hd
  go_enter Tryz.func106,Tryz.ntmps106
  go_upto_region 4 with fail
  generalize w.alloc zN=w1 at *
  generalize hb:w.heap.size=b at *
  go_upto_region 7 with (go_at_call 133;with_reducible refine get_no HM.out K1.out H1 ?_;intro w2 H2 I2)
  obtain ⟨q0,q1,q2⟩:=zaq.cells H2
  go_wp2_with (first
   | (go_at_call 133;with_reducible refine z5o HM.out K2.out H2 ?_;intro w2' H2' I2')
   | (go_at_call 134;with_reducible refine zmm HR.out hz rfl K2.out H2' ?_;intro G v w3 N3 H3 I3;have N3:=L_ N3;have N4:=N3.out.shape;obtain ⟨lf,a1,n1,c1,a2,n2,c2,a3,n3,c3,hq⟩:=N4;subst hq;obtain ⟨u0,u1,u2,u3⟩:=nd4 H3.right.right;obtain ⟨f0,f1,f2,f3⟩:=zd7 H3.right.right))
  have K:=(H3.of_eq (show _=pts b zN*(G*(zaq c r e L*F)) from by ac_rfl)).cells4 (x':=.bool lf) (y':=.slice a1 n1 c1) (z':=.slice a2 n2 c2) (u':=.slice a3 n3 c3)
  have J:=(((((((I1.trans I2).trans I2').trans I3).setCell ⟨b,0,none⟩ (.bool lf)).setCell ⟨b,1,none⟩ (.slice a1 n1 c1)).setCell ⟨b,2,none⟩ (.slice a2 n2 c2)).setCell ⟨b,3,none⟩ (.slice a3 n3 c3))
  generalize ((((w3.setCell ⟨b,0,none⟩ (.bool lf)).setCell ⟨b,1,none⟩ (.slice a1 n1 c1)).setCell ⟨b,2,none⟩ (.slice a2 n2 c2)).setCell ⟨b,3,none⟩ (.slice a3 n3 c3))=W at *
  clear u0 u1 u2 u3 f0 f1 f2 f3
  obtain ⟨y0,y1,y2,y3⟩:=nd4 K
  exact bodyPost_ret (v:=.tuple #[.agg #[.bool lf,.slice a1 n1 c1,.slice a2 n2 c2,.slice a3 n3 c3],.int .i64 0]) (by simp [results,Tryz.results106,go_sem,y0,y1,y2,y3]) rfl (HH.out _ _ _ N3.out K.right J)
theorem z5s {id:Int} {n:Ky.Nd} (hm:(id,n)∈L) (H:Sat (zaq c r e L*F) w) (h:∀ w',Sat (zaq c r e L*F) w'→Io w w'→R (.returned (.bool true)) w') :
  Calls Tryz.prog 142 #[.pointer (some ⟨c.k.t,0,none⟩),.int .i64 id] w R:=by
 obtain ⟨sv,x,h1,h2,h3⟩:=zdd.1 (zaq.pg H)
 exact zjk (L_ (by rw [zt9 h2 h3 hm];rfl)) h3 fun w' H' I'=>h w' (zaq.xaf (zdd.2 ⟨sv,x,h1,h2,H'⟩)) I'
theorem xbp {id:Int} (hm:∀ p∈L,p.1≠id) (H:Sat (zaq c r e L*F) w) (h:∀ w',Sat (zaq c r e L*F) w'→Io w w'→R (.returned (.bool false)) w') :
  Calls Tryz.prog 142 #[.pointer (some ⟨c.k.t,0,none⟩),.int .i64 id] w R:=by
 obtain ⟨sv,x,h1,h2,h3⟩:=zdd.1 (zaq.pg H)
 exact zjk (L_ (by rw [xfv h2 hm];rfl)) h3 fun w' H' I'=>h w' (zaq.xaf (zdd.2 ⟨sv,x,h1,h2,H'⟩)) I'
theorem zm4 {id:Int} {n:Ky.Nd} (hk:c.k.n≤3000) (H:Sat (zaq c r e ((id,n)::M)*F) w) (h:∀ w',Sat (zaq c r e M*F) w'→Io w w'→R (.returned (.tuple #[])) w') :
  Calls Tryz.prog 115 #[.pointer (some ⟨c.k.t,0,none⟩),.int .i64 id] w R:=by
 obtain ⟨sv,x,h1,h2,h3⟩:=zdd.1 (zaq.pg H)
 have hn:=zf9 (zbo.zrq h3)
 exact xb1 h1 hk (zt9 h2 h3 (List.mem_cons_self ..)) h3 fun x' sv' w' h1' e' H' I'=>h w' (zaq.xaf (zdd.2 ⟨sv',x',h1',by rw [e'];exact xb6 hn h2,H'⟩)) I'
theorem z92 {id:Int} {n0 n:Ky.Nd} {kd:Int} (hz:(Ky.zg9 n).size≤240) (hk:kd=Ky.kind n) (H:Sat (zaq c r e ((id,n0)::M)*F) w) (h:∀ w',Sat (zaq c r e ((id,n)::M)*F) w'→Io w w'→R (.returned (.int .i64 0)) w') :
  Calls Tryz.prog 153 #[.pointer (some ⟨c.k.t,0,none⟩),.int .i64 id,.int .u8 kd,.string (Ky.zg9 n)] w R:=by
 subst hk
 obtain ⟨sv,x,h1,h2,h3⟩:=zdd.1 (zaq.pg H)
 have hn:=zf9 (zbo.zrq h3)
 have hg:=zt9 h2 h3 (List.mem_cons_self ..)
 exact zx3 hg hz h3 fun w' H' I'=>h w' (zaq.xaf (zdd.2 ⟨sv,_,h1.wrote hg,z90 hn h2,H'⟩)) I'
theorem zwi {id:Int}:Sat (zr0 c r e id L*F) w↔∃ sv x,Al.Ok c.k.room x∧x.fm.Perm ((id,cn0)::L.map pgc)∧Sat (zbo c.k sv x*(zbm c r e*F)) w:=by
 have e0:zr0 c r e id L*F=(ex fun p:Value × Al.Tx=>on (Al.Ok c.k.room p.2∧p.2.fm.Perm ((id,cn0)::L.map pgc)) (zbo c.k p.1 p.2))*(zbm c r e*F):=by unfold zr0;ac_rfl
 rw [e0,zde]
 constructor
 ·rintro ⟨⟨sv,x⟩,h⟩
  obtain ⟨⟨h1,h2⟩,h3⟩:=ze4.1 h
  exact ⟨sv,x,h1,h2,h3⟩
 ·rintro ⟨sv,x,h1,h2,h3⟩
  exact ⟨(sv,x),ze4.2 ⟨⟨h1,h2⟩,h3⟩⟩
theorem zr0.cells {id:Int} (H:Sat (zr0 c r e id L*F) w):w.cell? ⟨c.tr,0,none⟩=some (.pointer (some ⟨c.k.t,0,none⟩))∧w.cell? ⟨c.tr,1,none⟩=some (.int .i64 r)∧w.cell? ⟨c.tr,2,none⟩=some (.int .i64 e):=by
 obtain ⟨sv,x,_,_,h⟩:=zwi.1 H
 exact zem h.right
theorem z1c (hk:c.k.n≤3000) (H:Sat (zaq c r e L*F) w)
  (hfull:c.k.room≤2+(L.length:Int)→∀ w',Sat (zaq c r e L*F) w'→Io w w'→R (.returned (.tuple #[.int .i64 0,.int .i64 2])) w')
  (h:∀ id w',Tb.zjx id→(∀ p∈L,p.1≠id)→Sat (zr0 c r e id L*F) w'→Io w w'→R (.returned (.tuple #[.int .i64 id,.int .i64 0])) w') :
  Calls Tryz.prog 152 #[.pointer (some ⟨c.k.t,0,none⟩)] w R:=by
 obtain ⟨sv,x,h1,h2,h3⟩:=zdd.1 (zaq.pg H)
 refine z7l h1 hk h3 (fun hf w' H' I'=>hfull (by rw [←fm_len h2];exact hf) w' (zaq.xaf (zdd.2 ⟨sv,x,h1,h2,H'⟩)) I') fun id x' sv' w' h1' g1 g2 g3 e' H' I'=>h id w' ⟨g2,g3⟩ (fun p hp q=>?_) (zwi.2 ⟨sv',x',h1',?_,H'⟩) I'
 ·rw [zgd] at g1
  exact g1 _ (h2.mem_iff.2 (List.mem_map.2 ⟨p,hp,rfl⟩)) q
 ·rw [e']
  exact List.perm_append_singleton _ _ |>.trans (h2.cons _)
theorem z7k (hk:c.k.n≤3000) (H:Sat (zaq c r e L*F) w)
  (h:∀ id x w',Hid ((x=0∧Tb.zjx id∧(∀ p∈L,p.1≠id)∧Sat (zr0 c r e id L*F) w')∨(x=2∧c.k.room≤2+(L.length:Int)∧Sat (zaq c r e L*F) w'))→Io w w'→R (.returned (.tuple #[.int .i64 id,.int .i64 x])) w') :
  Calls Tryz.prog 152 #[.pointer (some ⟨c.k.t,0,none⟩)] w R :=
 z1c hk H (fun hf w' H' I'=>h 0 2 w' (L_ (.inr ⟨rfl,hf,H'⟩)) I') fun id w' h1 h2 H' I'=>h id 0 w' (L_ (.inl ⟨rfl,h1,h2,H'⟩)) I'
theorem xew {id:Int} {n:Ky.Nd} {kd:Int} (hz:(Ky.zg9 n).size≤240) (hk:kd=Ky.kind n) (H:Sat (zr0 c r e id L*F) w) (h:∀ w',Sat (zaq c r e ((id,n)::L)*F) w'→Io w w'→R (.returned (.int .i64 0)) w') :
  Calls Tryz.prog 153 #[.pointer (some ⟨c.k.t,0,none⟩),.int .i64 id,.int .u8 kd,.string (Ky.zg9 n)] w R:=by
 subst hk
 obtain ⟨sv,x,h1,h2,h3⟩:=zwi.1 H
 have hn:=zf9 (zbo.zrq h3)
 have hg:zb1 x.fm id=some cn0:=zgr hn (h2.mem_iff.2 (List.mem_cons_self ..))
 exact zx3 hg hz h3 fun w' H' I'=>h w' (zaq.xaf (zdd.2 ⟨sv,_,h1.wrote hg,zs9 hn h2,H'⟩)) I'
theorem zsu {id:Int} {n0 n:Ky.Nd} {v:Value} (hr:Ky.NdR n) (hz:Ky.zbf n≤240) (hv:NdV F v n) (H:Sat (zaq c r e ((id,n0)::M)*F) w)
  (h:∀ w',Sat (zaq c r e ((id,n)::M)*F) w'→Io w w'→R (.returned (.tuple #[.int .i64 id,.int .i64 0])) w') :
  Calls Tryz.prog 118 #[.pointer (some ⟨c.tr,0,none⟩),.int .i64 id,v] w R:=by
 have HH:=L_ h
 have HR:=L_ hr
 have HV:=L_ hv
 have HZ:Hid ((Ky.zg9 n).size≤240):=L_ (by rw [Ky.zey hr];exact hz)
 have N4:=hv.shape
 obtain ⟨lf,a1,n1,c1,a2,n2,c2,a3,n3,c3,rfl⟩:=N4
 have H1:=(H.new (.cells #[.bool lf,.slice a1 n1 c1,.slice a2 n2 c2,.slice a3 n3 c3] 151)).of_eq (show _=zaq c r e ((id,n0)::M)*(pts w.heap.size (.cells #[.bool lf,.slice a1 n1 c1,.slice a2 n2 c2,.slice a3 n3 c3] 151)*F) from by ac_rfl)
 have I1:=io1 H1 (Io.refl w)
 clear h hr hv
 go_enter Tryz.func118,Tryz.ntmps118
 go_upto_region 1 with fail
 generalize w.alloc _=w1 at *
 generalize hb:w.heap.size=b at *
 obtain ⟨u0,u1,u2,u3⟩:=nd4 H1.right
 go_wp2_with (first
  | (go_at_call 151;with_reducible refine zml HR.out hz (HV.out.imp (fun _ hw=>hw.right.right)) H1 ?_;intro w2 H2 I2;obtain ⟨q0,q1,q2⟩:=zaq.cells H2)
  | (go_at_call 142;with_reducible refine z5s (List.mem_cons_self ..) H2 ?_;intro w3 H3 I3;obtain ⟨q0,q1,q2⟩:=zaq.cells H3)
  | (go_at_call 153;with_reducible refine z92 HZ.out rfl H3 ?_;intro w4 H4 I4))
 exact HH.out _ (H4.of_eq (show _=pts b _*(zaq c r e ((id,n)::M)*F) from by ac_rfl)).right (((I1.trans I2).trans I3).trans I4)
theorem z9o {id:Int} {n:Ky.Nd} {v:Value} (hk:c.k.n≤3000) (hm:∀ p∈L,p.1≠id) (hr:Ky.NdR n) (hz:Ky.zbf n≤240) (hv:NdV F v n) (H:Sat (zaq c r e L*F) w)
  (hfull:c.k.room≤2+(L.length:Int)→∀ w',Sat (zaq c r e L*F) w'→Io w w'→R (.returned (.tuple #[.int .i64 0,.int .i64 2])) w')
  (h:∀ id' w',Tb.zjx id'→(∀ p∈L,p.1≠id')→Sat (zaq c r e ((id',n)::L)*F) w'→Io w w'→R (.returned (.tuple #[.int .i64 id',.int .i64 0])) w') :
  Calls Tryz.prog 118 #[.pointer (some ⟨c.tr,0,none⟩),.int .i64 id,v] w R:=by
 have HH:=L_ h
 have HF:=L_ hfull
 have HR:=L_ hr
 have HV:=L_ hv
 have HM:=L_ hm
 have HZ:Hid ((Ky.zg9 n).size≤240):=L_ (by rw [Ky.zey hr];exact hz)
 have N4:=hv.shape
 obtain ⟨lf,a1,n1,c1,a2,n2,c2,a3,n3,c3,rfl⟩:=N4
 have H1:=(H.new (.cells #[.bool lf,.slice a1 n1 c1,.slice a2 n2 c2,.slice a3 n3 c3] 151)).of_eq (show _=zaq c r e L*(pts w.heap.size (.cells #[.bool lf,.slice a1 n1 c1,.slice a2 n2 c2,.slice a3 n3 c3] 151)*F) from by ac_rfl)
 have I1:=io1 H1 (Io.refl w)
 clear h hr hv hfull hm
 go_enter Tryz.func118,Tryz.ntmps118
 go_upto_region 1 with fail
 generalize w.alloc _=w1 at *
 generalize hb:w.heap.size=b at *
 obtain ⟨u0,u1,u2,u3⟩:=nd4 H1.right
 go_upto_region 6 with (first
  | (go_at_call 151;with_reducible refine zml HR.out hz (HV.out.imp (fun _ hw=>hw.right.right)) H1 ?_;intro w2 H2 I2;obtain ⟨q0,q1,q2⟩:=zaq.cells H2)
  | (go_at_call 142;with_reducible refine xbp HM.out H2 ?_;intro w3 H3 I3;obtain ⟨q0,q1,q2⟩:=zaq.cells H3)
  | (go_at_call 152;with_reducible refine z7k hk H3 ?_;intro id' x w4 D4 I4))
 rcases D4.out with ⟨rfl,i1,i2,H4⟩ | ⟨rfl,hf,H4⟩
 ·obtain ⟨q0,q1,q2⟩:=zr0.cells H4
  have P1:=L_ i1
  have P2:=L_ i2
  clear i1 i2 D4
  go_wp2_with (go_at_call 153;with_reducible refine xew HZ.out rfl H4 ?_;intro w5 H5 I5)
  exact HH.out _ _ P1.out P2.out (H5.of_eq (show _=pts b _*(zaq c r e ((id',n)::L)*F) from by ac_rfl)).right ((((I1.trans I2).trans I3).trans I4).trans I5)
 ·clear D4
  go_wp2_with fail
  exact HF.out hf _ (H4.of_eq (show _=pts b _*(zaq c r e L*F) from by ac_rfl)).right (((I1.trans I2).trans I3).trans I4)
end
theorem z9p {c:Cq} {r e:Int} {L M:Tb.Pg} {F:Asn} {w:World} {R:Ending→World→Prop} {id:Int} {n:Ky.Nd} {v:Value} (hk:c.k.n≤3000)
  (hp:(Tb.zjx id∧∃ n0,L=(id,n0)::M)∨(L=M∧∀ p∈M,p.1≠id)) (hr:Ky.NdR n) (hz:Ky.zbf n≤240) (hv:NdV F v n) (H:Sat (zaq c r e L*F) w)
  (h:∀ id' x w',Hid ((x=0∧Tb.zjx id'∧(L=M∨id'=id)∧Sat (zaq c r e ((id',n)::M)*F) w')∨(x=2∧c.k.room≤2+(M.length:Int)∧Sat (zbm c r e*F) w'))→Io w w'→R (.returned (.tuple #[.int .i64 id',.int .i64 x])) w') :
  Calls Tryz.prog 118 #[.pointer (some ⟨c.tr,0,none⟩),.int .i64 id,v] w R:=by
 rcases hp with ⟨hi,n0,rfl⟩ | ⟨rfl,hm⟩
 ·exact zsu hr hz hv H fun w' H' I'=>h id 0 w' (L_ (.inl ⟨rfl,hi,.inr rfl,H'⟩)) I'
 ·exact z9o hk hm hr hz hv H (fun hf w' H' I'=>h 0 2 w' (L_ (.inr ⟨rfl,hf,(zaq.pg H').right⟩)) I') fun id' w' h1 h2 H' I'=>h id' 0 w' (L_ (.inl ⟨rfl,h1,.inl rfl,H'⟩)) I'
section
variable {k:Tq} {c:Cq} {r e:Int} {L M:Tb.Pg} {F:Asn} {w:World} {R:Ending→World→Prop}
theorem empty_any {n:Ky.Nd} {v:Value} {d:Bool} (hd:Hid (d=decide ((n.es.length:Int)+(n.kids.length:Int)=0))) (hl:n.es.length≤100000∧n.kids.length≤100000) (hv:NdV F v n) (H:Sat F w) (h:∀ w',Sat F w'→Io w w'→R (.returned (.bool d)) w') :
  Calls Tryz.prog 114 #[v] w R:=by
 obtain ⟨a1,c1,a2,c2,a3,c3,rfl⟩:=zjf hv
 have hw:IntKind.i64.wrap ((n.es.length:Int)+(n.kids.length:Int))=(n.es.length:Int)+(n.kids.length:Int):=by rw [IntKind.wrap_i64];omega
 have fin:=h _ (H.new (.cells #[.bool n.leaf,.slice a1 n.es.length c1,.slice a2 n.kids.length c2,.slice a3 n.keys.length c3] 151)).right ((Io.refl w).alloc _)
 have HD:=hd
 rw [hd.out] at fin
 obtain ⟨n1,hn1⟩:∃ k,k=n.es.length:=⟨_,rfl⟩
 obtain ⟨n2,hn2⟩:∃ k,k=n.kids.length:=⟨_,rfl⟩
 rw [←hn1,←hn2] at fin hw ⊢
 clear h hv H hd HD hn1 hn2 hl
 go_enter Tryz.func114,Tryz.ntmps114
 go_wp2_with fail
 exact fin
abbrev zP:Obj:=.cells #[.slice none 0 0,.slice none 0 0] 147
theorem nd2 {b:Nat} {x y:Value} {t:TypeId} {G:Asn} {w:World} (H:Sat (pts b (.cells #[x,y] t (0,0))*G) w):w.cell? ⟨b,0,none⟩=some x∧w.cell? ⟨b,1,none⟩=some y :=
 ⟨Sat.read H.left.at 0,Sat.read H.left.at 1⟩
theorem ztl {b:Nat} {x y:Value} {t:TypeId} {G:Asn} {w:World} (H:Sat (pts b (.cells #[x,y] t (0,0))*G) w):w.frozen? ⟨b,0,none⟩=false∧w.frozen? ⟨b,1,none⟩=false :=
 ⟨Sat.free H.left.at 0,Sat.free H.left.at 1⟩
theorem Sat.cells2 {b:Nat} {x y x' y':Value} {t:TypeId} {G:Asn} {w:World} (H:Sat (pts b (.cells #[x,y] t (0,0))*G) w) :
  Sat (pts b (.cells #[x',y'] t (0,0))*G) ((w.setCell ⟨b,0,none⟩ x').setCell ⟨b,1,none⟩ y') :=
 ((H.cell 0 x').cell 1 y')
theorem zf0 {id:Int} {n:Ky.Nd} {v:Value} (hk:c.k.n≤3000) (hp:(Tb.zjx id∧∃ n0,L=(id,n0)::M)∨(L=M∧∀ p∈M,p.1≠id)) (hr:Ky.NdR n) (hz:Ky.zbf n≤240) (hne:0<n.es.length+n.kids.length) (hv:NdV F v n) (H:Sat (zaq c r e L*F) w)
  (h:∀ id' x g w',Hid ((x=0∧Tb.zjx id'∧(L=M∨id'=id)∧Sat (za1 (.slice (some ⟨g,0,none⟩) 1 1) [id']*(zaq c r e ((id',n)::M)*F)) w')∨(x=2∧c.k.room≤2+(M.length:Int)∧Sat (zbm c r e*F) w'))→Io w w' →
   R (.returned (.tuple #[.agg #[.slice (some ⟨g,0,none⟩) 1 1,.slice none 0 0],.int .i64 x])) w') :
  Calls Tryz.prog 88 #[.pointer (some ⟨c.tr,0,none⟩),.int .i64 id,v] w R:=by
 have HH:=L_ h
 have HR:=L_ hr
 have HV:=L_ hv
 have HP:=L_ hp
 have HL:Hid (n.es.length≤5000∧n.kids.length≤4000):=L_ (by
  cases hr with
  | @leaf es hr =>
   have hz':Ky.size es≤240:=hz
   have:=(Tb.zcj hr.1).1
   simp only [Ky.lf,List.length_nil];omega
  | @inner kids keys hr =>
   have hz':4+Ky.zah keys≤240:=hz
   have:=(Tb.zbg hr.chk).1
   have:=hr.len
   simp only [Ky.inn,List.length_nil];omega)
 have HE:Hid (false=decide ((n.es.length:Int)+(n.kids.length:Int)=0)):=L_ (by symm;exact decide_eq_false (by omega))
 obtain ⟨z,hzz⟩:∃ z,z=Ky.zbf n:=⟨_,rfl⟩
 have HZ:=L_ hzz
 have z1:¬ (240:Int)<(z:Int):=by omega
 have z2:decide ((240:Int)<(z:Int))=false:=decide_eq_false z1
 have N4:=hv.shape
 obtain ⟨lf,a1,n1,c1,a2,n2,c2,a3,n3,c3,rfl⟩:=N4
 have H1:=((H.new (.cells #[.bool lf,.slice a1 n1 c1,.slice a2 n2 c2,.slice a3 n3 c3] 151)).new zP).of_eq (show _=zaq c r e L*(pts (w.heap.size+1) zP*(pts w.heap.size (.cells #[.bool lf,.slice a1 n1 c1,.slice a2 n2 c2,.slice a3 n3 c3] 151)*F)) from by rw [heap_alloc];ac_rfl)
 have I1:=((Io.refl w).alloc (.cells #[.bool lf,.slice a1 n1 c1,.slice a2 n2 c2,.slice a3 n3 c3] 151)).alloc zP
 clear h hr hv hp hne hzz
 go_enter Tryz.func88,Tryz.ntmps88
 go_upto_region 1 with fail
 generalize (w.alloc _).alloc zP=w1 at *
 generalize hb:w.heap.size=b at *
 obtain ⟨u0,u1,u2,u3⟩:=nd4 H1.right.right
 go_upto_region 4 with (go_at_call 114;with_reducible refine empty_any HE (by have:=HL.out;omega) (HV.out.imp (fun _ hw=>hw.right.right.right)) H1 ?_;intro w2 H2 I2;obtain ⟨u0,u1,u2,u3⟩:=nd4 H2.right.right)
 go_upto_region 5 with (go_at_call 116;with_reducible refine zzt HR.out (by have:=HL.out;omega) (HV.out.imp (fun _ hw=>hw.right.right.right)) H2 ?_;intro G v1 s v2 w3 S1 S2 H3 I3;obtain ⟨b1,x1,y1,t1,x2,y2,t2,x3,y3,t3,rfl⟩:=S1;obtain ⟨b2,x4,y4,t4,x5,y5,t5,x6,y6,t6,rfl⟩:=S2)
 have H4:=((H3.new (.cells #[.bool b1,.slice x1 y1 t1,.slice x2 y2 t2,.slice x3 y3 t3] 151)).new (.cells #[.bool b2,.slice x4 y4 t4,.slice x5 y5 t5,.slice x6 y6 t6] 151)).right.right.right
 have I4:=(((I1.trans I2).trans I3).alloc (.cells #[.bool b1,.slice x1 y1 t1,.slice x2 y2 t2,.slice x3 y3 t3] 151)).alloc (.cells #[.bool b2,.slice x4 y4 t4,.slice x5 y5 t5,.slice x6 y6 t6] 151)
 generalize (w3.alloc _).alloc _=w4 at *
 obtain ⟨u0,u1,u2,u3⟩:=nd4 H4.right.right
 go_upto_region 14 with (go_at_call 117;with_reducible refine zf6 HR.out (HV.out.imp (fun _ hw=>hw.right.right.right)) (by have:=HL.out;omega) H4 HZ ?_;intro w5 H5 I5;obtain ⟨u0,u1,u2,u3⟩:=nd4 H5.right.right)
 go_upto_region 15 with (go_at_call 118;with_reducible refine z9p hk HP.out HR.out hz (HV.out.imp (fun _ hw=>hw.right.right)) H5 ?_;intro id' x w6 D6 I6)
 have D7:∃ Y:Asn,Sat (Y*(pts (b+1) zP*(pts b (.cells #[.bool lf,.slice a1 n1 c1,.slice a2 n2 c2,.slice a3 n3 c3] 151)*F))) w6∧∀ g w',Sat (za1 (.slice (some ⟨g,0,none⟩) 1 1) [id']*(Y*F)) w'→((x=0∧Tb.zjx id'∧(L=M∨id'=id)∧Sat (za1 (.slice (some ⟨g,0,none⟩) 1 1) [id']*(zaq c r e ((id',n)::M)*F)) w')∨(x=2∧c.k.room≤2+(M.length:Int)∧Sat (zbm c r e*F) w')):=by
  rcases D6.out with ⟨h1,h2,h3,h4⟩ | ⟨h1,h2,h4⟩
  ·exact ⟨_,h4,fun g w' H'=>.inl ⟨h1,h2,h3,H'⟩⟩
  ·exact ⟨_,h4,fun g w' H'=>.inr ⟨h1,h2,H'.right⟩⟩
 obtain ⟨Y,H6,hY⟩:=D7
 have HY:=L_ hY
 clear hY D6
 have H7:=zqh zba id' (H6.new (.cells #[.int .i64 id'] 3))
 obtain ⟨y0,y1⟩:=nd2 H7.right.right
 obtain ⟨f0,f1⟩:=ztl H7.right.right
 have K:=(H7.of_eq (show _=pts (b+1) zP*(za1 (.slice (some ⟨w6.heap.size,0,none⟩) 1 1) [id']*(Y*F))*pts b (.cells #[.bool lf,.slice a1 n1 c1,.slice a2 n2 c2,.slice a3 n3 c3] 151) from by unfold za1;ac_rfl)).left.cells2 (x':=.slice (some ⟨w6.heap.size,0,none⟩) 1 1) (y':=.slice none 0 0)
 have J:=((((I4.trans I5).trans I6).alloc (.cells #[.int .i64 id'] 3)).setCell ⟨b+1,0,none⟩ (.slice (some ⟨w6.heap.size,0,none⟩) 1 1)).setCell ⟨b+1,1,none⟩ (.slice none 0 0)
 go_wp2_with fail
 generalize ((w6.alloc _).setCell ⟨b+1,0,none⟩ (.slice (some ⟨w6.heap.size,0,none⟩) 1 1)).setCell ⟨b+1,1,none⟩ (.slice none 0 0)=W at *
 clear y0 y1 f0 f1
 obtain ⟨y0,y1⟩:=nd2 K
 exact bodyPost_ret (v:=.tuple #[.agg #[.slice (some ⟨w6.heap.size,0,none⟩) 1 1,.slice none 0 0],.int .i64 x]) (by simp [results,Tryz.results88,go_sem,y0,y1]) rfl (HH.out id' x _ W (L_ (HY.out _ _ K.right)) J)
end
section
variable {P:Program} {t e:TypeId} {bytes:Nat} {R:Asn} {w:World} {ops:Array Oper} {rest:List Oper} {o:Oper} {a:Act} {Q:Exit→Act→World→Prop} {α:Type} {enc:α→List Value} {sz:Nat}
theorem zgu (T:zkg P t e sz bytes) (he:Enc enc sz) {K:Act→World→Prop} {E:Prop} (hgd:o.guard=none) (s x:Operand) (ho:o.op=.call { callee:=.builtin .append,args:=#[s,x],argTypes:=#[t,t] })
  {v u:Value} {l m:List α} (hs:a.eval s=v) (H:Sat (RowOf e sz enc v l*R) w) (hl:l.length≤1000000) (hm:m.length≤1000000) (hx:a.eval x=u) (hu:Reads enc R u m)
  (h:∀ v' w',Sat (RowOf e sz enc v' (l++m)*R) w'→Io w w'→K (a.put o.dst v') w') :
  if Region.wanted o (yielded ops a.tmps)=true then Oper.wp P o a w K Q else E:=by
 rw [if_pos (by simp [Region.wanted,hgd])]
 obtain ⟨v',w',h1,h2,h3⟩:=zg0 T he H hl hm hu o.type
 unfold Oper.wp execOp
 simp only [ho,resolve,invoke,builtin,Sem.run_bind,Sem.run_pure,Result.andThen_ok,List.map_toArray,List.map_cons,List.map_nil,hs,hx,h1]
 exact h v' w' h2 h3
end
section
variable {k:Tq} {c:Cq} {r e:Int} {L M:Tb.Pg} {F:Asn} {w:World} {R:Ending→World→Prop}
theorem zou {id:Int} {n n0:Ky.Nd} {v:Value} (hk:c.k.n≤3000) (he:n.es=[]∧n.kids=[]) (hv:NdV F v n) (H:Sat (zaq c r e ((id,n0)::M)*F) w)
  (h:∀ w',Sat (zaq c r e M*F) w'→Io w w'→R (.returned (.tuple #[.agg #[.slice none 0 0,.slice none 0 0],.int .i64 0])) w') :
  Calls Tryz.prog 88 #[.pointer (some ⟨c.tr,0,none⟩),.int .i64 id,v] w R:=by
 have HH:=L_ h
 have HV:=L_ hv
 have HE:Hid (true=decide ((n.es.length:Int)+(n.kids.length:Int)=0)):=L_ (by symm;rw [he.1,he.2];exact decide_eq_true (by simp))
 have HL:Hid (n.es.length≤100000∧n.kids.length≤100000):=L_ (by rw [he.1,he.2];simp)
 have N4:=hv.shape
 obtain ⟨lf,a1,n1,c1,a2,n2,c2,a3,n3,c3,rfl⟩:=N4
 have H1:=((H.new (.cells #[.bool lf,.slice a1 n1 c1,.slice a2 n2 c2,.slice a3 n3 c3] 151)).new zP).of_eq (show _=zaq c r e ((id,n0)::M)*(pts (w.heap.size+1) zP*(pts w.heap.size (.cells #[.bool lf,.slice a1 n1 c1,.slice a2 n2 c2,.slice a3 n3 c3] 151)*F)) from by rw [heap_alloc];ac_rfl)
 have I1:=((Io.refl w).alloc (.cells #[.bool lf,.slice a1 n1 c1,.slice a2 n2 c2,.slice a3 n3 c3] 151)).alloc zP
 clear h hv he
 go_enter Tryz.func88,Tryz.ntmps88
 go_upto_region 1 with fail
 generalize (w.alloc _).alloc zP=w1 at *
 generalize hb:w.heap.size=b at *
 obtain ⟨u0,u1,u2,u3⟩:=nd4 H1.right.right
 go_wp2_with (first
  | (go_at_call 114;with_reducible refine empty_any HE HL.out (HV.out.imp (fun _ hw=>hw.right.right.right)) H1 ?_;intro w2 H2 I2;obtain ⟨q0,q1,q2⟩:=zaq.cells H2)
  | (go_at_call 115;with_reducible refine zm4 hk H2 ?_;intro w3 H3 I3;obtain ⟨y0,y1⟩:=nd2 H3.right;obtain ⟨f0,f1⟩:=ztl H3.right))
 have K:=(H3.of_eq (show _=pts (b+1) zP*(zaq c r e M*F)*pts b (.cells #[.bool lf,.slice a1 n1 c1,.slice a2 n2 c2,.slice a3 n3 c3] 151) from by ac_rfl)).left.cells2 (x':=.slice none 0 0) (y':=.slice none 0 0)
 have J:=(((I1.trans I2).trans I3).setCell ⟨b+1,0,none⟩ (.slice none 0 0)).setCell ⟨b+1,1,none⟩ (.slice none 0 0)
 generalize (w3.setCell ⟨b+1,0,none⟩ (.slice none 0 0)).setCell ⟨b+1,1,none⟩ (.slice none 0 0)=W at *
 clear y0 y1 f0 f1
 obtain ⟨y0,y1⟩:=nd2 K
 exact bodyPost_ret (v:=.tuple #[.agg #[.slice none 0 0,.slice none 0 0],.int .i64 0]) (by simp [results,Tryz.results88,go_sem,y0,y1]) rfl (HH.out W K.right J)
end
section
variable {k:Tq} {c:Cq} {r e:Int} {L M:Tb.Pg} {F:Asn} {w:World} {R:Ending→World→Prop}
theorem ztg {key:Ky.Nm} (h:1≤key.size):key.toList.isEmpty=false:=by
 rw [ByteArray.toList_eq]
 have e0:key.data.toList.length=key.size:=rfl
 cases e:key.data.toList with
 | nil =>
  rw [e,List.length_nil] at e0
  omega
 | cons x l=>rfl
def zl0 (n:Ky.Nd) (P:Ky.Nm→Ky.Nd→Ky.Nd→Prop):Prop:=∀ {F:Asn} {w:World} {R:Ending→World→Prop} {v:Value},NdV F v n→Sat F w →
 (∀ key m1 m2 G v1 v2 w',P key m1 m2→NdV G v1 m1→NdV G v2 m2→Sat (G*F) w'→Io w w'→R (.returned (.tuple #[v1,.string key,v2])) w')→Calls Tryz.prog 116 #[v] w R
def Halves (key:Ky.Nm) (m1 m2:Ky.Nd):Prop:=Ky.NdR m1∧Ky.NdR m2∧Ky.zbf m1≤240∧Ky.zbf m2≤240∧0<m1.es.length+m1.kids.length∧0<m2.es.length+m2.kids.length∧1≤key.size
theorem zsf {id:Int} {n:Ky.Nd} {v:Value} {P:Ky.Nm→Ky.Nd→Ky.Nd→Prop} (hk:c.k.n≤3000) (hp:(Tb.zjx id∧∃ n0,L=(id,n0)::M)∨(L=M∧∀ p∈M,p.1≠id)) (hr:Ky.NdR n) (hz:240<Ky.zbf n) (hl:n.es.length≤5000∧n.kids.length≤5000) (hne:0<n.es.length+n.kids.length)
  (hs:zl0 n P) (hP:∀ key m1 m2,P key m1 m2→Halves key m1 m2) (hv:NdV F v n) (H:Sat (zaq c r e L*F) w)
  (h:∀ x a1 n1 c1 a2 n2 c2 w',Hid ((x=0∧∃ key m1 m2 i1 i2,P key m1 m2∧Tb.zjx i1∧Tb.zjx i2∧(L=M∨i1=id)∧Sat (za1 (.slice a1 n1 c1) [i1,i2]*(zbj (.slice a2 n2 c2) [key]*(zaq c r e ((i2,m2)::(i1,m1)::M)*F))) w')∨(x=2∧c.k.room≤3+(M.length:Int)∧Sat (zbm c r e*F) w'))→Io w w' →
   R (.returned (.tuple #[.agg #[.slice a1 n1 c1,.slice a2 n2 c2],.int .i64 x])) w') :
  Calls Tryz.prog 88 #[.pointer (some ⟨c.tr,0,none⟩),.int .i64 id,v] w R:=by
 have HH:=L_ h
 have HR:=L_ hr
 have HV:=L_ hv
 have HP:=L_ hp
 have HHP:=L_ hP
 have HS:Hid (zl0 n P):=L_ hs
 have HL:=L_ hl
 have HE:Hid (false=decide ((n.es.length:Int)+(n.kids.length:Int)=0)):=L_ (by symm;exact decide_eq_false (by omega))
 obtain ⟨z,hzz⟩:∃ z,z=Ky.zbf n:=⟨_,rfl⟩
 have HZ:=L_ hzz
 have z1:(240:Int)<(z:Int):=by omega
 have N4:=hv.shape
 obtain ⟨lf,a1,n1,c1,a2,n2,c2,a3,n3,c3,rfl⟩:=N4
 have H1:=((H.new (.cells #[.bool lf,.slice a1 n1 c1,.slice a2 n2 c2,.slice a3 n3 c3] 151)).new zP).of_eq (show _=zaq c r e L*(pts (w.heap.size+1) zP*(pts w.heap.size (.cells #[.bool lf,.slice a1 n1 c1,.slice a2 n2 c2,.slice a3 n3 c3] 151)*F)) from by rw [heap_alloc];ac_rfl)
 have I1:=((Io.refl w).alloc (.cells #[.bool lf,.slice a1 n1 c1,.slice a2 n2 c2,.slice a3 n3 c3] 151)).alloc zP
 clear h hr hv hp hne hzz hP hs hl hz
 go_enter Tryz.func88,Tryz.ntmps88
 go_upto_region 1 with fail
 generalize (w.alloc _).alloc zP=w1 at *
 generalize hb:w.heap.size=b at *
 obtain ⟨u0,u1,u2,u3⟩:=nd4 H1.right.right
 go_upto_region 4 with (go_at_call 114;with_reducible refine empty_any HE (by have:=HL.out;omega) (HV.out.imp (fun _ hw=>hw.right.right.right)) H1 ?_;intro w2 H2 I2;obtain ⟨u0,u1,u2,u3⟩:=nd4 H2.right.right)
 go_upto_region 5 with (go_at_call 116;refine HS.out (HV.out.imp (fun _ hw=>hw.right.right.right)) H2 ?_;intro key m1 m2 G v1 v2 w3 hPP N1 N2 H3 I3;have N1:=L_ N1;have N2:=L_ N2;have hPP:=L_ hPP;have S1:=N1.out.shape;have S2:=N2.out.shape;obtain ⟨b1,x1,y1,t1,x2,y2,t2,x3,y3,t3,hq⟩:=S1;subst hq;obtain ⟨b2,x4,y4,t4,x5,y5,t5,x6,y6,t6,hq⟩:=S2;subst hq)
 have H4:=(((H3.new (.cells #[.bool b1,.slice x1 y1 t1,.slice x2 y2 t2,.slice x3 y3 t3] 151)).new (.cells #[.bool b2,.slice x4 y4 t4,.slice x5 y5 t5,.slice x6 y6 t6] 151))).of_eq (show _=zaq c r e L*(G*(pts (w3.heap.size+1) (.cells #[.bool b2,.slice x4 y4 t4,.slice x5 y5 t5,.slice x6 y6 t6] 151)*(pts w3.heap.size (.cells #[.bool b1,.slice x1 y1 t1,.slice x2 y2 t2,.slice x3 y3 t3] 151)*(pts (b+1) zP*(pts b (.cells #[.bool lf,.slice a1 n1 c1,.slice a2 n2 c2,.slice a3 n3 c3] 151)*F))))) from by rw [heap_alloc];ac_rfl)
 have I4:=(((I1.trans I2).trans I3).alloc (.cells #[.bool b1,.slice x1 y1 t1,.slice x2 y2 t2,.slice x3 y3 t3] 151)).alloc (.cells #[.bool b2,.slice x4 y4 t4,.slice x5 y5 t5,.slice x6 y6 t6] 151)
 generalize (w3.alloc _).alloc _=w4 at *
 generalize w3.heap.size=g at *
 obtain ⟨u0,u1,u2,u3⟩:=nd4 H4.right.right.right.right.right
 obtain ⟨p1,p2,p3,p4,p5,p6,p7⟩:=HHP.out _ _ _ hPP.out
 have Q1:=L_ p1
 have Q2:=L_ p2
 have Q3:=L_ p3
 have Q4:=L_ p4
 have Q5:=L_ p5
 have Q6:=L_ p6
 have hkey:key.toList.isEmpty=false:=ztg p7
 clear p1 p2 p3 p4 p5 p6 p7
 go_upto_region 6 with (go_at_call 117;with_reducible refine zf6 HR.out (HV.out.imp (fun _ hw=>hw.right.right.right.right.right.right)) HL.out H4 HZ ?_;intro w5 H5 I5;obtain ⟨u0,u1,u2,u3⟩:=nd4 H5.right.right.right)
 obtain ⟨u0,u1,u2,u3⟩:=nd4 H5.right.right.right
 have H5':=H5.of_eq (show _=zaq c r e L*(G*(pts g (.cells #[.bool b1,.slice x1 y1 t1,.slice x2 y2 t2,.slice x3 y3 t3] 151)*(pts (g+1) (.cells #[.bool b2,.slice x4 y4 t4,.slice x5 y5 t5,.slice x6 y6 t6] 151)*(pts (b+1) zP*(pts b (.cells #[.bool lf,.slice a1 n1 c1,.slice a2 n2 c2,.slice a3 n3 c3] 151)*F))))) from by ac_rfl)
 clear H4 H5 H1 H2 H3
 go_upto_region 7 with (go_at_call 88;with_reducible refine zf0 hk HP.out Q1.out Q3.out Q5.out (N1.out.imp (fun _ hw=>hw.left)) H5' ?_;intro i1 x g1 w6 D6 I6)
 clear u0 u1 u2 u3
 rcases D6.out with ⟨rfl,i1ok,i1e,H6⟩ | ⟨rfl,hf,H6⟩
 ·have J1:=L_ i1ok
  have J2:=L_ i1e
  have H7:=(H6.new (.cells #[.slice (some ⟨g1,0,none⟩) 1 1,.slice none 0 0] 147)).of_eq (show _=zaq c r e ((i1,m1)::M)*(G*(pts (g+1) (.cells #[.bool b2,.slice x4 y4 t4,.slice x5 y5 t5,.slice x6 y6 t6] 151)*(pts w6.heap.size (.cells #[.slice (some ⟨g1,0,none⟩) 1 1,.slice none 0 0] 147)*(za1 (.slice (some ⟨g1,0,none⟩) 1 1) [i1]*(pts (b+1) zP*(pts g (.cells #[.bool b1,.slice x1 y1 t1,.slice x2 y2 t2,.slice x3 y3 t3] 151)*(pts b (.cells #[.bool lf,.slice a1 n1 c1,.slice a2 n2 c2,.slice a3 n3 c3] 151)*F))))))) from by unfold za1;ac_rfl)
  have I7:=(((I4.trans I5).trans I6).alloc (.cells #[.slice (some ⟨g1,0,none⟩) 1 1,.slice none 0 0] 147))
  generalize w6.alloc _=w7 at *
  generalize w6.heap.size=g2 at *
  obtain ⟨u0,u1,u2,u3⟩:=nd4 H7.right.right
  have hnew:∀ p∈(i1,m1)::M,p.1≠0:=fun p hp=>by have:=xdm (zaq.pg H7) p hp;omega
  have HN:=L_ hnew
  clear hnew i1ok i1e H6 H5' D6 I1 I2 I3 I4 I5 I6
  go_upto_region 10 with (go_at_call 88;with_reducible refine zf0 hk (.inr ⟨rfl,HN.out⟩) Q2.out Q4.out Q6.out (N2.out.imp (fun _ hw=>hw.left)) H7 ?_;intro i2 x g3 w8 D8 I8)
  clear u0 u1 u2 u3
  rcases D8.out with ⟨rfl,i2ok,-,H8⟩ | ⟨rfl,hf,H8⟩
  ·have J3:=L_ i2ok
   have H9:=(za5 (H8.new (.cells #[.slice (some ⟨g3,0,none⟩) 1 1,.slice none 0 0] 147)) (enc:=zrg) (sz:=1) (e:=9)).of_eq (show _=zbj (.slice none 0 0) []*(pts g2 (.cells #[.slice (some ⟨g1,0,none⟩) 1 1,.slice none 0 0] 147)*(pts w8.heap.size (.cells #[.slice (some ⟨g3,0,none⟩) 1 1,.slice none 0 0] 147)*(za1 (.slice (some ⟨g1,0,none⟩) 1 1) [i1]*(za1 (.slice (some ⟨g3,0,none⟩) 1 1) [i2]*(pts (b+1) zP*(zaq c r e ((i2,m2)::(i1,m1)::M)*F))))))*(G*(pts (g+1) (.cells #[.bool b2,.slice x4 y4 t4,.slice x5 y5 t5,.slice x6 y6 t6] 151)*(pts g (.cells #[.bool b1,.slice x1 y1 t1,.slice x2 y2 t2,.slice x3 y3 t3] 151)*pts b (.cells #[.bool lf,.slice a1 n1 c1,.slice a2 n2 c2,.slice a3 n3 c3] 151)))) from by unfold za1 zbj;ac_rfl)
   have H9:=H9.left
   have I9:=((I7.trans I8).alloc (.cells #[.slice (some ⟨g3,0,none⟩) 1 1,.slice none 0 0] 147)).drew
   clear D8 H8 i2ok H7 I7 I8
   go_upto_region 12 with fail
   generalize w8.alloc _=w9 at *
   generalize w8.heap.size=g4 at *
   have H9:=H9.drew
   have S0:=And.intro (nd2 H9.right).2 (nd2 H9.right.right).2
   have S1:(w9.alloc (.cells #[.string key] 9)).drew.cell? ⟨g2,1,none⟩=some (.slice none 0 0)∧(w9.alloc (.cells #[.string key] 9)).drew.cell? ⟨g4,1,none⟩=some (.slice none 0 0):=And.intro (nd2 (H9.alloc (.cells #[.string key] 9)).right).2 (nd2 (H9.alloc (.cells #[.string key] 9)).right.right).2
   go_region_held3 (fun W=>W.cell? ⟨g2,1,none⟩=some (.slice none 0 0)∧W.cell? ⟨g4,1,none⟩=some (.slice none 0 0)) (with_reducible (first | exact S0 | exact S1 | exact S2 | exact S3)) (first
    | (refine zcn (w:=w9.drew) Tryz.zoo zbu rfl (.tmp 61) (.tmp 63) rfl rfl H9 (by simp) key rfl rfl ?_;intro vk wk HK IK;have S2:=And.intro (nd2 HK.right).2 (nd2 HK.right.right).2)
    | (refine zgu Tryz.zoo zbu rfl (.tmp 64) (.tmp 66) rfl rfl HK (by simp) (by simp) rfl (zas _ none 0) ?_;intro vk2 wk2 HK2 IK2;have S3:=And.intro (nd2 HK2.right).2 (nd2 HK2.right.right).2))
   obtain ⟨ak,nk,ck,rfl⟩:=zaf HK2
   have HA:=(HK2.of_eq (show _=za1 (.slice (some ⟨g1,0,none⟩) 1 1) [i1]*(za1 (.slice (some ⟨g3,0,none⟩) 1 1) [i2]*(pts g2 (.cells #[.slice (some ⟨g1,0,none⟩) 1 1,.slice none 0 0] 147)*(pts g4 (.cells #[.slice (some ⟨g3,0,none⟩) 1 1,.slice none 0 0] 147)*(pts (b+1) zP*(zbj (.slice ak nk ck) ([]++[key]++[])*(zaq c r e ((i2,m2)::(i1,m1)::M)*F)))))) from by unfold za1 zbj;ac_rfl))
   have IA:=(I9.trans IK).trans IK2
   have RD:=(Reads.zau (za3 HA.right.left) (by simp)).imp (F:=za1 (.slice (some ⟨g3,0,none⟩) 1 1) [i2]*emp) (G:=za1 (.slice (some ⟨g3,0,none⟩) 1 1) [i2]*(pts g2 (.cells #[.slice (some ⟨g1,0,none⟩) 1 1,.slice none 0 0] 147)*(pts g4 (.cells #[.slice (some ⟨g3,0,none⟩) 1 1,.slice none 0 0] 147)*(pts (b+1) zP*(zbj (.slice ak nk ck) ([]++[key]++[])*(zaq c r e ((i2,m2)::(i1,m1)::M)*F)))))) (fun _ hw=>za3 hw.left)
   have RD:=L_ RD
   obtain ⟨k0,-⟩:=nd2 HA.right.right
   obtain ⟨k2,-⟩:=nd2 HA.right.right.right
   obtain ⟨f0,f1⟩:=ztl HA.right.right.right.right
   obtain ⟨j0,j1⟩:=nd2 HA.right.right.right.right
   clear S0 S1 S2 S3 HK HK2 H9 IK IK2 I9
   go_wp2_with (at_builtin;refine zae Tryz.zqi zba rfl (.tmp 69) (.tmp 71) rfl rfl HA (by simp) (by simp) rfl RD.out ?_;intro v w12 HB IB;obtain ⟨aN,nN,cN,hq⟩:=zaf HB;subst hq;obtain ⟨f0,f1⟩:=ztl HB.right.right.right.right;obtain ⟨j0,j1⟩:=nd2 HB.right.right.right.right)
   have K:=(HB.of_eq (show _=pts (b+1) zP*(za1 (.slice aN nN cN) ([i1]++[i2])*(zbj (.slice ak nk ck) ([]++[key]++[])*(zaq c r e ((i2,m2)::(i1,m1)::M)*F)))*(za1 (.slice (some ⟨g3,0,none⟩) 1 1) [i2]*(pts g2 (.cells #[.slice (some ⟨g1,0,none⟩) 1 1,.slice none 0 0] 147)*(pts g4 (.cells #[.slice (some ⟨g3,0,none⟩) 1 1,.slice none 0 0] 147)))) from by unfold za1 zbj;ac_rfl)).left.cells2 (x':=.slice aN nN cN) (y':=.slice ak nk ck)
   have J:=((IA.trans IB).setCell ⟨b+1,0,none⟩ (.slice aN nN cN)).setCell ⟨b+1,1,none⟩ (.slice ak nk ck)
   generalize (w12.setCell ⟨b+1,0,none⟩ (.slice aN nN cN)).setCell ⟨b+1,1,none⟩ (.slice ak nk ck)=W at *
   obtain ⟨k0,k1⟩:=nd2 K
   exact bodyPost_ret (v:=.tuple #[.agg #[.slice aN nN cN,.slice ak nk ck],.int .i64 0]) (by simp [results,Tryz.results88,go_sem,k0,k1]) rfl (HH.out 0 _ _ _ _ _ _ W (L_ (.inl ⟨rfl,key,m1,m2,i1,i2,hPP.out,J1.out,J3.out,J2.out,by simpa using K.right⟩)) J)
  ·clear D8
   obtain ⟨k0,k1⟩:=nd2 (H8.alloc (.cells #[.slice (some ⟨g3,0,none⟩) 1 1,.slice none 0 0] 147)).right.right.right.right.right
   obtain ⟨f0,f1⟩:=ztl (H8.alloc (.cells #[.slice (some ⟨g3,0,none⟩) 1 1,.slice none 0 0] 147)).right.right.right.right.right
   have H9:=H8.alloc (.cells #[.slice (some ⟨g3,0,none⟩) 1 1,.slice none 0 0] 147)
   have I9:=((I7.trans I8).alloc (.cells #[.slice (some ⟨g3,0,none⟩) 1 1,.slice none 0 0] 147))
   generalize w8.alloc _=w9 at *
   have K:=(H9.of_eq (show _=pts (b+1) zP*(zbm c r e*F)*(G*(pts (g+1) (.cells #[.bool b2,.slice x4 y4 t4,.slice x5 y5 t5,.slice x6 y6 t6] 151)*(pts g2 (.cells #[.slice (some ⟨g1,0,none⟩) 1 1,.slice none 0 0] 147)*(za1 (.slice (some ⟨g1,0,none⟩) 1 1) [i1]*(pts g (.cells #[.bool b1,.slice x1 y1 t1,.slice x2 y2 t2,.slice x3 y3 t3] 151)*pts b (.cells #[.bool lf,.slice a1 n1 c1,.slice a2 n2 c2,.slice a3 n3 c3] 151)))))) from by unfold za1;ac_rfl)).left.cells2 (x':=.slice none 0 0) (y':=.slice none 0 0)
   have J:=(I9.setCell ⟨b+1,0,none⟩ (.slice none 0 0)).setCell ⟨b+1,1,none⟩ (.slice none 0 0)
   go_wp2_with fail
   generalize (w9.setCell ⟨b+1,0,none⟩ (.slice none 0 0)).setCell ⟨b+1,1,none⟩ (.slice none 0 0)=W at *
   clear k0 k1 f0 f1
   obtain ⟨k0,k1⟩:=nd2 K
   exact bodyPost_ret (v:=.tuple #[.agg #[.slice none 0 0,.slice none 0 0],.int .i64 2]) (by simp [results,Tryz.results88,go_sem,k0,k1]) rfl (HH.out 2 _ _ _ _ _ _ W (L_ (.inr ⟨rfl,by rw [List.length_cons] at hf;omega,K.right⟩)) J)
 ·clear D6
  obtain ⟨k0,k1⟩:=nd2 (H6.alloc (.cells #[.slice (some ⟨g1,0,none⟩) 1 1,.slice none 0 0] 147)).right.right.right.right
  obtain ⟨f0,f1⟩:=ztl (H6.alloc (.cells #[.slice (some ⟨g1,0,none⟩) 1 1,.slice none 0 0] 147)).right.right.right.right
  have H7:=H6.alloc (.cells #[.slice (some ⟨g1,0,none⟩) 1 1,.slice none 0 0] 147)
  have I7:=(((I4.trans I5).trans I6).alloc (.cells #[.slice (some ⟨g1,0,none⟩) 1 1,.slice none 0 0] 147))
  generalize w6.alloc _=w7 at *
  have K:=(H7.of_eq (show _=pts (b+1) zP*(zbm c r e*F)*(G*(pts g (.cells #[.bool b1,.slice x1 y1 t1,.slice x2 y2 t2,.slice x3 y3 t3] 151)*(pts (g+1) (.cells #[.bool b2,.slice x4 y4 t4,.slice x5 y5 t5,.slice x6 y6 t6] 151)*pts b (.cells #[.bool lf,.slice a1 n1 c1,.slice a2 n2 c2,.slice a3 n3 c3] 151)))) from by ac_rfl)).left.cells2 (x':=.slice none 0 0) (y':=.slice none 0 0)
  have J:=(I7.setCell ⟨b+1,0,none⟩ (.slice none 0 0)).setCell ⟨b+1,1,none⟩ (.slice none 0 0)
  go_wp2_with fail
  generalize (w7.setCell ⟨b+1,0,none⟩ (.slice none 0 0)).setCell ⟨b+1,1,none⟩ (.slice none 0 0)=W at *
  clear k0 k1 f0 f1
  obtain ⟨k0,k1⟩:=nd2 K
  exact bodyPost_ret (v:=.tuple #[.agg #[.slice none 0 0,.slice none 0 0],.int .i64 2]) (by simp [results,Tryz.results88,go_sem,k0,k1]) rfl (HH.out 2 _ _ _ _ _ _ W (L_ (.inr ⟨rfl,by omega,K.right⟩)) J)
end
def zdk (c:Cq) (r e:Int) (F:Asn) (M:Tb.Pg) (B:Int) (D:List Int→List Ky.Nm→Tb.Pg→Nat→Prop) (x:Int) (u v:Value) (w:World):Prop :=
 (x=0∧∃ kids keys L' c',D kids keys L' c'∧Sat (za1 u kids*(zbj v keys*(zaq c r e (L'++M)*F))) w)∨(x=2∧c.k.room≤B∧Sat (zbm c r e*F) w)
section
variable {c:Cq} {r e:Int} {L M:Tb.Pg} {F:Asn} {w:World} {R:Ending→World→Prop}
theorem zwa {es:List Ky.En} (hr:Ky.Right es) (h2:2≤es.length) (hl:es.length≤5000) :
  zl0 (Ky.lf es) (fun key m1 m2=>∃ k v,Ky.zp2 es k∧es[k]?=some (key,v)∧m1=Ky.lf (es.take k)∧m2=Ky.lf (es.drop k)):=by
 intro F w R v hv H h
 exact zoy hr h2 hl hv H fun k key val G v1 v2 w' h1 h3 n1 n2 H' I'=>h key _ _ G v1 v2 w' ⟨k,val,h1,h3,rfl,rfl⟩ n1 n2 H' I'
theorem zsj {kids:List Int} {keys:List Ky.Nm} (hr:Ky.InR kids keys) (h2:2≤kids.length) (hl:kids.length≤5000) :
  zl0 (Ky.inn kids keys) (fun key m1 m2=>keys[kids.length / 2 - 1]?=some key∧m1=Ky.inn (kids.take (kids.length / 2)) (keys.take (kids.length / 2 - 1))∧m2=Ky.inn (kids.drop (kids.length / 2)) (keys.drop (kids.length / 2))):=by
 intro F w R v hv H h
 exact zl6 hr h2 hl hv H fun key G v1 v2 w' h1 n1 n2 H' I'=>h key _ _ G v1 v2 w' ⟨h1,rfl,rfl⟩ n1 n2 H' I'
theorem zzp {op:List Ky.En→List Ky.En} {P:List Ky.En→Prop} {key:Ky.Nm} {d:Nat} {lo hi:Tb.Bd} {id:Int} {es:List Ky.En} {cc:Nat} {v:Value}
  (s:Tb.Sub 0 lo hi id es L cc) (o:Tb.Loc op P key d) (hlo:Tb.ge lo key) (hhi:Tb.lt hi key) (hp:P es) (hk:c.k.n≤3000) (hv:NdV F v (Ky.lf (op es))) (H:Sat (zaq c r e (L++M)*F) w)
  (h:∀ x a1 n1 c1 a2 n2 c2 w',zdk c r e F M (4+(M.length:Int)) (fun kids keys L' c'=>Tb.Done 0 lo hi cc d L kids keys (op es) L' c') x (.slice a1 n1 c1) (.slice a2 n2 c2) w'→Io w w'→R (.returned (.tuple #[.agg #[.slice a1 n1 c1,.slice a2 n2 c2],.int .i64 x])) w') :
  Calls Tryz.prog 88 #[.pointer (some ⟨c.tr,0,none⟩),.int .i64 id,v] w R:=by
 have s':=s
 obtain ⟨s1,s2,s3,s4,s5,s6,rfl,-⟩:=s'
 have hro:=o.right es s4
 have hzo:=o.size es s4 hp
 have hle:=o.le
 by_cases h0:op es=[]
 ·refine zou hk ⟨h0,rfl⟩ hv H fun w' H' I'=>h 0 none 0 0 none 0 0 w' (.inl ⟨rfl,[],[],[],0,?_,?_⟩) I'
  ·rw [h0];exact Tb.z4o
  ·exact za5 (za5 H')
 ·have hpos:0<(op es).length:=List.length_pos_iff.2 h0
  by_cases hz:Ky.size (op es)≤240
  ·refine zf0 (M:=M) hk (.inl ⟨s2,_,rfl⟩) (.leaf hro) hz (by simp only [Ky.lf];omega) hv H fun id' x g w' D I'=>h x (some ⟨g,0,none⟩) 1 1 none 0 0 w' ?_ I'
   rcases D.out with ⟨rfl,i1,i2,H'⟩ | ⟨rfl,hf,H'⟩
   ·have e:id'=id:=by
     rcases i2 with i2 | i2
     ·exact absurd (congrArg List.length i2) (by simp)
     ·exact i2
    subst e
    refine .inl ⟨rfl,[id'],[],[(id',Ky.lf (op es))],12,Tb.xa6 s o hlo hhi hp h0 hz,?_⟩
    exact (za5 (sz:=1) (e:=9) (enc:=zrg) H').sw
   ·exact .inr ⟨rfl,by omega,H'⟩
  ·have hl:=(Tb.zcj hro.1)
   refine zsf (M:=M) (P:=fun key m1 m2=>∃ k v,Ky.zp2 (op es) k∧(op es)[k]?=some (key,v)∧m1=Ky.lf ((op es).take k)∧m2=Ky.lf ((op es).drop k)) hk (.inl ⟨s2,_,rfl⟩) (.leaf hro) (by show 240<Ky.size (op es);omega) (by simp only [Ky.lf,List.length_nil];omega) (by simp only [Ky.lf];omega) (zwa hro (by omega) (by omega)) ?_ hv H fun x a1 n1 c1 a2 n2 c2 w' D I'=>h x a1 n1 c1 a2 n2 c2 w' ?_ I'
   ·rintro y m1 m2 ⟨k,v,hk,hy,rfl,rfl⟩
    have hh:=Tb.zpj hro (by omega) (by omega) hk
    have hlow:=hk.low
    have hhigh:=hk.high
    have r1:Ky.Right ((op es).take k):=⟨fun x hx=>hro.1 x (List.mem_of_mem_take hx),hro.2.sublist (List.take_sublist _ _)⟩
    have r2:Ky.Right ((op es).drop k):=⟨fun x hx=>hro.1 x (List.mem_of_mem_drop hx),hro.2.sublist (List.drop_sublist _ _)⟩
    rw [List.getElem?_eq_getElem hhigh] at hy
    have hm:(y,v)∈op es:=by
     have:=List.getElem_mem hhigh
     rw [Option.some.inj hy] at this
     exact this
    refine ⟨.leaf r1,.leaf r2,hh.2.1,hh.2.2.2.1,?_,?_,(Ky.zjr (hro.1 _ hm)).1⟩
    ·simp only [Ky.lf,List.length_take];omega
    ·simp only [Ky.lf,List.length_drop];omega
   ·rcases D.out with ⟨rfl,y,m1,m2,i1,i2,⟨k,v,hk,hy,rfl,rfl⟩,o1,o2,i1e,H'⟩ | ⟨rfl,hf,H'⟩
    ·have e:i1=id:=by
      rcases i1e with i1e | i1e
      ·exact absurd (congrArg List.length i1e) (by simp)
      ·exact i1e
     subst e
     obtain ⟨y',v',hy',dn⟩:=Tb.xa5 s o hlo hhi hp (by omega) hk o2
     rw [hy] at hy'
     cases hy'
     refine .inl ⟨rfl,_,_,_,_,dn,?_⟩
     have H2:=H'.of_eq (show _=zaq c r e ((i2,Ky.lf ((op es).drop k))::(i1,Ky.lf ((op es).take k))::M)*(za1 (.slice a1 n1 c1) [i1,i2]*(zbj (.slice a2 n2 c2) [y]*F)) from by unfold za1 zbj;ac_rfl)
     exact (zaq.perm (List.Perm.swap _ _ _) H2).of_eq (by unfold za1 zbj;ac_rfl)
    ·exact .inr ⟨rfl,by omega,H'⟩
theorem zl3 {d h:Nat} {lo hi:Tb.Bd} {id:Int} {n0:Ky.Nd} {es':List Ky.En} {cc:Nat} {kk:List Int} {bb:List Ky.Nm} {K:Tb.Pg} {v:Value}
  (m:(kk=[]∧es'=[]∧K=[])∨Tb.Mid h lo hi cc d L kk bb es' K) (hid:Tb.zjx id) (hk:c.k.n≤3000) (hv:NdV F v (Ky.inn kk bb)) (H:Sat (zaq c r e ((id,n0)::(K++M))*F) w)
  (hh:∀ x a1 n1 c1 a2 n2 c2 w',zdk c r e F M (4+((L.length+M.length+h:Nat):Int)) (fun kids keys L' c'=>Tb.Done (h+1) lo hi cc d L kids keys es' L' c') x (.slice a1 n1 c1) (.slice a2 n2 c2) w'→Io w w'→R (.returned (.tuple #[.agg #[.slice a1 n1 c1,.slice a2 n2 c2],.int .i64 x])) w') :
  Calls Tryz.prog 88 #[.pointer (some ⟨c.tr,0,none⟩),.int .i64 id,v] w R:=by
 rcases m with ⟨rfl,rfl,rfl⟩ | m
 ·refine zou hk ⟨rfl,rfl⟩ hv H fun w' H' I'=>hh 0 none 0 0 none 0 0 w' (.inl ⟨rfl,[],[],[],0,?_,?_⟩) I'
  ·exact ⟨.none,by simp,by simp,by simp [Tb.psi],by simp⟩
  ·exact za5 (za5 H')
 ·have hir:=Tb.zcx m.node m.chk
  have hlen:=m.node.len
  have hks:=Tb.zbg m.chk
  have hsz:=m.size
  have hml:=m.len
  by_cases hz:4+Ky.zah bb≤240
  ·refine zf0 (M:=K++M) hk (.inl ⟨hid,_,rfl⟩) (.inner hir) hz (by simp only [Ky.inn];omega) hv H fun id' x g w' D I'=>hh x (some ⟨g,0,none⟩) 1 1 none 0 0 w' ?_ I'
   rcases D.out with ⟨rfl,i1,i2,H'⟩ | ⟨rfl,hf,H'⟩
   ·refine .inl ⟨rfl,[id'],[],(id',Ky.inn kk bb)::K,kk.length,Tb.xe7 m i1 hz,?_⟩
    exact (za5 (sz:=1) (e:=9) (enc:=zrg) H').sw
   ·exact .inr ⟨rfl,by rw [List.length_append] at hf;omega,H'⟩
  ·refine zsf (M:=K++M) (P:=fun key m1 m2=>bb[kk.length / 2 - 1]?=some key∧m1=Ky.inn (kk.take (kk.length / 2)) (bb.take (kk.length / 2 - 1))∧m2=Ky.inn (kk.drop (kk.length / 2)) (bb.drop (kk.length / 2))) hk (.inl ⟨hid,_,rfl⟩) (.inner hir) (by show 240<4+Ky.zah bb;omega) (by simp only [Ky.inn,List.length_nil];omega) (by simp only [Ky.inn];omega) (zsj hir (by omega) (by omega)) ?_ hv H fun x a1 n1 c1 a2 n2 c2 w' D I'=>hh x a1 n1 c1 a2 n2 c2 w' ?_ I'
   ·rintro y m1 m2 ⟨hy,rfl,rfl⟩
    obtain ⟨h2,hkk,M1,M2,_,q1,q2,q3,q4,q5,_⟩:=Tb.z3y m hid hid (by omega)
    rw [List.getElem?_eq_getElem hkk] at hy
    cases hy
    refine ⟨.inner q2,.inner q4,q3,q5,?_,?_,q1⟩
    ·simp only [Ky.inn,List.length_take];omega
    ·simp only [Ky.inn,List.length_drop];omega
   ·rcases D.out with ⟨rfl,y,m1,m2,i1,i2,⟨hy,rfl,rfl⟩,o1,o2,-,H'⟩ | ⟨rfl,hf,H'⟩
    ·obtain ⟨h2,hkk,M1,M2,rfl,q1,q2,q3,q4,q5,dn⟩:=Tb.z3y m o1 o2 (by omega)
     rw [List.getElem?_eq_getElem hkk] at hy
     cases hy
     refine .inl ⟨rfl,_,_,_,_,dn,?_⟩
     have H2:=H'.of_eq (show _=zaq c r e ((i2,Ky.inn (kk.drop (kk.length / 2)) (bb.drop (kk.length / 2)))::(i1,Ky.inn (kk.take (kk.length / 2)) (bb.take (kk.length / 2 - 1)))::((M1++M2)++M))*(za1 (.slice a1 n1 c1) [i1,i2]*(zbj (.slice a2 n2 c2) [bb[kk.length / 2 - 1]]*F)) from by unfold za1 zbj;ac_rfl)
     refine (zaq.perm ?_ H2).of_eq (by unfold za1 zbj;ac_rfl)
     refine (List.Perm.swap _ _ _).trans ?_
     simp only [List.cons_append,List.append_assoc]
     exact .cons _ (List.perm_middle.symm)
    ·exact .inr ⟨rfl,by simp only [List.length_append] at hf;omega,H'⟩
end
theorem zmn {F:Asn} {v:Value} {kk:List Int} {bb:List Ky.Nm} (hv:NdV F v (Ky.inn kk bb)) (h:0<kk.length):∃ a1 c1 b3 o3 c3 a5 c5,v=.agg #[.bool false,.slice a1 0 c1,.slice (some ⟨b3,o3,none⟩) kk.length c3,.slice a5 bb.length c5] ∧
    (∀ i (hi:i<kk.length) w,Sat F w→w.cell? ⟨b3,o3+i,none⟩=some (.int .i64 kk[i]))∧(∀ j (hj:j<bb.length),∃ b5 o5,a5=some ⟨b5,o5,none⟩∧∀ w,Sat F w→w.cell? ⟨b5,o5+j,none⟩=some (.string bb[j])):=by
  obtain ⟨se,sk,sx,rfl,hh⟩:=hv
  dsimp only [Ky.inn] at hh
  obtain ⟨⟨h1,s1⟩,⟨h3,s3⟩,h5,s5⟩:=hh
  obtain ⟨a1,c1,rfl,-⟩:=zab h1
  obtain ⟨a5,c5,rfl,-⟩:=zab h5
  obtain ⟨b3,o3,c3,rfl,hc3,hc4⟩:∃ b off c,sk=.slice (some ⟨b,off,none⟩) kk.length c∧kk.length≤c∧c≤maxLen:=by
    rcases s3 with ⟨_,h0⟩ | h
    · omega
    · exact h
  refine ⟨a1,c1,b3,o3,c3,a5,c5,rfl,fun i hi w hw=>?_,fun j hj=>?_⟩
  · obtain ⟨b',off',k0,e1,e2,hc⟩:=zgi h3 i hi
    cases e1
    subst e2
    exact hc w hw
  · obtain ⟨b',off',k0,e1,e2,hc⟩:=zdq h5 j hj
    subst e2
    exact ⟨b',off',e1,hc⟩
theorem z3s {n:Ky.Nd} (hr:Ky.NdR n) (hz:Ky.zbf n≤240):n.es.length≤1000∧n.kids.length≤1000:=by
  cases hr with
  | @leaf es hr =>
    have hz':Ky.size es≤240:=hz
    have:=(Tb.zcj hr.1).1
    simp only [Ky.lf,List.length_nil];omega
  | @inner kids keys hr =>
    have hz':4+Ky.zah keys≤240:=hz
    have:=(Tb.zbg hr.chk).1
    have:=hr.len
    simp only [Ky.inn,List.length_nil];omega
theorem z4w {a b:Ky.Nd} {y:Ky.Nm} {n m:Nat} (h1:a.es.length≤1000∧a.kids.length≤1000) (h2:b.es.length≤1000∧b.kids.length≤1000):(Tb.zgk a y b).es.length≤5000∧(Tb.zgk a y b).kids.length≤5000:=by
  unfold Tb.zgk
  split
  · simp only [Ky.lf,List.length_append,List.length_nil];omega
  · simp only [Ky.inn,List.length_append,List.length_nil];omega
theorem z4n {F:Asn} {n:Ky.Nd} {l:Bool} {x y z:Value} (h:NdV F (.agg #[.bool l,x,y,z]) n):l=n.leaf:=by
  obtain ⟨se,sk,sx,e,_⟩:=h
  cases e
  rfl
theorem xa8 {h:Nat} {lo hi:Tb.Bd} {kk:List Int} {bb:List Ky.Nm} {es:List Ky.En} {K:Tb.Pg} (n:Tb.Node (Tb.Sb h) lo hi kk bb es K) (i:Nat) (hi':i<kk.length):∃ nd,(kk[i],nd)∈K∧Ky.NdR nd∧Ky.zbf nd≤240:=by
  obtain ⟨a,b,e1,ec,e2,L1,Lc,L2,g1,⟨cc,g2⟩,g3,q1,rfl⟩:=n.at i hi'
  obtain ⟨nd,L',hp,h1,h2⟩:=g2.ndR
  exact ⟨nd,by simp [hp.mem_iff],h1,h2⟩
theorem six {a b c d e f:Prop} (h1:a) (h2:b) (h3:c∧d∧e∧f):a∧b∧(c∧d∧e∧f):=⟨h1,h2,h3⟩
theorem xab {α:Type} {L1 La Lb L2 R La' Lb':List α} {x y:α} (pa:La.Perm (x::La')) (pb:Lb.Perm (y::Lb')):(L1++(La++(Lb++L2))++R).Perm (x::y::(La'++(Lb'++(L1++(L2++R))))):=by
  have e:L1++(La++(Lb++L2))++R=L1++(La++(Lb++(L2++R))):=by simp
  rw [e]
  refine (List.perm_append_comm_assoc L1 La _).trans ?_
  refine ((List.perm_append_comm_assoc L1 Lb _).append_left La).trans ?_
  refine (pa.append_right _).trans ?_
  rw [List.cons_append]
  refine List.Perm.cons _ ?_
  refine ((pb.append_right _).append_left La').trans ?_
  rw [List.cons_append]
  exact List.perm_middle
theorem z3h {α:Type} {L1 L2 R La' Lb':List α} {x:α}:(x::(La'++(Lb'++(L1++(L2++R))))).Perm ((L1++((x::(La'++Lb'))++L2))++R):=by
  have e:(L1++((x::(La'++Lb'))++L2))++R=L1++(x::(La'++(Lb'++(L2++R)))):=by simp
  rw [e]
  refine List.Perm.trans ?_ List.perm_middle.symm
  refine List.Perm.cons _ ?_
  refine List.Perm.trans ?_ (List.perm_append_comm_assoc La' L1 _)
  exact (List.perm_append_comm_assoc Lb' L1 _).append_left La'
theorem ten {a b c d:Prop} {e f g h:Prop} {i j:Prop} (h1:a∧b∧c∧d) (h2:e∧f∧g∧h) (h3:i) (h4:j):(a∧b∧c∧d)∧(e∧f∧g∧h)∧i∧j:=⟨h1,h2,h3,h4⟩
section
variable {c:Cq} {r e:Int} {L M:Tb.Pg} {F:Asn} {w:World} {R:Ending→World→Prop}
theorem xbq {F1:Asn} (hF1:∀ w,Sat F w→Sat F1 w) {h d cc:Nat} {lo hi:Tb.Bd} {kk:List Int} {bb:List Ky.Nm} {es':List Ky.En} {K Rest:Tb.Pg} {v:Value} {dp:Int} {i:Nat} (m:Tb.Mid h lo hi cc d L kk bb es' K) (h2:2≤kk.length) (hi':i<kk.length) (hd:dp<24) (hk:c.k.n≤3000) (hv1:NdV F1 v (Ky.inn kk bb)) (H:Sat (zaq c r e (K++Rest)*F) w)
    (hh:∀ G v' kk' bb' K' w',Tb.Mid h lo hi cc d L kk' bb' es' K'→NdV (G*F1) v' (Ky.inn kk' bb')→Sat (zaq c r e (K'++Rest)*(G*F)) w'→Io w w'→R (.returned (.tuple #[v',.int .i64 0])) w') :
    Calls Tryz.prog 120 #[.pointer (some ⟨c.tr,0,none⟩),v,.int .i64 (i:Int),.int .i64 dp] w R:=by
  have HH:=L_ hh
  have HM:=L_ m
  have hv:=hv1.imp hF1
  have HV:=L_ hv
  have HV1:=L_ hv1
  clear hv1
  have HD:=L_ hd
  have hlen:=m.node.len
  have hks:=Tb.zbg m.chk
  have hsz:=m.size
  obtain ⟨nd,hmem,hndr,hndz⟩:=xa8 m.node i hi'
  replace hmem:(kk[i],nd)∈K++Rest:=List.mem_append_left _ hmem
  obtain ⟨a1,c1,b3,o3,c3,a5,c5,rfl,hX,hY⟩:=zmn hv (by omega)
  have HX:=L_ hX
  have HY:=L_ hY
  have X0:Hid (∀ w,Sat F w→w.cell? ⟨b3,o3+i,none⟩=some (.int .i64 kk[i])):=L_ (hX i hi')
  obtain ⟨kid,zt2⟩:∃ x,kk[i]=x:=⟨_,rfl⟩
  rw [zt2] at hmem X0
  have N1:=L_ hmem
  have N2:=L_ hndr
  have N3:=L_ hndz
  obtain ⟨n3,hn3⟩:∃ n,n=kk.length:=⟨_,rfl⟩
  obtain ⟨n5,hn5⟩:∃ n,n=bb.length:=⟨_,rfl⟩
  have HN3:=L_ hn3
  have HN5:=L_ hn5
  have LN:Hid (nd.es.length≤5000∧nd.kids.length≤5000):=L_ (by
    cases hndr with
    | @leaf es hr =>
      have hz':Ky.size es≤240:=hndz
      have:=(Tb.zcj hr.1).1
      simp only [Ky.lf,List.length_nil];omega
    | @inner kids keys hr =>
      have hz':4+Ky.zah keys≤240:=hndz
      have:=(Tb.zbg hr.chk).1
      have:=hr.len
      simp only [Ky.inn,List.length_nil];omega)
  rw [←hn3,←hn5] at HV HV1 ⊢
  have i0:(0:Int)≤(i:Int):=by omega
  have i1:(i:Int)<(n3:Int):=by omega
  have i2:(n3:Int)≤4000:=by omega
  have HI:=L_ hi'
  have H2L:=L_ h2
  obtain ⟨z,hzz⟩:∃ z,z=Ky.zbf nd:=⟨_,rfl⟩
  have HZ:=L_ hzz
  have H1:=((H.new (.cells #[.bool false,.slice a1 0 c1,.slice (some ⟨b3,o3,none⟩) n3 c3,.slice a5 n5 c5] 151)).new zN).of_eq (show _=zaq c r e (K++Rest)*(pts (w.heap.size+1) zN*(pts w.heap.size (.cells #[.bool false,.slice a1 0 c1,.slice (some ⟨b3,o3,none⟩) n3 c3,.slice a5 n5 c5] 151)*F)) from by rw [heap_alloc];ac_rfl)
  have I1:=((Io.refl w).alloc (.cells #[.bool false,.slice a1 0 c1,.slice (some ⟨b3,o3,none⟩) n3 c3,.slice a5 n5 c5] 151)).alloc zN
  clear hh m hv hlen hks hsz hmem hndr hndz hX hY zt2 hn3 hn5 hi' h2 hzz hd
  go_enter Tryz.func120,Tryz.ntmps120
  go_upto_region 1 with fail
  generalize (w.alloc _).alloc zN=w1 at *
  generalize hb:w.heap.size=b at *
  obtain ⟨u0,u1,u2,u3⟩:=nd4 H1.right.right
  have x0:=X0.out _ H1.right.right.right
  go_upto_region 2 with (go_at_call 106;with_reducible refine zcy N1.out N2.out N3.out HD.out H1 ?_;intro G kv w2 NK H2 I2;have NK:=L_ NK;have SK:=NK.out.shape;obtain ⟨b1,x1,y1,t1,x2,y2,t2,x3,y3,t3,hq⟩:=SK;subst hq)
  have H3:=(H2.new (.cells #[.bool b1,.slice x1 y1 t1,.slice x2 y2 t2,.slice x3 y3 t3] 151)).of_eq (show _=zaq c r e (K++Rest)*(pts (b+1) zN*(pts b (.cells #[.bool false,.slice a1 0 c1,.slice (some ⟨b3,o3,none⟩) n3 c3,.slice a5 n5 c5] 151)*(G*(pts w2.heap.size (.cells #[.bool b1,.slice x1 y1 t1,.slice x2 y2 t2,.slice x3 y3 t3] 151)*F)))) from by ac_rfl)
  have I3:=(I1.trans I2).alloc (.cells #[.bool b1,.slice x1 y1 t1,.slice x2 y2 t2,.slice x3 y3 t3] 151)
  generalize w2.alloc _=w3 at *
  generalize w2.heap.size=g at *
  clear u0 u1 u2 u3 x0 H1 H2 I1 I2
  have H3':=H3.of_eq (show _=pts g (.cells #[.bool b1,.slice x1 y1 t1,.slice x2 y2 t2,.slice x3 y3 t3] 151)*(G*(zaq c r e (K++Rest)*(pts (b+1) zN*(pts b (.cells #[.bool false,.slice a1 0 c1,.slice (some ⟨b3,o3,none⟩) n3 c3,.slice a5 n5 c5] 151)*F)))) from by ac_rfl)
  obtain ⟨q0,q1,q2,q3⟩:=nd4 H3'
  clear H3'
  by_cases hz:80≤z
  · have hzi:(80:Int)≤(z:Int):=by omega
    go_upto_region 3 with (go_at_call 117;with_reducible refine zf6 N2.out (NK.out.imp (fun _ hw=>hw.right.right.right.left)) LN.out H3 HZ ?_;intro w4 H4 I4)
    obtain ⟨u0,u1,u2,u3⟩:=nd4 H4.right.right
    obtain ⟨m0,m1,m2,m3⟩:=nd4 H4.right
    obtain ⟨f0,f1,f2,f3⟩:=zd7 H4.right
    have K5:=H4.sw.cells4 (x':=.bool false) (y':=.slice a1 0 c1) (z':=.slice (some ⟨b3,o3,none⟩) n3 c3) (u':=.slice a5 n5 c5)
    have J5:=((((I3.trans I4).setCell ⟨b+1,0,none⟩ (.bool false)).setCell ⟨b+1,1,none⟩ (.slice a1 0 c1)).setCell ⟨b+1,2,none⟩ (.slice (some ⟨b3,o3,none⟩) n3 c3)).setCell ⟨b+1,3,none⟩ (.slice a5 n5 c5)
    go_wp2_with fail
    generalize ((((w4.setCell ⟨b+1,0,none⟩ (.bool false)).setCell ⟨b+1,1,none⟩ (.slice a1 0 c1)).setCell ⟨b+1,2,none⟩ (.slice (some ⟨b3,o3,none⟩) n3 c3)).setCell ⟨b+1,3,none⟩ (.slice a5 n5 c5))=W at *
    clear u0 u1 u2 u3 m0 m1 m2 m3 f0 f1 f2 f3
    obtain ⟨m0,m1,m2,m3⟩:=nd4 K5
    exact bodyPost_ret (v:=.tuple #[.agg #[.bool false,.slice a1 0 c1,.slice (some ⟨b3,o3,none⟩) n3 c3,.slice a5 n5 c5],.int .i64 0]) (by simp [results,Tryz.results120,go_sem,m0,m1,m2,m3]) rfl
      (HH.out emp _ _ _ _ W HM.out HV1.out.with ((K5.right.of_eq (show _=zaq c r e (K++Rest)*(emp*F)*(pts b (.cells #[.bool false,.slice a1 0 c1,.slice (some ⟨b3,o3,none⟩) n3 c3,.slice a5 n5 c5] 151)*(G*pts g (.cells #[.bool b1,.slice x1 y1 t1,.slice x2 y2 t2,.slice x3 y3 t3] 151))) from by rw [zcq];ac_rfl)).left) J5)
  · have hzi:¬ (80:Int)≤(z:Int):=by omega
    go_upto_region 4 with (go_at_call 117;with_reducible refine zf6 N2.out (NK.out.imp (fun _ hw=>hw.right.right.right.left)) LN.out H3 HZ ?_;intro w4 H4 I4)
    obtain ⟨u0,u1,u2,u3⟩:=nd4 H4.right.right
    have H5:=(H4.of_eq (show _=zaq c r e (K++Rest)*(pts (b+1) zN*(pts b (.cells #[.bool false,.slice a1 0 c1,.slice (some ⟨b3,o3,none⟩) n3 c3,.slice a5 n5 c5] 151)*F))*(G*pts g (.cells #[.bool b1,.slice x1 y1 t1,.slice x2 y2 t2,.slice x3 y3 t3] 151)) from by ac_rfl)).left
    have I5:=I3.trans I4
    clear H3 H4 I3 I4 q0 q1 q2 q3 NK N1 N2 N3 HZ hz hzi
    obtain ⟨j,hj1,hj2⟩:∃ j:Nat,j+1<kk.length∧(((i:Int)=(n3:Int) - 1∧(j:Int)=(i:Int) - 1)∨(¬ (i:Int)=(n3:Int) - 1∧j=i)):=by
      have a1:=HI.out
      have a2:=H2L.out
      have a3:=HN3.out
      by_cases q:(i:Int)=(n3:Int) - 1
      · exact ⟨i - 1,by omega,.inl ⟨q,by omega⟩⟩
      · exact ⟨i,by omega,.inr ⟨q,rfl⟩⟩
    obtain ⟨hb5,lo',hi',e1,ea,eb,e2,L1,La,Lb,L2,g1,⟨cA,sA⟩,⟨cB,sB⟩,g2,qe,qK⟩:=HM.out.node.two j hj1
    have hychk:=HM.out.chk _ (List.getElem_mem hb5)
    obtain ⟨na,nb,La',Lb',pa,pb,hleaf,ra,rb,za,zb,rj,hjoin,xdy⟩:=Tb.z9c sA sB hychk
    obtain ⟨b5,o5,rfl,hyc⟩:=HY.out j hb5
    have xa:=HX.out j (by omega)
    have xb:=HX.out (j+1) hj1
    obtain ⟨ka,hka⟩:∃ x,kk[j]=x:=⟨_,rfl⟩
    obtain ⟨kb,hkb⟩:∃ x,kk[j+1]=x:=⟨_,rfl⟩
    obtain ⟨y,hy⟩:∃ x,bb[j]=x:=⟨_,rfl⟩
    have ma:(ka,na)∈K++Rest:=List.mem_append_left _ (by rw [qK,←hka];simp [pa.mem_iff])
    have mb:(kb,nb)∈K++Rest:=List.mem_append_left _ (by rw [qK,←hkb];simp [pb.mem_iff])
    rw [hka] at xa
    rw [hkb] at xb
    rw [hy] at hyc
    have XA:=L_ xa
    have XB:=L_ xb
    have XY:=L_ hyc
    have MA:=L_ ma
    have MB:=L_ mb
    have RA:=L_ ra
    have RB:=L_ rb
    have ZA:=L_ za
    have ZB:=L_ zb
    have PP:Hid ((K++Rest).Perm ((ka,na)::(kb,nb)::(La'++(Lb'++(L1++(L2++Rest)))))):=L_ (by
      rw [qK,←hka,←hkb]
      exact xab pa pb)
    have QQ:Hid (((ka,Tb.zgk na y nb)::(La'++(Lb'++(L1++(L2++Rest))))).Perm ((L1++(((ka,Tb.zgk na y nb)::(La'++Lb'))++L2))++Rest)):=L_ z3h
    have MJ:Hid (Ky.zbf (Tb.zgk na y nb)≤240→Tb.Mid h lo hi cc d L (Tb.swK kk j (j+2) [ka]) (Tb.swB bb j (j+2) [ka] []) es' (L1++(((ka,Tb.zgk na y nb)::(La'++Lb'))++L2))):=L_ (fun hz=>by
      have m:=HM.out
      rw [qe,qK] at m
      rw [hy,hka] at hjoin xdy
      have h1:=pa.length_eq
      have h2:=pb.length_eq
      simp only [List.length_cons] at h1 h2
      have:=Tb.xam m hj1 g1 g2 (hjoin hz) xdy (by simp only [List.length_cons,List.length_append];omega)
      rw [qe]
      exact this)
    have KL:Hid (kk.length≤4000):=L_ (by have:=HN3.out;omega)
    have KB:Hid (kk.length=bb.length+1):=L_ HM.out.node.len
    obtain ⟨jt,hjt⟩:∃ jt:Nat,jt=j+2:=⟨_,rfl⟩
    have j5:(j:Int)+2=(jt:Int):=by omega
    have HT:=L_ hjt
    rw [←hjt] at MJ
    clear hjt
    have j0:(0:Int)≤(j:Int):=by omega
    have j1:(j:Int)<(n3:Int) - 1:=by have:=HN3.out;omega
    have j2:(j:Int)<(n5:Int):=by have:=HN5.out;omega
    have j3:(j:Int)+1<(n3:Int):=by omega
    have j4:(j:Int)≤4000:=by omega
    have HJ:=L_ (And.intro hj1 (And.intro hj2 True.intro))
    have RJ:Hid (Ky.NdR (Tb.zgk na y nb)):=L_ (by rw [←hy];exact rj)
    have HPL:=L_ (And.intro qK (And.intro pa (And.intro pb (And.intro hleaf (And.intro rj True.intro)))))
    have hj2':=hj2
    clear HX HY X0 xa xb hyc ma mb ra rb za zb
    rcases hj2 with ⟨q1,q2⟩ | ⟨q1,q2⟩
    all_goals (
      first
      | (subst q2
         clear hj2'
         have q3:=beq_eq_false_iff_ne.2 q1
         have x0:=XA.out _ H5.right.right.right
         go_upto_region 6 with fail
         clear q1 q3)
      | (have d1:((i:Int) == (n3:Int) - 1)=true:=beq_iff_eq.2 q1
         have ej:(i:Int) - 1=(j:Int):=by omega
         clear q1 q2 hj2'
         have x0:=XA.out _ H5.right.right.right
         go_upto_region 6 with fail
         clear ej d1))
    all_goals (
      go_upto_region 7 with (go_at_call 106;with_reducible refine zcy MA.out RA.out ZA.out HD.out H5 ?_;intro Ga va w6 NA H6 I6;have NA:=L_ NA;have SA:=NA.out.shape;obtain ⟨A0,A1,A2,A3,A4,A5,A6,A7,A8,A9,hq⟩:=SA;subst hq)
      have H7:=(H6.new (.cells #[.bool A0,.slice A1 A2 A3,.slice A4 A5 A6,.slice A7 A8 A9] 151)).of_eq (show _=zaq c r e (K++Rest)*(pts (b+1) zN*(pts b (.cells #[.bool false,.slice a1 0 c1,.slice (some ⟨b3,o3,none⟩) n3 c3,.slice (some ⟨b5,o5,none⟩) n5 c5] 151)*((Ga*pts w6.heap.size (.cells #[.bool A0,.slice A1 A2 A3,.slice A4 A5 A6,.slice A7 A8 A9] 151))*F))) from by ac_rfl)
      have I7:=(I5.trans I6).alloc (.cells #[.bool A0,.slice A1 A2 A3,.slice A4 A5 A6,.slice A7 A8 A9] 151)
      generalize w6.alloc _=w7 at *
      generalize w6.heap.size=ga at *
      clear u0 u1 u2 u3 x0 H5 H6 I5 I6
      obtain ⟨u0,u1,u2,u3⟩:=nd4 H7.right.right
      have x0:=XB.out _ H7.right.right.right.right
      go_upto_region 10 with (go_at_call 106;with_reducible refine zcy MB.out RB.out ZB.out HD.out H7 ?_;intro Gb vb w8 NB H8 I8;have NB:=L_ NB;have SB:=NB.out.shape;obtain ⟨B0,B1,B2,B3,B4,B5,B6,B7,B8,B9,hq⟩:=SB;subst hq)
      have H9:=(H8.new (.cells #[.bool B0,.slice B1 B2 B3,.slice B4 B5 B6,.slice B7 B8 B9] 151)).of_eq (show _=zaq c r e (K++Rest)*(pts (b+1) zN*(pts b (.cells #[.bool false,.slice a1 0 c1,.slice (some ⟨b3,o3,none⟩) n3 c3,.slice (some ⟨b5,o5,none⟩) n5 c5] 151)*((Gb*(pts w8.heap.size (.cells #[.bool B0,.slice B1 B2 B3,.slice B4 B5 B6,.slice B7 B8 B9] 151)*(Ga*pts ga (.cells #[.bool A0,.slice A1 A2 A3,.slice A4 A5 A6,.slice A7 A8 A9] 151))))*F))) from by ac_rfl)
      have I9:=(I7.trans I8).alloc (.cells #[.bool B0,.slice B1 B2 B3,.slice B4 B5 B6,.slice B7 B8 B9] 151)
      generalize w8.alloc _=w9 at *
      generalize w8.heap.size=gb at *
      clear u0 u1 u2 u3 x0 H7 H8 I7 I8
      have eAB:A0=B0:=by rw [z4n NA.out,z4n NB.out];exact HPL.out.2.2.2.1
      subst eAB
      have H10:=H9.of_eq (show _=zaq c r e (K++Rest)*(pts (b+1) zN*(pts b (.cells #[.bool false,.slice a1 0 c1,.slice (some ⟨b3,o3,none⟩) n3 c3,.slice (some ⟨b5,o5,none⟩) n5 c5] 151)*(pts ga (.cells #[.bool A0,.slice A1 A2 A3,.slice A4 A5 A6,.slice A7 A8 A9] 151)*(pts gb (.cells #[.bool A0,.slice B1 B2 B3,.slice B4 B5 B6,.slice B7 B8 B9] 151)*(Ga*(Gb*F)))))) from by ac_rfl)
      clear H9
      have LA:=L_ (z3s RA.out ZA.out)
      have LB:=L_ (z3s RB.out ZB.out)
      go_upto_region 12 with fail
      have HE:=((H10.new zN).of_eq (show _=zaq c r e (K++Rest)*(pts (b+1) zN*(pts b (.cells #[.bool false,.slice a1 0 c1,.slice (some ⟨b3,o3,none⟩) n3 c3,.slice (some ⟨b5,o5,none⟩) n5 c5] 151)*(pts ga (.cells #[.bool A0,.slice A1 A2 A3,.slice A4 A5 A6,.slice A7 A8 A9] 151)*(pts gb (.cells #[.bool A0,.slice B1 B2 B3,.slice B4 B5 B6,.slice B7 B8 B9] 151)*(pts w9.heap.size zN*(Ga*(Gb*F))))))) from by ac_rfl)).drew
      have IE:=(I9.alloc zN).drew
      have H10:=H10.drew
      have I9:=I9.drew
      have S0:=ten (nd4 H10.right.right.right) (nd4 H10.right.right.right.right) (nd4 H10.right.right).2.2.2 (XY.out _ H10.right.right.right.right.right.right.right)
      have S1:=ten (nd4 HE.right.right.right) (nd4 HE.right.right.right.right) (nd4 HE.right.right).2.2.2 (XY.out _ HE.right.right.right.right.right.right.right.right)
      go_region_held3 (fun W=>(W.cell? ⟨ga,0,none⟩=some (.bool A0)∧W.cell? ⟨ga,1,none⟩=some (.slice A1 A2 A3)∧W.cell? ⟨ga,2,none⟩=some (.slice A4 A5 A6)∧W.cell? ⟨ga,3,none⟩=some (.slice A7 A8 A9))∧(W.cell? ⟨gb,0,none⟩=some (.bool A0)∧W.cell? ⟨gb,1,none⟩=some (.slice B1 B2 B3)∧W.cell? ⟨gb,2,none⟩=some (.slice B4 B5 B6)∧W.cell? ⟨gb,3,none⟩=some (.slice B7 B8 B9))∧W.cell? ⟨b,3,none⟩=some (.slice (some ⟨b5,o5,none⟩) n5 c5)∧W.cell? ⟨b5,o5+j,none⟩=some (.string y)) (with_reducible (first | exact S0 | exact S1 | exact S2 | exact S3 | exact S4)) (first
        | (go_at_call 154;with_reducible refine zpg y RA.out RB.out HPL.out.2.2.2.1 (by have:=LA.out;have:=LB.out;omega) (NA.out.imp (fun _ hw=>hw.right.right.right.right.right.left)) (NB.out.imp (fun _ hw=>hw.right.right.right.right.right.right.left)) H10 ?_;intro Gj vj w10 NJ H11 I11;have NJ:=L_ NJ;have SJ:=NJ.out.shape;obtain ⟨C0,C1,C2,C3,C4,C5,C6,C7,C8,C9,hq⟩:=SJ;subst hq;have HZ0:=H11.alloc zN;have H12:=(H11.new (.cells #[.bool C0,.slice C1 C2 C3,.slice C4 C5 C6,.slice C7 C8 C9] 151)).of_eq (show _=zaq c r e (K++Rest)*(pts (b+1) zN*(pts b (.cells #[.bool false,.slice a1 0 c1,.slice (some ⟨b3,o3,none⟩) n3 c3,.slice (some ⟨b5,o5,none⟩) n5 c5] 151)*(pts ga (.cells #[.bool A0,.slice A1 A2 A3,.slice A4 A5 A6,.slice A7 A8 A9] 151)*(pts gb (.cells #[.bool A0,.slice B1 B2 B3,.slice B4 B5 B6,.slice B7 B8 B9] 151)*(pts w10.heap.size (.cells #[.bool C0,.slice C1 C2 C3,.slice C4 C5 C6,.slice C7 C8 C9] 151)*(Gj*(Ga*(Gb*F)))))))) from by ac_rfl);have I12:=(I9.trans I11).alloc (.cells #[.bool C0,.slice C1 C2 C3,.slice C4 C5 C6,.slice C7 C8 C9] 151);have H11:=H11.of_eq (show _=zaq c r e (K++Rest)*(pts (b+1) zN*(pts b (.cells #[.bool false,.slice a1 0 c1,.slice (some ⟨b3,o3,none⟩) n3 c3,.slice (some ⟨b5,o5,none⟩) n5 c5] 151)*(pts ga (.cells #[.bool A0,.slice A1 A2 A3,.slice A4 A5 A6,.slice A7 A8 A9] 151)*(pts gb (.cells #[.bool A0,.slice B1 B2 B3,.slice B4 B5 B6,.slice B7 B8 B9] 151)*(Gj*(Ga*(Gb*F))))))) from by ac_rfl);have S2:=ten (nd4 H11.right.right.right) (nd4 H11.right.right.right.right) (nd4 H11.right.right).2.2.2 (XY.out _ H11.right.right.right.right.right.right.right.right);obtain ⟨w12,xbe⟩:∃ x,x=w10.alloc (.cells #[.bool C0,.slice C1 C2 C3,.slice C4 C5 C6,.slice C7 C8 C9] 151):=⟨_,rfl⟩;obtain ⟨gj,hgj⟩:∃ x,x=w10.heap.size:=⟨_,rfl⟩;have K12:=H12;have J12:=I12;rw [←xbe,←hgj] at K12;rw [←xbe] at J12;have HW:=L_ xbe;have HG:=L_ hgj;clear xbe hgj;have S3:=ten (nd4 (H11.alloc zN).right.right.right) (nd4 (H11.alloc zN).right.right.right.right) (nd4 (H11.alloc zN).right.right).2.2.2 (XY.out _ (H11.alloc zN).right.right.right.right.right.right.right.right);have S4:=ten (nd4 H12.right.right.right) (nd4 H12.right.right.right.right) (nd4 H12.right.right).2.2.2 (XY.out _ H12.right.right.right.right.right.right.right.right.right))
        | (go_at_call 154;with_reducible refine zpg y RA.out RB.out HPL.out.2.2.2.1 (by have:=LA.out;have:=LB.out;omega) (NA.out.imp (fun _ hw=>hw.right.right.right.right.right.right.left)) (NB.out.imp (fun _ hw=>hw.right.right.right.right.right.right.right.left)) HE ?_;intro Gj vj w10 NJ H11 I11;have NJ:=L_ NJ;have SJ:=NJ.out.shape;obtain ⟨C0,C1,C2,C3,C4,C5,C6,C7,C8,C9,hq⟩:=SJ;subst hq;have H11:=H11.of_eq (show _=pts w9.heap.size zN*(zaq c r e (K++Rest)*(pts (b+1) zN*(pts b (.cells #[.bool false,.slice a1 0 c1,.slice (some ⟨b3,o3,none⟩) n3 c3,.slice (some ⟨b5,o5,none⟩) n5 c5] 151)*(pts ga (.cells #[.bool A0,.slice A1 A2 A3,.slice A4 A5 A6,.slice A7 A8 A9] 151)*(pts gb (.cells #[.bool A0,.slice B1 B2 B3,.slice B4 B5 B6,.slice B7 B8 B9] 151)*(Gj*(Ga*(Gb*F)))))))) from by ac_rfl);have S2:=ten (nd4 H11.right.right.right.right) (nd4 H11.right.right.right.right.right) (nd4 H11.right.right.right).2.2.2 (XY.out _ H11.right.right.right.right.right.right.right.right.right);obtain ⟨z0,z1,z2,z3⟩:=nd4 H11;obtain ⟨f0,f1,f2,f3⟩:=zd7 H11;have H12:=(H11.cells4 (x':=.bool C0) (y':=.slice C1 C2 C3) (z':=.slice C4 C5 C6) (u':=.slice C7 C8 C9)).of_eq (show _=zaq c r e (K++Rest)*(pts (b+1) zN*(pts b (.cells #[.bool false,.slice a1 0 c1,.slice (some ⟨b3,o3,none⟩) n3 c3,.slice (some ⟨b5,o5,none⟩) n5 c5] 151)*(pts ga (.cells #[.bool A0,.slice A1 A2 A3,.slice A4 A5 A6,.slice A7 A8 A9] 151)*(pts gb (.cells #[.bool A0,.slice B1 B2 B3,.slice B4 B5 B6,.slice B7 B8 B9] 151)*(pts w9.heap.size (.cells #[.bool C0,.slice C1 C2 C3,.slice C4 C5 C6,.slice C7 C8 C9] 151)*(Gj*(Ga*(Gb*F)))))))) from by ac_rfl);have I12:=((((IE.trans I11).setCell ⟨w9.heap.size,0,none⟩ (.bool C0)).setCell ⟨w9.heap.size,1,none⟩ (.slice C1 C2 C3)).setCell ⟨w9.heap.size,2,none⟩ (.slice C4 C5 C6)).setCell ⟨w9.heap.size,3,none⟩ (.slice C7 C8 C9);obtain ⟨w12,xbe⟩:∃ x,x=(((w10.setCell ⟨w9.heap.size,0,none⟩ (.bool C0)).setCell ⟨w9.heap.size,1,none⟩ (.slice C1 C2 C3)).setCell ⟨w9.heap.size,2,none⟩ (.slice C4 C5 C6)).setCell ⟨w9.heap.size,3,none⟩ (.slice C7 C8 C9):=⟨_,rfl⟩;obtain ⟨gj,hgj⟩:∃ x,x=w9.heap.size:=⟨_,rfl⟩;have K12:=H12;have J12:=I12;rw [←xbe,←hgj] at K12;rw [←xbe] at J12;have HW:=L_ xbe;have HG:=L_ hgj;clear xbe hgj;have S4:=ten (nd4 H12.right.right.right) (nd4 H12.right.right.right.right) (nd4 H12.right.right).2.2.2 (XY.out _ H12.right.right.right.right.right.right.right.right.right)))
      all_goals (
        rw [←HW.out,←HG.out]
        have H12:=(K12.of_eq (show _=zaq c r e (K++Rest)*(pts (b+1) zN*(pts b (.cells #[.bool false,.slice a1 0 c1,.slice (some ⟨b3,o3,none⟩) n3 c3,.slice (some ⟨b5,o5,none⟩) n5 c5] 151)*(pts ga (.cells #[.bool A0,.slice A1 A2 A3,.slice A4 A5 A6,.slice A7 A8 A9] 151)*(pts gb (.cells #[.bool A0,.slice B1 B2 B3,.slice B4 B5 B6,.slice B7 B8 B9] 151)*(pts gj (.cells #[.bool C0,.slice C1 C2 C3,.slice C4 C5 C6,.slice C7 C8 C9] 151)*(Gj*F))))))*(Ga*Gb) from by ac_rfl)).left
        have I12:=J12
        clear HW HG K12 J12 S0 S1 S2 S4 H10 HE H11 IE I11 NA NB
        try clear S3
        try clear z0 z1 z2 z3 f0 f1 f2 f3
        try clear HZ0
        obtain ⟨v0,v1,v2,v3⟩:=nd4 H12.right.right.right
        obtain ⟨t0,t1,t2,t3⟩:=nd4 H12.right.right.right.right
        obtain ⟨s0,s1,s2,s3⟩:=nd4 H12.right.right.right.right.right
        have LJ:=L_ (z4w (n:=0) (m:=0) (y:=y) LA.out LB.out)
        by_cases hz:Ky.zbf (Tb.zgk na y nb)≤240
        · have HD1:Hid (true=decide (Ky.zbf (Tb.zgk na y nb)≤240)):=L_ (decide_eq_true hz).symm
          have HZ1:=L_ hz
          clear hz
          go_upto_region 14 with (go_at_call 155;with_reducible refine zf7 RJ.out (NJ.out.imp (fun _ hw=>hw.right.right.right.right.right.right.left)) LJ.out H12 HD1 ?_;intro w13 H13 I13)
          have H14:=zaq.perm PP.out H13
          have I14:=I12.trans I13
          clear H12 H13 I12 I13 v0 v1 v2 v3 t0 t1 t2 t3 s0 s1 s2 s3
          have j6:(j:Int)<(n3:Int):=by omega
          go_upto_region 15 with fail
          have H14:=H14.drew
          have I14:=I14.drew
          have S0:=six (nd4 H14.right.right).2.2.1 (XA.out _ H14.right.right.right.right.right.right.right) (nd4 H14.right.right.right.right.right)
          go_region_held3 (fun W=>W.cell? ⟨b,2,none⟩=some (.slice (some ⟨b3,o3,none⟩) n3 c3)∧W.cell? ⟨b3,o3+j,none⟩=some (.int .i64 ka)∧(W.cell? ⟨gj,0,none⟩=some (.bool C0)∧W.cell? ⟨gj,1,none⟩=some (.slice C1 C2 C3)∧W.cell? ⟨gj,2,none⟩=some (.slice C4 C5 C6)∧W.cell? ⟨gj,3,none⟩=some (.slice C7 C8 C9))) (with_reducible (first | exact S0 | exact S1)) (first
            | (go_at_call 118;with_reducible refine zsu RJ.out HZ1.out (NJ.out.imp (fun _ hw=>hw.right.right.right.right.right.left)) H14 ?_;intro w15 H15 I15;have S1:=six (nd4 H15.right.right).2.2.1 (XA.out _ H15.right.right.right.right.right.right.right) (nd4 H15.right.right.right.right.right)))
          have H16:=zaq.perm (List.Perm.swap _ _ _) H15
          have I16:=I14.trans I15
          clear H14 H15 I14 I15 S0 S1
          go_upto_region 18 with fail
          have H16:=H16.drew
          have I16:=I16.drew
          have x0:=XB.out _ H16.right.right.right.right.right.right.right
          obtain ⟨jn,hjn⟩:∃ jn:Nat,jn=j+1:=⟨_,rfl⟩
          rw [←hjn] at x0
          have j7:(j:Int)+1=(jn:Int):=by omega
          have j8:(jn:Int)<(n3:Int):=by omega
          have j9:(0:Int)≤(jn:Int):=by omega
          have jw:IntKind.i64.wrap (jn:Int)=(jn:Int):=by rw [IntKind.wrap_i64];omega
          have HXB:Hid (∀ (w:World),Sat F w→w.cell? ⟨b3,o3+jn,none⟩=some (.int .i64 kb)):=L_ (by rw [hjn];exact XB.out)
          clear hjn
          have S0:=And.intro (zaq.cells H16).1 (And.intro (nd4 H16.right.right).2.2.1 x0)
          go_region_held3 (fun W=>W.cell? ⟨c.tr,0,none⟩=some (.pointer (some ⟨c.k.t,0,none⟩))∧W.cell? ⟨b,2,none⟩=some (.slice (some ⟨b3,o3,none⟩) n3 c3)∧W.cell? ⟨b3,o3+jn,none⟩=some (.int .i64 kb)) (with_reducible (first | exact S0 | exact S1)) (first
            | (go_at_call 115;with_reducible refine zm4 hk H16 ?_;intro w17 H17 I17;have S1:=And.intro (zaq.cells H17).1 (And.intro (nd4 H17.right.right).2.2.1 (HXB.out _ H17.right.right.right.right.right.right.right))))
          have I17:=I16.trans I17
          clear H16 I16 S0 S1 x0 j7 j8 j9 jw HXB j6
          go_upto_region 19 with fail
          obtain ⟨u0,u1,u2,u3⟩:=nd4 H17.right.right
          have H18:=zqh zba ka (H17.new (.cells #[.int .i64 ka] 3))
          have I18:=io1 H18 I17
          obtain ⟨u0,u1,u2,u3⟩:=nd4 H18.right.right.right
          have RD:=L_ (Reads.zau (za3 H18.left) (by simp))
          go_wp2_with (go_at_call 119;with_reducible refine swap_any (f:=j) (t:=jt) KB.out KL.out (by have:=HT.out;omega) (by have:=HT.out;have:=HJ.out.1;omega) (RD.out.imp (fun _ hw=>za3 hw.left)) (zas _ none 0) rfl (by simp) (by simp) (HV.out.imp (fun _ hw=>hw.right.right.right.right.right.right.right.right)) H18 ?_;intro G9 v9 w18 N9 H19 I19;have N9:=L_ N9;have S9:=N9.out.shape;obtain ⟨D0,D1,D2,D3,D4,D5,D6,D7,D8,D9,hq⟩:=S9;subst hq;obtain ⟨m0,m1,m2,m3⟩:=nd4 H19.right.right.right;obtain ⟨f0,f1,f2,f3⟩:=zd7 H19.right.right.right)
          have K5:=(H19.of_eq (show _=pts (b+1) zN*(zaq c r e ((ka,Tb.zgk na y nb)::(La'++(Lb'++(L1++(L2++Rest)))))*(G9*F))*(za1 (.slice (some ⟨w17.heap.size,0,none⟩) 1 1) [ka]*(pts b (.cells #[.bool false,.slice a1 0 c1,.slice (some ⟨b3,o3,none⟩) n3 c3,.slice (some ⟨b5,o5,none⟩) n5 c5] 151)*(pts ga (.cells #[.bool A0,.slice A1 A2 A3,.slice A4 A5 A6,.slice A7 A8 A9] 151)*(pts gb (.cells #[.bool A0,.slice B1 B2 B3,.slice B4 B5 B6,.slice B7 B8 B9] 151)*(pts gj (.cells #[.bool C0,.slice C1 C2 C3,.slice C4 C5 C6,.slice C7 C8 C9] 151)*Gj))))) from by unfold za1;ac_rfl)).left.cells4 (x':=.bool D0) (y':=.slice D1 D2 D3) (z':=.slice D4 D5 D6) (u':=.slice D7 D8 D9)
          have J5:=((((I18.trans I19).setCell ⟨b+1,0,none⟩ (.bool D0)).setCell ⟨b+1,1,none⟩ (.slice D1 D2 D3)).setCell ⟨b+1,2,none⟩ (.slice D4 D5 D6)).setCell ⟨b+1,3,none⟩ (.slice D7 D8 D9)
          generalize ((((w18.setCell ⟨b+1,0,none⟩ (.bool D0)).setCell ⟨b+1,1,none⟩ (.slice D1 D2 D3)).setCell ⟨b+1,2,none⟩ (.slice D4 D5 D6)).setCell ⟨b+1,3,none⟩ (.slice D7 D8 D9))=W at *
          clear u0 u1 u2 u3 m0 m1 m2 m3 f0 f1 f2 f3
          obtain ⟨m0,m1,m2,m3⟩:=nd4 K5
          exact bodyPost_ret (v:=.tuple #[.agg #[.bool D0,.slice D1 D2 D3,.slice D4 D5 D6,.slice D7 D8 D9],.int .i64 0]) (by simp [results,Tryz.results120,go_sem,m0,m1,m2,m3]) rfl
            (HH.out G9 _ _ _ _ W (MJ.out HZ1.out) (N9.out.imp (fun _ hw=>hw.left)) (zaq.perm QQ.out K5.right) J5)
        · have HD1:Hid (false=decide (Ky.zbf (Tb.zgk na y nb)≤240)):=L_ (decide_eq_false hz).symm
          clear hz
          go_upto_region 14 with (go_at_call 155;with_reducible refine zf7 RJ.out (NJ.out.imp (fun _ hw=>hw.right.right.right.right.right.right.left)) LJ.out H12 HD1 ?_;intro w13 H13 I13)
          obtain ⟨u0,u1,u2,u3⟩:=nd4 H13.right.right
          obtain ⟨m0,m1,m2,m3⟩:=nd4 H13.right
          obtain ⟨f0,f1,f2,f3⟩:=zd7 H13.right
          have K5:=H13.sw.cells4 (x':=.bool false) (y':=.slice a1 0 c1) (z':=.slice (some ⟨b3,o3,none⟩) n3 c3) (u':=.slice (some ⟨b5,o5,none⟩) n5 c5)
          have J5:=((((I12.trans I13).setCell ⟨b+1,0,none⟩ (.bool false)).setCell ⟨b+1,1,none⟩ (.slice a1 0 c1)).setCell ⟨b+1,2,none⟩ (.slice (some ⟨b3,o3,none⟩) n3 c3)).setCell ⟨b+1,3,none⟩ (.slice (some ⟨b5,o5,none⟩) n5 c5)
          go_wp2_with fail
          generalize ((((w13.setCell ⟨b+1,0,none⟩ (.bool false)).setCell ⟨b+1,1,none⟩ (.slice a1 0 c1)).setCell ⟨b+1,2,none⟩ (.slice (some ⟨b3,o3,none⟩) n3 c3)).setCell ⟨b+1,3,none⟩ (.slice (some ⟨b5,o5,none⟩) n5 c5))=W at *
          clear u0 u1 u2 u3 m0 m1 m2 m3 f0 f1 f2 f3
          obtain ⟨m0,m1,m2,m3⟩:=nd4 K5
          exact bodyPost_ret (v:=.tuple #[.agg #[.bool false,.slice a1 0 c1,.slice (some ⟨b3,o3,none⟩) n3 c3,.slice (some ⟨b5,o5,none⟩) n5 c5],.int .i64 0]) (by simp [results,Tryz.results120,go_sem,m0,m1,m2,m3]) rfl
            (HH.out emp _ _ _ _ W HM.out HV1.out.with ((K5.right.of_eq (show _=zaq c r e (K++Rest)*(emp*F)*(pts b (.cells #[.bool false,.slice a1 0 c1,.slice (some ⟨b3,o3,none⟩) n3 c3,.slice (some ⟨b5,o5,none⟩) n5 c5] 151)*(pts ga (.cells #[.bool A0,.slice A1 A2 A3,.slice A4 A5 A6,.slice A7 A8 A9] 151)*(pts gb (.cells #[.bool A0,.slice B1 B2 B3,.slice B4 B5 B6,.slice B7 B8 B9] 151)*(pts gj (.cells #[.bool C0,.slice C1 C2 C3,.slice C4 C5 C6,.slice C7 C8 C9] 151)*Gj)))) from by rw [zcq];ac_rfl)).left) J5))
    )
end
end Go.Proofs.YtfknjmoekbabcaaGreatDoor
