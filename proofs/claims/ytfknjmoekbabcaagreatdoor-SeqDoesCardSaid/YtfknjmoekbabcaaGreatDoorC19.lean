/-
  A part of a proof. It proves no statement by itself.
-/
import Derived.Test.YtfknjmoekbabcaaGreatDoorC15
import Derived.Test.YtfknjmoekbabcaaGreatDoorC10
import Derived.Test.YtfknjmoekbabcaaGreatDoorC16
import Derived.Test.YtfknjmoekbabcaaGreatDoorC18
set_option linter.unusedSimpArgs false
set_option linter.unusedVariables false
set_option linter.unusedSectionVars false
set_option maxRecDepth 100000
set_option maxHeartbeats 64000000
namespace Go.Proofs.YtfknjmoekbabcaaGreatDoor
open Go.RowKit Go.Lib
abbrev Cn:=Bool × Int × ByteArray
def evC (c:Cn):Value:=.agg #[.bool c.1,.int .u8 c.2.1,.string c.2.2]
def cn0:Cn:=(false,0,⟨#[]⟩)
namespace Al
structure Tx where
 free:List Rn
 pages:Int
 fm:List (Int × Cn)
structure Ok (room:Int) (x:Tx):Prop where
 canon:Rs.Canon x.free
 low:2≤x.pages
 high:x.pages≤room
 free:∀ i,Rs.Mem i x.free→2≤i∧i<x.pages∧zb1 x.fm i=none
 keys:∀ p∈x.fm,2≤p.1∧p.1<x.pages
 full:∀ i,2≤i→i<x.pages→Rs.Mem i x.free∨∃ c,zb1 x.fm i=some c
theorem zus:∀ (l:List Rn) (a b:Int),Rs.Canon l→(∀ i,Rs.Mem i l→a≤i∧i<b)→a≤b+1→2*(l.length:Int)≤b - a+1
 | [],a,b,_,_,h=>by simp;omega
 | r::l,a,b,hc,hm,h=>by
  obtain ⟨h1,h2,h3⟩:=Rs.zbh.1 hc
  unfold Rs.Ok at h1
  have e1:=hm r.1 (Rs.mem_cons.2 (.inl ⟨by omega,by omega⟩))
  have e2:=hm r.2 (Rs.mem_cons.2 (.inl ⟨by omega,by omega⟩))
  have:=zus l (r.2+2) b h3 (fun i hi=>by
   have e3:=Rs.zfb hc hi
   exact ⟨by omega,(hm i (Rs.mem_cons.2 (.inr hi))).2⟩) (by omega)
  rw [List.length_cons]
  omega
theorem Ok.flen {room:Int} {x:Tx} (h:Ok room x) (hr:room≤3000):x.free.length≤1900:=by
 have:=zus x.free 2 x.pages h.canon (fun i hi=>⟨(h.free i hi).1,(h.free i hi).2.1⟩) (by have:=h.low;omega)
 have:=h.high
 omega
theorem zpq:∀ (n:Nat) (L:List Int),(∀ i:Int,2≤i→i<2+(n:Int)→i∈L)→n≤L.length
 | 0,_,_=>Nat.zero_le _
 | n+1,L,h=>by
  have hm:(2+(n:Int))∈L:=h _ (by omega) (by omega)
  have:=zpq n (L.erase (2+(n:Int))) fun i h1 h2=>(List.mem_erase_of_ne (by omega)).2 (h i h1 (by omega))
  rw [List.length_erase_of_mem hm] at this
  have hp:=List.length_pos_of_mem hm
  omega
theorem Ok.none_left {room:Int} {x:Tx} (h:Ok room x) (hf:x.free=[]) (hp:room≤x.pages):room≤2+(x.fm.length:Int):=by
 have hlow:=h.low
 have hhigh:=h.high
 have:=zpq (x.pages - 2).toNat (x.fm.map (·.1)) fun i h1 h2=>by
  rcases h.full i h1 (by omega) with h3 | ⟨c,h3⟩
  ·rw [hf] at h3;exact absurd h3 (Rs.zcu i)
  ·exact List.mem_map.2 ⟨_,zjv h3,rfl⟩
 rw [List.length_map] at this
 omega
theorem Ok.took {room:Int} {x:Tx} (h:Ok room x) {id:Int} (hm:Rs.Mem id x.free):Ok room ⟨Rs.minus x.free [(id,id)],x.pages,x.fm++[(id,cn0)]⟩:=by
 have hid:=h.free id hm
 have mem:∀ i,Rs.Mem i (Rs.minus x.free [(id,id)])↔Rs.Mem i x.free∧i≠id:=fun i=>by
  rw [Rs.zmr,Rs.zex h.canon,Rs.zg5]
  simp only
  constructor
  ·rintro ⟨h1,h2⟩;exact ⟨h1,by omega⟩
  ·rintro ⟨h1,h2⟩;exact ⟨h1,by omega⟩
 have get:∀ i,zb1 (x.fm++[(id,cn0)]) i=if i=id then some cn0 else zb1 x.fm i:=fun i=>by
  rw [←zgc hid.2.2]
  split
  ·rename_i e;subst e;exact zek _ _ _
  ·rename_i e;exact zdz _ _ (Ne.symm e)
 refine ⟨Rs.zm8 _ _,h.low,h.high,fun i hi=>?_,fun p hp=>?_,fun i h1 h2=>?_⟩
 ·obtain ⟨h1,h2⟩:=(mem i).1 hi
  obtain ⟨f1,f2,f3⟩:=h.free i h1
  exact ⟨f1,f2,by rw [get,if_neg h2];exact f3⟩
 ·rcases List.mem_append.1 hp with hp | hp
  ·exact h.keys p hp
  ·rw [List.mem_singleton] at hp;subst hp;exact ⟨hid.1,hid.2.1⟩
 ·by_cases e:i=id
  ·exact .inr ⟨cn0,by simp only;rw [get,if_pos e]⟩
  ·rcases h.full i h1 h2 with h3 | ⟨c,h3⟩
   ·exact .inl ((mem i).2 ⟨h3,e⟩)
   ·exact .inr ⟨c,by simp only;rw [get,if_neg e];exact h3⟩
theorem Ok.zq8 {room:Int} {x:Tx} (h:Ok room x):zb1 x.fm x.pages=none:=by
 rw [zgd]
 intro p hp e
 have:=(h.keys p hp).2
 omega
theorem Ok.grew {room:Int} {x:Tx} (h:Ok room x) (hp:x.pages<room):Ok room ⟨x.free,x.pages+1,x.fm++[(x.pages,cn0)]⟩:=by
 have hl:=h.low
 have get:∀ i,zb1 (x.fm++[(x.pages,cn0)]) i=if i=x.pages then some cn0 else zb1 x.fm i:=fun i=>by
  rw [←zgc h.zq8]
  split
  ·rename_i e;subst e;exact zek _ _ _
  ·rename_i e;exact zdz _ _ (Ne.symm e)
 refine ⟨h.canon,by simp only;omega,by simp only;omega,fun i hi=>?_,fun p hq=>?_,fun i h1 h2=>?_⟩
 ·obtain ⟨f1,f2,f3⟩:=h.free i hi
  exact ⟨f1,by simp only;omega,by simp only;rw [get,if_neg (by omega)];exact f3⟩
 ·rcases List.mem_append.1 hq with hq | hq
  ·have:=h.keys p hq;exact ⟨this.1,by simp only;omega⟩
  ·rw [List.mem_singleton] at hq;subst hq;simp only;exact ⟨by omega,by omega⟩
 ·simp only at h2
  by_cases e:i=x.pages
  ·exact .inr ⟨cn0,by simp only;rw [get,if_pos e]⟩
  ·rcases h.full i h1 (by omega) with h3 | ⟨c,h3⟩
   ·exact .inl h3
   ·exact .inr ⟨c,by simp only;rw [get,if_neg e];exact h3⟩
theorem Ok.gave {room:Int} {x:Tx} (h:Ok room x) (hr:room≤3000) {id:Int} {c:Cn} (hg:zb1 x.fm id=some c):Ok room ⟨Rs.union x.free [(id,id)],x.pages,zpz x.fm id⟩:=by
 have hk:=h.keys _ (zjv hg)
 simp only at hk
 have hh:=h.high
 have mem:∀ i,Rs.Mem i (Rs.union x.free [(id,id)])↔Rs.Mem i x.free∨i=id:=fun i=>by
  rw [Rs.zto,Rs.zex h.canon]
  unfold Rs.Has
  rw [Rs.zg5,Rs.zlv]
  simp only
  constructor
  ·rintro (h1 | h1)
   ·exact .inl h1
   ·exact .inr (by omega)
  ·rintro (h1 | h1)
   ·exact .inl h1
   ·exact .inr (by omega)
 refine ⟨Rs.zm7 _ _,h.low,h.high,fun i hi=>?_,fun p hp=>h.keys p (xaq hp),fun i h1 h2=>?_⟩
 ·rcases (mem i).1 hi with h1 | rfl
  ·obtain ⟨f1,f2,f3⟩:=h.free i h1
   refine ⟨f1,f2,?_⟩
   have e:id≠i:=by
    rintro rfl
    rw [hg] at f3;cases f3
   simp only
   rw [zih _ e];exact f3
  ·exact ⟨hk.1,hk.2,zrv _ _⟩
 ·by_cases e:i=id
  ·exact .inl ((mem i).2 (.inr e))
  ·rcases h.full i h1 h2 with h3 | ⟨c,h3⟩
   ·exact .inl ((mem i).2 (.inl h3))
   ·exact .inr ⟨c,by simp only;rw [zih _ (Ne.symm e)];exact h3⟩
theorem Ok.wrote {room:Int} {x:Tx} (h:Ok room x) {id:Int} {c c':Cn} (hg:zb1 x.fm id=some c):Ok room ⟨x.free,x.pages,zid x.fm id c'⟩:=by
 have hk:=h.keys _ (zjv hg)
 have get:∀ i,zb1 (zid x.fm id c') i=if i=id then some c' else zb1 x.fm i:=fun i=>by
  split
  ·rename_i e;subst e;exact zek _ _ _
  ·rename_i e;exact zdz _ _ (Ne.symm e)
 refine ⟨h.canon,h.low,h.high,fun i hi=>?_,fun p hp=>?_,fun i h1 h2=>?_⟩
 ·obtain ⟨f1,f2,f3⟩:=h.free i hi
  refine ⟨f1,f2,?_⟩
  simp only
  rw [get,if_neg]
  ·exact f3
  ·rintro rfl
   rw [hg] at f3;cases f3
 ·rcases xap hp with rfl | hp
  ·exact hk
  ·exact h.keys p hp
 ·rcases h.full i h1 h2 with h3 | ⟨d,h3⟩
  ·exact .inl h3
  ·refine .inr ?_
   simp only
   rw [get]
   split
   ·exact ⟨_,rfl⟩
   ·exact ⟨d,h3⟩
end Al
theorem zmb {v:Value} {l:List Rn} {F:Asn} {w:World} (H:Sat (zen v l*F) w):∃ a n c,v=.slice a n c:=by
 obtain ⟨hx,⟨rfl,h0,_⟩ | ⟨g,cap,cur,rfl,h2,h3,h4,h5,_⟩⟩:=za8.1 H
 ·exact ⟨_,_,_,rfl⟩
 ·exact ⟨_,_,_,rfl⟩
structure Tq where
 t:Nat
 b:Nat
 q:Nat
 p:Nat
 n:Nat
def Tq.room (k:Tq):Int:=max (k.n:Int) 2
abbrev ekC:Int→Value:=fun n=>.int .i64 n
def zge (k:Tq) (sv:Value) (pages:Int):Asn:=pts k.t (.cells #[.pointer (some ⟨k.q,0,none⟩),sv,.int .i64 pages,.map (some k.b)] 123 (0,0))
def zbo (k:Tq) (sv:Value) (x:Al.Tx):Asn:=zge k sv x.pages*(MapAt ekC evC k.b x.fm*(zen sv x.free*zr3 k.q k.p (Dk.new k.n)))
section
variable {k:Tq} {sv:Value} {x:Al.Tx} {F:Asn} {w:World} {R:Ending→World→Prop}
theorem Sat.ze8 {A:Asn} {w:World} (h:Sat A w):Sat (emp*A) w:=h.of_eq (zcq A).symm
theorem zbo.cells (H:Sat (zbo k sv x*F) w):w.cell? ⟨k.t,0,none⟩=some (.pointer (some ⟨k.q,0,none⟩))∧w.cell? ⟨k.t,1,none⟩=some sv∧w.cell? ⟨k.t,2,none⟩=some (.int .i64 x.pages)∧w.cell? ⟨k.t,3,none⟩=some (.map (some k.b)):=by
 unfold zbo zge at H
 have h:=H.left.left.at
 exact ⟨Sat.read h 0,Sat.read h 1,Sat.read h 2,Sat.read h 3⟩
theorem zbo.frozen (H:Sat (zbo k sv x*F) w):w.frozen? ⟨k.t,1,none⟩=false∧w.frozen? ⟨k.t,2,none⟩=false:=by
 unfold zbo zge at H
 have h:=H.left.left.at
 exact ⟨Sat.free h 1,Sat.free h 2⟩
theorem zbo.zrq (H:Sat (zbo k sv x*F) w):Sat (MapAt ekC evC k.b x.fm*(zge k sv x.pages*(zen sv x.free*(zr3 k.q k.p (Dk.new k.n)*F)))) w:=H.of_eq (by unfold zbo;ac_rfl)
theorem zbo.ofMap {m:List (Int × Cn)} (H:Sat (MapAt ekC evC k.b m*(zge k sv x.pages*(zen sv x.free*(zr3 k.q k.p (Dk.new k.n)*F)))) w):Sat (zbo k sv ⟨x.free,x.pages,m⟩*F) w:=H.of_eq (by unfold zbo;ac_rfl)
theorem zbo.zoq (H:Sat (zbo k sv x*F) w):Sat (zen sv x.free*(zge k sv x.pages*(MapAt ekC evC k.b x.fm*(zr3 k.q k.p (Dk.new k.n)*F)))) w:=H.of_eq (by unfold zbo;ac_rfl)
theorem zbo.ofRow {A:Asn} (H:Sat (A*(zen sv x.free*(zge k sv x.pages*(MapAt ekC evC k.b x.fm*(zr3 k.q k.p (Dk.new k.n)*F))))) w):Sat (A*(zbo k sv x*F)) w:=H.of_eq (by unfold zbo;ac_rfl)
theorem zbo.asPf (H:Sat (zbo k sv x*F) w):Sat (zr3 k.q k.p (Dk.new k.n)*(zge k sv x.pages*(MapAt ekC evC k.b x.fm*(zen sv x.free*F)))) w:=H.of_eq (by unfold zbo;ac_rfl)
theorem zbo.z2i {sv':Value} {fr:List Rn} (H:Sat (zen sv' fr*(zbo k sv x*F)) w):Sat (zbo k sv' ⟨fr,x.pages,x.fm⟩*F) (w.setCell ⟨k.t,1,none⟩ sv'):=by
 have h:Sat (pts k.t (.cells #[.pointer (some ⟨k.q,0,none⟩),sv,.int .i64 x.pages,.map (some k.b)] 123 (0,0))*(zen sv' fr*(MapAt ekC evC k.b x.fm*(zen sv x.free*(zr3 k.q k.p (Dk.new k.n)*F))))) w:=H.of_eq (by unfold zbo zge;ac_rfl)
 have h2:=h.cell 1 sv'
 exact (h2.of_eq (show _=zen sv x.free*(zbo k sv' ⟨fr,x.pages,x.fm⟩*F) from by
  unfold zbo zge
  simp only [List.setIfInBounds_toArray,List.set_cons_succ,List.set_cons_zero]
  ac_rfl)).right
theorem zbo.z9h {n:Int} (H:Sat (zbo k sv x*F) w):Sat (zbo k sv ⟨x.free,n,x.fm⟩*F) (w.setCell ⟨k.t,2,none⟩ (.int .i64 n)):=by
 have h:Sat (pts k.t (.cells #[.pointer (some ⟨k.q,0,none⟩),sv,.int .i64 x.pages,.map (some k.b)] 123 (0,0))*(MapAt ekC evC k.b x.fm*(zen sv x.free*(zr3 k.q k.p (Dk.new k.n)*F)))) w:=H.of_eq (by unfold zbo zge;ac_rfl)
 have h2:=h.cell 2 (.int .i64 n)
 exact h2.of_eq (by
  unfold zbo zge
  simp only [List.setIfInBounds_toArray,List.set_cons_succ,List.set_cons_zero]
  ac_rfl)
theorem Tryz.zeroCn (w:World):(zeroValue 235).run Tryz.prog w=.ok (evC cn0) w:=by kernel_rfl
theorem z4f (H:Sat (zbo k sv x*F) w) (id:Int):(Instr.lookup 121 (.map (some k.b)) (.int .i64 id) true).run Tryz.prog w=.ok (.tuple #[evC ((zb1 x.fm id).getD cn0),.bool (zb1 x.fm id).isSome]) w:=by
 have:=zz2 (P:=Tryz.prog) (T:=121) zt0 Tryz.underlying121 Tryz.underlying3 (Tryz.zeroCn w) (zbo.zrq H) id true
 rw [this]
 cases zb1 x.fm id<;>rfl
theorem xbs (c:Cn):∃ u1 u2 u3,evC c=.agg #[.bool u1,.int .u8 u2,.string u3]:=⟨_,_,_,rfl⟩
theorem zjk {id:Int} {d:Bool} (hd:Hid (d=(zb1 x.fm id).isSome)) (H:Sat (zbo k sv x*F) w) (h:∀ w',Sat (zbo k sv x*F) w'→Io w w'→R (.returned (.bool d)) w') :
  Calls Tryz.prog 142 #[.pointer (some ⟨k.t,0,none⟩),.int .i64 id] w R:=by
 obtain ⟨c0,c1,c2,c3⟩:=zbo.cells H
 have e:=z4f H id
 rw [←hd.out] at e
 have HH:=L_ h
 obtain ⟨u1,u2,u3,hu⟩:=xbs ((zb1 x.fm id).getD cn0)
 rw [hu] at e
 clear h hu
 go_enter Tryz.func142,Tryz.ntmps142
 go_wp2_with fail
 exact HH.out _ (H.alloc _) ((Io.refl w).alloc _)
theorem zx5 {id:Int} {kd kd':Int} {s:ByteArray} (hg:zb1 x.fm id=some (true,kd,s)) {t:ByteArray} {e:Int} (he:Hid ((kd=kd'∧t=s∧e=0)∨(kd≠kd'∧t=⟨#[]⟩∧e=3))) (H:Sat (zbo k sv x*F) w) (h:∀ w',Sat (zbo k sv x*F) w'→Io w w'→R (.returned (.tuple #[.string t,.int .i64 e])) w') :
  Calls Tryz.prog 133 #[.pointer (some ⟨k.t,0,none⟩),.int .i64 id,.int .u8 kd'] w R:=by
 obtain ⟨c0,c1,c2,c3⟩:=zbo.cells H
 have el:=z4f H id
 rw [hg] at el
 simp only [Option.getD_some,Option.isSome_some,evC] at el
 have HH:=L_ h
 clear h hg
 rcases he.out with ⟨rfl,rfl,rfl⟩ | ⟨hne,rfl,rfl⟩
 ·go_enter Tryz.func133,Tryz.ntmps133
  go_wp2_with fail
  exact HH.out _ (H.alloc _) ((Io.refl w).alloc _)
 ·go_enter Tryz.func133,Tryz.ntmps133
  go_wp2_with fail
  exact HH.out _ (H.alloc _) ((Io.refl w).alloc _)
theorem zx3 {id:Int} {c:Cn} (hg:zb1 x.fm id=some c) {kd:Int} {s:ByteArray} (hs:s.size≤240) (H:Sat (zbo k sv x*F) w) (h:∀ w',Sat (zbo k sv ⟨x.free,x.pages,zid x.fm id (true,kd,s)⟩*F) w'→Io w w'→R (.returned (.int .i64 0)) w') :
  Calls Tryz.prog 153 #[.pointer (some ⟨k.t,0,none⟩),.int .i64 id,.int .u8 kd,.string s] w R:=by
 have HD:Hid (true=(zb1 x.fm id).isSome):=L_ (by rw [hg];rfl)
 have HU:=L_ (fun W (HW:Sat (zbo k sv x*F) W)=>zj2 (P:=Tryz.prog) (T:=121) zt0 Tryz.underlying121 Tryz.underlying3 (zbo.zrq HW) id (true,kd,s))
 have hsi:¬ (240:Int)<(s.size:Int):=by omega
 have HH:=L_ h
 clear h hg hs
 go_enter Tryz.func153,Tryz.ntmps153
 go_wp2_with (go_at_call 142;with_reducible refine zjk HD H ?_;intro w1 H1 I1;obtain ⟨c0,c1,c2,c3⟩:=zbo.cells H1;obtain ⟨w2,e2,H2,I2⟩:=HU.out w1 H1;simp only [evC] at e2)
 exact HH.out _ (zbo.ofMap H2) (I1.trans I2)
theorem z00 {id:Int} {c:Cn} (hg:zb1 x.fm id=some c) (hl:x.free.length≤1900) (H:Sat (zbo k sv x*F) w) (h:∀ sv' w',Sat (zbo k sv' ⟨Rs.union x.free [(id,id)],x.pages,zpz x.fm id⟩*F) w'→Io w w'→R (.returned (.tuple #[])) w') :
  Calls Tryz.prog 115 #[.pointer (some ⟨k.t,0,none⟩),.int .i64 id] w R:=by
 have HD:Hid (true=(zb1 x.fm id).isSome):=L_ (by rw [hg];rfl)
 have HU:=L_ (fun W (HW:Sat (zbo k sv x*F) W)=>zz3 (P:=Tryz.prog) (T:=121) zt0 Tryz.underlying121 Tryz.underlying3 (zbo.zrq HW) id 0 3)
 have HL:=L_ hl
 have HH:=L_ h
 clear h hg hl
 go_enter Tryz.func115,Tryz.ntmps115
 go_wp2_with (first
  | (go_at_call 142;with_reducible refine zjk HD H ?_;intro w1 H1 I1;obtain ⟨c0,c1,c2,c3⟩:=zbo.cells H1;obtain ⟨w2,e2,H2,I2⟩:=HU.out w1 H1;have K2:=zbo.ofMap H2;obtain ⟨d0,d1,d2,d3⟩:=zbo.cells K2)
  | (go_at_call 143;with_reducible refine add_any (Reads.zau (zbo.zoq K2) (by have:=HL.out;simp only;omega)) HL.out id (zbo.zoq K2) ?_;intro v3 w3 H3 I3;obtain ⟨a3,m3,z3,rfl⟩:=zmb H3;have K3:=zbo.ofRow (x:=⟨x.free,x.pages,zpz x.fm id⟩) H3;obtain ⟨d0,d1,d2,d3⟩:=zbo.cells K3.right;obtain ⟨f1,f2⟩:=zbo.frozen K3.right;have K4:=zbo.z2i K3))
 go_end0
 exact HH.out _ _ K4 (((I1.trans I2).trans I3).setCell _ _)
theorem z1f {r:Rn} {l:List Rn} (hf:x.free=r::l) (hc:Rs.Canon x.free) (hn:zb1 x.fm r.1=none) (hl:x.free.length≤1900) (H:Sat (zbo k sv x*F) w)
  (h:∀ sv' w',Sat (zbo k sv' ⟨Rs.minus x.free [(r.1,r.1)],x.pages,x.fm++[(r.1,cn0)]⟩*F) w'→Io w w'→R (.returned (.tuple #[.int .i64 r.1,.int .i64 0])) w') :
  Calls Tryz.prog 152 #[.pointer (some ⟨k.t,0,none⟩)] w R:=by
 obtain ⟨c0,c1,c2,c3⟩:=zbo.cells H
 have HF:Hid (zir (Rs.norm x.free)=(r.1,true)):=L_ (by rw [Rs.z3m hc,hf];rfl)
 have HL:=L_ hl
 have HH:=L_ h
 have HP:Hid (zid x.fm r.1 cn0=x.fm++[(r.1,cn0)]):=L_ (zgc hn _)
 obtain ⟨rid,hrid⟩:∃ rid,rid=r.1:=⟨_,rfl⟩
 rw [←hrid] at HF HH HP
 clear h hf hc hn hl hrid
 go_enter Tryz.func152,Tryz.ntmps152
 go_wp2_with (first
  | (go_at_call 176;with_reducible refine first_any (Reads.zau (zbo.zoq H) (by have:=HL.out;omega)) (by have:=HL.out;omega) HF (zbo.zoq H) ?_;intro w1 H1 I1;have K1:=(zbo.ofRow (A:=emp) H1.ze8).right;obtain ⟨d0,d1,d2,d3⟩:=zbo.cells K1)
  | (go_at_call 177;with_reducible refine zz7 (Reads.zau (zbo.zoq K1) (by have:=HL.out;omega)) HL.out rid (zbo.zoq K1) ?_;intro v2 w2 H2 I2;obtain ⟨a2,m2,z2,rfl⟩:=zmb H2;have K2:=zbo.ofRow H2;obtain ⟨d0,d1,d2,d3⟩:=zbo.cells K2.right;obtain ⟨f1,f2⟩:=zbo.frozen K2.right;have K3:=zbo.z2i K2;obtain ⟨g0,g1,g2,g3⟩:=zbo.cells K3;obtain ⟨w4,e4,H4,I4⟩:=zj2 (P:=Tryz.prog) (T:=121) zt0 Tryz.underlying121 Tryz.underlying3 (zbo.zrq K3) rid cn0;simp only [evC,cn0] at e4))
 have K4:=zbo.ofMap (x:=⟨Rs.minus x.free [(rid,rid)],x.pages,x.fm⟩) (k:=k) (F:=F) H4
 rw [HP.out] at K4
 exact HH.out _ _ K4 (((I1.trans I2).setCell _ _).trans I4)
theorem zyh (hn:k.n≤16384) (H:Sat (zbo k sv x*F) w) (h:R (.returned (.int .i64 k.room)) w):Calls Tryz.prog 72 #[.pointer (some ⟨k.q,0,none⟩)] w R:=by
 have e:(Dk.new k.n).sure.length=k.n:=by simp [Dk.new]
 refine z3g (zbo.asPf H) (by rw [e];exact hn) ?_
 rw [e]
 exact h
theorem z1d (hf:x.free=[]) (hp:x.pages<k.room) (hp0:0≤x.pages) (hk:k.n≤16384) (hn:zb1 x.fm x.pages=none) (H:Sat (zbo k sv x*F) w)
  (h:∀ w',Sat (zbo k sv ⟨x.free,x.pages+1,x.fm++[(x.pages,cn0)]⟩*F) w'→Io w w'→R (.returned (.tuple #[.int .i64 x.pages,.int .i64 0])) w') :
  Calls Tryz.prog 152 #[.pointer (some ⟨k.t,0,none⟩)] w R:=by
 obtain ⟨c0,c1,c2,c3⟩:=zbo.cells H
 have HF:Hid (zir (Rs.norm x.free)=(0,false)):=L_ (by rw [hf];rfl)
 have HL:Hid (x.free.length≤1900):=L_ (by rw [hf];simp)
 have HH:=L_ h
 have HP:Hid (zid x.fm x.pages cn0=x.fm++[(x.pages,cn0)]):=L_ (zgc hn _)
 have hrm:k.room≤16384:=by unfold Tq.room;omega
 have q1:¬ k.room≤x.pages:=by omega
 have q2:IntKind.i64.wrap (x.pages+1)=x.pages+1:=by rw [IntKind.wrap_i64];omega
 obtain ⟨rm,xfl⟩:∃ rm,rm=k.room:=⟨_,rfl⟩
 have HRM:=L_ xfl
 rw [←xfl] at q1
 clear h hf hp hn hrm xfl
 go_enter Tryz.func152,Tryz.ntmps152
 go_upto_region 6 with (go_at_call 176;with_reducible refine first_any (Reads.zau (zbo.zoq H) (by have:=HL.out;omega)) (by have:=HL.out;omega) HF (zbo.zoq H) ?_;intro w1 H1 I1;have K1:=(zbo.ofRow (A:=emp) H1.ze8).right;obtain ⟨d0,d1,d2,d3⟩:=zbo.cells K1)
 go_quiet (first | (go_at_call 72;refine zyh hk K1 ?_;rw [←HRM.out];exact ⟨rfl,_,rfl⟩))
 have K2:=K1.drewN nq
 obtain ⟨b0,b1,b2,b3⟩:=zbo.cells K2
 obtain ⟨f1,f2⟩:=zbo.frozen K2
 have K3:=zbo.z9h (n:=x.pages+1) K2
 obtain ⟨g0,g1,g2,g3⟩:=zbo.cells K3
 obtain ⟨w4,e4,H4,I4⟩:=zj2 (P:=Tryz.prog) (T:=121) zt0 Tryz.underlying121 Tryz.underlying3 (zbo.zrq K3) x.pages cn0
 simp only [evC,cn0] at e4
 have q3:decide (rm≤x.pages)=false:=decide_eq_false (by omega)
 go_wp2_with fail
 have K4:=zbo.ofMap (x:=⟨x.free,x.pages+1,x.fm⟩) (k:=k) (F:=F) H4
 rw [HP.out] at K4
 exact HH.out _ K4 (((I1.drewN _).setCell _ _).trans I4)
theorem z1e (hf:x.free=[]) (hp:k.room≤x.pages) (hk:k.n≤16384) (H:Sat (zbo k sv x*F) w)
  (h:∀ w',Sat (zbo k sv x*F) w'→Io w w'→R (.returned (.tuple #[.int .i64 0,.int .i64 2])) w') :
  Calls Tryz.prog 152 #[.pointer (some ⟨k.t,0,none⟩)] w R:=by
 obtain ⟨c0,c1,c2,c3⟩:=zbo.cells H
 have HF:Hid (zir (Rs.norm x.free)=(0,false)):=L_ (by rw [hf];rfl)
 have HL:Hid (x.free.length≤1900):=L_ (by rw [hf];simp)
 have HH:=L_ h
 obtain ⟨rm,xfl⟩:∃ rm,rm=k.room:=⟨_,rfl⟩
 have HRM:=L_ xfl
 rw [←xfl] at hp
 clear h hf xfl
 go_enter Tryz.func152,Tryz.ntmps152
 go_upto_region 6 with (go_at_call 176;with_reducible refine first_any (Reads.zau (zbo.zoq H) (by have:=HL.out;omega)) (by have:=HL.out;omega) HF (zbo.zoq H) ?_;intro w1 H1 I1;have K1:=(zbo.ofRow (A:=emp) H1.ze8).right;obtain ⟨d0,d1,d2,d3⟩:=zbo.cells K1)
 go_quiet (first | (go_at_call 72;refine zyh hk K1 ?_;rw [←HRM.out];exact ⟨rfl,_,rfl⟩))
 have K2:=K1.drewN nq
 have q3:decide (rm≤x.pages)=true:=decide_eq_true hp
 go_wp2_with fail
 exact HH.out _ K2 (I1.drewN _)
theorem z7l (ok:Al.Ok k.room x) (hk:k.n≤3000) (H:Sat (zbo k sv x*F) w)
  (hfull:k.room≤2+(x.fm.length:Int)→∀ w',Sat (zbo k sv x*F) w'→Io w w'→R (.returned (.tuple #[.int .i64 0,.int .i64 2])) w')
  (h:∀ id x' sv' w',Al.Ok k.room x'→zb1 x.fm id=none→2≤id→id≤4294967295→x'.fm=x.fm++[(id,cn0)]→Sat (zbo k sv' x'*F) w'→Io w w'→R (.returned (.tuple #[.int .i64 id,.int .i64 0])) w') :
  Calls Tryz.prog 152 #[.pointer (some ⟨k.t,0,none⟩)] w R:=by
 have hrm:k.room≤3000:=by unfold Tq.room;omega
 have hh:=ok.high
 have hl:=ok.low
 cases hf:x.free with
 | cons r l =>
  have hm:Rs.Mem r.1 x.free:=by
   rw [hf]
   have hc:=ok.canon
   rw [hf] at hc
   have:=(Rs.zbh.1 hc).1
   unfold Rs.Ok at this
   exact Rs.mem_cons.2 (.inl ⟨by omega,by omega⟩)
  obtain ⟨f1,f2,f3⟩:=ok.free _ hm
  refine z1f hf ok.canon f3 (ok.flen hrm) H fun sv' w' H' I'=>h _ _ sv' w' (ok.took hm) f3 f1 (by omega) rfl H' I'
 | nil =>
  by_cases hp:x.pages<k.room
  ·refine z1d hf hp (by omega) (by omega) ok.zq8 H fun w' H' I'=>h _ _ sv w' (ok.grew hp) ok.zq8 hl (by omega) rfl H' I'
  ·exact z1e hf (by omega) (by omega) H (hfull (ok.none_left hf (by omega)))
theorem xb1 (ok:Al.Ok k.room x) (hk:k.n≤3000) {id:Int} {c:Cn} (hg:zb1 x.fm id=some c) (H:Sat (zbo k sv x*F) w)
  (h:∀ x' sv' w',Al.Ok k.room x'→x'.fm=zpz x.fm id→Sat (zbo k sv' x'*F) w'→Io w w'→R (.returned (.tuple #[])) w') :
  Calls Tryz.prog 115 #[.pointer (some ⟨k.t,0,none⟩),.int .i64 id] w R :=
 have hrm:k.room≤3000:=by unfold Tq.room;omega
 z00 hg (ok.flen hrm) H fun sv' w' H' I'=>h _ sv' w' (ok.gave hrm hg) rfl H' I'
end
end Go.Proofs.YtfknjmoekbabcaaGreatDoor
