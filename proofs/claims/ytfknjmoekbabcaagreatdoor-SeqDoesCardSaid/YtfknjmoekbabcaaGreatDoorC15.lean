/-
  A part of a proof. It proves no statement by itself.
-/
import Derived.Test.YtfknjmoekbabcaaGreatDoorC10
import Derived.Test.YtfknjmoekbabcaaGreatDoorC14
import Derived.RangeFuncNested
import Derived.RangeFuncBound
import Derived.RangeFuncCalls
import Derived.RangeFuncLeaves
import Derived.Shelf.Abstract
import Derived.Shelf.RegionOpen
import Derived.OwnWalkIn
import Derived.TacticsInMore
import Derived.LoopNIn
import Derived.LoopIn
import Derived.Maps.AppendAt
set_option linter.unusedSimpArgs false
set_option linter.unusedVariables false
set_option linter.unusedSectionVars false
set_option maxRecDepth 100000
set_option maxHeartbeats 64000000
namespace Go.Proofs.YtfknjmoekbabcaaGreatDoor
open Go.RowKit Go.Lib Go.Shelf
attribute [local go_sem] Oper.semAt_some
def zbl (W W':World):Prop:=∀ (k:Nat) (c:Array Value) (fr:Nat × Nat),W.heap[k]?=some (.cells c 119 fr)→W'.heap[k]?=some (.cells c 119 fr)
theorem zbl.trans {A B C:World} (h:zbl A B) (k:zbl B C):zbl A C:=fun i c fr hi=>k i c fr (h i c fr hi)
theorem zbl.put {w:World} (W:World) (l:Nat) (o o':Obj) (_:w.heap.size≤l) (h:W.heap[l]?=some o) (hc:o.isCells=false) (_:o.isWalk=false):zbl W (W.putObj l o'):=by
 intro k c fr hk
 have hlk:l≠k:=by
  rintro rfl
  rw [h] at hk
  cases hk
  cases hc
 exact ((grownBy_putObj' W l o').block k (Array.getElem?_eq_some_iff.1 hk).1 (fun e=>by cases e;exact hlk rfl)).trans hk
theorem zbl.xae {W W':World} {row:Option Nat} (hg:W.grownBy W' row) (hr:∀ r,row=some r→∃ c t fr,W.heap[r]?=some (.cells c t fr)∧t≠119):zbl W W':=by
 intro k c fr hk
 refine (hg.block k (Array.getElem?_eq_some_iff.1 hk).1 ?_).trans hk
 intro e
 obtain ⟨c',t,fr',h1,h2⟩:=hr k e.symm
 rw [hk] at h1
 cases h1
 exact h2 rfl
theorem zbl.alloc (W:World) (o:Obj):zbl W (W.alloc o):=zbl.xae (World.grownBy_alloc W o none) (fun r e=>by cases e)
def zks (a:Option Addr) (S:List Rn) (W:World):Prop:=∀ k (hk:k<S.length),∃ g cur,a=some ⟨g,0,none⟩∧W.heap[g]?=some (.cells cur 119 (0,0))∧cur[k*2]?=some (.int .i64 S[k].1)∧cur[k*2+1]?=some (.int .i64 S[k].2)
theorem zks.kept {a:Option Addr} {S:List Rn} {W W':World} (h:zks a S W) (hk:zbl W W'):zks a S W':=by
 intro k hlt
 obtain ⟨g,cur,h1,h2,h3⟩:=h k hlt
 exact ⟨g,cur,h1,hk g _ _ h2,h3⟩
theorem zks.zau {F:Asn} {W:World} {v:Value} {S:List Rn} (H:Sat (zen v S*F) W) (hl:S.length≤1000000):∃ a c,v=.slice a S.length c∧zks a S W:=by
 obtain ⟨hx,⟨rfl,h0,_⟩ | ⟨g,cap,cur,rfl,h2,h3,h4,h5,h⟩⟩:=za8.1 H
 ·have:S=[]:=List.eq_nil_of_length_eq_zero h0
  subst this
  exact ⟨none,0,rfl,fun k hk=>by simp at hk⟩
 ·refine ⟨_,cap,rfl,fun k hk=>⟨g,cur,rfl,h.left.at,?_,?_⟩⟩
  ·have e:=zc3 zcp S k hk 0 (by omega)
   rw [Nat.add_zero,←h5,List.getElem?_take_of_lt (by omega),Array.getElem?_toList] at e
   exact e
  ·have e:=zc3 zcp S k hk 1 (by omega)
   rw [←h5,List.getElem?_take_of_lt (by omega),Array.getElem?_toList] at e
   exact e
theorem zmw {W:World} {g:Nat} {cur:Array Value} {t:TypeId} (h:W.heap[g]?=some (.cells cur t (0,0))) (j:Nat):W.cell? ⟨g,j,none⟩=cur[j]?:=Sat.read h j
theorem all1_in (n:Nat) (hn:1≤n) (l Bn:Nat) {F:Asn} {v:Value} {rl:List Rn} (hv:zc7 F v rl) (hl:rl.length≤10000) (J Jx:List Int→World→Prop) (W:World) (hJ:AbidesFrom W.heap.size J) (hS:Sat F W)
  (hY:∀ pre x W1,J pre W1→pre.length<(Rs.elems (Rs.norm rl)).length→YieldAt Fence.wide (n - 1) Tryz.prog l #[.int .i64 x] W1 fun e W' =>
   (e=.returned (.bool true)∧J (pre++[x]) W'∧zbl W1 W')∨(e=.returned (.bool false)∧Jx (pre++[x]) W'))
  (hBn:W.cell? ⟨Bn,0,none⟩=some v) (h0:J [] W) :
  CallsIn Fence.wide n Tryz.prog 207 #[.func (.yield l) #[] #[],.pointer (some ⟨Bn,0,none⟩)] W fun e W'=>(∃ v,e=.returned v) ∧
   ((∃ ys,ys=Rs.elems (Rs.norm rl)∧J ys W')∨(∃ pre,pre <+: Rs.elems (Rs.norm rl)∧Jx pre W')):=by
 have hvW:zc7 (whole W) v rl:=hv.imp fun w' hw=>hS.keep fun k hk=>hw.was k hk
 have hc0:=Rs.zct rl
 have hnl:=Rs.zlu rl
 obtain ⟨S,hSn⟩:∃ S,Rs.norm rl=S:=⟨_,rfl⟩
 rw [hSn] at hY hc0 hnl ⊢
 have HC:=L_ hc0
 have HY:=L_ hY
 have HJ:=L_ hJ
 clear hY hJ hc0
 refine callsIn_of_wp Tryz.func207 rfl trivial ?_ rfl
 simp only [Tryz.ntmps207,List.size_toArray,List.length_cons,List.length_nil,Nat.reduceAdd,Nat.reduceSub,Array.replicate_succ,Array.replicate_zero,List.push_toArray,List.append_toArray,List.nil_append,List.cons_append]
 gi_wp2_with (refine ⟨trivial,?_⟩;gi_at_call 126;refine callsIn_wide.2 (zqs hvW hl (Sat.all W) ?_);intro v1 w1 H1 I1;rw [hSn] at H1;have hJ1:J [] w1:=HJ.out [] W w1 none h0 ⟨I1.os,I1.tape,I1.output,I1.size,fun k hk _=>H1.right.was k hk⟩ (fun r e=>by cases e);obtain ⟨a1,c1,rfl,hR1⟩:=zks.zau H1 (by omega))
 clear hvW H1 I1 h0 hBn hS hv hSn
 gi_loopw [9] (fun x wr=>∃ k:Nat,k≤S.length∧x=.int .i64 (k:Int)∧Hid (J (Rs.elems (S.take k)) wr)∧Hid (zks a1 S wr)) (fun x _=>S.length - (intOf x).toNat)
 case atStart=>exact ⟨0,by omega,rfl,L_ hJ1,L_ hR1⟩
 case round =>
  obtain ⟨k,hk,rfl,hJk,hRk⟩:=hrel
  clear hJ1 hR1
  by_cases hlt:k<S.length
  ·have zph:(k:Int)<(S.length:Int):=by omega
   obtain ⟨g,cur,rfl,hg,u0,u1⟩:=hRk.out k hlt
   obtain ⟨y0,y1,y2⟩:=HC.out.1 S[k] (List.getElem_mem hlt)
   obtain ⟨x1,x2,hx⟩:∃ x1 x2,S[k]=(x1,x2):=⟨_,_,rfl⟩
   rw [hx] at y0 y1 y2 u0 u1
   simp only [Rs.most] at y0 y1 y2
   have c0:wr.cell? ⟨g,k*2,none⟩=some (.int .i64 x1):=(zmw hg _).trans u0
   have c1':wr.cell? ⟨g,k*2+1,none⟩=some (.int .i64 x2):=(zmw hg _).trans u1
   have hJa:=L_ (HJ.out _ wr (wr.alloc (.cells #[.int .i64 x1,.int .i64 x2] 119)) none hJk.out (World.grownBy_alloc wr _ none) (fun r e=>by cases e))
   have hRa:=L_ (hRk.out.kept (zbl.alloc wr (.cells #[.int .i64 x1,.int .i64 x2] 119)))
   have hBa:=L_ (heap_alloc_new wr (.cells #[.int .i64 x1,.int .i64 x2] 119))
   have HX:=L_ hx
   clear hg u0 u1 hJk hRk hx
   gi_wp2
   clear c0 c1'
   generalize wr.alloc _=wa at *
   generalize wr.heap.size=br at *
   gi_loopw [5] (fun x wv=>∃ j:Nat,x=.int .i64 (x1+(j:Int))∧(j:Int)≤x2 - x1+1∧Hid (J (Rs.elems (S.take k)++(Rs.zfa (x1,x2)).take j) wv)∧Hid (zks (some ⟨g,0,none⟩) S wv)∧Hid (wv.heap[br]?=some (.cells #[.int .i64 x1,.int .i64 x2] 119 (0,0)))) (fun x _=>(x2+1 - intOf x).toNat)
   case atStart=>exact ⟨0,by simp,by omega,L_ (by simpa using hJa.out),hRa,hBa⟩
   case round =>
    obtain ⟨j,rfl,hj,hJj,hRj,hBj⟩:=hrel
    clear hJa hRa hBa
    have hjl:(Rs.zfa (x1,x2)).length=(x2 - x1+1).toNat:=Rs.zkd _
    have cb:wr.cell? ⟨br,1,none⟩=some (.int .i64 x2):=zmw hBj.out 1
    by_cases hle:x1+(j:Int)≤x2
    ·have htk:=Rs.zxi (x1,x2) j (by show j<(x2 - x1+1).toNat;omega)
     have hpre:=Rs.zuj S k hlt (j+1)
     rw [HX.out,htk,←List.append_assoc] at hpre
     have hlen:(Rs.elems (S.take k)++(Rs.zfa (x1,x2)).take j).length<(Rs.elems S).length:=by
      have:=hpre.length_le
      rw [List.length_append] at this
      simp only [List.length_cons,List.length_nil] at this
      omega
     obtain ⟨fn,tmps,assign,body,hy,hR⟩:=HY.out _ (x1+(j:Int)) wr hJj.out hlen
     have HP:=L_ hpre
     have HT:=L_ htk
     clear hpre htk hlen
     gi_wp2
     refine hR.mono ?_
     rintro e W3 (⟨rfl,hJ3,hk3⟩ | ⟨rfl,hJx3⟩)
     ·gi_wp2
      go_roundw
      case rel=>exact ⟨j+1,by go_num,by omega,L_ (by rw [HT.out,←List.append_assoc];exact hJ3),L_ (hRj.out.kept hk3),L_ (hk3 _ _ _ hBj.out)⟩
      case measure=>simp [intOf];omega
     ·gi_wp2
      refine bodyPost_ret (results_none rfl _ _ _) rfl ?_
      exact ⟨⟨_,rfl⟩,.inr ⟨_,HP.out,hJx3⟩⟩
    ·have hJe:=hJj.out
     have hfull:(Rs.zfa (x1,x2)).take j=Rs.zfa (x1,x2):=List.take_of_length_le (by rw [hjl];omega)
     rw [hfull,←HX.out,←Rs.zpn S k hlt] at hJe
     gi_wp2
     go_roundw
     case rel=>exact ⟨k+1,by omega,by go_num,L_ hJe,hRj⟩
     case measure=>simp [intOf];omega
  ·obtain rfl:k=S.length:=by omega
   have hge:¬ (S.length:Int)<(S.length:Int):=by omega
   have he:=hJk.out
   rw [List.take_length] at he
   gi_wp2
   go_end0
   exact ⟨⟨_,rfl⟩,.inl he⟩
theorem xgi (v:Value) (a:Option Addr) (k c:Nat) (hv:v=.slice a k c) (w:World) :
  Calls Tryz.prog 190 #[v] w fun e w'=>e=.returned (.func (.func 207) #[] #[.pointer (some ⟨w.heap.size,0,none⟩)])∧w'=w.alloc (.cells #[v] 117):=by
 subst hv
 go_enter Tryz.func190,Tryz.ntmps190
 go_wp2_with fail
 go_ret
 exact ⟨rfl,rfl⟩
theorem all_stops (n:Nat) (hn:1≤n) (Bn:Nat) {F:Asn} {v:Value} {rl:List Rn} (hv:zc7 F v rl) (hl:rl.length≤10000) (w:World) (hBn:Bn<w.heap.size) (hS:Sat F w) (hc:w.cell? ⟨Bn,0,none⟩=some v) :
  SeqStopsK Fence.wide n Tryz.prog 207 #[.pointer (some ⟨Bn,0,none⟩)] (fun x:Int=>#[Value.int .i64 x]) zbl (fun ys=>ys=Rs.elems (Rs.norm rl)) (fun pre=>pre <+: Rs.elems (Rs.norm rl)) (Rs.elems (Rs.norm rl)).length w:=fun l J Jx W hW hJ _ hY h0 =>
 all1_in n hn l Bn hv hl J Jx W hJ (hS.keep fun k hk=>hW.block k hk) hY ((hW.cell (p:=⟨Bn,0,none⟩) hBn).trans hc) h0
theorem zh8 {W W':World} {B:Nat} {t:TypeId} {v:Value} {row:Option Nat} {X:Nat} (h:Boxed W B t v) (hg:W.grownBy W' row) (hr:∀ r,row=some r→X≤r∧∃ o:Obj,W.heap[r]?=some o∧o.isCells=false):Boxed W' B t v :=
 h.kept hg (fun e=>by
  obtain ⟨_,o,h1,h2⟩:=hr B e.symm
  rw [show W.heap[B]?=_ from h] at h1
  cases h1
  cases h2)
theorem zgq {W:World} {B C:Nat} {t:TypeId} {v u:Value} (h:Boxed W B t v) (hne:B≠C):Boxed (W.setCell ⟨C,0,none⟩ u) B t v:=h.kept (grownBy_setCell' W C u) (fun e=>by cases e;exact hne rfl)
attribute [local go_sem] Oper.semAt_some
def zir:List Rn→Int × Bool
 | []=>(0,false)
 | r::_=>(r.1,true)
theorem zxd {F:Asn} {w:World} {v:Value} {rl:List Rn} (hv:zc7 F v rl) (hl:rl.length≤10000) (H:Sat F w) :
  Calls Tryz.prog 176 #[v] w fun e W'=>e=.returned (.tuple #[.int .i64 (zir (Rs.norm rl)).1,.bool (zir (Rs.norm rl)).2])∧Below w.heap.size w W':=by
 have HC:=Rs.zct rl
 obtain ⟨a,c,rfl,hm⟩:=zch hv
 refine (callsIn_wide (n:=5)).1 ?_
 refine callsIn_of_wp_marks Tryz.func176 rfl trivial ?_ rfl
 simp only [Tryz.ntmps176,List.size_toArray,List.length_cons,List.length_nil,Nat.reduceAdd,Nat.reduceSub,Array.replicate_succ,Array.replicate_zero,List.push_toArray,List.append_toArray,List.nil_append,List.cons_append]
 gi_wp2_with (refine ⟨trivial,?_⟩;gi_at_call 190;refine (callsIn_wide.2 (xgi _ a rl.length c rfl _)).mono ?_;rintro e w' ⟨rfl,rfl⟩)
 have c0:=Boxed.new w 3 (.int .i64 0)
 have c1:=Boxed.new (w.alloc (.cells #[.int .i64 0] 3)) 4 (.bool false)
 have c2:=Boxed.new ((w.alloc (.cells #[.int .i64 0] 3)).alloc (.cells #[.bool false] 4)) 117 (.slice a rl.length c)
 simp only [World.size_alloc] at c1 c2
 have hB0:Below w.heap.size w (((w.alloc (.cells #[.int .i64 0] 3)).alloc (.cells #[.bool false] 4)).alloc (.cells #[.slice a rl.length c] 117)):=(((Below.refl _ w).alloc (Nat.le_refl _) _).alloc (by simp) _).alloc (by simp;omega) _
 have HS:=(((H.alloc (.cells #[.int .i64 0] 3)).alloc (.cells #[.bool false] 4)).alloc (.cells #[.slice a rl.length c] 117))
 refine wpIn_rangeFunc_ownG rfl (by omega) (gf:=207) (lb:=#[.pointer (some ⟨w.heap.size+1+1,0,none⟩)]) rfl trivial (enters_of Tryz.func207 (by kernel_rfl) rfl)
  (all_stops (5 - 1) (by omega) (w.heap.size+1+1) hv hl _ (by simp) HS c2.cell) zbl.trans zbl.put (Below.refl _ _) (fun _=>rfl)
  (fun pre W=>(pre=[]∧Boxed W w.heap.size 3 (.int .i64 0)∧Boxed W (w.heap.size+1) 4 (.bool false))∧Below w.heap.size w W)
  (fun cd pre W=>(cd=.ret∧∃ x,pre=[x]∧Boxed W w.heap.size 3 (.int .i64 x)∧Boxed W (w.heap.size+1) 4 (.bool true))∧Below w.heap.size w W)
  (OwnFrom.and (fun s A B row hs hg hr=>⟨hs.1,zh8 hs.2.1 hg hr,zh8 hs.2.2 hg hr⟩) (ownFrom_below (Nat.le_refl _) (by simp;omega)))
  (fun cd=>OwnFrom.and (fun s A B row hs hg hr=>by obtain ⟨h1,x,h2,h3,h4⟩:=hs;exact ⟨h1,x,h2,zh8 h3 hg hr,zh8 h4 hg hr⟩) (ownFrom_below (Nat.le_refl _) (by simp;omega)))
  ⟨⟨rfl,(c0.alloc _).alloc _,c1.alloc _⟩,hB0⟩
  (fun x=>{ tmps:=#[.slice a rl.length c,undef,.pointer (some ⟨w.heap.size,0,none⟩),.pointer (some ⟨w.heap.size+1,0,none⟩),.int .i64 x,.slice a rl.length c,.func (.func 207) #[] #[.pointer (some ⟨w.heap.size+1+1,0,none⟩)],.int .i64 x,undef],defers:=[] }) ?assign ?body ?done ?stop
 case assign =>
  intro l x W K hK
  gi_wp2
  exact hK
 case body =>
  rintro l pre x W ⟨⟨rfl,b0,b1⟩,hB⟩ _
  have q0:=b0.cell
  have q1:=b1.cell
  have f0:=b0.frozen
  have f1:=b1.frozen
  gi_wp2
  exact ⟨((KeepsOthers.setCell W ⟨w.heap.size,0,none⟩ (.int .i64 x)).trans (KeepsOthers.setCell _ ⟨w.heap.size+1,0,none⟩ (.bool true))).from _,⟨rfl,x,rfl,zgq (b0.set _) (by omega),(zgq b1 (by omega)).set _⟩,(hB.setCell (p:=⟨w.heap.size,0,none⟩) (Nat.le_refl _) _).setCell (p:=⟨w.heap.size+1,0,none⟩) (by simp) _⟩
 case done =>
  rintro D ys W hD rfl ⟨⟨he,b0,b1⟩,hB⟩ hK
  have hn:=Rs.z6b HC he
  have q0:=b0.cell
  have q1:=b1.cell
  have f0:=b0.frozen
  have f1:=b1.frozen
  gi_wp2
  have hD':w.heap.size+2<D:=by simp at hD;omega
  have hK':=((KeepsOthers.setCell W ⟨w.heap.size,0,none⟩ (.int .i64 0)).trans (KeepsOthers.setCell _ ⟨w.heap.size+1,0,none⟩ (.bool false))).same D _ hK rfl
  have e0:Boxed _ w.heap.size 3 (.int .i64 0):=zgq (C:=w.heap.size+1) (u:=.bool false) (b0.set (.int .i64 0)) (by omega)
  have e1:Boxed _ (w.heap.size+1) 4 (.bool false):=(zgq (C:=w.heap.size) (u:=.int .i64 0) b1 (by omega)).set (.bool false)
  have z0:=(e0.kept (grownBy_putObj' _ D (.deferred none)) (fun e=>by cases e;omega)).cell
  have z1:=(e1.kept (grownBy_putObj' _ D (.deferred none)) (fun e=>by cases e;omega)).cell
  refine ⟨by simp,.inl ⟨_,_,rfl,run_takeDeferred hK',?_⟩⟩
  refine ⟨.tuple #[.int .i64 0,.bool false],?_,by rw [hn];rfl,((hB.setCell (p:=⟨w.heap.size,0,none⟩) (Nat.le_refl _) _).setCell (p:=⟨w.heap.size+1,0,none⟩) (by simp) _).trans (belowK_b (w:=w) (Nat.le_refl _) _ D _ _ (by omega) hK' rfl rfl)⟩
  simp [results,Tryz.results176,go_sem,z0,z1]
 case stop =>
  rintro D cd pre W hD hpre ⟨⟨rfl,x,rfl,b0,b1⟩,hB⟩ hK
  gi_wp2
  have hD':w.heap.size+2<D:=by simp at hD;omega
  have z0:=(b0.kept (grownBy_putObj' _ D (.deferred none)) (fun e=>by cases e;omega)).cell
  have z1:=(b1.kept (grownBy_putObj' _ D (.deferred none)) (fun e=>by cases e;omega)).cell
  have hf:zir (Rs.norm rl)=(x,true):=by
   cases hS:Rs.norm rl with
   | nil=>rw [hS] at hpre;have:=hpre.length_le;simp [Rs.elems] at this
   | cons r t =>
    rw [hS] at hpre HC
    obtain ⟨u,hu⟩:=Rs.z0x HC
    rw [hu] at hpre
    obtain ⟨t',ht⟩:=hpre
    simp at ht
    rw [ht.1]
    rfl
  refine ⟨by simp,.inl ⟨_,_,rfl,run_takeDeferred hK,?_⟩⟩
  refine ⟨.tuple #[.int .i64 x,.bool true],?_,by rw [hf],hB.trans (belowK_b (w:=w) (Nat.le_refl _) W D _ _ (by omega) hK rfl rfl)⟩
  simp [results,Tryz.results176,go_sem,z0,z1]
theorem first_any {F:Asn} {w:World} {R:Ending→World→Prop} {v:Value} {rl:List Rn} (hv:zc7 F v rl) (hl:rl.length≤10000) {f:Int} {d:Bool} (hf:Hid (zir (Rs.norm rl)=(f,d))) (H:Sat F w) (h:∀ w',Sat F w'→Io w w'→R (.returned (.tuple #[.int .i64 f,.bool d])) w') :
  Calls Tryz.prog 176 #[v] w R:=by
 refine (zxd hv hl H).mono ?_
 rintro e w' ⟨rfl,hb⟩
 rw [hf.out]
 exact h w' (H.keep fun k hk=>hb.block k hk) ⟨hb.os,hb.tape,hb.output,hb.size⟩
end Go.Proofs.YtfknjmoekbabcaaGreatDoor
