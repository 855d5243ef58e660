/-
  A part of a proof. It proves no statement by itself.
-/
import Derived.Test.YtfknjmoekbabcaaGreatDoorC09
import Derived.Test.YtfknjmoekbabcaaGreatDoorEShelf
import Derived.Shelf.SlSortCmp.WholeK
import Derived.Shelf.SlSortCmp.NoneTotal
import Derived.Test.YtfknjmoekbabcaaGreatDoorC04
set_option linter.unusedSimpArgs false
set_option linter.unusedVariables false
set_option linter.unusedSectionVars false
set_option maxRecDepth 100000
set_option maxHeartbeats 64000000
namespace Go.Proofs.YtfknjmoekbabcaaGreatDoor
open Go.RowKit Go.Sort Go.Shelf Go.Lib
def cmpR (a b:Rn):Int:=Lib.compareInt a.1 b.1
theorem zop (x y:Int):(Lib.compareInt x y<0↔x<y)∧(Lib.compareInt x y=0↔x=y)∧(0<Lib.compareInt x y↔y<x):=by
 unfold Lib.compareInt
 refine ⟨?_,?_,?_⟩<;>(split<;>(try split)<;>simp<;>omega)
section
variable {F:Asn} {w:World} {R:Ending→World→Prop}
theorem zxm (x y:Int) (h:R (.returned (.int .i64 (Lib.compareInt x y))) w):Calls Tryz.prog 159 #[.int .i64 x,.int .i64 y] w R:=by
 have hcon:=AnyG.cmp_Compare_int Tryz.cmpIntF x y w
 change Calls Tryz.prog 159 _ _ _ at hcon
 refine hcon.mono ?_
 rintro e w' ⟨rfl,rfl⟩
 exact h
theorem zxx (W:World) (A B:Obj):(W.alloc A).alloc B=Go.Sort.grow (W.drewN 0) #[A,B]:=by
 rw [Go.Sort.alloc_eq_grow,Go.Sort.alloc_eq_grow,Go.Sort.grow_grow]
 rfl
theorem z06 (a b:Rn) (W:World):Calls Tryz.prog 158 #[.agg #[.int .i64 a.1,.int .i64 a.2],.agg #[.int .i64 b.1,.int .i64 b.2]] W fun e w'=>e=.returned (.int .i64 (cmpR a b))∧∃ q os',w'=Go.Sort.grow (W.drewN q) os':=by
 obtain ⟨z,hz⟩:∃ z,Hid (z=Lib.compareInt a.1 b.1):=⟨_,L_ rfl⟩
 have e:cmpR a b=z:=hz.out.symm
 rw [e]
 clear e
 obtain ⟨a1,a2⟩:=a
 obtain ⟨b1,b2⟩:=b
 have WW:=L_ (zxx W (.cells #[.int .i64 a1,.int .i64 a2] 119) (.cells #[.int .i64 b1,.int .i64 b2] 119))
 go_enter Tryz.func158,Tryz.ntmps158
 go_wp2_with (go_at_call 159;with_reducible refine zxm a1 b1 ?_;rw [←hz.out])
 go_ret
 exact ⟨rfl,0,_,WW.out⟩
theorem zqy (a b:Rn):ltOf cmpR a b=decide (a.1<b.1):=by
 unfold ltOf
 rw [decide_eq_decide]
 exact (zop a.1 b.1).1
theorem z9b:Go.Sort.SWO (ltOf cmpR) where
 irrefl x:=by rw [zqy];simp
 trans x y z h1 h2:=by rw [zqy] at *;simp at *;omega
 ntrans x y z h1 h2:=by rw [zqy] at *;simp at *;omega
theorem z6m (blk off size:Nat) (w:World):CmpLays Tryz.prog 158 #[] encR 2 cmpR blk off size w:=fun _ _ _ _ x y=>z06 x y _
end
theorem zua (l:List Rn) (j:Nat) (h:j<l.length*2):(cellsOf encR l)[j]?=some (flatK encR 2 l.toArray)[j]!:=by
 rw [get_flatK _ _ _ _ (by simpa using h)]
 have hk:j / 2<l.length:=by omega
 have e:(l.toArray)[j / 2]! = l[j / 2]:=by simp [hk]
 rw [e]
 have hg:=zc3 zcp l (j / 2) hk (j % 2) (by omega)
 have hj:j / 2*2+j % 2=j:=by omega
 rw [hj] at hg
 rw [hg]
 have hm:j % 2<(encR l[j / 2]).length:=by rw [zcp.len];omega
 rw [List.getElem?_eq_getElem hm,getElem!_pos (encR l[j / 2]) _ hm]
section
variable {F:Asn} {w:World} {R:Ending→World→Prop} {g c:Nat} {l:List Rn}
theorem zz4 (H:Sat (Row 119 2 (.slice (some ⟨g,0,none⟩) l.length c) l.length (cellsOf encR l)*F) w):g<w.heap.size∧HoldsK encR 2 w g 0 l.toArray:=by
 obtain ⟨hl,⟨h0,_⟩ | ⟨g',cap,cur,e1,e2,e3,e4,e5,h⟩⟩:=za8.1 H
 ·cases h0
 ·cases e1
  refine ⟨h.left.lt,fun j hj=>⟨?_,Sat.free h.left.at _⟩⟩
  have hj':j<l.length*2:=by simpa using hj
  rw [Nat.zero_add,Sat.read h.left.at j,←Array.getElem?_toList,←List.getElem?_take_of_lt hj',e5,zua l j hj']
  rfl
theorem zwc {n:Nat} {os:Array Obj} {l':List Rn} (hs:l'.length=l.length) (H:Sat (Row 119 2 (.slice (some ⟨g,0,none⟩) l.length c) l.length (cellsOf encR l)*F) w) :
  Sat (Row 119 2 (.slice (some ⟨g,0,none⟩) l.length c) l.length (cellsOf encR l')*F) (sortWorldK encR 2 w g 0 n l'.toArray os)∧Io w (sortWorldK encR 2 w g 0 n l'.toArray os):=by
 obtain ⟨hl,⟨h0,_⟩ | ⟨g',cap,cur,e1,e2,e3,e4,e5,h⟩⟩:=za8.1 H
 ·cases h0
 ·cases e1
  have hb:=h.left.at
  have hsz:(sortWorldK encR 2 w g 0 n l'.toArray os).heap.size=w.heap.size+os.size:=by simp [sortWorldK,putRowK,putRow,mapBlock,ahead]
  refine ⟨za8.2 ⟨by rw [cellsOf_length zcp,hs],.inr ⟨g,c,putCells id 0 (flatK encR 2 l'.toArray) cur,rfl,e2,e3,by simpa [putCells] using e4,?_,h.set ?_ ?_⟩⟩,⟨rfl,rfl,rfl,by omega⟩⟩
  ·apply List.ext_getElem?
   intro j
   by_cases hj:j<l.length*2
   ·have hc:j<cur.size:=by rw [e4];have:=Nat.mul_le_mul_right 2 e2;omega
    rw [List.getElem?_take_of_lt hj,Array.getElem?_toList]
    rw [zua l' j (by omega)]
    simp [putCells,hc,hs]
    omega
   ·rw [List.getElem?_eq_none (by rw [List.length_take];omega),List.getElem?_eq_none (by rw [cellsOf_length zcp];omega)]
  ·have hlt:g<w.heap.size:=h.left.lt
   simp only [sortWorldK,putRowK,putRow,mapBlock,ahead,grow,Array.getElem?_append,Array.size_modify,if_true,Array.getElem?_modify]
   rw [if_pos (show g<(Go.Sort.ahead w n).heap.size from hlt)]
   show Option.map _ w.heap[g]?=_
   rw [hb]
   rfl
  ·intro k hk hne
   simp only [sortWorldK,putRowK,putRow,mapBlock,ahead,grow,Array.getElem?_append,Array.size_modify,Array.getElem?_modify,if_neg (Ne.symm hne)]
   rw [if_pos (show k<(Go.Sort.ahead w n).heap.size from hk)]
   rfl
theorem zsm {v:Value} (H:Sat (zen v l*F) w) (hl:l.length≤1000000)
  (h:∀ l' w',l'.Perm l→l'.Pairwise (fun a b=>a.1≤b.1)→Sat (zen v l'*F) w'→Io w w'→R (.returned (.tuple #[])) w') :
  Calls Tryz.prog 157 #[v,.func (.func 158) #[] #[]] w R:=by
 by_cases h0:l.length=0
 ·obtain rfl:l=[]:=List.eq_nil_of_length_eq_zero h0
  obtain ⟨a,c,rfl,_⟩:=zch (Reads.zau H hl)
  have hcon:=AnyF.slices_SortFunc_none Tryz.sortRuns a c (.func (.func 158) #[] #[]) w
  change Calls Tryz.prog 157 _ _ _ at hcon
  refine hcon.mono ?_
  rintro e w' ⟨rfl,rfl⟩
  exact h [] _ (List.Perm.refl _) List.Pairwise.nil H (Io.refl _)
 ·obtain ⟨g,c,rfl⟩:=zd5 H (by omega)
  obtain ⟨lg,hH⟩:=zz4 H
  have eg:∀ args w,(callFunc 158 args).run Tryz.prog w=.ok (.enter 158 args) w:=enters_of Tryz.func158 (by kernel_rfl) rfl
  have hcon:=AnyQ.slices_SortFunc Tryz.sortRuns 2 Tryz.isAgg119 Tryz.sizeOf119 encR (fun _=>rfl) (fun x v hv=>by simp [encR] at hv;rcases hv with rfl | rfl<;>rfl) cmpR z9b 158 #[] g 0 c l.toArray w eg (z6m g 0 l.toArray.size w) hH lg (by simp;omega)
  change Calls Tryz.prog 157 _ _ _ at hcon
  rw [List.size_toArray] at hcon
  refine hcon.mono ?_
  rintro e w' ⟨rfl,d',n,os,hp,hs,rfl⟩
  obtain ⟨p1,_,p3⟩:=hp
  have hsz:d'.toList.length=l.length:=by simpa using p1
  have hperm:d'.toList.Perm l:=by
   have:(d'.extract 0 l.length).toList=d'.toList:=by rw [Array.toList_extract];simp only [List.extract,List.drop_zero,Nat.sub_zero];exact List.take_of_length_le (by omega)
   have e2:(l.toArray.extract 0 l.length).toList=l:=by simp
   rw [this,e2] at p3
   exact p3
  have hw:d'.toList.Pairwise (fun a b=>a.1≤b.1):=by
   rw [List.pairwise_iff_getElem]
   intro i j hi hj hij
   have:=hs i j (Nat.zero_le _) hij (by omega)
   rw [zqy,getElem!_pos d' j (by simpa using hj),getElem!_pos d' i (by simpa using hi)] at this
   simpa using this
  obtain ⟨s1,s2⟩:=zwc (n:=n) (os:=os) hsz H
  refine h d'.toList _ hperm hw (s1.of_eq ?_) s2
  unfold zen RowOf
  rw [hsz]
end
end Go.Proofs.YtfknjmoekbabcaaGreatDoor
namespace Go.Proofs.YtfknjmoekbabcaaGreatDoor
open Go.RowKit Go.Lib
theorem zxs (o:List Rn) (c:Rn) (m:Int):(cellsOf encR (o++[c])).set (o.length*2+1) (.int .i64 m)=cellsOf encR (o++[(c.1,m)]):=by
 have hl:(cellsOf encR o).length=o.length*2:=cellsOf_length zcp o
 rw [zbc,zbc,List.set_append_right _ _ (by omega),hl,show o.length*2+1 - o.length*2=1 from by omega]
 rfl
section
variable {F:Asn} {w:World} {R:Ending→World→Prop} {l m:List Rn} {v u:Value}
theorem zqs (hv:zc7 F v l) (hl:l.length≤10000) (H:Sat F w) (h:∀ v' w',Sat (zen v' (Rs.norm l)*F) w'→Io w w'→R (.returned v') w') :
  Calls Tryz.prog 126 #[v] w R:=by
 obtain ⟨a,c,rfl,hm⟩:=zch hv
 have HV:=L_ (fun k hk=>zj4 hv k hk)
 have HH:=L_ h
 clear h hv
 go_enter Tryz.func126,Tryz.ntmps126
 go_wp2_with fail
 go_loopw [3,12] (fun y x wr=>∃ (k:Nat) (o:List Rn),k≤l.length∧x=.int .i64 (k:Int)∧Hid (Rs.zjq (l.take k)=o)∧Sat (zen y o*F) wr∧Io w wr) (fun _ x _=>l.length - (intOf x).toNat)
 case atStart=>exact ⟨0,[],by omega,rfl,L_ rfl,zlr H,Io.refl _⟩
 case round =>
  obtain ⟨k,o,hk,rfl,hs,Hk,Ik⟩:=hrel
  have ol:o.length≤10000:=by
   have:=Rs.z6n (l.take k)
   rw [hs.out,List.length_take] at this
   omega
  have OL:=L_ ol
  clear ol
  by_cases hlt:k<l.length
  ·have zph:(k:Int)<(l.length:Int):=by omega
   obtain ⟨b,off,x1,x2,rfl,hx,hc⟩:=HV.out k hlt
   obtain ⟨c0,c1⟩:=hc wr Hk.right
   have hs':=Rs.z07 l k hlt
   rw [hs.out,hx] at hs'
   obtain ⟨m1,k1⟩:∃ m,max x1 0=m:=⟨_,rfl⟩
   obtain ⟨m2,k2⟩:∃ m,min x2 4294967295=m:=⟨_,rfl⟩
   have kc:Rs.clip (x1,x2)=(m1,m2):=by rw [←k1,←k2];rfl
   rw [kc] at hs'
   have HB:=Hk.alloc (.cells #[.int .i64 m1,.int .i64 m2] 119)
   have IB:=Ik.alloc (.cells #[.int .i64 m1,.int .i64 m2] 119)
   clear hc hx hs kc
   by_cases hok:m1≤m2
   ·have HS:Hid (Rs.zjq (l.take (k+1))=o++[(m1,m2)]):=L_ (by rw [hs',if_pos hok])
    clear hs'
    go_wp2_with (at_builtin;refine zat Tryz.xdh zcp rfl (.tmp 28) (.tmp 30) rfl rfl HB (by have:=OL.out;omega) (m1,m2) rfl (by simp) ?_;intro v3 w3 H3 I3)
    go_roundw
    case rel=>exact ⟨k+1,_,by omega,by go_num,HS,H3,IB.trans I3⟩
    case measure=>simp [intOf];omega
   ·have HS:Hid (Rs.zjq (l.take (k+1))=o):=L_ (by rw [hs',if_neg hok])
    clear hs'
    go_wp2_with fail
    go_roundw
    case rel=>exact ⟨k+1,o,by omega,by go_num,HS,HB,IB⟩
    case measure=>simp [intOf];omega
  ·obtain rfl:k=l.length:=by omega
   have hge:¬ (l.length:Int)<(l.length:Int):=by omega
   have he:Rs.zjq l=o:=by rw [←hs.out,List.take_length]
   have hoks:Hid (∀ r∈o,Rs.Ok r):=L_ (by rw [←he];exact Rs.zy9 l)
   have HE:=L_ he
   clear HV he hs
   obtain ⟨sa,sc,rfl,sm⟩:=zch (Reads.zau Hk (by have:=OL.out;omega))
   go_wp2_with (go_at_call 157;with_reducible refine zsm Hk (by have:=OL.out;omega) ?_;intro s w2 hp hw H2 I2;have hpl:=hp.length_eq;rw [←hpl] at H2 ⊢;have sm2:(s.length:Int)≤9223372036854775807:=(by rw [hpl];exact sm))
   have hsl:s.length≤10000:=by have:=hp.length_eq;have:=OL.out;omega
   have hnorm:Hid (s.foldl Rs.zfs []=Rs.norm l):=L_ (Rs.z3n l s (by rw [HE.out];exact hp) hw)
   have hsok:Hid (∀ r∈s,Rs.Ok r):=L_ (fun r hr=>hoks.out r (hp.mem_iff.1 hr))
   have HW:=L_ hw
   have rs:=Reads.zau H2 (by omega)
   have HSV:=L_ (fun k hk=>zj4 rs k hk)
   have I02:=Ik.trans I2
   clear rs hp hw hoks HE OL Hk Ik I2
   go_loopw [6,37] (fun y x wr=>∃ (k:Nat) (o:List Rn),k≤s.length∧x=.int .i64 (k:Int)∧Hid ((s.take k).foldl Rs.zfs []=o)∧Sat (zen y o*(zen (.slice sa s.length sc) s*F)) wr∧Io w wr) (fun _ x _=>s.length - (intOf x).toNat)
   case atStart=>exact ⟨0,[],by omega,rfl,L_ rfl,zlr H2,I02⟩
   case round =>
    obtain ⟨k,o,hk,rfl,hs,Hk,Ik⟩:=hrel
    clear H2 I02
    by_cases hlt:k<s.length
    ·have zph:(k:Int)<(s.length:Int):=by omega
     obtain ⟨b,off,x1,x2,rfl,hx,hc⟩:=HSV.out k hlt
     obtain ⟨c0,c1⟩:=hc wr Hk.right
     obtain ⟨z0,z1,z2⟩:=hsok.out s[k] (List.getElem_mem hlt)
     rw [hx] at z0 z1 z2
     simp only [Rs.most] at z0 z1 z2
     have ol:o.length≤10000:=by
      have:=Rs.ztn (s.take k) []
      rw [hs.out,List.length_take] at this
      simp at this
      omega
     have OL:=L_ ol
     have hcan:Rs.Canon o:=by rw [←hs.out];exact Rs.zwx hsok.out HW.out k
     have hs':(s.take (k+1)).foldl Rs.zfs []=Rs.zfs o (x1,x2):=by rw [Rs.zt7 _ _ _ _ hlt,hs.out,hx]
     have HB:=(Hk.new (.cells #[.int .i64 x1,.int .i64 x2] 119)).of_eq (show _=zen u6 o*(pts wr.heap.size (.cells #[.int .i64 x1,.int .i64 x2] 119 (0,0))*(zen (.slice (some ⟨b,off,none⟩) s.length sc) s*F)) from by ac_rfl)
     have IB:=io1 HB Ik
     clear hc hx hs ol HSV
     rcases List.eq_nil_or_concat o with rfl | ⟨o2,cc,rfl⟩
     ·have HS:Hid ((s.take (k+1)).foldl Rs.zfs []=[(x1,x2)]):=L_ hs'
      clear hs' hcan
      obtain ⟨ra,rc,rfl,_⟩:=zch (Reads.zau HB (by simp))
      have Hn:=fun n=>HB.drewN n
      have In:=fun n=>IB.drewN n
      obtain ⟨e0,e1⟩:=zby HB.right
      go_wp2_with fail
      go_quiet (fail)
      go_wp2_with (at_builtin;refine zat Tryz.xdh zcp rfl (.tmp 71) (.tmp 73) rfl rfl (Hn _) (by simp) (x1,x2) rfl (by simp) ?_;intro v3 w3 H3 I3)
      go_roundw
      case rel=>exact ⟨k+1,[(x1,x2)],by omega,by go_num,HS,H3.mid,(In _).trans I3⟩
      case measure=>simp [intOf];omega
     ·rw [List.concat_eq_append] at *
      obtain ⟨p1,p2⟩:=cc
      obtain ⟨w0,w1',w2'⟩:=(Rs.zbh.1 (Rs.zfc.1 hcan).2.1).1
      simp only [Rs.most] at w0 w1' w2'
      obtain ⟨g,rc,rfl⟩:=zd5 HB (by simp)
      rw [Rs.zj6] at hs'
      simp only at hs'
      have hlast:(o2++[(p1,p2)]).length=o2.length+1:=by simp
      unfold zen RowOf at HB
      rw [hlast] at HB ⊢
      generalize hq:o2.length=q at *
      have hq1:(q:Int)<((q+1:Nat):Int):=by omega
      have hq0:(0:Int)≤(q:Int):=by omega
      have hsub:(q:Int)+1 - 1=(q:Int):=by omega
      have hqp:(0:Int)<(q:Int)+1:=by omega
      have hql:q≤10000:=by have:=OL.out;simp at this;omega
      have hcl2:(cellsOf encR o2).length=q*2:=by rw [cellsOf_length zcp,hq]
      have d0:=zi6 HB (q*2) (.int .i64 p1) (by rw [zbc,List.getElem?_append_right (by omega),hcl2,Nat.sub_self];rfl)
      have d1:=zi6 HB (q*2+1) (.int .i64 p2) (by rw [zbc,List.getElem?_append_right (by omega),hcl2,show q*2+1 - q*2=1 from by omega];rfl)
      have fz:=z9s HB (q*2+1)
      have Hn:=fun n=>HB.drewN n
      have In:=fun n=>IB.drewN n
      obtain ⟨e0,e1⟩:=zby HB.right
      have HCL:=L_ hcl2
      clear hcan hcl2
      by_cases hj:x1≤p2+1
      ·obtain ⟨mm,hmm⟩:∃ m,max p2 x2=m:=⟨_,rfl⟩
       have HS:Hid ((s.take (k+1)).foldl Rs.zfs []=o2++[(p1,mm)]):=L_ (by rw [hs',if_pos hj,hmm])
       have X:=fun n=>(zsw (Hn n) (q*2+1) (.int .i64 mm)).of_eq (show _=zen (.slice (some ⟨g,0,none⟩) (q+1) rc) (o2++[(p1,mm)])*(pts wr.heap.size (.cells #[.int .i64 x1,.int .i64 x2] 119 (0,0))*(zen (.slice (some ⟨b,off,none⟩) s.length sc) s*F)) from by
        have hl3:(o2++[(p1,mm)]).length=q+1:=by simp [hq]
        unfold zen RowOf
        rw [hl3,←hq,zxs])
       clear hs'
       go_wp2_with fail
       go_quiet (fail)
       go_wp2_with fail
       go_region
       go_wp2_with fail
       go_roundw
       case rel=>exact ⟨k+1,_,by omega,by go_num,HS,(X _).mid,(In _).setCell _ _⟩
       case measure=>simp [intOf];omega
      ·have HS:Hid ((s.take (k+1)).foldl Rs.zfs []=o2++[(p1,p2)]++[(x1,x2)]):=L_ (by rw [hs',if_neg hj])
       have X:=fun n=>(Hn n).of_eq (show _=zen (.slice (some ⟨g,0,none⟩) (q+1) rc) (o2++[(p1,p2)])*(pts wr.heap.size (.cells #[.int .i64 x1,.int .i64 x2] 119 (0,0))*(zen (.slice (some ⟨b,off,none⟩) s.length sc) s*F)) from by
        have hl3:(o2++[(p1,p2)]).length=q+1:=by simp [hq]
        unfold zen RowOf
        rw [hl3])
       clear hs'
       go_wp2_with fail
       go_quiet (fail)
       go_wp2_with (at_builtin;refine zat Tryz.xdh zcp rfl (.tmp 71) (.tmp 73) rfl rfl (X _) (by have:=OL.out;omega) (x1,x2) rfl (by simp) ?_;intro v3 w3 H3 I3)
       go_roundw
       case rel=>exact ⟨k+1,_,by omega,by go_num,HS,H3.mid,(In _).trans I3⟩
       case measure=>simp [intOf];omega
    ·obtain rfl:k=s.length:=by omega
     have hge:¬ (s.length:Int)<(s.length:Int):=by omega
     have he:Hid (Rs.norm l=o):=L_ (by rw [←hnorm.out,←hs.out,List.take_length])
     clear HSV
     go_wp2_with fail
     refine HH.out _ _ ?_ Ik
     rw [he.out]
     exact Hk.mid
end
section
variable {F:Asn} {w:World} {R:Ending→World→Prop} {l m:List Rn} {v u:Value}
theorem zls (hv:zc7 F v l) (hl:l.length≤10000) (H:Sat F w) (h:∀ v' w',Sat (zen v' (Rs.rest l)*F) w'→Io w w'→R (.returned v') w') :
  Calls Tryz.prog 98 #[v] w R:=by
 have HH:=L_ h
 have HC:=L_ (Rs.zct l)
 have hnl:=Rs.zlu l
 have hn2:Hid (Rs.rest l=Rs.rend ((Rs.norm l).foldl Rs.zf3 ([],0))):=L_ rfl
 clear h
 go_enter Tryz.func98,Tryz.ntmps98
 go_wp2_with (go_at_call 126;with_reducible refine zqs hv hl H ?_;intro v1 w1 H1 I1;obtain ⟨a,c,rfl,hm⟩:=zch (Reads.zau H1 (by omega)))
 have rv:=Reads.zau H1 (by omega)
 generalize Rs.norm l=S at *
 have HV:=L_ (fun k hk=>zj4 rv k hk)
 clear rv hv
 go_loopw [3,4,10] (fun y z x wr=>∃ (k:Nat) (o:List Rn) (f:Int),k≤S.length∧x=.int .i64 (k:Int)∧z=.int .i64 f∧Hid ((S.take k).foldl Rs.zf3 ([],0)=(o,f))∧Sat (zen y o*(zen (.slice a S.length c) S*F)) wr∧Io w wr) (fun _ _ x _=>S.length - (intOf x).toNat)
 case atStart=>exact ⟨0,[],0,by omega,rfl,rfl,L_ rfl,zlr H1,I1⟩
 case round =>
  obtain ⟨k,o,f,hk,rfl,rfl,hs,Hk,Ik⟩:=hrel
  clear H1 I1
  have hf:=Rs.zo4 (S.take k) ([],0) (fun r hr=>HC.out.1 r (List.mem_of_mem_take hr)) ⟨Int.le_refl _,by decide⟩
  rw [hs.out] at hf
  simp only [Rs.most] at hf
  obtain ⟨f0,f1⟩:=hf
  have ol:o.length≤10000:=by
   have:=Rs.zs5 (S.take k) ([],0)
   rw [hs.out,List.length_take] at this
   simp at this
   omega
  have OL:=L_ ol
  clear ol
  by_cases hlt:k<S.length
  ·have zph:(k:Int)<(S.length:Int):=by omega
   obtain ⟨b,off,x1,x2,rfl,hx,hc⟩:=HV.out k hlt
   obtain ⟨c0,c1⟩:=hc wr Hk.right
   obtain ⟨y0,y1,y2⟩:=HC.out.1 S[k] (List.getElem_mem hlt)
   rw [hx] at y0 y1 y2
   simp only [Rs.most] at y0 y1 y2
   have hs':(S.take (k+1)).foldl Rs.zf3 ([],0)=Rs.zf3 (o,f) (x1,x2):=by rw [Rs.zt7 _ _ _ _ hlt,hs.out,hx]
   have HB:=(Hk.new (.cells #[.int .i64 x1,.int .i64 x2] 119)).of_eq (show _=zen u3 o*(pts wr.heap.size (.cells #[.int .i64 x1,.int .i64 x2] 119 (0,0))*(zen (.slice (some ⟨b,off,none⟩) S.length c) S*F)) from by ac_rfl)
   have IB:=io1 HB Ik
   clear hc hx hs
   by_cases hj:f<x1
   ·have HS:Hid ((S.take (k+1)).foldl Rs.zf3 ([],0)=(o++[(f,x1 - 1)],x2+1)):=L_ (by rw [hs'];unfold Rs.zf3;simp only [if_pos hj])
    clear hs'
    go_wp2_with (at_builtin;refine zat Tryz.xdh zcp rfl (.tmp 18) (.tmp 24) rfl rfl HB (by have:=OL.out;omega) (f,x1 - 1) rfl (by simp) ?_;intro v3 w3 H3 I3;obtain ⟨q0,q1⟩:=zby H3.right)
    go_roundw
    case rel=>exact ⟨k+1,_,x2+1,by omega,by go_num,by go_num,HS,H3.mid,IB.trans I3⟩
    case measure=>simp [intOf];omega
   ·have HS:Hid ((S.take (k+1)).foldl Rs.zf3 ([],0)=(o,x2+1)):=L_ (by rw [hs'];unfold Rs.zf3;simp only [if_neg hj])
    clear hs'
    go_wp2_with fail
    go_roundw
    case rel=>exact ⟨k+1,o,x2+1,by omega,by go_num,by go_num,HS,HB.mid,IB⟩
    case measure=>simp [intOf];omega
  ·obtain rfl:k=S.length:=by omega
   have hge:¬ (S.length:Int)<(S.length:Int):=by omega
   have he:Rs.rest l=Rs.rend (o,f):=by rw [hn2.out,←hs.out,List.take_length]
   clear HV
   by_cases hj:f≤4294967295
   ·have he2:Hid (Rs.rest l=o++[(f,4294967295)]):=L_ (he.trans (by unfold Rs.rend;rw [if_pos (show ((o,f):List Rn × Int).2≤Rs.most from hj)];rfl))
    clear he
    go_wp2_with (at_builtin;refine zat Tryz.xdh zcp rfl (.tmp 32) (.tmp 35) rfl rfl Hk (by have:=OL.out;omega) (f,4294967295) rfl rfl ?_;intro v3 w3 H3 I3)
    refine HH.out _ _ ?_ (Ik.trans I3)
    rw [he2.out]
    exact H3.mid
   ·have he2:Hid (Rs.rest l=o):=L_ (he.trans (by unfold Rs.rend;rw [if_neg (show ¬ ((o,f):List Rn × Int).2≤Rs.most from hj)]))
    clear he
    go_wp2_with fail
    refine HH.out _ _ ?_ Ik
    rw [he2.out]
    exact Hk.mid
end
section
variable {F:Asn} {w:World} {R:Ending→World→Prop} {l m:List Rn} {v u:Value}
theorem ze5 {P:Program} {e t tn ty:TypeId} {i:TypeInfo} {z:Value} {kn:IntKind} {sz bytes:Nat} (ht:P.underlying t=some (.slice e)) (htn:P.underlying tn=some (.int kn)) (hi:P.info? e=some i) (hz:i.zero=some z) (hs:i.size=sz) (hb:i.bytes=bytes) (hzs:z.cells.size=sz) (h0:0<sz)
  {G:Asn} (HG:Sat G w) (m:Nat) (hm:0<m) (h63:m≤maxLen) (hbytes:m*bytes≤140737488355328) (kq:IntKind) :
  ∃ g' c' w',(Builtin.append_ #[t,tn] ty #[.slice none 0 0,.int kq (m:Int)]).run P w=.ok (.slice (some ⟨g',0,none⟩) m c') w'∧Sat (Row e sz (.slice (some ⟨g',0,none⟩) m c') m (Builtin.zeroCells z.cells m).toList*G) w'∧Io w w':=by
 subst hs
 subst hb
 have hsmall:m≤9223372036854775807:=by simp only [maxLen] at h63;omega
 have hold:(Builtin.firstCells i.size 0 (.slice none 0 0)).run P w.drew=.ok #[] w.drew:=by simp [Builtin.firstCells,loadCells,loadCellsFrom]
 have hr:=Lib.run_append_grow_zeros (P:=P) w t tn ty e i z kq kn ht htn hi hz none 0 0 [] hold m hm h0 (by omega) (by omega) (by omega) (by rw [Nat.zero_add];exact growslice_fits (by omega) hbytes)
 rw [Nat.zero_add] at hr
 have hge:=grownCap_ge w m 0 e
 refine ⟨_,_,_,hr,za8.2 ⟨?_,.inr ⟨w.heap.size,_,_,rfl,hge,grownCap_le_maxLen w m 0 e h63,?_,?_,(Sat.drew HG).new _⟩⟩,((Io.refl w).drew).alloc _⟩
 ·rw [Array.length_toList,size_zeroCells,hzs]
 ·simp only [Array.size_append,List.size_toArray,List.length_nil,size_zeroCells,hzs]
  have e1:=Nat.add_mul m (grownCap w m 0 e - m) i.size
  have e2:m+(grownCap w m 0 e - m)=grownCap w m 0 e:=by omega
  rw [e2] at e1
  omega
 ·simp only [Array.toList_append,List.nil_append]
  exact List.take_left' (by rw [Array.length_toList,size_zeroCells,hzs])
theorem xbk (n:Nat) (hn:n≤1000000) (H:Sat F w) (h:∀ v' w',Sat (zen v' []*F) w'→Io w w'→R (.returned v') w') :
  Calls Tryz.prog 160 #[.slice none 0 0,.int .i64 (n:Int)] w R:=by
 have HH:=L_ h
 clear h
 cases n with
 | zero =>
  go_enter Tryz.func160,Tryz.ntmps160
  go_wp2_with fail
  exact HH.out _ _ (zlr H) (Io.refl _)
 | succ n =>
  obtain ⟨i0,z,hi,hz0,hz1,hz2,hz3⟩:=Tryz.xdh.parts
  obtain ⟨g,c,w3,hr,H3,I3⟩:=ze5 (P:=Tryz.prog) (t:=117) (tn:=3) (ty:=117) (kn:=.i64) Tryz.underlying117 Tryz.underlying3 hi hz0 hz1 hz2 hz3 (by omega) H (n+1) (by omega) (by unfold maxLen;omega) (by omega) .i64
  have hcap:=(zma H3).2
  have H4:=zh0 H3 (k:=0) (by omega)
  have q1:(0:Int)<((n+1:Nat):Int):=by omega
  have q2:(0:Int)≤(c:Int):=by omega
  have q3:(c:Int)≤9223372036854775807:=by unfold maxLen at hcap;omega
  have q4:((n+1:Nat):Int)≤1000000:=by omega
  have fin:Hid (Sat (zen (.slice (some ⟨g,0,none⟩) 0 c) []*F) w3):=L_ (by
   refine H4.of_eq ?_
   unfold zen RowOf
   rw [Nat.zero_mul,List.take_zero]
   rfl)
  generalize hN:((n+1:Nat):Int)=N at *
  clear H H3 H4
  go_enter Tryz.func160,Tryz.ntmps160
  go_wp2_with (at_builtin;refine Lib.wpList_append_run _ rfl _ _ _ _ rfl _ _ rfl rfl _ _ hr ?_)
  exact HH.out _ _ fin.out I3
theorem xfr (N:Int) (n:Nat) (hN:N=(n:Int)) (hn:n≤1000000) (H:Sat F w) (h:∀ v' w',Sat (zen v' []*F) w'→Io w w'→R (.returned v') w') :
  Calls Tryz.prog 160 #[.slice none 0 0,.int .i64 N] w R:=by
 subst hN
 exact xbk n hn H h
theorem z05 {bb:Nat} (hv:zc7 F v l) (hl:l.length≤10000) (hu:zc7 F u m) (hm0:m.length≤10000) (H:Sat (pts bb (.cells #[v,u] 117 (0,0))*F) w) (h:∀ v' w',Sat (zen v' (l++m)*F) w'→Io w w'→R (.returned v') w') :
  Calls Tryz.prog 127 #[.slice (some ⟨bb,0,none⟩) 2 2] w R:=by
 obtain ⟨a,c,rfl,hm⟩:=zch hv
 obtain ⟨a',c',rfl,hm'⟩:=zch hu
 have HH:=L_ h
 have hv':=L_ (hv.with (G:=pts bb (.cells #[.slice a l.length c,.slice a' m.length c'] 117 (0,0))))
 have hu':=L_ (hu.with (G:=pts bb (.cells #[.slice a l.length c,.slice a' m.length c'] 117 (0,0))))
 obtain ⟨c0,c1⟩:=zby H
 have q1:(0:Int)≤(l.length:Int):=by omega
 have q2:(l.length:Int)≤10000:=by omega
 have q3:(m.length:Int)≤10000:=by omega
 have q4:(0:Int)≤(l.length:Int)+(m.length:Int):=by omega
 have LL:=L_ hl
 have LM:=L_ hm0
 clear h hv hu hl hm0
 go_enter Tryz.func127,Tryz.ntmps127
 go_wp2_with fail
 refine wp_loop_rounds 3 ?_
 rw [rounds_succ]
 go_wp2_with fail
 rw [rounds_succ]
 go_wp2_with fail
 rw [rounds_succ]
 go_wp2_with (go_at_call 160;with_reducible refine xfr _ (l.length+m.length) (by omega) (by have:=LL.out;have:=LM.out;omega) H ?_;intro v3 w3 H3 I3;obtain ⟨d0,d1⟩:=zby H3.right)
 refine wp_loop_rounds 3 ?_
 rw [rounds_succ]
 go_wp2_with (at_builtin;refine zae Tryz.xdh zcp rfl (.tmp 31) (.tmp 32) rfl rfl H3 (by simp) (by have:=LL.out;omega) rfl hv'.out ?_;intro v4 w4 H4 I4;obtain ⟨e0,e1⟩:=zby H4.right)
 rw [rounds_succ]
 go_wp2_with (at_builtin;refine zae Tryz.xdh zcp rfl (.tmp 31) (.tmp 32) rfl rfl H4 (by have:=LL.out;simp;omega) (by have:=LM.out;omega) rfl hu'.out ?_;intro v5 w5 H5 I5)
 rw [rounds_succ]
 go_wp2_with fail
 rw [List.nil_append] at H5
 exact HH.out _ _ H5.mid ((I3.trans I4).trans I5)
theorem zsc (hv:zc7 F v l) (hl:l.length≤5000) (hu:zc7 F u m) (hm0:m.length≤5000) (H:Sat F w) (h:∀ v' w',Sat (zen v' (Rs.union l m)*F) w'→Io w w'→R (.returned v') w') :
  Calls Tryz.prog 99 #[v,u] w R:=by
 obtain ⟨a,c,rfl,hm⟩:=zch hv
 obtain ⟨a',c',rfl,hm'⟩:=zch hu
 have HH:=L_ h
 have HB:=H.new (.cells #[.slice a l.length c,.slice a' m.length c'] 117)
 have IB:=io1 HB (Io.refl w)
 clear h
 go_enter Tryz.func99,Tryz.ntmps99
 go_wp2_with (first
  | (go_at_call 127;with_reducible refine z05 hv (by omega) hu (by omega) HB ?_;intro v2 w2 H2 I2)
  | (go_at_call 126;with_reducible refine zqs (Reads.zau H2 (by rw [List.length_append];omega)) (by rw [List.length_append];omega) H2 ?_;intro v3 w3 H3 I3))
 exact HH.out _ _ H3.mid ((IB.trans I2).trans I3)
theorem zyr (hv:zc7 F v l) (hl:l.length≤2000) (hu:zc7 F u m) (hm0:m.length≤2000) (H:Sat F w) (h:∀ v' w',Sat (zen v' (Rs.meet l m)*F) w'→Io w w'→R (.returned v') w') :
  Calls Tryz.prog 73 #[v,u] w R:=by
 have HH:=L_ h
 have n1:=Rs.zql l
 have n2:=Rs.zql m
 have n3:=Rs.z1m (Rs.rest l) (Rs.rest m)
 clear h
 go_enter Tryz.func73,Tryz.ntmps73
 go_wp2_with (first
  | (go_at_call 98;first
   | (with_reducible refine zls hv (by omega) H ?_;intro v2 w2 H2 I2)
   | (with_reducible refine zls hu.with (by omega) H2 ?_;intro v3 w3 H3 I3)
   | (with_reducible refine zls (Reads.zau H4 (by omega)) (by omega) H4 ?_;intro v5 w5 H5 I5))
  | (go_at_call 99;with_reducible refine zsc (Reads.zau H2 (by omega)).with (by omega) (Reads.zau H3 (by omega)) (by omega) H3 ?_;intro v4 w4 H4 I4))
 exact HH.out _ _ H5.mid.mid.mid (((I2.trans I3).trans I4).trans I5)
theorem z0f (hv:zc7 F v l) (hl:l.length≤1900) (hu:zc7 F u m) (hm0:m.length≤1900) (H:Sat F w) (h:∀ v' w',Sat (zen v' (Rs.minus l m)*F) w'→Io w w'→R (.returned v') w') :
  Calls Tryz.prog 191 #[v,u] w R:=by
 have HH:=L_ h
 have n2:=Rs.zql m
 have E:=L_ (Rs.z3f l m)
 clear h
 go_enter Tryz.func191,Tryz.ntmps191
 go_wp2_with (first
  | (go_at_call 98;with_reducible refine zls hu (by omega) H ?_;intro v2 w2 H2 I2)
  | (go_at_call 73;with_reducible refine zyr hv.with (by omega) (Reads.zau H2 (by omega)) (by omega) H2 ?_;intro v3 w3 H3 I3))
 refine HH.out _ _ ?_ (I2.trans I3)
 rw [←E.out]
 exact H3.mid
theorem zs7 {b:Nat} (x1 x2:Int):zc7 (pts b (.cells #[.int .i64 x1,.int .i64 x2] 119 (0,0))*F) (.slice (some ⟨b,0,none⟩) 1 1) [(x1,x2)] :=
 ⟨_,1,rfl,by simp,.inr ⟨b,0,rfl,fun w hw j u hu=>by rw [Nat.zero_add,Sat.read hw.left.at j,List.getElem?_toArray];exact hu⟩⟩
theorem add_any (hv:zc7 F v l) (hl:l.length≤1900) (n:Int) (H:Sat F w) (h:∀ v' w',Sat (zen v' (Rs.union l [(n,n)])*F) w'→Io w w'→R (.returned v') w') :
  Calls Tryz.prog 143 #[v,.int .i64 n] w R:=by
 have HH:=L_ h
 have HB:=H.new (.cells #[.int .i64 n,.int .i64 n] 119)
 have IB:=io1 HB (Io.refl w)
 clear h
 go_enter Tryz.func143,Tryz.ntmps143
 go_wp2_with (go_at_call 99;with_reducible refine zsc hv.with (by omega) (zs7 n n) (by simp) HB ?_;intro v2 w2 H2 I2)
 exact HH.out _ _ H2.mid (IB.trans I2)
theorem zz7 (hv:zc7 F v l) (hl:l.length≤1900) (n:Int) (H:Sat F w) (h:∀ v' w',Sat (zen v' (Rs.minus l [(n,n)])*F) w'→Io w w'→R (.returned v') w') :
  Calls Tryz.prog 177 #[v,.int .i64 n] w R:=by
 have HH:=L_ h
 have HB:=H.new (.cells #[.int .i64 n,.int .i64 n] 119)
 have IB:=io1 HB (Io.refl w)
 clear h
 go_enter Tryz.func177,Tryz.ntmps177
 go_wp2_with (go_at_call 191;with_reducible refine z0f hv.with (by omega) (zs7 n n) (by simp) HB ?_;intro v2 w2 H2 I2)
 exact HH.out _ _ H2.mid (IB.trans I2)
end
end Go.Proofs.YtfknjmoekbabcaaGreatDoor
