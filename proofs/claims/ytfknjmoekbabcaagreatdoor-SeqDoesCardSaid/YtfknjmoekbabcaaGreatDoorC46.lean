/-
  A part of a proof. It proves no statement by itself.
-/
import Derived.Test.YtfknjmoekbabcaaGreatDoorC36
import Derived.Test.YtfknjmoekbabcaaGreatDoorC42
import Derived.Test.YtfknjmoekbabcaaGreatDoorC04
import Derived.Test.YtfknjmoekbabcaaGreatDoorC40
import Derived.Test.YtfknjmoekbabcaaGreatDoorC11
set_option linter.unusedSimpArgs false
set_option linter.unusedVariables false
set_option linter.unusedSectionVars false
set_option maxRecDepth 100000
set_option maxHeartbeats 64000000
namespace Go.Proofs.YtfknjmoekbabcaaGreatDoor
open Go.RowKit Go.Lib
open Sq (Tk LL)
abbrev Sl3:=Option Addr × Nat × Nat
abbrev slv (s:Sl3):Value:=.slice s.1 s.2.1 s.2.2
def xh2 (s:Sl3):List Value:=[slv s]
theorem xgt:Enc xh2 1:=⟨fun _=>rfl,fun x u hu=>by simp [xh2] at hu;rw [hu];rfl⟩
theorem xhb:zkg Tryz.prog 50 39 1 24:=⟨Tryz.underlying50,⟨.slice none 0 0,rfl,by kernel_rfl⟩,by omega⟩
abbrev xgp (v:Value) (l:List Sl3):Asn:=RowOf 39 1 xh2 v l
def Pool:List (Value × List Tk)→Asn
 | []=>emp
 | p::P=>zar p.1 p.2*Pool P
structure Dl where
 a:Nat
 v:Value
 ss:List Sl3
 P:List (Value × List Tk)
def DLt (x:Dl):Asn:=pts x.a (.cells #[x.v] 52 (0,0))*(xgp x.v x.ss*Pool x.P)
structure Dl.Ok (x:Dl) (L:LL):Prop where
 len:x.ss.length=L.length
 rd:∀ (i:Nat) (h1:i<x.ss.length) (h2:i<L.length),zp0 (Pool x.P) (slv x.ss[i]) L[i]
 big:L.length≤1000∧∀ l∈L,l.length≤1000
 cap:∀ s∈x.ss,s.2.1≤s.2.2
theorem xgy {x:Dl} {v:Value} {l:List Tk} {F:Asn} (h:zp0 (Pool x.P) v l):zp0 (DLt x*F) v l:=h.imp fun w hw=>(hw.of_eq (show _=(pts x.a (.cells #[x.v] 52 (0,0))*(xgp x.v x.ss*F))*Pool x.P from by unfold DLt;ac_rfl)).right
abbrev xhm (a:Nat):Value:=.pointer (some ⟨a,0,none⟩)
namespace Sq
theorem xin {L:LL} {k:Tk} {i:Nat} (hi:i<L.length) (h:i≤fi L k) (e:k∈L[i]):fi L k=i:=by
 refine Nat.le_antisymm ?_ h
 refine Decidable.byContradiction fun hc=>?_
 have:=List.not_of_lt_findIdx (show i<List.findIdx (fun l:List Tk=>decide (k∈l)) L from by unfold fi at hc;omega)
 simp [e] at this
theorem xim {L:LL} {k:Tk} {i:Nat} (hi:i<L.length) (h:i≤fi L k) (e:k∉L[i]):i+1≤fi L k:=by
 rcases Nat.eq_or_lt_of_le h with h1 | h1
 ·subst h1
  exact absurd (by rw [←zf4 hi];exact row_mem hi) e
 ·exact h1
theorem xil {l:List Tk} {k:Tk} {j:Nat} (hj:j<l.length) (h:j≤fj l k) (e:l[j]=k):fj l k=j:=by
 refine Nat.le_antisymm ?_ h
 refine Decidable.byContradiction fun hc=>?_
 have:=List.not_of_lt_findIdx (show j<List.findIdx (fun x:Tk=>decide (x=k)) l from by unfold fj at hc;omega)
 simp [e] at this
theorem xik {l:List Tk} {k:Tk} {j:Nat} (hj:j<l.length) (h:j≤fj l k) (e:¬ l[j]=k):j+1≤fj l k:=by
 rcases Nat.eq_or_lt_of_le h with h1 | h1
 ·subst h1;exact absurd (xdz hj) e
 ·exact h1
theorem xij {l:List Tk} {k:Tk} (h:l.length≤fj l k):k∉l:=fun hm=>by
 have:=z5v hm
 omega
def fiN (L:LL) (k:Tk):Int:=if there L k then (fi L k:Int) else -1
def fjN (L:LL) (k:Tk):Int:=if there L k then (fj (rowOf L k) k:Int) else -1
end Sq
section
variable {x:Dl} {L:LL} {F:Asn} {w:World} {R:Ending→World→Prop}
theorem xgm (H:Sat (DLt x*F) w):w.cell? ⟨x.a,0,none⟩=some x.v∧w.frozen? ⟨x.a,0,none⟩=false:=by
 have K:=H.of_eq (show _=pts x.a (.cells #[x.v] 52 (0,0))*((xgp x.v x.ss*Pool x.P)*F) from by unfold DLt;ac_rfl)
 exact ⟨Sat.read K.left.at 0,Sat.free K.left.at 0⟩
theorem xhe (H:Sat (DLt x*F) w):Sat (xgp x.v x.ss*(pts x.a (.cells #[x.v] 52 (0,0))*(Pool x.P*F))) w:=H.of_eq (by unfold DLt;ac_rfl)
theorem xg1 (H:Sat (DLt x*F) w):∃ a c,x.v=.slice a x.ss.length c:=zg1 (xhe H)
theorem xgv (H:Sat (DLt x*F) w) (h:0<x.ss.length):∃ g c,x.v=.slice (some ⟨g,0,none⟩) x.ss.length c:=zd5 (xhe H) h
theorem xgz {g n c:Nat} (hv:x.v=.slice (some ⟨g,0,none⟩) n c) (H:Sat (DLt x*F) w) (i:Nat) (hi:i<x.ss.length):w.cell? ⟨g,i,none⟩=some (slv x.ss[i]):=by
 have K:=xhe H
 rw [hv] at K
 have:=za4 xgt K i hi 0 (by omega) (slv x.ss[i]) rfl
 rwa [Nat.mul_one,Nat.add_zero] at this
theorem xhs (ok:x.Ok L) (i:Nat) (h1:i<x.ss.length) (h2:i<L.length):∃ a c,x.ss[i]=(a,L[i].length,c):=by
 obtain ⟨a,c,e,_⟩:=ok.rd i h1 h2
 generalize x.ss[i]=s at e ⊢
 obtain ⟨s1,s2,s3⟩:=s
 cases e
 exact ⟨_,_,rfl⟩
theorem xh3 (ok:x.Ok L) (i:Nat) (h1:i<x.ss.length) (h2:i<L.length) (j:Nat) (hj:j<L[i].length):∃ b off c x1 x2,x.ss[i]=(some ⟨b,off,none⟩,L[i].length,c)∧L[i][j]=(x1,x2)∧∀ (F:Asn) (w:World),Sat (DLt x*F) w →
  w.cell? ⟨b,off+j*2,none⟩=some (.int .i64 x1)∧w.cell? ⟨b,off+j*2+1,none⟩=some (.int .i64 x2):=by
 obtain ⟨a,c,e⟩:=xhs ok i h1 h2
 have hr:=ok.rd i h1 h2
 rw [e] at hr
 obtain ⟨b,off,x1,x2,rfl,h3,h4⟩:=zo7 hr j hj
 exact ⟨b,off,c,x1,x2,e,h3,fun F w H=>h4 w (H.of_eq (show _=(pts x.a (.cells #[x.v] 52 (0,0))*(xgp x.v x.ss*F))*Pool x.P from by unfold DLt;ac_rfl)).right⟩
theorem xhk {A B:Asn} (H:Sat (A*(B*F)) w):Sat (B*(A*F)) w:=H.of_eq (by ac_rfl)
theorem xhn (a b:Int) (ok:x.Ok L) (H:Sat (DLt x*F) w) (h:∀ w',Sat (DLt x*F) w'→Io w w'→R (.returned (.tuple #[.int .i64 (Sq.fiN L (a,b)),.int .i64 (Sq.fjN L (a,b))])) w') :
  Calls Tryz.prog 56 #[xhm x.a,tkA a b] w R:=by
 have HH:=L_ h
 have OK:=L_ ok
 obtain ⟨va,vc,hv⟩:=xg1 H
 have HV:=L_ hv
 have H1:=xhk (H.new (.cells #[.int .i64 a,.int .i64 b] 29))
 have I1:=io1 H1 (Io.refl w)
 obtain ⟨sn,hsn⟩:∃ sn,sn=x.ss.length:=⟨_,rfl⟩
 have HSN:=L_ hsn
 have hb:(sn:Int)≤1000:=by have:=ok.big.1;have:=ok.len;omega
 rw [←hsn] at hv
 have HV2:=L_ hv
 clear h H ok hsn
 go_enter Tryz.func56,Tryz.ntmps56
 go_upto_region 1 with fail
 generalize w.alloc _=w1 at *
 generalize w.heap.size=bx at *
 go_wp2_with fail
 go_loopw [6,7] (fun xi xj wr=>∃ (i:Nat),i≤sn∧xi=.int .i64 (i:Int)∧Hid (i≤Sq.fi L (a,b))∧Sat (DLt x*(pts bx (.cells #[.int .i64 a,.int .i64 b] 29 (0,0))*F)) wr∧Io w wr) (fun xi _ _=>2000 - (RowKit.intOf xi).toNat)
 case atStart=>exact ⟨0,by omega,rfl,L_ (Nat.zero_le _),H1,I1⟩
 case round =>
  obtain ⟨i,hi,rfl,hfi,Hk,Ik⟩:=hrel
  clear H1 I1
  have hi0:(0:Int)≤(i:Int):=by omega
  have hi1:(i:Int)≤1000:=by omega
  obtain ⟨y0,-⟩:=xgm Hk
  rw [hv] at y0
  by_cases hlt:(i:Int)<(sn:Int)
  ·have h1:i<x.ss.length:=by have:=HSN.out;omega
   have h2:i<L.length:=by have:=OK.out.len;omega
   obtain ⟨sa,sc,hs⟩:=xhs OK.out i h1 h2
   obtain ⟨g,c0,hg⟩:=xgv Hk (by omega)
   rw [HV.out] at hg
   cases hg
   obtain ⟨ln,hln⟩:∃ ln,ln=L[i].length:=⟨_,rfl⟩
   have hlb:(ln:Int)≤1000:=by have:=OK.out.big.2 _ (List.getElem_mem h2);omega
   have HS:Hid (x.ss[i]=(sa,ln,sc)):=L_ (by rw [hs,hln])
   have HLN:=L_ hln
   have z0:wr.cell? ⟨g,i,none⟩=some (.slice sa ln sc):=by
    have:=xgz (n:=sn) (c:=vc) HV2.out Hk i h1
    rw [HS.out] at this
    exact this
   clear hs hln
   go_wp2_with fail
   go_loopw [7] (fun xj wq=>∃ (j:Nat),j≤ln∧xj=.int .i64 (j:Int)∧Hid (j≤Sq.fj L[i] (a,b))∧Sat (DLt x*(pts bx (.cells #[.int .i64 a,.int .i64 b] 29 (0,0))*F)) wq∧Io w wq) (fun xj _=>2000 - (RowKit.intOf xj).toNat)
   case atStart=>exact ⟨0,by omega,rfl,L_ (Nat.zero_le _),Hk,Ik⟩
   case round =>
    obtain ⟨j,hj,rfl,hfj,Hq,Iq⟩:=hrel
    clear Hk Ik y0 z0
    have hj0:(0:Int)≤(j:Int):=by omega
    have hj1:(j:Int)≤1000:=by omega
    obtain ⟨y0,-⟩:=xgm Hq
    rw [hv] at y0
    have z0:wr.cell? ⟨g,i,none⟩=some (.slice sa ln sc):=by
     have:=xgz (n:=sn) (c:=vc) HV2.out Hq i h1
     rw [HS.out] at this
     exact this
    by_cases hjl:(j:Int)<(ln:Int)
    ·have hjn:j<L[i].length:=by have:=HLN.out;omega
     obtain ⟨b1,off,c1,x1,x2,e,h3,h4⟩:=xh3 OK.out i h1 h2 j hjn
     rw [HS.out] at e
     simp only [Prod.mk.injEq] at e
     obtain ⟨rfl,-,rfl⟩:=e
     obtain ⟨c0',c1'⟩:=h4 _ _ Hq
     obtain ⟨q0,q1⟩:=tk2 Hq.right
     have Hn:=fun n=>Hq.drewN n
     have In:=fun n=>Iq.drewN n
     have EQ:=fun W=>zci x1 x2 a b W
     obtain ⟨eq,heq⟩:∃ e,e=decide ((x1,x2)=(a,b)):=⟨_,rfl⟩
     rw [←heq] at EQ
     have HE:Hid (eq=decide (L[i][j]=(a,b))):=L_ (by rw [heq,h3])
     clear heq h3 h4
     cases eq with
     | true =>
      have hm:L[i][j]=(a,b):=of_decide_eq_true HE.out.symm
      have hmem:(a,b)∈L[i]:=hm ▸ List.getElem_mem hjn
      have e1:=Sq.xin h2 hfi.out hmem
      have hth:Sq.there L (a,b):=by unfold Sq.there;rw [e1];exact h2
      have e2:Sq.rowOf L (a,b)=L[i]:=by rw [Sq.zf4 hth];simp only [e1]
      have e3:=Sq.xil hjn hfj.out hm
      have F1:Sq.fiN L (a,b)=(i:Int):=by unfold Sq.fiN;rw [if_pos hth,e1]
      have F2:Sq.fjN L (a,b)=(j:Int):=by unfold Sq.fjN;rw [if_pos hth,e2,e3]
      have FIN:=L_ (fun n=>by have:=HH.out _ (xhk (Hn n)).right (In n);rw [F1,F2] at this;exact this)
      clear HE hm hmem e1 e2 e3 hth F1 F2 HH
      go_wp2_with fail
      go_quiet (fail)
      go_wp2_with fail
      exact FIN.out _
     | false =>
      have HJ:Hid (j+1≤Sq.fj L[i] (a,b)):=L_ (Sq.xik hjn hfj.out (of_decide_eq_false HE.out.symm))
      clear HE
      go_wp2_with fail
      go_quiet (fail)
      go_wp2_with fail
      go_roundw
      case rel=>exact ⟨j+1,by omega,by go_num,HJ,Hn _,In _⟩
      case measure=>simp [RowKit.intOf];omega
    ·have HJ:Hid (i+1≤Sq.fi L (a,b)):=L_ (Sq.xim h2 hfi.out (Sq.xij (by have:=hfj.out;have:=HLN.out;omega)))
     go_wp2_with fail
     go_roundw
     case rel=>exact ⟨i+1,by omega,by go_num,HJ,Hq,Iq⟩
     case measure=>simp [RowKit.intOf];omega
  ·have hno:¬ Sq.there L (a,b):=by
    unfold Sq.there
    have:=hfi.out;have:=HSN.out;have:=OK.out.len
    omega
   have F1:Sq.fiN L (a,b)=-1:=by unfold Sq.fiN;rw [if_neg hno]
   have F2:Sq.fjN L (a,b)=-1:=by unfold Sq.fjN;rw [if_neg hno]
   have FIN:=HH.out _ (xhk Hk).right Ik
   rw [F1,F2] at FIN
   have FIN:=L_ FIN
   clear F1 F2 hno HH
   go_wp2_with fail
   exact FIN.out
theorem xhw {α:Type} {l:List α} {i k:Nat} (hk:k<l.length):(l.take (k+1)).eraseIdx i=if k=i then (l.take k).eraseIdx i else (l.take k).eraseIdx i++[l[k]]:=by
 rw [List.take_succ_eq_append_getElem hk]
 have hl:(l.take k).length=k:=by rw [List.length_take];omega
 rcases Nat.lt_trichotomy i k with c | c | c
 ·rw [if_neg (by omega),List.eraseIdx_append_of_lt_length (by omega)]
 ·subst c
  rw [if_pos rfl,List.eraseIdx_append_of_length_le (by omega),hl,Nat.sub_self,List.eraseIdx_of_length_le (l:=List.take i l) (by omega)]
  simp
 ·rw [if_neg (by omega),List.eraseIdx_append_of_length_le (by omega),hl,List.eraseIdx_of_length_le (l:=List.take k l) (by omega),List.eraseIdx_of_length_le (by simp;omega)]
theorem xgw (q:Nat) (ok:x.Ok L) (hq:Hid (q≤1000)) (H:Sat (DLt x*F) w) (h:∀ v w',Sat (xgp v (x.ss.eraseIdx q)*(DLt x*F)) w'→Io w w'→R (.returned v) w') :
  Calls Tryz.prog 57 #[xhm x.a,.int .i64 (q:Nat)] w R:=by
 have HH:=L_ h
 have OK:=L_ ok
 obtain ⟨va,vc,hv⟩:=xg1 H
 have HV:=L_ hv
 obtain ⟨sn,hsn⟩:∃ sn,sn=x.ss.length:=⟨_,rfl⟩
 have HSN:=L_ hsn
 have hb:(sn:Int)≤1000:=by have:=ok.big.1;have:=ok.len;omega
 have hq0:(0:Int)≤(q:Int):=by omega
 have hq1:(q:Int)≤1000:=by have:=hq.out;omega
 rw [←hsn] at hv
 have HV2:=L_ hv
 have H0:=za5 (sz:=1) (enc:=xh2) (e:=39) H
 clear h ok hsn
 go_enter Tryz.func57,Tryz.ntmps57
 go_wp2_with fail
 go_loopw [5,6] (fun vo xk wr=>∃ (k:Nat) (vq:Value),vo=vq∧k≤sn∧xk=.int .i64 (k:Int)∧Sat (xgp vq ((x.ss.take k).eraseIdx q)*(DLt x*F)) wr∧Io w wr) (fun _ xk _=>2000 - (RowKit.intOf xk).toNat)
 case atStart=>exact ⟨0,_,rfl,by omega,rfl,H0,Io.refl w⟩
 case round =>
  obtain ⟨k,vq,rfl,hk,rfl,Hk,Ik⟩:=hrel
  clear H0
  have hk0:(0:Int)≤(k:Int):=by omega
  have hk1:(k:Int)≤1000:=by omega
  obtain ⟨y0,-⟩:=xgm Hk.right
  rw [hv] at y0
  by_cases hlt:(k:Int)<(sn:Int)
  ·have h1:k<x.ss.length:=by have:=HSN.out;omega
   obtain ⟨⟨sa,ln,sc⟩,hs⟩:∃ s,s=x.ss[k]:=⟨_,rfl⟩
   obtain ⟨g,c0,hg⟩:=xgv Hk.right (by omega)
   rw [HV.out] at hg
   cases hg
   have z0:wr.cell? ⟨g,k,none⟩=some (.slice sa ln sc):=by
    have:=xgz (n:=sn) (c:=vc) HV2.out Hk.right k h1
    rw [←hs] at this
    exact this
   have ET:=xhw (i:=q) h1
   rw [←hs] at ET
   have ET:=L_ ET
   have HB:Hid (((x.ss.take k).eraseIdx q).length≤1000000):=L_ (by
    have:=(List.eraseIdx_sublist (x.ss.take k) q).length_le
    rw [List.length_take] at this
    omega)
   clear hs
   by_cases hkq:(k:Int)=(q:Int)
   ·have e:(x.ss.take (k+1)).eraseIdx q=(x.ss.take k).eraseIdx q:=by rw [ET.out,if_pos (by omega)]
    rw [←e] at Hk
    clear ET HB e
    go_wp2_with fail
    go_roundw
    case rel=>exact ⟨k+1,_,rfl,by omega,by go_num,Hk,Ik⟩
    case measure=>simp [RowKit.intOf];omega
   ·have e:(x.ss.take (k+1)).eraseIdx q=(x.ss.take k).eraseIdx q++[(sa,ln,sc)]:=by rw [ET.out,if_neg (by omega)]
    have E:=L_ e
    clear ET e
    go_wp2_with (at_builtin;refine zat xhb xgt rfl (.tmp 19) (.tmp 27) rfl rfl Hk HB.out (sa,ln,sc) rfl rfl ?_;intro v3 w3 H3 I3)
    go_roundw
    case rel=>exact ⟨k+1,_,rfl,by omega,by go_num,by rw [E.out];exact H3,Ik.trans I3⟩
    case measure=>simp [RowKit.intOf];omega
  ·have e:x.ss.take k=x.ss:=List.take_of_length_le (by have:=HSN.out;omega)
   rw [e] at Hk
   clear e
   go_wp2_with fail
   exact HH.out _ _ Hk Ik
end
namespace Sq
theorem ask_cases (L:LL) (k:Tk):(zcz L k=30∧¬ OkT k)∨(zcz L k=181∧OkT k∧¬ there L k)∨(zcz L k=0∧OkT k∧there L k):=by
 unfold zcz
 by_cases h1:OkT k
 ·by_cases h2:there L k
  ·exact .inr (.inr ⟨by simp [h1,h2],h1,h2⟩)
  ·exact .inr (.inl ⟨by simp [h1,h2],h1,h2⟩)
 ·exact .inl ⟨by simp [h1],h1⟩
end Sq
section
variable {x:Dl} {L:LL} {F:Asn} {w:World} {R:Ending→World→Prop}
theorem da_in {A B C:Asn} (H:Sat (A*(B*(C*F))) w):Sat (C*(A*(B*F))) w:=H.of_eq (by ac_rfl)
theorem xg7 {A B C:Asn} (H:Sat (A*(B*(C*F))) w):Sat (A*F) w:=(H.of_eq (show _=(B*C)*(A*F) from by ac_rfl)).right
theorem xgs {A B:Asn} (H:Sat (A*(B*F)) w):Sat (A*F) w:=(xhk H).right
theorem xg6 (a b:Int) {i j:Int} (he:Hid (Sq.fiN L (a,b)=i∧Sq.fjN L (a,b)=j)) (ok:Hid (x.Ok L)) (H:Sat (DLt x*F) w) (h:∀ w',Sat (DLt x*F) w'→Io w w'→R (.returned (.tuple #[.int .i64 i,.int .i64 j])) w') :
  Calls Tryz.prog 56 #[xhm x.a,tkA a b] w R:=xhn a b ok.out H (by rw [he.out.1,he.out.2];exact h)
theorem xgl (a b:Int) {i j e:Int} (hr:Hid ((Sq.zcz L (a,b)=0∧e=0∧i=Sq.fi L (a,b)∧j=Sq.fj (Sq.rowOf L (a,b)) (a,b))∨(Sq.zcz L (a,b)≠0∧e=Sq.zcz L (a,b)∧i=-1∧j=-1))) (ok:x.Ok L) (H:Sat (DLt x*F) w) (h:∀ w',Sat (DLt x*F) w'→Io w w'→R (.returned (.tuple #[.int .i64 i,.int .i64 j,.int .i64 e])) w') :
  Calls Tryz.prog 54 #[xhm x.a,tkA a b] w R:=by
 have HH:=L_ h
 have OK:=L_ ok
 have H1:=xhk (H.new (.cells #[.int .i64 a,.int .i64 b] 29))
 have I1:=io1 H1 (Io.refl w)
 obtain ⟨d,hd⟩:∃ d,d=decide (Sq.OkT (a,b)):=⟨_,rfl⟩
 have HD:=L_ hd
 clear h H ok hd
 go_enter Tryz.func54,Tryz.ntmps54
 go_upto_region 1 with fail
 generalize w.alloc _=w1 at *
 generalize w.heap.size=bx at *
 obtain ⟨y0,y1⟩:=tk2 H1.right
 go_upto_region 2 with (go_at_call 16;(with_reducible refine zo1 a b HD H1 ?_);intro w2 H2 I2;have J2:=I1.trans I2)
 clear y0 y1 H1 I1 I2
 rcases Sq.ask_cases L (a,b) with ⟨q1,q2⟩ | ⟨q1,q2,q3⟩ | ⟨q1,q2,q3⟩
 ·obtain rfl:d=false:=HD.out.trans (decide_eq_false q2)
  obtain ⟨rfl,rfl,rfl⟩:e=30∧i=-1∧j=-1:=by
   rcases hr.out with ⟨h1,_⟩ | ⟨_,h2,h3,h4⟩
   ·rw [q1] at h1;exact absurd h1 (by decide)
   ·exact ⟨h2.trans q1,h3,h4⟩
  have FIN:=L_ (HH.out _ (xgs H2) J2)
  clear q1 q2 hr HH
  go_wp2_with fail
  first | exact FIN.out | exact bodyPost_ret (v:=.tuple #[.int .i64 (-1),.int .i64 (-1),.int .i64 30]) (by simp [results,Tryz.results54,go_sem]) rfl FIN.out
 ·obtain rfl:d=true:=HD.out.trans (decide_eq_true q2)
  obtain ⟨rfl,rfl,rfl⟩:e=181∧i=-1∧j=-1:=by
   rcases hr.out with ⟨h1,_⟩ | ⟨_,h2,h3,h4⟩
   ·rw [q1] at h1;exact absurd h1 (by decide)
   ·exact ⟨h2.trans q1,h3,h4⟩
  have E1:Sq.fiN L (a,b)=-1:=if_neg q3
  have E2:Sq.fjN L (a,b)=-1:=if_neg q3
  obtain ⟨y0,y1⟩:=tk2 H2.right
  have FD:Hid (Sq.fiN L (a,b)=-1∧Sq.fjN L (a,b)=-1):=L_ ⟨E1,E2⟩
  clear q1 q2 q3 hr E1 E2
  go_wp2_with (go_at_call 56;(refine xg6 a b FD OK H2 ?_);intro w3 H3 I3)
  have FIN:=L_ (HH.out _ (xgs H3) (J2.trans I3))
  first | exact FIN.out | exact bodyPost_ret (v:=.tuple #[.int .i64 (-1),.int .i64 (-1),.int .i64 181]) (by simp [results,Tryz.results54,go_sem]) rfl FIN.out
 ·obtain rfl:d=true:=HD.out.trans (decide_eq_true q2)
  obtain ⟨rfl,hi,hj⟩:e=0∧i=Sq.fi L (a,b)∧j=Sq.fj (Sq.rowOf L (a,b)) (a,b):=by
   rcases hr.out with ⟨_,h2,h3,h4⟩ | ⟨h1,_⟩
   ·exact ⟨h2,h3,h4⟩
   ·exact absurd q1 h1
  have E1:Sq.fiN L (a,b)=i:=(if_pos q3).trans hi.symm
  have E2:Sq.fjN L (a,b)=j:=(if_pos q3).trans hj.symm
  obtain ⟨y0,y1⟩:=tk2 H2.right
  have FD:Hid (Sq.fiN L (a,b)=i∧Sq.fjN L (a,b)=j):=L_ ⟨E1,E2⟩
  have hi0:¬ i<0:=by omega
  clear q1 q2 q3 hr E1 E2 hi hj
  go_wp2_with (go_at_call 56;(refine xg6 a b FD OK H2 ?_);intro w3 H3 I3)
  have FIN:=L_ (HH.out _ (xgs H3) (J2.trans I3))
  first | exact FIN.out | exact bodyPost_ret (v:=.tuple #[.int .i64 i,.int .i64 j,.int .i64 0]) (by simp [results,Tryz.results54,go_sem]) rfl FIN.out
theorem xg5 (a b:Int) (ok:x.Ok L) (H:Sat (DLt x*F) w)
  (h:∀ v w',zp0 (Pool x.P) v (if Sq.zcz L (a,b)=0 then Sq.rowOf L (a,b) else [])→Sat (DLt x*F) w'→Io w w'→R (.returned (.tuple #[v,.int .i64 (if Sq.zcz L (a,b)=0 then (Sq.fj (Sq.rowOf L (a,b)) (a,b):Int) else 0),.int .i64 (Sq.zcz L (a,b))])) w') :
  Calls Tryz.prog 55 #[xhm x.a,tkA a b] w R:=by
 have OK:=L_ ok
 have H1:=xhk (H.new (.cells #[.int .i64 a,.int .i64 b] 29))
 have I1:=io1 H1 (Io.refl w)
 rcases Sq.ask_cases L (a,b) with ⟨q1,q2⟩ | ⟨q1,q2,q3⟩ | ⟨q1,q2,q3⟩
 ·rw [if_neg (by rw [q1];decide),if_neg (by rw [q1];decide),q1] at h
  have HH:=L_ (fun w'=>h (.slice none 0 0) w' ⟨none,0,rfl,by simp,.inl rfl⟩)
  have HR:Hid ((Sq.zcz L (a,b)=0∧(30:Int)=0∧(-1:Int)=Sq.fi L (a,b)∧(-1:Int)=Sq.fj (Sq.rowOf L (a,b)) (a,b))∨(Sq.zcz L (a,b)≠0∧(30:Int)=Sq.zcz L (a,b)∧(-1:Int)=-1∧(-1:Int)=-1)):=L_ (.inr ⟨by rw [q1];decide,q1.symm,rfl,rfl⟩)
  clear h H q1 q2 ok
  go_enter Tryz.func55,Tryz.ntmps55
  go_upto_region 1 with fail
  generalize w.alloc _=w1 at *
  generalize w.heap.size=bx at *
  obtain ⟨y0,y1⟩:=tk2 H1.right
  go_wp2_with (go_at_call 54;(with_reducible refine xgl a b HR OK.out H1 ?_);intro w2 H2 I2)
  have FIN:=L_ (HH.out _ (xgs H2) (I1.trans I2))
  first | exact FIN.out | exact bodyPost_ret (v:=.tuple #[.slice none 0 0,.int .i64 0,.int .i64 30]) (by simp [results,Tryz.results55,go_sem]) rfl FIN.out
 ·rw [if_neg (by rw [q1];decide),if_neg (by rw [q1];decide),q1] at h
  have HH:=L_ (fun w'=>h (.slice none 0 0) w' ⟨none,0,rfl,by simp,.inl rfl⟩)
  have HR:Hid ((Sq.zcz L (a,b)=0∧(181:Int)=0∧(-1:Int)=Sq.fi L (a,b)∧(-1:Int)=Sq.fj (Sq.rowOf L (a,b)) (a,b))∨(Sq.zcz L (a,b)≠0∧(181:Int)=Sq.zcz L (a,b)∧(-1:Int)=-1∧(-1:Int)=-1)):=L_ (.inr ⟨by rw [q1];decide,q1.symm,rfl,rfl⟩)
  clear h H q1 q2 q3 ok
  go_enter Tryz.func55,Tryz.ntmps55
  go_upto_region 1 with fail
  generalize w.alloc _=w1 at *
  generalize w.heap.size=bx at *
  obtain ⟨y0,y1⟩:=tk2 H1.right
  go_wp2_with (go_at_call 54;(with_reducible refine xgl a b HR OK.out H1 ?_);intro w2 H2 I2)
  have FIN:=L_ (HH.out _ (xgs H2) (I1.trans I2))
  first | exact FIN.out | exact bodyPost_ret (v:=.tuple #[.slice none 0 0,.int .i64 0,.int .i64 181]) (by simp [results,Tryz.results55,go_sem]) rfl FIN.out
 ·rw [if_pos q1,if_pos q1,q1] at h
  obtain ⟨i,hi⟩:∃ i,i=Sq.fi L (a,b):=⟨_,rfl⟩
  obtain ⟨j,hj⟩:∃ j,j=Sq.fj (Sq.rowOf L (a,b)) (a,b):=⟨_,rfl⟩
  have h2:i<L.length:=by rw [hi];exact q3
  have h1:i<x.ss.length:=by rw [ok.len];exact h2
  obtain ⟨⟨sa,ln,sc⟩,hs⟩:∃ s,s=x.ss[i]:=⟨_,rfl⟩
  have hrd:zp0 (Pool x.P) (.slice sa ln sc) (Sq.rowOf L (a,b)):=by
   have:=ok.rd i h1 h2
   rw [←hs] at this
   rw [Sq.zf4 q3]
   subst hi
   exact this
  rw [←hj] at h
  have HH:=L_ (fun w'=>h (.slice sa ln sc) w' hrd)
  have HR:Hid ((Sq.zcz L (a,b)=0∧(0:Int)=0∧(i:Int)=Sq.fi L (a,b)∧(j:Int)=Sq.fj (Sq.rowOf L (a,b)) (a,b))∨(Sq.zcz L (a,b)≠0∧(0:Int)=Sq.zcz L (a,b)∧(i:Int)=-1∧(j:Int)=-1)):=L_ (.inl ⟨q1,rfl,by rw [hi],by rw [hj]⟩)
  have hi0:(0:Int)≤(i:Int):=by omega
  have hi1:(i:Int)<(x.ss.length:Int):=by omega
  have HS:=L_ hs
  have H1L:=L_ h1
  clear h H q1 q2 q3 ok hrd hi hj h2
  go_enter Tryz.func55,Tryz.ntmps55
  go_upto_region 1 with fail
  generalize w.alloc _=w1 at *
  generalize w.heap.size=bx at *
  obtain ⟨y0,y1⟩:=tk2 H1.right
  go_upto_region 2 with (go_at_call 54;(with_reducible refine xgl a b HR OK.out H1 ?_);intro w2 H2 I2)
  clear y0 y1
  obtain ⟨y0,-⟩:=xgm H2
  obtain ⟨g,c0,hg⟩:=xgv H2 (by have:=H1L.out;omega)
  have z0:w2.cell? ⟨g,i,none⟩=some (.slice sa ln sc):=by
   have:=xgz hg H2 i H1L.out
   rw [←HS.out] at this
   exact this
  rw [hg] at y0
  have FIN:=L_ (HH.out _ (xgs H2) (I1.trans I2))
  clear HR HH H1 H2
  go_wp2_with fail
  first | exact FIN.out | exact bodyPost_ret (v:=.tuple #[.slice sa ln sc,.int .i64 (j:Int),.int .i64 0]) (by simp [results,Tryz.results55,go_sem]) rfl FIN.out
theorem xh5 {L:LL} {k:Tk} {i1:Nat} (q:Sq.zcz L k=0) (hi:i1=Sq.fi L k):Hid ((Sq.zcz L k=0∧(0:Int)=0∧(i1:Int)=Sq.fi L k∧((Sq.fj (Sq.rowOf L k) k:Nat):Int)=Sq.fj (Sq.rowOf L k) k)∨(Sq.zcz L k≠0∧(0:Int)=Sq.zcz L k∧(i1:Int)=-1∧((Sq.fj (Sq.rowOf L k) k:Nat):Int)=-1)):=L_ (.inl ⟨q,rfl,by rw [hi],rfl⟩)
theorem xg9 {L:LL} {k:Tk} {e:Int} (q:Sq.zcz L k=e) (h:e≠0):Hid ((Sq.zcz L k=0∧e=0∧(-1:Int)=Sq.fi L k∧(-1:Int)=Sq.fj (Sq.rowOf L k) k)∨(Sq.zcz L k≠0∧e=Sq.zcz L k∧(-1:Int)=-1∧(-1:Int)=-1)):=L_ (.inr ⟨by rw [q];exact h,q.symm,rfl,rfl⟩)
theorem xg0 (a b c d:Int) {r:Bool} {e:Int} (hr:Hid (Sq.two L (a,b) (c,d)=(r,e))) (ok:Hid (x.Ok L)) (H:Sat (DLt x*F) w) (h:∀ w',Sat (DLt x*F) w'→Io w w'→R (.returned (.tuple #[.bool r,.int .i64 e])) w') :
  Calls Tryz.prog 28 #[xhm x.a,tkA a b,tkA c d] w R:=by
 have HH:=L_ h
 have H1:=da_in (((H.new (.cells #[.int .i64 a,.int .i64 b] 29)).new (.cells #[.int .i64 c,.int .i64 d] 29)).of_eq (show _=pts (w.alloc (.cells #[.int .i64 a,.int .i64 b] 29)).heap.size (.cells #[.int .i64 c,.int .i64 d] 29 (0,0))*(pts w.heap.size (.cells #[.int .i64 a,.int .i64 b] 29 (0,0))*(DLt x*F)) from by ac_rfl))
 have I1:=io2 H1 (Io.refl w)
 rw [World.size_alloc] at H1
 obtain ⟨d1,hd1⟩:∃ d1,d1=decide (Sq.OkT (a,b)):=⟨_,rfl⟩
 obtain ⟨d2,hd2⟩:∃ d2,d2=decide (Sq.OkT (c,d)):=⟨_,rfl⟩
 have HD1:=L_ hd1
 have HD2:=L_ hd2
 clear h H hd1 hd2
 go_enter Tryz.func28,Tryz.ntmps28
 go_upto_region 1 with fail
 generalize (w.alloc _).alloc _=w1 at *
 generalize w.heap.size=bx at *
 obtain ⟨y0,y1⟩:=tk2 H1.right.right
 obtain ⟨y2,y3⟩:=tk2 H1.right
 go_upto_region 2 with (go_at_call 16;(with_reducible refine zo1 a b HD1 H1 ?_);intro w2 H2 I2;have J2:=I1.trans I2)
 clear y0 y1 y2 y3 H1 I1 I2
 obtain ⟨y0,y1⟩:=tk2 H2.right.right
 obtain ⟨y2,y3⟩:=tk2 H2.right
 go_upto_region 3 with (go_at_call 16;(with_reducible refine zo1 c d HD2 H2 ?_);intro w3 H3 I3;have J3:=J2.trans I3)
 clear y0 y1 y2 y3 H2 J2 I3
 obtain ⟨y0,y1⟩:=tk2 H3.right.right
 obtain ⟨y2,y3⟩:=tk2 H3.right
 cases d1 with
 | false =>
  have hn:¬ Sq.OkT (a,b):=of_decide_eq_false HD1.out.symm
  obtain ⟨rfl,rfl⟩:r=false∧e=30:=by have:=hr.out;unfold Sq.two at this;rw [if_pos (.inl hn)] at this;cases this;exact ⟨rfl,rfl⟩
  have FIN:=L_ (HH.out _ (xg7 H3) J3)
  clear hn hr HH
  go_wp2_with fail
  first | exact FIN.out | exact bodyPost_ret (v:=.tuple #[.bool false,.int .i64 30]) (by simp [results,Tryz.results28,go_sem]) rfl FIN.out
 | true =>
  have h1:Sq.OkT (a,b):=of_decide_eq_true HD1.out.symm
  cases d2 with
  | false =>
   have hn:¬ Sq.OkT (c,d):=of_decide_eq_false HD2.out.symm
   obtain ⟨rfl,rfl⟩:r=false∧e=30:=by have:=hr.out;unfold Sq.two at this;rw [if_pos (.inr hn)] at this;cases this;exact ⟨rfl,rfl⟩
   have FIN:=L_ (HH.out _ (xg7 H3) J3)
   clear hn hr HH h1
   go_wp2_with fail
   first | exact FIN.out | exact bodyPost_ret (v:=.tuple #[.bool false,.int .i64 30]) (by simp [results,Tryz.results28,go_sem]) rfl FIN.out
  | true =>
   have h2:Sq.OkT (c,d):=of_decide_eq_true HD2.out.symm
   have E0:Sq.two L (a,b) (c,d)=if Sq.zcz L (a,b)≠0 then (false,Sq.zcz L (a,b)) else if Sq.zcz L (c,d)≠0 then (false,Sq.zcz L (c,d)) else (decide (Sq.fi L (a,b)=Sq.fi L (c,d)),0):=by
    unfold Sq.two
    rw [if_neg (by simp [h1,h2])]
   rw [E0] at hr
   rcases Sq.ask_cases L (a,b) with ⟨q1,q2⟩ | ⟨q1,q2,q3⟩ | ⟨q1,q2,q3⟩
   ·exact absurd h1 q2
   ·obtain ⟨rfl,rfl⟩:r=false∧e=181:=by have:=hr.out;rw [if_pos (by rw [q1];decide),q1] at this;cases this;exact ⟨rfl,rfl⟩
    have HA:=xg9 q1 (by decide)
    clear hr q1 q2 q3 h1 h2 E0
    go_wp2_with (go_at_call 54;(with_reducible refine xgl a b HA ok.out H3 ?_);intro w4 H4 I4)
    have FIN:=L_ (HH.out _ (xg7 H4) (J3.trans I4))
    first | exact FIN.out | exact bodyPost_ret (v:=.tuple #[.bool false,.int .i64 181]) (by simp [results,Tryz.results28,go_sem]) rfl FIN.out
   ·have hr2:Hid ((if Sq.zcz L (c,d)≠0 then (false,Sq.zcz L (c,d)) else (decide (Sq.fi L (a,b)=Sq.fi L (c,d)),0))=(r,e)):=L_ (by have:=hr.out;rw [if_neg (not_not_intro q1)] at this;exact this)
    obtain ⟨i1,hi1⟩:∃ i1,i1=Sq.fi L (a,b):=⟨_,rfl⟩
    have HA:=xh5 q1 hi1
    rw [←hi1] at hr2
    clear hr E0 q1 q2 q3 hi1
    go_upto_region 6 with (go_at_call 54;(with_reducible refine xgl a b HA ok.out H3 ?_);intro w4 H4 I4;have J4:=J3.trans I4)
    clear y0 y1 y2 y3 H3 J3 I4 HA
    obtain ⟨y2,y3⟩:=tk2 H4.right
    rcases Sq.ask_cases L (c,d) with ⟨q1,q2⟩ | ⟨q1,q2,q3⟩ | ⟨q1,q2,q3⟩
    ·exact absurd h2 q2
    ·obtain ⟨rfl,rfl⟩:r=false∧e=181:=by have:=hr2.out;rw [if_pos (by rw [q1];decide),q1] at this;cases this;exact ⟨rfl,rfl⟩
     have HA:=xg9 q1 (by decide)
     clear hr2 q1 q2 q3 h1 h2
     go_wp2_with (go_at_call 54;(with_reducible refine xgl c d HA ok.out H4 ?_);intro w5 H5 I5)
     have FIN:=L_ (HH.out _ (xg7 H5) (J4.trans I5))
     first | exact FIN.out | exact bodyPost_ret (v:=.tuple #[.bool false,.int .i64 181]) (by simp [results,Tryz.results28,go_sem]) rfl FIN.out
    ·obtain ⟨i2,hi2⟩:∃ i2,i2=Sq.fi L (c,d):=⟨_,rfl⟩
     have HA:=xh5 q1 hi2
     rw [←hi2] at hr2
     obtain ⟨hrr,rfl⟩:r=decide (i1=i2)∧e=0:=by have:=hr2.out;rw [if_neg (not_not_intro q1)] at this;cases this;exact ⟨rfl,rfl⟩
     clear hr2 q1 q2 q3 h1 h2 hi2
     by_cases hq:i1=i2
     ·obtain rfl:r=true:=hrr.trans (decide_eq_true hq)
      subst hq
      clear hrr
      go_wp2_with (go_at_call 54;(with_reducible refine xgl c d HA ok.out H4 ?_);intro w5 H5 I5)
      have FIN:=L_ (HH.out _ (xg7 H5) (J4.trans I5))
      first | exact FIN.out | exact bodyPost_ret (v:=.tuple #[.bool true,.int .i64 0]) (by simp [results,Tryz.results28,go_sem]) rfl FIN.out
     ·obtain rfl:r=false:=hrr.trans (decide_eq_false hq)
      have hqi:¬ (i1:Int)=(i2:Int):=by omega
      have hqb:((i1:Int) == (i2:Int))=false:=by simpa using hqi
      clear hrr
      go_wp2_with (go_at_call 54;(with_reducible refine xgl c d HA ok.out H4 ?_);intro w5 H5 I5)
      have FIN:=L_ (HH.out _ (xg7 H5) (J4.trans I5))
      first | exact FIN.out | exact bodyPost_ret (v:=.tuple #[.bool false,.int .i64 0]) (by simp [results,Tryz.results28,go_sem]) rfl FIN.out
end
section
variable {x:Dl} {L:LL} {F:Asn} {w:World} {R:Ending→World→Prop}
theorem xha {b:Nat} {k1 k2:Int} (H:Sat (pts b (.cells #[.int .i64 k1,.int .i64 k2] 29 (0,0))*F) w):Sat (zar (.slice (some ⟨b,0,none⟩) 1 1) [(k1,k2)]*F) w :=
 za8.2 ⟨by simp [cellsOf,zlh],.inr ⟨b,1,#[.int .i64 k1,.int .i64 k2],rfl,by simp,by unfold maxLen;omega,rfl,by simp [cellsOf,zlh],H⟩⟩
theorem Dl.Ok.add {P':List (Value × List Tk)} {v':Value} {s:Sl3} {l:List Tk} (ok:x.Ok L) (hr:zp0 (Pool P') (slv s) l) (hi:∀ w,Sat (Pool P') w→Sat (Pool x.P) w) (hl:l.length≤1000) (hb:L.length+1≤1000) (hc:s.2.1≤s.2.2):(⟨x.a,v',x.ss++[s],P'⟩:Dl).Ok (L++[l]) where
 len:=by simp [ok.len]
 rd:=fun i h1 h2=>by
  simp only at h1 ⊢
  by_cases c:i<x.ss.length
  ·have c2:i<L.length:=by rw [←ok.len];exact c
   rw [List.getElem_append_left c,List.getElem_append_left c2]
   exact (ok.rd i c c2).imp hi
  ·have e:i=x.ss.length:=by rw [List.length_append] at h1;simp at h1;omega
   subst e
   have e2:L[x.ss.length]?=none:=by rw [ok.len];simp
   rw [List.getElem_append_right (Nat.le_refl _),List.getElem_append_right (by rw [ok.len];exact Nat.le_refl _)]
   simp
   exact hr
 big:=⟨by simp;omega,fun m hm=>by
  rcases List.mem_append.1 hm with h | h
  ·exact ok.big.2 m h
  ·rw [List.mem_singleton] at h;subst h;exact hl⟩
 cap:=fun m hm=>by
  rcases List.mem_append.1 hm with h | h
  ·exact ok.cap m h
  ·rw [List.mem_singleton] at h;subst h;exact hc
theorem Dl.Ok.erase {v':Value} (ok:x.Ok L) (q:Nat):(⟨x.a,v',x.ss.eraseIdx q,x.P⟩:Dl).Ok (L.eraseIdx q) where
 len:=by simp only [List.length_eraseIdx,ok.len]
 rd:=fun i h1 h2=>by
  simp only at h1 ⊢
  by_cases c:i<q
  ·have g1:i<x.ss.length:=Nat.lt_of_lt_of_le h1 (List.eraseIdx_sublist _ _).length_le
   rw [List.getElem_eraseIdx_of_lt h1 c,List.getElem_eraseIdx_of_lt h2 c]
   exact ok.rd i g1 (by rw [←ok.len];exact g1)
  ·have g1:i+1<x.ss.length∨¬ q<x.ss.length:=by
    by_cases d:q<x.ss.length
    ·left
     rw [List.length_eraseIdx,if_pos d] at h1
     omega
    ·exact .inr d
   rcases g1 with g1 | g1
   ·rw [List.getElem_eraseIdx_of_ge h1 (by omega),List.getElem_eraseIdx_of_ge h2 (by omega)]
    exact ok.rd (i+1) g1 (by rw [←ok.len];exact g1)
   ·have h1':=h1
    rw [List.length_eraseIdx,if_neg g1] at h1'
    omega
 big:=⟨by have:=(List.eraseIdx_sublist L q).length_le;have:=ok.big.1;omega,fun m hm=>ok.big.2 m ((List.eraseIdx_sublist L q).mem hm)⟩
 cap:=fun m hm=>ok.cap m ((List.eraseIdx_sublist x.ss q).mem hm)
theorem xgr {v v':Value} {ss':List Sl3} {P':List (Value × List Tk)} (H:Sat (xgp v' ss'*(pts x.a (.cells #[v] 52 (0,0))*(Pool P'*F))) w):Sat (DLt ⟨x.a,v',ss',P'⟩*F) (w.setCell ⟨x.a,0,none⟩ v'):=by
 have h:=(H.of_eq (show _=pts x.a (.cells #[v] 52 (0,0))*(xgp v' ss'*(Pool P'*F)) from by ac_rfl)).cell 0 v'
 exact Sat.of_eq h (by show pts x.a (.cells #[v'] 52 (0,0))*(xgp v' ss'*(Pool P'*F))=_;unfold DLt;ac_rfl)
theorem dm_in {A B:Asn} (H:Sat (A*(DLt x*(B*F))) w):Sat (xgp x.v x.ss*(pts x.a (.cells #[x.v] 52 (0,0))*(Pool x.P*(A*(B*F))))) w:=H.of_eq (by unfold DLt;ac_rfl)
theorem Sat.tail {p:Value × List Tk} {P:List (Value × List Tk)} {w:World} (H:Sat (Pool (p::P)) w):Sat (Pool P) w:=Sat.right (A:=zar p.1 p.2) H
theorem xgu {v:Value} {l:List Tk} {P:List (Value × List Tk)} {G:Asn} {w:World} (H:Sat (zar v l*G) w) (hl:l.length≤1000000):zp0 (Pool ((v,l)::P)) v l:=by
 obtain ⟨a,c,h1,h2,_⟩:=Reads.zau H hl
 refine ⟨a,c,h1,h2,?_⟩
 by_cases e:l=[]
 ·exact .inl e
 ·obtain ⟨g,c',h3⟩:=zd5 H (List.length_pos_iff.2 e)
  rw [h1] at h3
  cases h3
  subst h1
  exact .inr ⟨g,0,rfl,fun w' hw' j u hu=>by rw [Nat.zero_add];exact zi6 (F:=Pool P) hw' j u hu⟩
theorem xhc (a b:Int) {L':LL} {e:Int} (hm:Hid (Sq.zdl L (a,b)=(e,L'))) (ok:Hid (x.Ok L)) (hb:Hid (L.length+1≤1000)) (H:Sat (DLt x*F) w)
  (h:∀ x' w',x'.a=x.a→x'.Ok L'→Sat (DLt x'*F) w'→Io w w'→R (.returned (.int .i64 e)) w') :
  Calls Tryz.prog 21 #[xhm x.a,tkA a b] w R:=by
 have HH:=L_ h
 have H1:=xhk (H.new (.cells #[.int .i64 a,.int .i64 b] 29))
 have I1:=io1 H1 (Io.refl w)
 rcases Sq.ask_cases L (a,b) with ⟨q1,q2⟩ | ⟨q1,q2,q3⟩ | ⟨q1,q2,q3⟩
 ·obtain ⟨rfl,rfl⟩:e=30∧L'=L:=by have:=hm.out;unfold Sq.zdl at this;rw [if_pos q2] at this;cases this;exact ⟨rfl,rfl⟩
  have HA:=xg9 q1 (by decide)
  clear h H q1 q2 hm
  go_enter Tryz.func21,Tryz.ntmps21
  go_upto_region 1 with fail
  generalize w.alloc _=w1 at *
  generalize w.heap.size=bx at *
  obtain ⟨y0,y1⟩:=tk2 H1.right
  go_wp2_with (go_at_call 54;(with_reducible refine xgl a b HA ok.out H1 ?_);intro w2 H2 I2)
  have FIN:=L_ (HH.out x w2 rfl ok.out (xgs H2) (I1.trans I2))
  first | exact FIN.out | exact bodyPost_ret (v:=.int .i64 30) (by simp [results,Tryz.results21,go_sem]) rfl FIN.out
 ·obtain ⟨rfl,hL⟩:e=0∧L'=L++[[(a,b)]]:=by have:=hm.out;unfold Sq.zdl at this;rw [if_neg (not_not_intro q2),if_neg q3] at this;cases this;exact ⟨rfl,rfl⟩
  have HL:=L_ hL
  have HA:=xg9 q1 (by decide)
  obtain ⟨va,vc,hv⟩:=xg1 H
  obtain ⟨vn,hvn⟩:∃ vn,vn=x.ss.length:=⟨_,rfl⟩
  rw [←hvn] at hv
  have HV:=L_ hv
  have HSN:Hid (x.ss.length≤1000000):=L_ (by have:=ok.out.big.1;have:=ok.out.len;omega)
  clear h H q1 q2 q3 hm hL hv hvn
  go_enter Tryz.func21,Tryz.ntmps21
  go_upto_region 1 with fail
  generalize w.alloc _=w1 at *
  generalize w.heap.size=bx at *
  obtain ⟨y0,y1⟩:=tk2 H1.right
  go_upto_region 6 with (go_at_call 54;(with_reducible refine xgl a b HA ok.out H1 ?_);intro w2 H2 I2)
  have Kd:=H2.drew
  have Jd:=(I1.trans I2).drew
  clear y0 y1 H1 H2 I1 I2
  have S0:=tk2 Kd.right
  refine rh Kd (fun W Kd=>tk2 Kd.right) fun hHeld=>?_
  generalize w2.drew=wd at *
  refine tk ?_ ?_ [0,1,2,3,5] ?_ hHeld ?_;rotate_left 2;exact tt
  have C0:=HV.out ▸ (xgm Kd).1
  refine rd [4,6] (rn (fun K hK=>?_) (rc fun K hK=>?_))
  ·go_simp
   refine hK.out _ _ (by exact S0) fun hHeld=>?_
   clear hK K
   try simp only [sp]
   refine rd [6] (rc fun K hK=>?_)
   go_simp
   have HN:=Kd.new (.cells #[.int .i64 a,.int .i64 b] 29)
   have HR:Sat (xgp (.slice va vn vc) x.ss*(pts x.a (.cells #[x.v] 52 (0,0))*(Pool x.P*(pts wd.heap.size (.cells #[.int .i64 a,.int .i64 b] 29 (0,0))*(pts bx (.cells #[.int .i64 a,.int .i64 b] 29 (0,0))*F))))) (wd.alloc (.cells #[.int .i64 a,.int .i64 b] 29)):=HV.out ▸ dm_in HN
   have S1:=tk2 HN.right.right
   have C1:=HV.out ▸ (xgm HN.right).1
   refine hK.out _ _ (by exact S1) fun hHeld=>?_
   clear hK K
   try simp only [sp]
   refine rd [7] (rc fun K hK=>?_)
   go_simp
   have HM:=HN.new (.cells #[.slice (some ⟨wd.heap.size,0,none⟩) 1 1] 39)
   have S2:=tk2 HM.right.right.right
   have C2:=HV.out ▸ (xgm HM.right.right).1
   refine hK.out _ _ (by exact S2) fun hHeld=>?_
   clear hK K
   try simp only [sp]
   refine rd [8] (rc fun K hK=>?_)
   refine zcn xhb xgt rfl (.tmp 24) (.tmp 27) rfl rfl HR HSN.out (some ⟨wd.heap.size,0,none⟩,1,1) rfl (World.size_alloc _ _).symm ?_
   intro v8 w8 H8 I8
   obtain ⟨a8,c8,e8⟩:=zg1 H8
   obtain ⟨n8,hn8⟩:∃ n8,n8=(x.ss++[((some ⟨wd.heap.size,0,none⟩,1,1):Sl3)]).length:=⟨_,rfl⟩
   rw [←hn8] at e8
   subst e8
   clear hn8
   have F8:=Sat.free H8.right.left.at 0
   have C8:w8.cell? ⟨x.a,0,none⟩=some x.v:=Sat.read H8.right.left.at 0
   have S3:=tk2 H8.right.right.right.right
   refine hK.out _ _ (by exact S3) fun hHeld=>?_
   clear hK K
   try simp only [sp]
   have K9:=xha (H8.of_eq (show _=pts wd.heap.size (.cells #[.int .i64 a,.int .i64 b] 29 (0,0))*(xgp (.slice a8 n8 c8) (x.ss++[((some ⟨wd.heap.size,0,none⟩,1,1):Sl3)])*(pts x.a (.cells #[x.v] 52 (0,0))*(Pool x.P*(pts bx (.cells #[.int .i64 a,.int .i64 b] 29 (0,0))*F)))) from by unfold xgp;ac_rfl))
   have H9:=xgr (x:=x) (P':=(.slice (some ⟨wd.heap.size,0,none⟩) 1 1,[(a,b)])::x.P) (K9.of_eq (show _=xgp (.slice a8 n8 c8) (x.ss++[((some ⟨wd.heap.size,0,none⟩,1,1):Sl3)])*(pts x.a (.cells #[x.v] 52 (0,0))*((zar (.slice (some ⟨wd.heap.size,0,none⟩) 1 1) [(a,b)]*Pool x.P)*(pts bx (.cells #[.int .i64 a,.int .i64 b] 29 (0,0))*F))) from by unfold zar xgp;ac_rfl))
   refine tk ?_ ?_ [9,10] ?_ hHeld ?_;rotate_left 2;exact tt
   refine rd [11] (rc fun K hK=>?_)
   go_simp
   refine hK.out _ _ (by exact tk2 H9.right) fun hHeld=>?_
   clear hK K
   try simp only [sp]
   refine wpAnyH_done (by kernel_rfl) ?_ _
   have FIN:=L_ (HH.out ⟨x.a,.slice a8 n8 c8,x.ss++[((some ⟨wd.heap.size,0,none⟩,1,1):Sl3)],(.slice (some ⟨wd.heap.size,0,none⟩) 1 1,[(a,b)])::x.P⟩ _ rfl (by rw [HL.out];exact ok.out.add (xgu K9 (by simp)) (fun w hw=>Sat.tail hw) (by simp) hb.out (Nat.le_refl _)) (xgs H9) ((Jd.trans (((Io.refl wd).alloc _).trans I8)).setCell _ _))
   clear hHeld S0 S3 C8 F8
   go_wp2_with fail
   exact FIN.out
  ·go_simp
   have HN:=Kd.new (.cells #[.int .i64 a,.int .i64 b] 29)
   have HR:Sat (xgp (.slice va vn vc) x.ss*(pts x.a (.cells #[x.v] 52 (0,0))*(Pool x.P*(pts wd.heap.size (.cells #[.int .i64 a,.int .i64 b] 29 (0,0))*(pts bx (.cells #[.int .i64 a,.int .i64 b] 29 (0,0))*F))))) (wd.alloc (.cells #[.int .i64 a,.int .i64 b] 29)):=HV.out ▸ dm_in HN
   have S1:=tk2 HN.right.right
   have C1:=HV.out ▸ (xgm HN.right).1
   refine hK.out _ _ (by exact S1) fun hHeld=>?_
   clear hK K
   try simp only [sp]
   refine rd [4,7] (rn (fun K hK=>?_) (rc fun K hK=>?_))
   ·go_simp
    refine hK.out _ _ (by exact S1) fun hHeld=>?_
    clear hK K
    try simp only [sp]
    refine rd [7] (rc fun K hK=>?_)
    go_simp
    have HM:=HN.new (.cells #[.slice (some ⟨wd.heap.size,0,none⟩) 1 1] 39)
    have S2:=tk2 HM.right.right.right
    have C2:=HV.out ▸ (xgm HM.right.right).1
    refine hK.out _ _ (by exact S2) fun hHeld=>?_
    clear hK K
    try simp only [sp]
    refine rd [8] (rc fun K hK=>?_)
    refine zcn xhb xgt rfl (.tmp 24) (.tmp 27) rfl rfl HR HSN.out (some ⟨wd.heap.size,0,none⟩,1,1) rfl (World.size_alloc _ _).symm ?_
    intro v8 w8 H8 I8
    obtain ⟨a8,c8,e8⟩:=zg1 H8
    obtain ⟨n8,hn8⟩:∃ n8,n8=(x.ss++[((some ⟨wd.heap.size,0,none⟩,1,1):Sl3)]).length:=⟨_,rfl⟩
    rw [←hn8] at e8
    subst e8
    clear hn8
    have F8:=Sat.free H8.right.left.at 0
    have C8:w8.cell? ⟨x.a,0,none⟩=some x.v:=Sat.read H8.right.left.at 0
    have S3:=tk2 H8.right.right.right.right
    refine hK.out _ _ (by exact S3) fun hHeld=>?_
    clear hK K
    try simp only [sp]
    have K9:=xha (H8.of_eq (show _=pts wd.heap.size (.cells #[.int .i64 a,.int .i64 b] 29 (0,0))*(xgp (.slice a8 n8 c8) (x.ss++[((some ⟨wd.heap.size,0,none⟩,1,1):Sl3)])*(pts x.a (.cells #[x.v] 52 (0,0))*(Pool x.P*(pts bx (.cells #[.int .i64 a,.int .i64 b] 29 (0,0))*F)))) from by unfold xgp;ac_rfl))
    have H9:=xgr (x:=x) (P':=(.slice (some ⟨wd.heap.size,0,none⟩) 1 1,[(a,b)])::x.P) (K9.of_eq (show _=xgp (.slice a8 n8 c8) (x.ss++[((some ⟨wd.heap.size,0,none⟩,1,1):Sl3)])*(pts x.a (.cells #[x.v] 52 (0,0))*((zar (.slice (some ⟨wd.heap.size,0,none⟩) 1 1) [(a,b)]*Pool x.P)*(pts bx (.cells #[.int .i64 a,.int .i64 b] 29 (0,0))*F))) from by unfold zar xgp;ac_rfl))
    refine tk ?_ ?_ [9,10] ?_ hHeld ?_;rotate_left 2;exact tt
    refine rd [11] (rc fun K hK=>?_)
    go_simp
    refine hK.out _ _ (by exact tk2 H9.right) fun hHeld=>?_
    clear hK K
    try simp only [sp]
    refine wpAnyH_done (by kernel_rfl) ?_ _
    have FIN:=L_ (HH.out ⟨x.a,.slice a8 n8 c8,x.ss++[((some ⟨wd.heap.size,0,none⟩,1,1):Sl3)],(.slice (some ⟨wd.heap.size,0,none⟩) 1 1,[(a,b)])::x.P⟩ _ rfl (by rw [HL.out];exact ok.out.add (xgu K9 (by simp)) (fun w hw=>Sat.tail hw) (by simp) hb.out (Nat.le_refl _)) (xgs H9) ((Jd.trans (((Io.refl wd).alloc _).trans I8)).setCell _ _))
    clear hHeld S0 S3 C8 F8
    go_wp2_with fail
    exact FIN.out
   ·go_simp
    have HM:=HN.new (.cells #[.slice (some ⟨wd.heap.size,0,none⟩) 1 1] 39)
    have S2:=tk2 HM.right.right.right
    have C2:=HV.out ▸ (xgm HM.right.right).1
    refine hK.out _ _ (by exact S2) fun hHeld=>?_
    clear hK K
    try simp only [sp]
    refine rd [4] (rc fun K hK=>?_)
    go_simp
    refine hK.out _ _ (by exact S2) fun hHeld=>?_
    clear hK K
    try simp only [sp]
    refine rd [8] (rc fun K hK=>?_)
    refine zcn xhb xgt rfl (.tmp 24) (.tmp 27) rfl rfl HR HSN.out (some ⟨wd.heap.size,0,none⟩,1,1) rfl (World.size_alloc _ _).symm ?_
    intro v8 w8 H8 I8
    obtain ⟨a8,c8,e8⟩:=zg1 H8
    obtain ⟨n8,hn8⟩:∃ n8,n8=(x.ss++[((some ⟨wd.heap.size,0,none⟩,1,1):Sl3)]).length:=⟨_,rfl⟩
    rw [←hn8] at e8
    subst e8
    clear hn8
    have F8:=Sat.free H8.right.left.at 0
    have C8:w8.cell? ⟨x.a,0,none⟩=some x.v:=Sat.read H8.right.left.at 0
    have S3:=tk2 H8.right.right.right.right
    refine hK.out _ _ (by exact S3) fun hHeld=>?_
    clear hK K
    try simp only [sp]
    have K9:=xha (H8.of_eq (show _=pts wd.heap.size (.cells #[.int .i64 a,.int .i64 b] 29 (0,0))*(xgp (.slice a8 n8 c8) (x.ss++[((some ⟨wd.heap.size,0,none⟩,1,1):Sl3)])*(pts x.a (.cells #[x.v] 52 (0,0))*(Pool x.P*(pts bx (.cells #[.int .i64 a,.int .i64 b] 29 (0,0))*F)))) from by unfold xgp;ac_rfl))
    have H9:=xgr (x:=x) (P':=(.slice (some ⟨wd.heap.size,0,none⟩) 1 1,[(a,b)])::x.P) (K9.of_eq (show _=xgp (.slice a8 n8 c8) (x.ss++[((some ⟨wd.heap.size,0,none⟩,1,1):Sl3)])*(pts x.a (.cells #[x.v] 52 (0,0))*((zar (.slice (some ⟨wd.heap.size,0,none⟩) 1 1) [(a,b)]*Pool x.P)*(pts bx (.cells #[.int .i64 a,.int .i64 b] 29 (0,0))*F))) from by unfold zar xgp;ac_rfl))
    refine tk ?_ ?_ [9,10] ?_ hHeld ?_;rotate_left 2;exact tt
    refine rd [11] (rc fun K hK=>?_)
    go_simp
    refine hK.out _ _ (by exact tk2 H9.right) fun hHeld=>?_
    clear hK K
    try simp only [sp]
    refine wpAnyH_done (by kernel_rfl) ?_ _
    have FIN:=L_ (HH.out ⟨x.a,.slice a8 n8 c8,x.ss++[((some ⟨wd.heap.size,0,none⟩,1,1):Sl3)],(.slice (some ⟨wd.heap.size,0,none⟩) 1 1,[(a,b)])::x.P⟩ _ rfl (by rw [HL.out];exact ok.out.add (xgu K9 (by simp)) (fun w hw=>Sat.tail hw) (by simp) hb.out (Nat.le_refl _)) (xgs H9) ((Jd.trans (((Io.refl wd).alloc _).trans I8)).setCell _ _))
    clear hHeld S0 S3 C8 F8
    go_wp2_with fail
    exact FIN.out
 ·obtain ⟨rfl,rfl⟩:e=180∧L'=L:=by have:=hm.out;unfold Sq.zdl at this;rw [if_neg (not_not_intro q2),if_pos q3] at this;cases this;exact ⟨rfl,rfl⟩
  have HA:=xh5 q1 rfl
  clear h H q1 q2 q3 hm
  go_enter Tryz.func21,Tryz.ntmps21
  go_upto_region 1 with fail
  generalize w.alloc _=w1 at *
  generalize w.heap.size=bx at *
  obtain ⟨y0,y1⟩:=tk2 H1.right
  go_wp2_with (go_at_call 54;(with_reducible refine xgl a b HA ok.out H1 ?_);intro w2 H2 I2)
  have FIN:=L_ (HH.out x w2 rfl ok.out (xgs H2) (I1.trans I2))
  first | exact FIN.out | exact bodyPost_ret (v:=.int .i64 180) (by simp [results,Tryz.results21,go_sem]) rfl FIN.out
end
section
variable {x:Dl} {L:LL} {F:Asn} {w:World} {R:Ending→World→Prop}
theorem xh4 {L:LL} {k:Tk} {i1 j1:Nat} (q:Sq.zcz L k=0) (hi:i1=Sq.fi L k) (hj:j1=Sq.fj (Sq.rowOf L k) k):Hid ((Sq.zcz L k=0∧(0:Int)=0∧(i1:Int)=Sq.fi L k∧(j1:Int)=Sq.fj (Sq.rowOf L k) k)∨(Sq.zcz L k≠0∧(0:Int)=Sq.zcz L k∧(i1:Int)=-1∧(j1:Int)=-1)):=L_ (.inl ⟨q,rfl,by rw [hi],by rw [hj]⟩)
theorem dr_in {A:Asn} {v:Value} {ss:List Sl3} (H:Sat (xgp v ss*(DLt x*(A*F))) w):Sat (xgp v ss*(pts x.a (.cells #[x.v] 52 (0,0))*(Pool x.P*(xgp x.v x.ss*(A*F))))) w:=H.of_eq (by unfold DLt;ac_rfl)
theorem xgq {α:Type} {enc:α→List Value} {sz:Nat} {e:TypeId} {v:Value} {l:List α} (H:Sat (RowOf e sz enc v l*F) w):∃ a n c,v=.slice a n c:=by
 obtain ⟨a,c,h⟩:=zg1 H
 exact ⟨a,_,c,h⟩
theorem dr_out {A B C:Asn} (H:Sat (A*(B*(C*F))) w):Sat (A*F) w:=(H.of_eq (show _=(B*C)*(A*F) from by ac_rfl)).right
theorem xhj (a b:Int) {L':LL} {e:Int} (hm:Hid (Sq.zft L (a,b)=(e,L'))) (ok:Hid (x.Ok L)) (H:Sat (DLt x*F) w)
  (h:∀ x' w',x'.a=x.a→x'.Ok L'→Sat (DLt x'*F) w'→Io w w'→R (.returned (.int .i64 e)) w') :
  Calls Tryz.prog 26 #[xhm x.a,tkA a b] w R:=by
 have HH:=L_ h
 have H1:=xhk (H.new (.cells #[.int .i64 a,.int .i64 b] 29))
 have I1:=io1 H1 (Io.refl w)
 rcases Sq.ask_cases L (a,b) with ⟨q1,q2⟩ | ⟨q1,q2,q3⟩ | ⟨q1,q2,q3⟩
 ·obtain ⟨rfl,rfl⟩:e=30∧L'=L:=by have:=hm.out;unfold Sq.zft at this;rw [if_pos (by rw [q1];decide),q1] at this;cases this;exact ⟨rfl,rfl⟩
  have HA:=xg9 q1 (by decide)
  clear h H q1 q2 hm
  go_enter Tryz.func26,Tryz.ntmps26
  go_upto_region 1 with fail
  generalize w.alloc _=w1 at *
  generalize w.heap.size=bx at *
  obtain ⟨y0,y1⟩:=tk2 H1.right
  go_wp2_with (go_at_call 54;(with_reducible refine xgl a b HA ok.out H1 ?_);intro w2 H2 I2)
  have FIN:=L_ (HH.out x w2 rfl ok.out (xgs H2) (I1.trans I2))
  first | exact FIN.out | exact bodyPost_ret (v:=.int .i64 30) (by simp [results,Tryz.results26,go_sem]) rfl FIN.out
 ·obtain ⟨rfl,rfl⟩:e=181∧L'=L:=by have:=hm.out;unfold Sq.zft at this;rw [if_pos (by rw [q1];decide),q1] at this;cases this;exact ⟨rfl,rfl⟩
  have HA:=xg9 q1 (by decide)
  clear h H q1 q2 q3 hm
  go_enter Tryz.func26,Tryz.ntmps26
  go_upto_region 1 with fail
  generalize w.alloc _=w1 at *
  generalize w.heap.size=bx at *
  obtain ⟨y0,y1⟩:=tk2 H1.right
  go_wp2_with (go_at_call 54;(with_reducible refine xgl a b HA ok.out H1 ?_);intro w2 H2 I2)
  have FIN:=L_ (HH.out x w2 rfl ok.out (xgs H2) (I1.trans I2))
  first | exact FIN.out | exact bodyPost_ret (v:=.int .i64 181) (by simp [results,Tryz.results26,go_sem]) rfl FIN.out
 ·obtain ⟨i,hi⟩:∃ i,i=Sq.fi L (a,b):=⟨_,rfl⟩
  have g2:i<L.length:=by rw [hi];exact q3
  have g1:i<x.ss.length:=by rw [ok.out.len];exact g2
  have hrow:Sq.rowOf L (a,b)=L[i]:=by subst hi;exact Sq.zf4 q3
  obtain ⟨sa,sc,hs⟩:=xhs ok.out i g1 g2
  obtain ⟨ln,hln⟩:∃ ln,ln=L[i].length:=⟨_,rfl⟩
  have hlb:(ln:Int)≤1000:=by have:=ok.out.big.2 _ (List.getElem_mem g2);omega
  obtain ⟨j,hj⟩:∃ j,j=Sq.fj (Sq.rowOf L (a,b)) (a,b):=⟨_,rfl⟩
  have HA:=xh4 q1 hi hj
  obtain ⟨va,vc,hv⟩:=xg1 H
  obtain ⟨g,c0,hg⟩:=xgv H (by omega)
  rw [hv] at hg
  cases hg
  obtain ⟨sn,hsn⟩:∃ sn,sn=x.ss.length:=⟨_,rfl⟩
  rw [←hsn] at hv
  have HV:=L_ hv
  have hb:(sn:Int)≤1000:=by have:=ok.out.big.1;have:=ok.out.len;omega
  have hi0:(0:Int)≤(i:Int):=by omega
  have hin:(i:Int)<(sn:Int):=by omega
  have HG1:=L_ g1
  have HI:Hid (i≤1000):=L_ (by have:=ok.out.big.1;omega)
  have HS:Hid (x.ss[i]=(sa,ln,sc)):=L_ (hs.trans (by rw [hln]))
  by_cases hl:ln=1
  ·obtain ⟨rfl,hL⟩:e=0∧L'=L.eraseIdx i:=by have:=hm.out;unfold Sq.zft at this;rw [if_neg (not_not_intro q1),if_neg (not_not_intro (by rw [hrow,←hln];exact hl)),←hi] at this;cases this;exact ⟨rfl,rfl⟩
   have HL:=L_ hL
   have hl1:(ln:Int)=1:=by omega
   clear h H q1 q2 q3 hm hL hi g1 g2 hrow hs hln hj hv hsn hl
   go_enter Tryz.func26,Tryz.ntmps26
   go_upto_region 1 with fail
   generalize w.alloc _=w1 at *
   generalize w.heap.size=bx at *
   obtain ⟨y0,y1⟩:=tk2 H1.right
   go_upto_region 4 with (go_at_call 54;(with_reducible refine xgl a b HA ok.out H1 ?_);intro w2 H2 I2)
   obtain ⟨z0,-⟩:=xgm H2
   rw [HV.out] at z0
   have z1:w2.cell? ⟨g,i,none⟩=some (.slice sa ln sc):=by
    exact (xgz HV.out H2 i HG1.out).trans (congrArg (fun s:Sl3=>some (slv s)) HS.out)
   obtain ⟨y2,y3⟩:=tk2 H2.right
   go_wp2_with (go_at_call 57;(refine xgw i ok.out HI H2 ?_);intro v3 w3 H3 I3;have E3:=xgq H3;obtain ⟨a3,n3,c3,e3⟩:=E3;subst e3;have K3:=dr_in H3;have F3:=xgm H3.right;obtain ⟨f0,f1⟩:=F3)
   have FIN:=L_ (HH.out ⟨x.a,.slice a3 n3 c3,x.ss.eraseIdx i,x.P⟩ _ rfl (by rw [HL.out];exact ok.out.erase i) (dr_out (xgr K3)) (((I1.trans I2).trans I3).setCell _ _))
   first | exact FIN.out | exact bodyPost_ret (v:=.int .i64 0) (by simp [results,Tryz.results26,go_sem]) rfl FIN.out
  ·obtain ⟨rfl,hL⟩:e=1∧L'=L:=by have:=hm.out;unfold Sq.zft at this;rw [if_neg (not_not_intro q1),if_pos (by rw [hrow,←hln];exact hl)] at this;cases this;exact ⟨rfl,rfl⟩
   subst hL
   have hl1:¬ (ln:Int)=1:=by omega
   have hl2:(Value.bool ((ln:Int) == 1))=.bool false:=by rw [beq_false_of_ne hl1]
   have HLL:=L_ hl
   clear h H q1 q2 q3 hm hi g1 g2 hrow hs hln hj hv hsn
   go_enter Tryz.func26,Tryz.ntmps26
   go_upto_region 1 with fail
   generalize w.alloc _=w1 at *
   generalize w.heap.size=bx at *
   obtain ⟨y0,y1⟩:=tk2 H1.right
   go_upto_region 4 with (go_at_call 54;(with_reducible refine xgl a b HA ok.out H1 ?_);intro w2 H2 I2)
   obtain ⟨z0,-⟩:=xgm H2
   rw [HV.out] at z0
   have z1:w2.cell? ⟨g,i,none⟩=some (.slice sa ln sc):=by
    exact (xgz HV.out H2 i HG1.out).trans (congrArg (fun s:Sl3=>some (slv s)) HS.out)
   have FIN:=L_ (HH.out x w2 rfl ok.out (xgs H2) (I1.trans I2))
   go_wp2_with fail
   first | exact FIN.out | exact bodyPost_ret (v:=.int .i64 1) (by simp [results,Tryz.results26,go_sem]) rfl FIN.out
end
section
variable {x:Dl} {L:LL} {F:Asn} {w:World} {R:Ending→World→Prop}
theorem jn_in {A B C:Asn} (H:Sat (B*(A*(C*F))) w):Sat (C*(A*(B*F))) w:=H.of_eq (by ac_rfl)
theorem xhp {b1 b2:Nat} {A:Asn} {t1 t2:TypeId} {x1 x2 y1 y2:Value} (H:Sat (A*(pts b1 (.cells #[x1,x2] t1 (0,0))*(pts b2 (.cells #[y1,y2] t2 (0,0))*F))) w):(w.cell? ⟨b1,0,none⟩=some x1∧w.cell? ⟨b1,1,none⟩=some x2)∧(w.cell? ⟨b2,0,none⟩=some y1∧w.cell? ⟨b2,1,none⟩=some y2):=⟨tk2 H.right,tk2 H.right.right⟩
theorem xh1 {A B C:Asn} (H:Sat (A*(B*(C*F))) w):Sat (A*F) w:=(H.of_eq (show _=(B*C)*(A*F) from by ac_rfl)).right
theorem jn_row {A B C:Asn} {v:Value} {l:List Tk} (H:Sat (zar v l*(A*(B*(C*F)))) w):Sat (A*(B*(C*(zar v l*F)))) w:=H.of_eq (by unfold zar;ac_rfl)
theorem jn_st {A B C:Asn} {v:Value} {ss:List Sl3} (H:Sat (xgp v ss*(DLt x*(A*(B*(C*F))))) w):Sat (xgp v ss*(pts x.a (.cells #[x.v] 52 (0,0))*(Pool x.P*(xgp x.v x.ss*(A*(B*(C*F))))))) w:=H.of_eq (by unfold DLt;ac_rfl)
theorem jn_dr {A B C D E:Asn} (H:Sat (A*(B*(C*(D*(E*F))))) w):Sat (A*(C*(D*(E*F)))) w:=(H.of_eq (show _=B*(A*(C*(D*(E*F)))) from by ac_rfl)).right
theorem row_le {α:Type} {enc:α→List Value} {sz:Nat} {e:TypeId} {a:Option Addr} {n c:Nat} {l:List α} (H:Sat (RowOf e sz enc (.slice a n c) l*F) w):n≤c:=by
 obtain ⟨hx,⟨h1,h0,_⟩ | ⟨g,cap,cur,h1,h2,_⟩⟩:=za8.1 H
 ·cases h1;exact Nat.le_refl _
 ·cases h1;exact h2
theorem jn_fin {A B o:Asn} {v:Value} {ss:List Sl3} {v7:Value} {l7:List Tk} {P:List (Value × List Tk)} (H:Sat (xgp v ss*(o*(Pool P*(A*(B*(zar v7 l7*F)))))) w):Sat (xgp v ss*(o*(Pool ((v7,l7)::P)*(A*(B*F))))) w:=H.of_eq (show _=xgp v ss*(o*((zar v7 l7*Pool P)*(A*(B*F)))) from by unfold zar xgp;ac_rfl)
theorem jn_rd {A B C D E:Asn} {v:Value} {l:List Tk} (H:Sat (A*(B*(C*(D*(E*(zar v l*F)))))) w):Sat (zar v l*(A*(B*(C*(D*(E*F)))))) w:=H.of_eq (by unfold zar;ac_rfl)
theorem xhd (a1 b1 a2 b2:Int) {L':LL} {e:Int} (hm:Hid (Sq.zcw L (a1,b1) (a2,b2)=(e,L'))) (nd:Hid L.flatten.Nodup) (hn:Hid (L.flatten.length≤1000)) (ok:Hid (x.Ok L)) (H:Sat (DLt x*F) w)
  (h:∀ x' w',x'.a=x.a→x'.Ok L'→Sat (DLt x'*F) w'→Io w w'→R (.returned (.int .i64 e)) w') :
  Calls Tryz.prog 22 #[xhm x.a,tkA a1 b1,tkA a2 b2] w R:=by
 have HH:=L_ h
 have H1:=jn_in ((H.new (.cells #[.int .i64 a1,.int .i64 b1] 29)).new (.cells #[.int .i64 a2,.int .i64 b2] 29))
 have I1:=io2 H1 (Io.refl w)
 simp only [World.size_alloc] at H1
 obtain ⟨r,e2,ht⟩:∃ r e,Sq.two L (a1,b1) (a2,b2)=(r,e):=⟨_,_,rfl⟩
 have HT:=L_ ht
 by_cases h0:e2=0
 ·subst h0
  have h00:(Sq.two L (a1,b1) (a2,b2)).2=0:=by rw [ht]
  have h01:(Sq.two L (a1,b1) (a2,b2)).1=r:=by rw [ht]
  obtain ⟨⟨o1,t1⟩,o2,t2⟩:=Sq.xdb.1 h00
  cases r with
  | true =>
   obtain ⟨rfl,rfl⟩:e=1∧L'=L:=by have:=hm.out;unfold Sq.zcw at this;rw [if_neg (not_not_intro h00),if_pos h01] at this;cases this;exact ⟨rfl,rfl⟩
   clear h H ht h00 h01 o1 t1 o2 t2 hm
   go_enter Tryz.func22,Tryz.ntmps22
   go_upto_region 1 with fail
   generalize (w.alloc _).alloc _=w1 at *
   generalize w.heap.size=bx at *
   obtain ⟨⟨y0,y1⟩,⟨y2,y3⟩⟩:=xhp H1
   go_wp2_with (go_at_call 28;(with_reducible refine xg0 a1 b1 a2 b2 HT ok H1 ?_);intro w2 H2 I2)
   have FIN:=L_ (HH.out x w2 rfl ok.out (xh1 H2) (I1.trans I2))
   first | exact FIN.out | exact bodyPost_ret (v:=.int .i64 1) (by simp [results,Tryz.results22,go_sem]) rfl FIN.out
  | false =>
   obtain ⟨rfl,hL⟩:e=0∧L'=Sq.joined L (a1,b1) (a2,b2):=by have:=hm.out;unfold Sq.zcw at this;rw [if_neg (not_not_intro h00),if_neg (by rw [h01];decide)] at this;cases this;exact ⟨rfl,rfl⟩
   have HL:=L_ hL
   have k1:=Sq.zxv.2 ⟨o1,t1⟩
   have k2:=Sq.zxv.2 ⟨o2,t2⟩
   have hne:Sq.fi L (a1,b1)≠Sq.fi L (a2,b2):=by
    have:=Sq.two1 h00
    rw [h01] at this
    exact of_decide_eq_false this.symm
   have T2:=Sq.zxf nd.out t1 t2 hne
   obtain ⟨i,hi⟩:∃ i,i=Sq.fi L (a1,b1):=⟨_,rfl⟩
   obtain ⟨j,hj⟩:∃ j,j=Sq.fi (L.eraseIdx (Sq.fi L (a1,b1))) (a2,b2):=⟨_,rfl⟩
   obtain ⟨p,hp⟩:∃ p,p=Sq.fjN L (a1,b1):=⟨_,rfl⟩
   obtain ⟨q,hq⟩:∃ q,q=Sq.fjN (L.eraseIdx (Sq.fi L (a1,b1))) (a2,b2):=⟨_,rfl⟩
   have FA:Hid (Sq.fiN L (a1,b1)=(i:Int)∧Sq.fjN L (a1,b1)=p):=L_ ⟨by unfold Sq.fiN;rw [if_pos t1,hi],hp.symm⟩
   have FB:Hid (Sq.fiN (L.eraseIdx i) (a2,b2)=(j:Int)∧Sq.fjN (L.eraseIdx i) (a2,b2)=q):=L_ (by subst hi;exact ⟨by unfold Sq.fiN;rw [if_pos T2,hj],hq.symm⟩)
   have HJD:Hid (L'=(L.eraseIdx i).eraseIdx j++[Sq.rowOf L (a1,b1)++Sq.rowOf L (a2,b2)]):=L_ (by rw [hL];unfold Sq.joined;rw [←hj,←hi])
   have HI:Hid (i≤1000):=L_ (by have:=ok.out.big.1;have:Sq.fi L (a1,b1)<L.length:=t1;omega)
   have HJ:Hid (j≤1000):=L_ (by have h1:=ok.out.big.1;have h2:Sq.fi (L.eraseIdx (Sq.fi L (a1,b1))) (a2,b2)<(L.eraseIdx (Sq.fi L (a1,b1))).length:=T2;have h3:=(List.eraseIdx_sublist L (Sq.fi L (a1,b1))).length_le;omega)
   have HR1:Hid ((if Sq.zcz L (a1,b1)=0 then Sq.rowOf L (a1,b1) else [])=Sq.rowOf L (a1,b1)):=L_ (if_pos k1)
   have HR2:Hid ((if Sq.zcz L (a2,b2)=0 then Sq.rowOf L (a2,b2) else [])=Sq.rowOf L (a2,b2)):=L_ (if_pos k2)
   have HB1:Hid (((L.eraseIdx i).eraseIdx j).length+1≤1000):=L_ (by
    have h1:=ok.out.big.1
    have h2:i<L.length:=by rw [hi];exact t1
    have h3:=(List.eraseIdx_sublist (L.eraseIdx i) j).length_le
    have h4:(L.eraseIdx i).length=L.length - 1:=by rw [List.length_eraseIdx,if_pos h2]
    omega)
   have HSN:Hid (x.ss.length≤1000):=L_ (by have:=ok.out.big.1;have:=ok.out.len;omega)
   have HE1:=L_ k1
   have HE2:=L_ k2
   have B1:Hid ((Sq.rowOf L (a1,b1)).length≤1000∧(Sq.rowOf L (a2,b2)).length≤1000):=L_ ⟨ok.out.big.2 _ (Sq.row_in t1),ok.out.big.2 _ (Sq.row_in t2)⟩
   have BJ:Hid ((Sq.rowOf L (a1,b1)++Sq.rowOf L (a2,b2)).length≤1000):=L_ (by
    have h1:=(Sq.zjb t1).length_eq
    have h2:=(Sq.zjb T2).length_eq
    rw [Sq.z2r nd.out t1 t2 hne] at h2
    rw [List.length_append] at h1 h2 ⊢
    have:=hn.out
    omega)
   clear h H ht h00 h01 o1 t1 o2 t2 hm hL k1 k2 hne T2 hi hj hp hq
   go_enter Tryz.func22,Tryz.ntmps22
   go_upto_region 1 with fail
   generalize (w.alloc _).alloc _=w1 at *
   generalize w.heap.size=bx at *
   obtain ⟨⟨y0,y1⟩,⟨y2,y3⟩⟩:=xhp H1
   go_upto_region 6 with (go_at_call 28;(with_reducible refine xg0 a1 b1 a2 b2 HT ok H1 ?_);intro w2 H2 I2)
   have J2:=I1.trans I2
   clear y0 y1 y2 y3 H1 I1 I2
   obtain ⟨⟨y0,y1⟩,⟨y2,y3⟩⟩:=xhp H2
   go_upto_region 7 with (go_at_call 55;(refine xg5 a1 b1 ok.out H2 ?_);intro v3 w3 R3 H3 I3)
   have J3:=J2.trans I3
   clear y0 y1 y2 y3 H2 J2 I3
   obtain ⟨⟨y0,y1⟩,⟨y2,y3⟩⟩:=xhp H3
   go_upto_region 8 with (go_at_call 55;(refine xg5 a2 b2 ok.out H3 ?_);intro v4 w4 R4 H4 I4)
   have J4:=J3.trans I4
   clear y0 y1 y2 y3 H3 J3 I4
   rw [HR1.out] at R3
   rw [HR2.out] at R4
   have HR3:=L_ R3
   have HR4:=L_ R4
   clear R3 R4
   have K5:=za5 (sz:=2) (enc:=zlh) (e:=29) H4
   go_upto_region 11 with (first
    | (at_builtin;refine zae zlf zbq rfl (.tmp 43) (.tmp 44) rfl rfl K5 (by simp) (by have:=B1.out;omega) rfl (xgy HR3.out) ?_;intro v6 w6 H6 I6;have E6:=xgq H6;obtain ⟨a6,n6,c6,e6⟩:=E6;subst e6)
    | (at_builtin;refine zae zlf zbq rfl (.tmp 46) (.tmp 47) rfl rfl H6 (by have:=B1.out;rw [List.nil_append];omega) (by have:=B1.out;omega) rfl (xgy HR4.out) ?_;intro v7 w7 H7 I7;have E7:=xgq H7;obtain ⟨a7,n7,c7,e7⟩:=E7;subst e7)
    | fail)
   have J7:=(J4.trans I6).trans I7
   obtain ⟨l7,hl7⟩:∃ l7,l7=([]++Sq.rowOf L (a1,b1))++Sq.rowOf L (a2,b2):=⟨_,rfl⟩
   rw [←hl7] at H7
   rw [List.nil_append] at hl7
   rw [←hl7] at HJD BJ
   have H8:=jn_row H7
   clear H4 K5 H6 H7 J4 I6 I7 HR3 HR4 hl7
   obtain ⟨⟨y0,y1⟩,⟨y2,y3⟩⟩:=xhp H8
   go_upto_region 12 with (go_at_call 56;(refine xg6 a1 b1 FA ok H8 ?_);intro w9 H9 I9)
   have J9:=J7.trans I9
   clear y0 y1 y2 y3 H8 J7 I9
   go_upto_region 13 with (go_at_call 57;(refine xgw i ok.out HI H9 ?_);intro v10 w10 H10 I10;have E10:=xgq H10;obtain ⟨a10,n10,c10,e10⟩:=E10;subst e10;have F10:=xgm H10.right;obtain ⟨f0,f1⟩:=F10)
   have ok1:Hid ((⟨x.a,.slice a10 n10 c10,x.ss.eraseIdx i,x.P⟩:Dl).Ok (L.eraseIdx i)):=L_ (ok.out.erase i)
   have H11:=jn_dr (xgr (jn_st H10))
   have J11:=(J9.trans I10).setCell ⟨x.a,0,none⟩ (.slice a10 n10 c10)
   clear f0 f1 H9 H10 J9 I10
   generalize w10.setCell _ _=w11 at *
   obtain ⟨⟨y0,y1⟩,⟨y2,y3⟩⟩:=xhp H11
   go_upto_region 14 with (go_at_call 56;(refine xg6 (x:=⟨x.a,.slice a10 n10 c10,x.ss.eraseIdx i,x.P⟩) a2 b2 FB ok1 H11 ?_);intro w12 H12 I12)
   have J12:=J11.trans I12
   clear y0 y1 y2 y3 H11 J11 I12
   go_upto_region 15 with (go_at_call 57;(refine xgw (x:=⟨x.a,.slice a10 n10 c10,x.ss.eraseIdx i,x.P⟩) j ok1.out HJ H12 ?_);intro v13 w13 H13 I13;have E13:=xgq H13;obtain ⟨a13,n13,c13,e13⟩:=E13;subst e13;have F13:=xgm H13.right;obtain ⟨f0,f1⟩:=F13)
   have ok2:Hid ((⟨x.a,.slice a13 n13 c13,(x.ss.eraseIdx i).eraseIdx j,x.P⟩:Dl).Ok ((L.eraseIdx i).eraseIdx j)):=L_ (ok1.out.erase j)
   have H14:=jn_dr (xgr (jn_st H13))
   have J14:=(J12.trans I13).setCell ⟨x.a,0,none⟩ (.slice a13 n13 c13)
   clear f0 f1 H12 H13 J12 I13
   generalize w13.setCell _ _=w14 at *
   obtain ⟨f0,f1⟩:=xgm H14
   have HS2:Hid (((x.ss.eraseIdx i).eraseIdx j).length≤1000000):=L_ (by have h3:=(List.eraseIdx_sublist (x.ss.eraseIdx i) j).length_le;have h4:=(List.eraseIdx_sublist x.ss i).length_le;have:=HSN.out;omega)
   have K15:Sat (xgp (.slice a13 n13 c13) ((x.ss.eraseIdx i).eraseIdx j)*(pts x.a (.cells #[.slice a13 n13 c13] 52 (0,0))*(Pool x.P*(pts bx (.cells #[.int .i64 a1,.int .i64 b1] 29 (0,0))*(pts (bx+1) (.cells #[.int .i64 a2,.int .i64 b2] 29 (0,0))*(zar (.slice a7 n7 c7) l7*F)))))) w14:=xhe H14
   go_wp2_with (at_builtin;refine zat xhb xgt rfl (.tmp 77) (.tmp 79) rfl rfl K15 HS2.out (a7,n7,c7) rfl rfl ?_;intro v16 w16 H16 I16;have E16:=xgq H16;obtain ⟨a16,n16,c16,e16⟩:=E16;subst e16;have G0:=Sat.read H16.right.left.at 0;have G1:=Sat.free H16.right.left.at 0)
   have FIN:=L_ (HH.out ⟨x.a,.slice a16 n16 c16,(x.ss.eraseIdx i).eraseIdx j++[((a7,n7,c7):Sl3)],(.slice a7 n7 c7,l7)::x.P⟩ _ rfl (by rw [HJD.out];exact ok2.out.add (xgu (jn_rd H16) (by have:=BJ.out;omega)) (fun w hw=>Sat.tail hw) BJ.out HB1.out (row_le (jn_rd H16))) (xh1 (xgr (x:=x) (jn_fin H16))) ((J14.trans I16).setCell ⟨x.a,0,none⟩ (.slice a16 n16 c16)))
   first | exact FIN.out | exact bodyPost_ret (v:=.int .i64 0) (by simp [results,Tryz.results22,go_sem]) rfl FIN.out
 ·have hne2:(Sq.two L (a1,b1) (a2,b2)).2≠0:=by rw [ht];exact h0
  obtain ⟨rfl,rfl⟩:e=e2∧L'=L:=by have:=hm.out;unfold Sq.zcw at this;rw [if_pos hne2,ht] at this;cases this;exact ⟨rfl,rfl⟩
  have hz:(e == 0)=false:=beq_false_of_ne h0
  have hd:decide (e=0)=false:=decide_eq_false h0
  clear h H ht hne2 hm
  go_enter Tryz.func22,Tryz.ntmps22
  go_upto_region 1 with fail
  generalize (w.alloc _).alloc _=w1 at *
  generalize w.heap.size=bx at *
  obtain ⟨⟨y0,y1⟩,⟨y2,y3⟩⟩:=xhp H1
  go_wp2_with (go_at_call 28;(with_reducible refine xg0 a1 b1 a2 b2 HT ok H1 ?_);intro w2 H2 I2)
  have FIN:=L_ (HH.out x w2 rfl ok.out (xh1 H2) (I1.trans I2))
  first | exact FIN.out | exact bodyPost_ret (v:=.int .i64 e) (by simp [results,Tryz.results22,go_sem]) rfl FIN.out
end
section
variable {x:Dl} {L:LL} {F:Asn} {w:World} {R:Ending→World→Prop}
theorem ct_st {A:Asn} {v:Value} {ss:List Sl3} (H:Sat (xgp v ss*(DLt x*(A*F))) w):Sat (xgp v ss*(pts x.a (.cells #[x.v] 52 (0,0))*(Pool x.P*(xgp x.v x.ss*(A*F))))) w:=H.of_eq (by unfold DLt;ac_rfl)
theorem ct_dr {A B C:Asn} (H:Sat (A*(B*(C*F))) w):Sat (A*(C*F)) w:=(H.of_eq (show _=B*(A*(C*F)) from by ac_rfl)).right
theorem Dl.Ok.more {v':Value} {s:Sl3} {l:List Tk} (ok:x.Ok L) (hr:zp0 (Pool x.P) (slv s) l) (hl:l.length≤1000) (hb:L.length+1≤1000) (hc:s.2.1≤s.2.2):(⟨x.a,v',x.ss++[s],x.P⟩:Dl).Ok (L++[l]):=ok.add hr (fun w hw=>hw) hl hb hc
theorem xh8 {n:Nat} (h:n≤2000):IntKind.i64.wrap (n:Int)=(n:Int):=by rw [IntKind.wrap_i64];omega
theorem xhg (a b:Int) (af:Nat) (haf:Hid (af≤1)) {L':LL} {e:Int} (hm:Hid (Sq.zdw L (a,b) af=(e,L'))) (hb:Hid (L.length+1≤1000)) (ok:Hid (x.Ok L)) (H:Sat (DLt x*F) w)
  (h:∀ x' w',x'.a=x.a→x'.Ok L'→Sat (DLt x'*F) w'→Io w w'→R (.returned (.int .i64 e)) w') :
  Calls Tryz.prog 23 #[xhm x.a,tkA a b,.int .i64 (af:Int)] w R:=by
 have HH:=L_ h
 have H1:=xhk (H.new (.cells #[.int .i64 a,.int .i64 b] 29))
 have I1:=io1 H1 (Io.refl w)
 rcases Sq.ask_cases L (a,b) with ⟨q1,q2⟩ | ⟨q1,q2,q3⟩ | ⟨q1,q2,q3⟩
 ·obtain ⟨rfl,rfl⟩:e=30∧L'=L:=by have:=hm.out;unfold Sq.zdw at this;rw [if_pos (by rw [q1];decide),q1] at this;cases this;exact ⟨rfl,rfl⟩
  have HA:=xg9 q1 (by decide)
  clear h H q1 q2 hm
  go_enter Tryz.func23,Tryz.ntmps23
  go_upto_region 1 with fail
  generalize w.alloc _=w1 at *
  generalize w.heap.size=bx at *
  obtain ⟨y0,y1⟩:=tk2 H1.right
  go_wp2_with (go_at_call 54;(with_reducible refine xgl a b HA ok.out H1 ?_);intro w2 H2 I2)
  have FIN:=L_ (HH.out x w2 rfl ok.out (xgs H2) (I1.trans I2))
  first | exact FIN.out | exact bodyPost_ret (v:=.int .i64 30) (by simp [results,Tryz.results23,go_sem]) rfl FIN.out
 ·obtain ⟨rfl,rfl⟩:e=181∧L'=L:=by have:=hm.out;unfold Sq.zdw at this;rw [if_pos (by rw [q1];decide),q1] at this;cases this;exact ⟨rfl,rfl⟩
  have HA:=xg9 q1 (by decide)
  clear h H q1 q2 q3 hm
  go_enter Tryz.func23,Tryz.ntmps23
  go_upto_region 1 with fail
  generalize w.alloc _=w1 at *
  generalize w.heap.size=bx at *
  obtain ⟨y0,y1⟩:=tk2 H1.right
  go_wp2_with (go_at_call 54;(with_reducible refine xgl a b HA ok.out H1 ?_);intro w2 H2 I2)
  have FIN:=L_ (HH.out x w2 rfl ok.out (xgs H2) (I1.trans I2))
  first | exact FIN.out | exact bodyPost_ret (v:=.int .i64 181) (by simp [results,Tryz.results23,go_sem]) rfl FIN.out
 ·obtain ⟨i,hi⟩:∃ i,i=Sq.fi L (a,b):=⟨_,rfl⟩
  have g2:i<L.length:=by rw [hi];exact q3
  have g1:i<x.ss.length:=by rw [ok.out.len];exact g2
  have hrow:Sq.rowOf L (a,b)=L[i]:=by subst hi;exact Sq.zf4 q3
  obtain ⟨l,hl⟩:∃ l,l=Sq.rowOf L (a,b):=⟨_,rfl⟩
  obtain ⟨j,hj⟩:∃ j,j=Sq.fj (Sq.rowOf L (a,b)) (a,b):=⟨_,rfl⟩
  have HA:=xh4 q1 hi hj
  have hjl:j<l.length:=by rw [hj,hl];exact Sq.z5v (Sq.row_mem q3)
  have hl2:l=L[i]:=hl.trans hrow
  have hjl2:j<L[i].length:=by rw [←hl2];exact hjl
  obtain ⟨tb,off,sc,z1,z2,hs,hx1,hx2⟩:=xh3 ok.out i g1 g2 j hjl2
  clear hx1 hx2
  obtain ⟨ln,hln⟩:∃ ln,ln=l.length:=⟨_,rfl⟩
  have HS:Hid (x.ss[i]=(some ⟨tb,off,none⟩,ln,sc)):=L_ (hs.trans (by rw [hln,hl2]))
  have RD:Hid (zp0 (Pool x.P) (.slice (some ⟨tb,off,none⟩) ln sc) l):=L_ (by
   have:=ok.out.rd i g1 g2
   rw [←hl2] at this
   have e:=HS.out
   rw [show slv x.ss[i]=.slice (some ⟨tb,off,none⟩) ln sc from congrArg slv e] at this
   exact this)
  have hcap:ln≤sc:=by
   have:=ok.out.cap _ (List.getElem_mem g1)
   rw [HS.out] at this
   exact this
  have hlb:(ln:Int)≤1000:=by have:=ok.out.big.2 _ (List.getElem_mem g2);rw [←hl2] at this;omega
  obtain ⟨va,vc,hv⟩:=xg1 H
  obtain ⟨g,c0,hg⟩:=xgv H (by omega)
  rw [hv] at hg
  cases hg
  obtain ⟨sn,hsn⟩:∃ sn,sn=x.ss.length:=⟨_,rfl⟩
  rw [←hsn] at hv
  have HV:=L_ hv
  have hb1:(sn:Int)≤1000:=by have:=ok.out.big.1;have:=ok.out.len;omega
  have hi0:(0:Int)≤(i:Int):=by omega
  have hin:(i:Int)<(sn:Int):=by omega
  have HG1:=L_ g1
  have HI:Hid (i≤1000):=L_ (by have:=ok.out.big.1;omega)
  have HJ1:Hid (j<ln∧ln=l.length∧l.length≤1000∧af≤1):=L_ ⟨by rw [hln];exact hjl,hln,by omega,haf.out⟩
  obtain ⟨n,hn⟩:∃ n,n=j+af:=⟨_,rfl⟩
  have hnn:(j:Int)+(af:Int)=(n:Int):=by omega
  have hn2:(n:Int)≤2000:=by have:=haf.out;omega
  have HNN:=L_ hnn
  have HN2:=L_ hn2
  have HV0:Hid (Value.int IntKind.i64 (IntKind.i64.wrap ((j:Int)+(af:Int)))=.int .i64 (n:Int)):=L_ (by rw [hnn];congr 1;exact xh8 (by omega))
  clear hnn hn2
  by_cases hz:n=0∨n=ln
  ·obtain ⟨rfl,rfl⟩:e=0∧L'=L:=by have:=hm.out;unfold Sq.zdw at this;rw [if_neg (not_not_intro q1),←hj,←hl,←hn,←hln,if_pos hz] at this;cases this;exact ⟨rfl,rfl⟩
   clear h H q1 q2 q3 hm hi g2 hrow hl hl2 hjl hjl2 hs hln hj hv hsn hn
   have HZ:=L_ hz
   clear hz
   have hs0:(0:Int)≤(j:Int)+(af:Int):=by omega
   have hs1:(j:Int)+(af:Int)≤2000:=by have:=HNN.out;have:=HN2.out;omega
   go_enter Tryz.func23,Tryz.ntmps23
   go_upto_region 1 with fail
   generalize w.alloc _=w1 at *
   generalize w.heap.size=bx at *
   obtain ⟨y0,y1⟩:=tk2 H1.right
   go_upto_region 4 with (go_at_call 54;(with_reducible refine xgl a b HA ok.out H1 ?_);intro w2 H2 I2)
   have J2:=I1.trans I2
   obtain ⟨z0,-⟩:=xgm H2
   rw [HV.out] at z0
   have z1:w2.cell? ⟨g,i,none⟩=some (.slice (some ⟨tb,off,none⟩) ln sc):=(xgz HV.out H2 i HG1.out).trans (congrArg (fun s:Sl3=>some (slv s)) HS.out)
   have FIN:=L_ (HH.out x w2 rfl ok.out (xgs H2) J2)
   clear y0 y1 H1 I1 I2 H2 J2
   go_upto_region 6 with fail
   obtain ⟨nn,hnn⟩:∃ nn:Int,nn=(n:Int):=⟨_,rfl⟩
   rw [HNN.out,←hnn]
   by_cases hc:nn=0
   ·have hna:(nn == 0)=true:=by rw [hc];rfl
    clear hnn z0 z1 hs0 hs1 hc
    go_wp2_with fail
    first | exact FIN.out | exact bodyPost_ret (v:=.int .i64 0) (by simp [results,Tryz.results23,go_sem]) rfl FIN.out
   ·have hd:nn=(ln:Int):=by have:=HZ.out;omega
    have hna:(nn == 0)=false:=beq_false_of_ne hc
    have hnb:(nn == (ln:Int))=true:=by rw [hd];exact beq_self_eq_true _
    clear hnn z0 z1 hs0 hs1 hd
    go_wp2_with fail
    first | exact FIN.out | exact bodyPost_ret (v:=.int .i64 0) (by simp [results,Tryz.results23,go_sem]) rfl FIN.out
  ·obtain ⟨rfl,hL⟩:e=0∧L'=Sq.cut L (a,b) n:=by have:=hm.out;unfold Sq.zdw at this;rw [if_neg (not_not_intro q1),←hj,←hl,←hn,←hln,if_neg hz] at this;cases this;exact ⟨rfl,rfl⟩
   have HL:Hid (L'=L.eraseIdx i++[l.take n]++[l.drop n]):=L_ (by rw [hL];unfold Sq.cut;rw [←hi,←hl])
   have hn0:0<n:=by omega
   have hnl:n<ln:=by have:=HJ1.out;omega
   have HNL:=L_ (And.intro hn0 hnl)
   clear h H q1 q2 q3 hm hL hi g2 hrow hl hl2 hjl hjl2 hs hln hj hv hsn hz hn
   have hs0:(0:Int)≤(j:Int)+(af:Int):=by omega
   have hs1:(j:Int)+(af:Int)≤2000:=by have:=HNN.out;have:=HN2.out;omega
   go_enter Tryz.func23,Tryz.ntmps23
   go_upto_region 1 with fail
   generalize w.alloc _=w1 at *
   generalize w.heap.size=bx at *
   obtain ⟨y0,y1⟩:=tk2 H1.right
   go_upto_region 4 with (go_at_call 54;(with_reducible refine xgl a b HA ok.out H1 ?_);intro w2 H2 I2)
   have J2:=I1.trans I2
   obtain ⟨z0,-⟩:=xgm H2
   rw [HV.out] at z0
   have z1:w2.cell? ⟨g,i,none⟩=some (.slice (some ⟨tb,off,none⟩) ln sc):=(xgz HV.out H2 i HG1.out).trans (congrArg (fun s:Sl3=>some (slv s)) HS.out)
   clear y0 y1 H1 I1 I2
   go_upto_region 6 with fail
   obtain ⟨nn,hnn⟩:∃ nn:Int,nn=(n:Int):=⟨_,rfl⟩
   have hna:(nn == 0)=false:=beq_false_of_ne (by have:=HNL.out;omega)
   have hnb:(nn == (ln:Int))=false:=beq_false_of_ne (by have:=HNL.out;omega)
   have hnc:¬ nn=0:=by have:=HNL.out;omega
   have hnd:¬ nn=(ln:Int):=by have:=HNL.out;omega
   have hne:decide (nn=0)=false:=decide_eq_false hnc
   have hnf:decide (nn=(ln:Int))=false:=decide_eq_false hnd
   rw [HNN.out,←hnn]
   have HNH:=L_ hnn
   clear hnn z0 z1 hnl hn0 hs0 hs1
   go_upto_region 8 with fail
   rw [HNH.out]
   clear hna hnb hnc hnd hne hnf HNH nn
   go_upto_region 9 with (go_at_call 57;(refine xgw i ok.out HI H2 ?_);intro v10 w10 H10 I10;have E10:=xgq H10;obtain ⟨a10,n10,c10,e10⟩:=E10;subst e10;have F10:=xgm H10.right;obtain ⟨f0,f1⟩:=F10)
   have ok1:Hid ((⟨x.a,.slice a10 n10 c10,x.ss.eraseIdx i,x.P⟩:Dl).Ok (L.eraseIdx i)):=L_ (ok.out.erase i)
   have H11:=ct_dr (xgr (ct_st H10))
   have J11:=(J2.trans I10).setCell ⟨x.a,0,none⟩ (.slice a10 n10 c10)
   clear f0 f1 H2 H10 J2 I10
   generalize w10.setCell _ _=w11 at *
   have HSL:Hid (x.ss.length≤1000):=L_ (by have:=ok.out.big.1;have:=ok.out.len;omega)
   have HB1:Hid ((L.eraseIdx i).length+1≤1000∧(L.eraseIdx i++[l.take n]).length+1≤1000):=L_ (by
    have h2:i<L.length:=by rw [←ok.out.len];exact HG1.out
    have h4:(L.eraseIdx i).length=L.length - 1:=by rw [List.length_eraseIdx,if_pos h2]
    have:=hb.out
    rw [List.length_append,List.length_singleton]
    omega)
   have HLT:Hid ((l.take n).length≤1000∧(l.drop n).length≤1000):=L_ (by have:=HJ1.out;rw [List.length_take,List.length_drop];omega)
   have RT:Hid (zp0 (Pool x.P) (.slice (some ⟨tb,off,none⟩) n sc) (l.take n)):=L_ (zbw zbq RD.out n (by have:=HJ1.out;have:=HNL.out;omega))
   have RDR:Hid (zp0 (Pool x.P) (.slice (some ⟨tb,off+n*2,none⟩) (ln - n) (sc - n)) (l.drop n)):=L_ (zo5 zbq RD.out n (by have:=HJ1.out;have:=HNL.out;omega) (off+n*2) (fun _=>rfl))
   have hcn:n≤sc:=by have:=HNL.out;omega
   have hcne:¬ sc=n:=by have:=HNL.out;omega
   have hnlI:(n:Int)≤(ln:Int):=by have:=HNL.out;omega
   have hnlN:n≤ln:=by have:=HNL.out;omega
   have HCS:Hid (n≤sc∧ln - n≤sc - n):=L_ (by omega)
   have HSN:Hid ((x.ss.eraseIdx i).length≤1000000):=L_ (by have h4:=(List.eraseIdx_sublist x.ss i).length_le;have:=HSL.out;omega)
   have Kd:=H11.drew
   have Jd:=J11.drew
   clear H11 J11
   have FD:=xgm Kd
   have f0:w11.drew.cell? ⟨x.a,0,none⟩=some (.slice a10 n10 c10):=FD.1
   have f1:=FD.2
   clear FD
   have HR:Sat (xgp (.slice a10 n10 c10) (x.ss.eraseIdx i)*(pts x.a (.cells #[.slice a10 n10 c10] 52 (0,0))*(Pool x.P*(pts bx (.cells #[.int .i64 a,.int .i64 b] 29 (0,0))*F)))) w11.drew:=xhe Kd
   refine wp_region_held_drew (S:=fun _=>True) (by kernel_rfl) True.intro (fun hHeld=>?_)
   generalize w11.drew=wd at *
   refine tk ?_ ?_ [0,1,2,3,5,6,7] ?_ hHeld ?_;rotate_left 2;exact tt
   refine rd [4,8] (rn (fun K hK=>?_) (rc fun K hK=>?_))
   ·go_simp
    refine hK.out _ _ (by exact True.intro) fun hHeld=>?_
    clear hK K
    try simp only [sp]
    refine rd [8] (rc fun K hK=>?_)
    go_simp
    have HM:=HR.new (.cells #[slv (some ⟨tb,off,none⟩,n,sc)] 39)
    have g0:(wd.alloc (.cells #[slv (some ⟨tb,off,none⟩,n,sc)] 39)).cell? ⟨x.a,0,none⟩=some (.slice a10 n10 c10):=Sat.read HM.right.right.left.at 0
    refine hK.out _ _ (by exact True.intro) fun hHeld=>?_
    clear hK K
    try simp only [sp]
    refine rd [9] (rc fun K hK=>?_)
    refine zcn xhb xgt rfl (.tmp 50) (.tmp 54) rfl rfl HR HSN.out (some ⟨tb,off,none⟩,n,sc) rfl rfl ?_
    intro v8 w8 H8 I8
    have E8:=xgq H8
    obtain ⟨a8,n8,c8,e8⟩:=E8
    subst e8
    have r0:=Sat.read H8.right.left.at 0
    have r1:=Sat.free H8.right.left.at 0
    refine hK.out _ _ (by exact True.intro) fun hHeld=>?_
    clear hK K
    try simp only [sp]
    refine tk ?_ ?_ [10,11] ?_ hHeld ?_;rotate_left 2;exact tt
    refine rd [12] (rc fun K hK=>?_)
    go_simp
    refine hK.out _ _ (by exact True.intro) fun hHeld=>?_
    clear hK K
    try simp only [sp]
    refine wpAnyH_done (by kernel_rfl) ?_ _
    have ok2:Hid ((⟨x.a,.slice a8 n8 c8,x.ss.eraseIdx i++[((some ⟨tb,off,none⟩,n,sc):Sl3)],x.P⟩:Dl).Ok (L.eraseIdx i++[l.take n])):=L_ (ok1.out.more RT.out HLT.out.1 HB1.out.1 HCS.out.1)
    have H12:=xgr (x:=x) H8
    have J12:=(Jd.trans I8).setCell ⟨x.a,0,none⟩ (.slice a8 n8 c8)
    clear f0 f1 HR HM g0 H8 I8 r0 r1 Kd Jd
    go_upto_region 10 with fail
    generalize w8.setCell _ _=w12 at *
    have HSN2:Hid ((x.ss.eraseIdx i++[((some ⟨tb,off,none⟩,n,sc):Sl3)]).length≤1000000):=L_ (by have h4:=(List.eraseIdx_sublist x.ss i).length_le;have:=HSL.out;rw [List.length_append,List.length_singleton];omega)
    have Kd:=H12.drew
    have Jd:=J12.drew
    clear H12 J12
    have FD:=xgm Kd
    have f0:w12.drew.cell? ⟨x.a,0,none⟩=some (.slice a8 n8 c8):=FD.1
    have f1:=FD.2
    clear FD
    have HR:Sat (xgp (.slice a8 n8 c8) (x.ss.eraseIdx i++[((some ⟨tb,off,none⟩,n,sc):Sl3)])*(pts x.a (.cells #[.slice a8 n8 c8] 52 (0,0))*(Pool x.P*(pts bx (.cells #[.int .i64 a,.int .i64 b] 29 (0,0))*F)))) w12.drew:=xhe Kd
    refine wp_region_held_drew (S:=fun _=>True) (by kernel_rfl) True.intro (fun hHeld=>?_)
    generalize w12.drew=wd at *
    refine tk ?_ ?_ [0,1,2,3,5,6,7] ?_ hHeld ?_;rotate_left 2;exact tt
    refine rd [4,8] (rn (fun K hK=>?_) (rc fun K hK=>?_))
    ·go_simp
     refine hK.out _ _ (by exact True.intro) fun hHeld=>?_
     clear hK K
     try simp only [sp]
     refine rd [8] (rc fun K hK=>?_)
     go_simp
     have HM:=HR.new (.cells #[slv (some ⟨tb,off+n*2,none⟩,ln - n,sc - n)] 39)
     have g0:(wd.alloc (.cells #[slv (some ⟨tb,off+n*2,none⟩,ln - n,sc - n)] 39)).cell? ⟨x.a,0,none⟩=some (.slice a8 n8 c8):=Sat.read HM.right.right.left.at 0
     refine hK.out _ _ (by exact True.intro) fun hHeld=>?_
     clear hK K
     try simp only [sp]
     refine rd [9] (rc fun K hK=>?_)
     refine zcn xhb xgt rfl (.tmp 62) (.tmp 66) rfl rfl HR HSN2.out (some ⟨tb,off+n*2,none⟩,ln - n,sc - n) rfl rfl ?_
     intro v9 w9 H9 I9
     have E9:=xgq H9
     obtain ⟨a9,n9,c9,e9⟩:=E9
     subst e9
     have r0:=Sat.read H9.right.left.at 0
     have r1:=Sat.free H9.right.left.at 0
     refine hK.out _ _ (by exact True.intro) fun hHeld=>?_
     clear hK K
     try simp only [sp]
     refine tk ?_ ?_ [10,11] ?_ hHeld ?_;rotate_left 2;exact tt
     refine rd [12] (rc fun K hK=>?_)
     go_simp
     refine hK.out _ _ (by exact True.intro) fun hHeld=>?_
     clear hK K
     try simp only [sp]
     refine wpAnyH_done (by kernel_rfl) ?_ _
     have FIN:=L_ (HH.out ⟨x.a,.slice a9 n9 c9,x.ss.eraseIdx i++[((some ⟨tb,off,none⟩,n,sc):Sl3)]++[((some ⟨tb,off+n*2,none⟩,ln - n,sc - n):Sl3)],x.P⟩ _ rfl (by rw [HL.out];exact ok2.out.more RDR.out HLT.out.2 HB1.out.2 HCS.out.2) (xgs (xgr (x:=x) H9)) ((Jd.trans I9).setCell ⟨x.a,0,none⟩ (.slice a9 n9 c9)))
     clear f0 f1 HR HM g0 r0 r1
     go_wp2_with fail
     first | exact FIN.out | exact bodyPost_ret (v:=.int .i64 0) (by simp [results,Tryz.results23,go_sem]) rfl FIN.out
    ·go_simp
     have HM:=HR.new (.cells #[slv (some ⟨tb,off+n*2,none⟩,ln - n,sc - n)] 39)
     have g0:(wd.alloc (.cells #[slv (some ⟨tb,off+n*2,none⟩,ln - n,sc - n)] 39)).cell? ⟨x.a,0,none⟩=some (.slice a8 n8 c8):=Sat.read HM.right.right.left.at 0
     refine hK.out _ _ (by exact True.intro) fun hHeld=>?_
     clear hK K
     try simp only [sp]
     refine rd [4] (rc fun K hK=>?_)
     go_simp
     refine hK.out _ _ (by exact True.intro) fun hHeld=>?_
     clear hK K
     try simp only [sp]
     refine rd [9] (rc fun K hK=>?_)
     refine zcn xhb xgt rfl (.tmp 62) (.tmp 66) rfl rfl HR HSN2.out (some ⟨tb,off+n*2,none⟩,ln - n,sc - n) rfl rfl ?_
     intro v9 w9 H9 I9
     have E9:=xgq H9
     obtain ⟨a9,n9,c9,e9⟩:=E9
     subst e9
     have r0:=Sat.read H9.right.left.at 0
     have r1:=Sat.free H9.right.left.at 0
     refine hK.out _ _ (by exact True.intro) fun hHeld=>?_
     clear hK K
     try simp only [sp]
     refine tk ?_ ?_ [10,11] ?_ hHeld ?_;rotate_left 2;exact tt
     refine rd [12] (rc fun K hK=>?_)
     go_simp
     refine hK.out _ _ (by exact True.intro) fun hHeld=>?_
     clear hK K
     try simp only [sp]
     refine wpAnyH_done (by kernel_rfl) ?_ _
     have FIN:=L_ (HH.out ⟨x.a,.slice a9 n9 c9,x.ss.eraseIdx i++[((some ⟨tb,off,none⟩,n,sc):Sl3)]++[((some ⟨tb,off+n*2,none⟩,ln - n,sc - n):Sl3)],x.P⟩ _ rfl (by rw [HL.out];exact ok2.out.more RDR.out HLT.out.2 HB1.out.2 HCS.out.2) (xgs (xgr (x:=x) H9)) ((Jd.trans I9).setCell ⟨x.a,0,none⟩ (.slice a9 n9 c9)))
     clear f0 f1 HR HM g0 r0 r1
     go_wp2_with fail
     first | exact FIN.out | exact bodyPost_ret (v:=.int .i64 0) (by simp [results,Tryz.results23,go_sem]) rfl FIN.out
   ·go_simp
    have HM:=HR.new (.cells #[slv (some ⟨tb,off,none⟩,n,sc)] 39)
    have g0:(wd.alloc (.cells #[slv (some ⟨tb,off,none⟩,n,sc)] 39)).cell? ⟨x.a,0,none⟩=some (.slice a10 n10 c10):=Sat.read HM.right.right.left.at 0
    refine hK.out _ _ (by exact True.intro) fun hHeld=>?_
    clear hK K
    try simp only [sp]
    refine rd [4] (rc fun K hK=>?_)
    go_simp
    refine hK.out _ _ (by exact True.intro) fun hHeld=>?_
    clear hK K
    try simp only [sp]
    refine rd [9] (rc fun K hK=>?_)
    refine zcn xhb xgt rfl (.tmp 50) (.tmp 54) rfl rfl HR HSN.out (some ⟨tb,off,none⟩,n,sc) rfl rfl ?_
    intro v8 w8 H8 I8
    have E8:=xgq H8
    obtain ⟨a8,n8,c8,e8⟩:=E8
    subst e8
    have r0:=Sat.read H8.right.left.at 0
    have r1:=Sat.free H8.right.left.at 0
    refine hK.out _ _ (by exact True.intro) fun hHeld=>?_
    clear hK K
    try simp only [sp]
    refine tk ?_ ?_ [10,11] ?_ hHeld ?_;rotate_left 2;exact tt
    refine rd [12] (rc fun K hK=>?_)
    go_simp
    refine hK.out _ _ (by exact True.intro) fun hHeld=>?_
    clear hK K
    try simp only [sp]
    refine wpAnyH_done (by kernel_rfl) ?_ _
    have ok2:Hid ((⟨x.a,.slice a8 n8 c8,x.ss.eraseIdx i++[((some ⟨tb,off,none⟩,n,sc):Sl3)],x.P⟩:Dl).Ok (L.eraseIdx i++[l.take n])):=L_ (ok1.out.more RT.out HLT.out.1 HB1.out.1 HCS.out.1)
    have H12:=xgr (x:=x) H8
    have J12:=(Jd.trans I8).setCell ⟨x.a,0,none⟩ (.slice a8 n8 c8)
    clear f0 f1 HR HM g0 H8 I8 r0 r1 Kd Jd
    go_upto_region 10 with fail
    generalize w8.setCell _ _=w12 at *
    have HSN2:Hid ((x.ss.eraseIdx i++[((some ⟨tb,off,none⟩,n,sc):Sl3)]).length≤1000000):=L_ (by have h4:=(List.eraseIdx_sublist x.ss i).length_le;have:=HSL.out;rw [List.length_append,List.length_singleton];omega)
    have Kd:=H12.drew
    have Jd:=J12.drew
    clear H12 J12
    have FD:=xgm Kd
    have f0:w12.drew.cell? ⟨x.a,0,none⟩=some (.slice a8 n8 c8):=FD.1
    have f1:=FD.2
    clear FD
    have HR:Sat (xgp (.slice a8 n8 c8) (x.ss.eraseIdx i++[((some ⟨tb,off,none⟩,n,sc):Sl3)])*(pts x.a (.cells #[.slice a8 n8 c8] 52 (0,0))*(Pool x.P*(pts bx (.cells #[.int .i64 a,.int .i64 b] 29 (0,0))*F)))) w12.drew:=xhe Kd
    refine wp_region_held_drew (S:=fun _=>True) (by kernel_rfl) True.intro (fun hHeld=>?_)
    generalize w12.drew=wd at *
    refine tk ?_ ?_ [0,1,2,3,5,6,7] ?_ hHeld ?_;rotate_left 2;exact tt
    refine rd [4,8] (rn (fun K hK=>?_) (rc fun K hK=>?_))
    ·go_simp
     refine hK.out _ _ (by exact True.intro) fun hHeld=>?_
     clear hK K
     try simp only [sp]
     refine rd [8] (rc fun K hK=>?_)
     go_simp
     have HM:=HR.new (.cells #[slv (some ⟨tb,off+n*2,none⟩,ln - n,sc - n)] 39)
     have g0:(wd.alloc (.cells #[slv (some ⟨tb,off+n*2,none⟩,ln - n,sc - n)] 39)).cell? ⟨x.a,0,none⟩=some (.slice a8 n8 c8):=Sat.read HM.right.right.left.at 0
     refine hK.out _ _ (by exact True.intro) fun hHeld=>?_
     clear hK K
     try simp only [sp]
     refine rd [9] (rc fun K hK=>?_)
     refine zcn xhb xgt rfl (.tmp 62) (.tmp 66) rfl rfl HR HSN2.out (some ⟨tb,off+n*2,none⟩,ln - n,sc - n) rfl rfl ?_
     intro v9 w9 H9 I9
     have E9:=xgq H9
     obtain ⟨a9,n9,c9,e9⟩:=E9
     subst e9
     have r0:=Sat.read H9.right.left.at 0
     have r1:=Sat.free H9.right.left.at 0
     refine hK.out _ _ (by exact True.intro) fun hHeld=>?_
     clear hK K
     try simp only [sp]
     refine tk ?_ ?_ [10,11] ?_ hHeld ?_;rotate_left 2;exact tt
     refine rd [12] (rc fun K hK=>?_)
     go_simp
     refine hK.out _ _ (by exact True.intro) fun hHeld=>?_
     clear hK K
     try simp only [sp]
     refine wpAnyH_done (by kernel_rfl) ?_ _
     have FIN:=L_ (HH.out ⟨x.a,.slice a9 n9 c9,x.ss.eraseIdx i++[((some ⟨tb,off,none⟩,n,sc):Sl3)]++[((some ⟨tb,off+n*2,none⟩,ln - n,sc - n):Sl3)],x.P⟩ _ rfl (by rw [HL.out];exact ok2.out.more RDR.out HLT.out.2 HB1.out.2 HCS.out.2) (xgs (xgr (x:=x) H9)) ((Jd.trans I9).setCell ⟨x.a,0,none⟩ (.slice a9 n9 c9)))
     clear f0 f1 HR HM g0 r0 r1
     go_wp2_with fail
     first | exact FIN.out | exact bodyPost_ret (v:=.int .i64 0) (by simp [results,Tryz.results23,go_sem]) rfl FIN.out
    ·go_simp
     have HM:=HR.new (.cells #[slv (some ⟨tb,off+n*2,none⟩,ln - n,sc - n)] 39)
     have g0:(wd.alloc (.cells #[slv (some ⟨tb,off+n*2,none⟩,ln - n,sc - n)] 39)).cell? ⟨x.a,0,none⟩=some (.slice a8 n8 c8):=Sat.read HM.right.right.left.at 0
     refine hK.out _ _ (by exact True.intro) fun hHeld=>?_
     clear hK K
     try simp only [sp]
     refine rd [4] (rc fun K hK=>?_)
     go_simp
     refine hK.out _ _ (by exact True.intro) fun hHeld=>?_
     clear hK K
     try simp only [sp]
     refine rd [9] (rc fun K hK=>?_)
     refine zcn xhb xgt rfl (.tmp 62) (.tmp 66) rfl rfl HR HSN2.out (some ⟨tb,off+n*2,none⟩,ln - n,sc - n) rfl rfl ?_
     intro v9 w9 H9 I9
     have E9:=xgq H9
     obtain ⟨a9,n9,c9,e9⟩:=E9
     subst e9
     have r0:=Sat.read H9.right.left.at 0
     have r1:=Sat.free H9.right.left.at 0
     refine hK.out _ _ (by exact True.intro) fun hHeld=>?_
     clear hK K
     try simp only [sp]
     refine tk ?_ ?_ [10,11] ?_ hHeld ?_;rotate_left 2;exact tt
     refine rd [12] (rc fun K hK=>?_)
     go_simp
     refine hK.out _ _ (by exact True.intro) fun hHeld=>?_
     clear hK K
     try simp only [sp]
     refine wpAnyH_done (by kernel_rfl) ?_ _
     have FIN:=L_ (HH.out ⟨x.a,.slice a9 n9 c9,x.ss.eraseIdx i++[((some ⟨tb,off,none⟩,n,sc):Sl3)]++[((some ⟨tb,off+n*2,none⟩,ln - n,sc - n):Sl3)],x.P⟩ _ rfl (by rw [HL.out];exact ok2.out.more RDR.out HLT.out.2 HB1.out.2 HCS.out.2) (xgs (xgr (x:=x) H9)) ((Jd.trans I9).setCell ⟨x.a,0,none⟩ (.slice a9 n9 c9)))
     clear f0 f1 HR HM g0 r0 r1
     go_wp2_with fail
     first | exact FIN.out | exact bodyPost_ret (v:=.int .i64 0) (by simp [results,Tryz.results23,go_sem]) rfl FIN.out
end
end Go.Proofs.YtfknjmoekbabcaaGreatDoor
namespace Go.Proofs.YtfknjmoekbabcaaGreatDoor
open Go.RowKit Go.Lib
open Sq (Tk Nd Mp LL)
namespace Sq
end Sq
section
variable {F:Asn} {w:World} {R:Ending→World→Prop}
theorem zp9 {c:Cq} (hc:Hid (c.k.n=3000)) {k:Nat} (hk:k≤122):Hid (zcl c 60 0 k):=L_ ⟨by have:=hc.out;omega,by omega,by omega,by
 have h1:Tb.most (60+40*k) (0+k)≤Tb.most (60+40*122) (0+122):=zjg (by omega) (by omega)
 have h2:30+Tb.most (60+40*122) (0+122)<3000:=by decide +kernel
 have:=hc.out
 omega⟩
end
namespace Sq
def tkb (n i:Nat):Tk:=((i:Int),(n:Int) - (i:Int))
structure Bw (n i:Nat) (W:List Tk):Prop where
 len:W.length=i
 nd:W.Nodup
 mem:∀ y∈W,∃ j,j<i∧y=tkb n j
theorem zx4 {n j:Nat} (hj:j<n) (hn:n≤120):OkT (tkb n j):=⟨⟨by show (0:Int)≤j;omega,by show (j:Int)<1048576;omega⟩,by show (0:Int)≤(n:Int) - j;omega,by show (n:Int) - (j:Int)<1048576;omega⟩
theorem Bw.ok {n i:Nat} {W:List Tk} (h:Bw n i W) (hi:i≤n) (hn:n≤120):∀ y∈W,OkT y:=fun y hy=>by
 obtain ⟨j,h1,rfl⟩:=h.mem y hy
 exact zx4 (by omega) hn
theorem Bw.new {n i:Nat} {W:List Tk} (h:Bw n i W):tkb n i∉W:=fun k=>by
 obtain ⟨j,h1,h2⟩:=h.mem _ k
 simp only [tkb,Prod.mk.injEq] at h2
 omega
end Sq
end Go.Proofs.YtfknjmoekbabcaaGreatDoor
