/-
  A part of a proof. It proves no statement by itself.
-/
import Derived.Test.YtfknjmoekbabcaaGreatDoorEQtd0
import Derived.Test.YtfknjmoekbabcaaGreatDoorECr
import Derived.Test.YtfknjmoekbabcaaGreatDoorEQta
import Derived.Test.YtfknjmoekbabcaaGreatDoorC27
set_option linter.unusedSimpArgs false
set_option linter.unusedVariables false
set_option linter.unusedSectionVars false
set_option maxRecDepth 100000
set_option maxHeartbeats 64000000
namespace Go.Proofs.YtfknjmoekbabcaaGreatDoor
open Go.RowKit Go.Lib
open Sq (Tk Nd Mp LL)
namespace Sq
theorem z0e (L:LL) (k:Tk):(zdk L k=(0,L++[[k]])∧OkT k∧k∉L.flatten)∨((zdk L k).1≠0∧(zdk L k).2=L):=by
 by_cases h1:OkT k
 ·by_cases h2:k∈L.flatten
  ·right
   unfold zdk
   rw [if_neg (not_not_intro h1),if_pos (zao.2 h2)]
   exact ⟨by simp,rfl⟩
  ·exact .inl ⟨zyo h1 h2,h1,h2⟩
 ·right
  unfold zdk
  rw [if_pos h1]
  exact ⟨by simp,rfl⟩
theorem z5p (L:LL) (k:Tk):(L++[[k]]).flatten=L.flatten++[k]:=by simp
structure Em (L:LL) (all:List Tk):Prop where
 nd:all.Nodup
 ok:∀ y∈all,OkT y
 perm:List.Perm L.flatten all
theorem em_nil:Em [] []:=⟨by simp,by simp,by simp⟩
theorem Em.make {L:LL} {all:List Tk} {k:Tk} (h:Em L all) (ok:OkT k) (hk:k∉L.flatten):Em (L++[[k]]) (all++[k]) where
 nd:=by
  rw [List.nodup_append]
  refine ⟨h.nd,by simp,fun a ha b hb e=>?_⟩
  rw [List.mem_singleton] at hb
  subst hb;subst e
  exact hk (h.perm.mem_iff.2 ha)
 ok:=fun y hy=>by
  rw [List.mem_append,List.mem_singleton] at hy
  rcases hy with hy | rfl
  ·exact h.ok y hy
  ·exact ok
 perm:=by rw [z5p];exact h.perm.append_right [k]
theorem Em.join {L:LL} {all:List Tk} {a b:Tk} (h:Em L all):Em (zcw L a b).2 all:=⟨h.nd,h.ok,(zs6 (h.perm.nodup_iff.2 h.nd)).trans h.perm⟩
theorem Em.len {L:LL} {all:List Tk} (h:Em L all):L.flatten.length=all.length:=h.perm.length_eq
theorem Em.step {L:LL} {r:List Tk} {k:Tk} (h:Em L (k::r)):∃ L1 L2 L3,zdv L k 0=(0,L1)∧zdv L1 k 1=(0,L2)∧zfq L2 k=(0,L3)∧L1.flatten.length=r.length+1∧Em L3 r:=by
 have ok:=h.ok k (by simp)
 have hn:=h.perm.nodup_iff.2 h.nd
 have ht:there L k:=zao.2 (h.perm.mem_iff.2 (by simp))
 obtain ⟨r1,a1,a2⟩:=xb4 hn ht ok
 have p1:List.Perm (zdv L k 0).2.flatten (k::r):=zjb.trans h.perm
 have hn1:=p1.nodup_iff.2 h.nd
 have ht1:there (zdv L k 0).2 k:=zr9.2 ht
 obtain ⟨b1,b2⟩:=xb3 hn1 ht1 ok a1
 have p2:List.Perm (zdv (zdv L k 0).2 k 1).2.flatten (k::r):=zjb.trans p1
 have ht2:there (zdv (zdv L k 0).2 k 1).2 k:=zr9.2 ht1
 refine ⟨_,_,_,Prod.ext a2 rfl,Prod.ext b2 rfl,zz2 ht2 ok b1,p1.length_eq,⟨(List.nodup_cons.1 h.nd).2,fun y hy=>h.ok y (by simp [hy]),?_⟩⟩
 exact ((zwm b1 ht2).symm.trans p2).cons_inv
open Ky in
theorem Rep.len {es:List En} {M:Mp} {L:LL} (r:Rep es M []) (hl:Ls M L):es.length=L.flatten.length:=by
 have h1:(es.map Prod.fst).Nodup:=List.pairwise_map.2 (r.right.2.imp fun {a b} h e=>zmk h e)
 have h2:(L.flatten.map kk).Nodup:=List.pairwise_map.2 (hl.nodup.imp_of_mem fun {a b} ha hb h e=>h (zys (hl.ok a ha).inT (hl.ok b hb).inT e))
 have h3:List.Perm (es.map Prod.fst) (L.flatten.map kk):=(List.perm_ext_iff_of_nodup h1 h2).2 fun a=>by
  constructor
  ·intro h
   obtain ⟨⟨x,v⟩,hx,rfl⟩:=List.mem_map.1 h
   rcases r.other _ hx with ⟨k,ok,e⟩ | h
   ·have e:x=kk k:=e
    subst e
    obtain ⟨n,hn,_⟩:=(r.mem k v ok).1 hx
    exact List.mem_map.2 ⟨k,zao.1 (hl.there.2 (by rw [hn];simp)),rfl⟩
   ·cases h
  ·intro h
   obtain ⟨k,hk,rfl⟩:=List.mem_map.1 h
   obtain ⟨n,hn⟩:=Option.ne_none_iff_exists'.1 (hl.there.1 (zao.2 hk))
   exact List.mem_map.2 ⟨(kk k,zg9 n),(r.mem k _ (hl.ok k hk)).2 ⟨n,hn,rfl⟩,rfl⟩
 have:=h3.length_eq
 rwa [List.length_map,List.length_map] at this
end Sq
section
variable {s:Nat} {c:Cq} {q0 g0 k:Nat} {L:LL} {F:Asn} {w:World} {R:Ending→World→Prop}
theorem zyp {m:Nat} (hm:Hid (L.flatten.length=m)) (hc:Hid (L.flatten.length≤250)) (hr:Hid (zck c q0 g0 k)) (H:Sat (SqL (Sx.at s c [] q0 g0 k) L*F) w)
  (h:∀ a n w',Sat (SqL (Sx.at s c [] q0 g0 k) L*F) w'→Io w w'→R (.returned (.tuple #[.slice a m n,.int .i64 0])) w') :
  Calls Tryz.prog 33 #[.pointer (some ⟨c.tr,0,none⟩),.string ⟨#[]⟩,.string ⟨#[]⟩] w R:=by
 obtain ⟨M,hl,H⟩:=za7.1 H
 obtain ⟨es,rep,H⟩:=zbt.1 H
 have hn:=rep.len hl
 have e:Tb.scan ⟨#[]⟩ ⟨#[]⟩ es=es:=by
  rw [Ky.zwc rep.right]
  refine List.filter_eq_self.2 fun x _=>?_
  have h1:Md.nlt x.1 ⟨#[]⟩=false:=by
   unfold Md.nlt
   rw [show (⟨#[]⟩:ByteArray).toList=[] from by kernel_rfl]
   cases x.1.toList<;>rfl
  rw [h1]
  rfl
 refine z0y ⟨#[]⟩ ⟨#[]⟩ hr.out.ok.g (by have:=hc.out;omega) (by decide) H fun v w' H' I=>?_
 rw [e] at H'
 obtain ⟨a,n,e2⟩:=zh1 H'
 subst e2
 rw [hn,hm.out]
 exact h a n w' (za7.2 ⟨M,hl,zbt.2 ⟨es,rep,H'.right⟩⟩) I
theorem xar (H:Sat (SqL (Sx.at s c [] q0 g0 k) []*F) w) (h:R (.returned (.int .i64 0)) w) :
  Calls Tryz.prog 36 #[.pointer (some ⟨c.tr,0,none⟩)] w R:=by
 obtain ⟨M,hl,H⟩:=za7.1 H
 obtain ⟨es,rep,H⟩:=zbt.1 H
 have hn:=rep.len hl
 refine z9s H fun root hr=>?_
 have:es=[]:=List.eq_nil_of_length_eq_zero hn
 rw [hr.2 this]
 exact h
theorem xbu {M:Mp} {L:LL} (hl:Sq.Ls M L) (h:Sq.Em L []):L=[]:=by
 have h1:L.flatten=[]:=h.perm.eq_nil
 cases L with
 | nil=>rfl
 | cons a L =>
  rw [List.flatten_cons,List.append_eq_nil_iff] at h1
  exact absurd h1.1 (hl.ne a (by simp))
theorem drop_at {α:Type} {l:List α} {i:Nat} {x:α} (h:l[i]?=some x):l.drop i=x::l.drop (i+1):=by
 obtain ⟨hi,e⟩:=List.getElem?_eq_some_iff.1 h
 rw [List.drop_eq_getElem_cons hi,e]
theorem zkc {A B:Asn} {b o:Nat} {v0 v1 v2 v3 v4 v5:Value} (hc:∀ w,Sat F w→w.cell? ⟨b,o,none⟩=some v0∧w.cell? ⟨b,o+1,none⟩=some v1∧w.cell? ⟨b,o+2,none⟩=some v2∧w.cell? ⟨b,o+3,none⟩=some v3∧w.cell? ⟨b,o+4,none⟩=some v4∧w.cell? ⟨b,o+5,none⟩=some v5) (H:Sat (A*(B*F)) w):w.cell? ⟨b,o+1,none⟩=some v1∧w.cell? ⟨b,o+2,none⟩=some v2∧w.cell? ⟨b,o+3,none⟩=some v3∧w.cell? ⟨b,o+4,none⟩=some v4 :=
 have h:=hc w H.right.right
 ⟨h.2.1,h.2.2.1,h.2.2.2.1,h.2.2.2.2.1⟩
theorem zl7 {l:List zxv} {v:Value} (hv:Reads zko F v l) (H:Sat F w) (h:∀ w',Sat F w'→Io w w'→R (.returned (.bool true)) w') :
  Calls Tryz.prog 8 #[v] w R:=by
 have HH:=L_ h
 obtain ⟨a0,c0,rfl,hm'⟩:=zkk hv
 have HV:=L_ (fun k hk=>zkl hv k hk)
 clear h hv
 go_enter Tryz.func8,Tryz.ntmps8
 go_upto_region 4 with (first
  | (go_at_call 9;(with_reducible refine zii H ?_);intro w1 H1 I1)
  | fail)
 by_cases hl:(120:Int)<(l.length:Int)
 ·have FIN:=L_ (HH.out _ H1 I1)
  clear HV
  go_wp2_with fail
  exact FIN.out
 ·have HL:Hid (l.length≤120):=L_ (by omega)
  go_upto_region 8 with (first
   | (go_at_call 10;(with_reducible refine zjg (s:=3000) (L_ (by decide)) (L_ (by decide)) H1 ?_);intro c w3 hn H3 I3;have HC:=L_ (show c.k.n=3000 from hn.out);clear hn)
   | (go_at_call 11;(refine zlp (c:=c) (O:=[]) (L_ ⟨by constructor<;>simp,by simp⟩) H3 ?_);intro s w4 H4 I4)
   | fail)
  have J3:=(I1.trans I3).trans I4
  have S3:Sat (SqL (Sx.at s c [] 60 0 0) []*(zar (.slice none 0 0) []*F)) w4:=by
   rw [Sx.zrn]
   exact zai (za5 H4)
  clear H H1 H3 H4 I1 I3 I4
  go_wp2_with fail
  go_loopw [6,7] (fun vx vi wr=>∃ (k:Nat) (L:LL) (all:List Tk) (va:Value),va=vx∧k≤l.length∧vi=.int .i64 (k:Int)∧Hid (Sq.Em L all∧all.length≤k)∧Sat (SqL (Sx.at s c [] 60 0 k) L*(zar va all*F)) wr∧Io w wr) (fun _ vi _=>l.length - (RowKit.intOf vi).toNat)
  case atStart=>exact ⟨0,[],[],_,rfl,by omega,rfl,L_ ⟨Sq.em_nil,by simp⟩,S3,J3⟩
  case round =>
   obtain ⟨k,L,all,va,rfl,hk,rfl,he,Hk,Ik⟩:=hrel
   clear S3 J3
   obtain ⟨a9,c9,rfl⟩:=zg1 (zai Hk)
   by_cases hlt:k<l.length
   ·have zph:(k:Int)<(l.length:Int):=by omega
    have hk0:(0:Int)≤(k:Int):=by omega
    have HKL:Hid (k+1≤l.length):=L_ (by omega)
    have HGN:Hid (Value.int IntKind.i64 ((k:Int)+1)=Value.int IntKind.i64 ((k+1:Nat):Int)):=L_ (by go_num)
    have hkl:(k:Int)≤200:=by omega
    have RM:Hid (zck c 60 0 (k+1)):=zp7 HC (by omega)
    have EM:=L_ he.out.1
    have HB:Hid (all.length≤k∧k<120):=L_ ⟨he.out.2,by omega⟩
    obtain ⟨b1,o1,x0,x1,x2,x3,x4,x5,rfl,hx,hc⟩:=HV.out k hlt
    clear he hx
    obtain ⟨g0,g1,g2,g3,g4,g5⟩:=hc _ Hk.right.right
    rcases Sq.z0e L (x1,x2) with ⟨hm,hok,hn⟩ | ⟨hm1,hm2⟩
    ·have HM:=L_ hm
     have EM2:=L_ (EM.out.make hok hn)
     clear hm hok hn
     go_upto_region 14 with (first
      | (go_at_call 13;(with_reducible refine zeu (k:=k) x1 x2 HM RM Hk ?_);intro w5 H5 I5;obtain ⟨z0,z1,z2,z3,z4,z5⟩:=hc _ H5.right.right;have K5:=zai H5)
      | (at_builtin;refine zat zlf zbp rfl (.tmp 35) (.tmp 41) rfl rfl K5 (by have:=HB.out;omega) (x1,x2) rfl rfl ?_;intro v3 w7 H7 I7))
     clear g0 g1 g2 g3 g4 g5 z0 z1 z2 z3 z4 z5 Hk K5
     obtain ⟨a8,c8,e8⟩:=zg1 H7
     rw [List.length_append,List.length_singleton] at e8
     subst e8
     have H8:=zai H7
     have J8:=(Ik.trans I5).trans I7
     clear H5 H7 Ik I5 I7
     by_cases hp:x0.tmod 2=0
     ·obtain ⟨f0,f1,f2,f3,f4,f5⟩:=hc _ (H8).right.right
      obtain ⟨ej,L2,hj⟩:∃ e L2,Sq.zcw (L++[[(x1,x2)]]) (x1,x2) (x3,x4)=(e,L2):=⟨_,_,rfl⟩
      have HE2:Hid (Sq.Em L2 (all++[(x1,x2)])):=L_ (by have:=EM2.out.join (a:=(x1,x2)) (b:=(x3,x4));rw [hj] at this;exact this)
      have HLN:Hid (((L++[[(x1,x2)]]):LL).flatten.length≤250):=L_ (by have:=EM2.out.len;have:=HB.out;simp only [List.length_append,List.length_singleton] at *;omega)
      have HJ:=L_ hj
      clear hj
      go_upto_region 15 with fail
      have Kd:=(H8).drew
      have Jd:=(J8).drew
      have S0:=zkc hc Kd
      refine rh Kd (fun W Kd=>zkc hc Kd) fun hHeld=>?_
      refine tk ?_ ?_ [0,1,2,3,4,5,6,7,8,9,10] ?_ hHeld ?_;rotate_left 2;exact tt
      refine rd [11] (rc fun K hK=>?_)
      go_simp
      go_at_call 14;(refine zg6 (k:=k+1) x1 x2 x3 x4 HJ HLN RM Kd ?_);intro w9 H9 I9
      refine hK.out _ _ (by exact zkc hc H9) fun hHeld=>?_
      clear hK K
      try simp only [sp]
      refine wpAnyH_done (by kernel_rfl) ?_ _
      clear f0 f1 f2 f3 f4 f5 S0 hHeld
      go_wp2_with fail
      go_roundw
      case rel=>exact ⟨k+1,L2,(all++[(x1,x2)]),_,rfl,HKL.out,HGN.out,L_ ⟨HE2.out,by rw [List.length_append,List.length_singleton];have:=HB.out;omega⟩,H9,Jd.trans I9⟩
      case measure=>simp [RowKit.intOf];omega
     ·have hpf:decide (x0.tmod 2=0)=false:=decide_eq_false hp
      obtain ⟨f0,f1,f2,f3,f4,f5⟩:=hc _ (H8).right.right
      go_wp2_with fail
      go_roundw
      case rel=>exact ⟨k+1,(L++[[(x1,x2)]]),(all++[(x1,x2)]),_,rfl,HKL.out,HGN.out,L_ ⟨EM2.out,by rw [List.length_append,List.length_singleton];have:=HB.out;omega⟩,H8,J8⟩
      case measure=>simp [RowKit.intOf];omega
    ·obtain ⟨em,hem⟩:∃ e,e=(Sq.zdk L (x1,x2)).1:=⟨_,rfl⟩
     have HM:Hid (Sq.zdk L (x1,x2)=(em,L)):=L_ (Prod.ext hem.symm hm2)
     have hne:¬ em=0:=fun e=>hm1 (hem ▸ e)
     have hnf:decide (em=0)=false:=decide_eq_false hne
     clear hm1 hm2 hem
     go_upto_region 14 with (first
      | (go_at_call 13;(with_reducible refine zeu (k:=k) x1 x2 HM RM Hk ?_);intro w5 H5 I5)
      | fail)
     have J8:=Ik.trans I5
     clear g0 g1 g2 g3 g4 g5 Hk Ik I5 hne hnf
     by_cases hp:x0.tmod 2=0
     ·obtain ⟨f0,f1,f2,f3,f4,f5⟩:=hc _ (H5).right.right
      obtain ⟨ej,L2,hj⟩:∃ e L2,Sq.zcw L (x1,x2) (x3,x4)=(e,L2):=⟨_,_,rfl⟩
      have HE2:Hid (Sq.Em L2 all):=L_ (by have:=EM.out.join (a:=(x1,x2)) (b:=(x3,x4));rw [hj] at this;exact this)
      have HLN:Hid ((L:LL).flatten.length≤250):=L_ (by have:=EM.out.len;have:=HB.out;skip;omega)
      have HJ:=L_ hj
      clear hj
      go_upto_region 15 with fail
      have Kd:=(H5).drew
      have Jd:=(J8).drew
      have S0:=zkc hc Kd
      refine rh Kd (fun W Kd=>zkc hc Kd) fun hHeld=>?_
      refine tk ?_ ?_ [0,1,2,3,4,5,6,7,8,9,10] ?_ hHeld ?_;rotate_left 2;exact tt
      refine rd [11] (rc fun K hK=>?_)
      go_simp
      go_at_call 14;(refine zg6 (k:=k+1) x1 x2 x3 x4 HJ HLN RM Kd ?_);intro w9 H9 I9
      refine hK.out _ _ (by exact zkc hc H9) fun hHeld=>?_
      clear hK K
      try simp only [sp]
      refine wpAnyH_done (by kernel_rfl) ?_ _
      clear f0 f1 f2 f3 f4 f5 S0 hHeld
      go_wp2_with fail
      go_roundw
      case rel=>exact ⟨k+1,L2,all,_,rfl,HKL.out,HGN.out,L_ ⟨HE2.out,by have:=HB.out;omega⟩,H9,Jd.trans I9⟩
      case measure=>simp [RowKit.intOf];omega
     ·have hpf:decide (x0.tmod 2=0)=false:=decide_eq_false hp
      obtain ⟨f0,f1,f2,f3,f4,f5⟩:=hc _ (H5).right.right
      go_wp2_with fail
      go_roundw
      case rel=>exact ⟨k+1,L,all,_,rfl,HKL.out,HGN.out,L_ ⟨EM.out,by have:=HB.out;omega⟩,H5,J8⟩
      case measure=>simp [RowKit.intOf];omega
   ·obtain rfl:k=l.length:=by omega
    have hge:¬ (l.length:Int)<(l.length:Int):=by omega
    have RM:Hid (zck c 60 0 l.length):=zp7 HC (by have:=HL.out;omega)
    have EM:=L_ he.out.1
    have HLA:Hid (all.length≤120):=L_ (by have:=he.out.2;have:=HL.out;omega)
    have HLF:Hid (L.flatten.length=all.length):=L_ EM.out.len
    have HLN:Hid (L.flatten.length≤250):=L_ (by have:=HLF.out;have:=HLA.out;omega)
    clear HV he
    go_upto_region 20 with (go_at_call 33;(refine zyp HLF HLN RM Hk ?_);intro ak nk w5 H5 I5)
    have J5:=Ik.trans I5
    have HG0:Hid (∀ k,k<all.length→∃ k1 k2,all[k]?=some (k1,k2)):=L_ fun k hk=>⟨_,_,List.getElem?_eq_getElem hk⟩
    have HOK:=L_ EM.out.ok
    clear HLF HLN Hk Ik I5
    have hla:(all.length:Int)≤120:=by have:=HLA.out;omega
    go_wp2_with fail
    go_loopw [10] (fun vi wr=>∃ (i:Nat) (L:LL),i≤all.length∧vi=.int .i64 (i:Int)∧Hid (Sq.Em L (all.drop i))∧Sat (SqL (Sx.at s c [] 60 0 l.length) L*(zar (.slice a9 all.length c9) all*F)) wr∧Io w wr) (fun vi _=>all.length - (RowKit.intOf vi).toNat)
    case atStart=>exact ⟨0,L,by omega,rfl,L_ (by rw [List.drop_zero];exact EM.out),H5,J5⟩
    case round =>
     clear H5 J5 EM
     obtain ⟨i,L,hi,rfl,he,Hk,Ik⟩:=hrel
     by_cases hlt:i<all.length
     ·have zph:(i:Int)<(all.length:Int):=by omega
      have hi0:(0:Int)≤(i:Int):=by omega
      have hi1:(i:Int)≤200:=by omega
      have HKL:Hid (i+1≤all.length):=L_ (by omega)
      have HGN:Hid (Value.int IntKind.i64 ((i:Int)+1)=Value.int IntKind.i64 ((i+1:Nat):Int)):=L_ (by go_num)
      obtain ⟨k1,k2,hg⟩:=HG0.out i hlt
      have HGT:=L_ hg
      obtain ⟨g,e9⟩:=zo0 Hk.right hlt
      subst e9
      obtain ⟨L1,L2,L3,m1,m2,m3,ml,em⟩:=Sq.Em.step (by rw [←drop_at hg];exact he.out)
      have M1:=L_ m1
      have M2:=L_ m2
      have M3:=L_ m3
      have EM3:=L_ em
      have LN0:Hid (L.flatten.length≤250):=L_ (by have:=he.out.len;rw [List.length_drop] at this;have:=HLA.out;omega)
      have LN1:Hid (L1.flatten.length≤250):=L_ (by rw [List.length_drop] at ml;have:=HLA.out;omega)
      clear m1 m2 m3 em hg ml he
      obtain ⟨y0,y1⟩:=zer Hk.right i HGT.out
      go_wp2_with (first
       | (go_at_call 15;(with_reducible refine zqx (k:=l.length) k1 k2 M1 LN0 RM Hk ?_);intro w6 H6 I6;obtain ⟨z0,z1⟩:=zer H6.right i HGT.out)
       | (go_at_call 24;(with_reducible refine xat (k:=l.length) k1 k2 M2 LN1 RM H6 ?_);intro w7 H7 I7;obtain ⟨f0,f1⟩:=zer H7.right i HGT.out)
       | (go_at_call 25;(with_reducible refine ztl (k:=l.length) k1 k2 M3 RM H7 ?_);intro w8 H8 I8))
      go_roundw
      case rel=>exact ⟨i+1,L3,HKL.out,HGN.out,EM3,H8,((Ik.trans I6).trans I7).trans I8⟩
      case measure=>simp [RowKit.intOf];omega
     ·obtain rfl:i=all.length:=by omega
      have hge:¬ (all.length:Int)<(all.length:Int):=by omega
      obtain ⟨M,hl0,_⟩:=za7.1 Hk
      have e0:L=[]:=xbu hl0 (by have:=he.out;rwa [List.drop_length] at this)
      subst e0
      clear he hl0
      go_wp2_with (first
       | (go_at_call 33;(refine zyp (m:=0) (L_ rfl) (L_ (by decide)) RM Hk ?_);intro a6 n6 w6 H6 I6)
       | (go_at_call 36;(refine xar H6 ?_)))
      exact HH.out _ H6.right.right (Ik.trans I6)
end
end Go.Proofs.YtfknjmoekbabcaaGreatDoor
