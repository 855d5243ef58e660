/-
  A part of a proof. It proves no statement by itself.
-/
import Derived.Test.YtfknjmoekbabcaaGreatDoorC04
import Derived.Test.YtfknjmoekbabcaaGreatDoorC27
import Derived.Test.YtfknjmoekbabcaaGreatDoorC40
import Derived.Test.YtfknjmoekbabcaaGreatDoorC42
set_option linter.unusedSimpArgs false
set_option linter.unusedVariables false
set_option linter.unusedSectionVars false
set_option maxRecDepth 100000
set_option maxHeartbeats 64000000
namespace Go.Proofs.YtfknjmoekbabcaaGreatDoor
namespace Eg
def apply (l:List Pr) (c:List (Pr × Bool)):List Pr:=c.foldl one (sort l)
end Eg
end Go.Proofs.YtfknjmoekbabcaaGreatDoor
namespace Go.Proofs.YtfknjmoekbabcaaGreatDoor
open Go.RowKit Go.Lib
theorem pw_ext {α:Type} {r:α→α→Prop} (irr:∀ a,¬ r a a) (tr:∀ a b c,r a b→r b c→r a c):∀ {l m:List α},l.Pairwise r→m.Pairwise r→(∀ x,x∈l↔x∈m)→l=m
 | [],[],_,_,_=>rfl
 | [],b::m,_,_,h=>absurd ((h b).2 (by simp)) (by simp)
 | a::l,[],_,_,h=>absurd ((h a).1 (by simp)) (by simp)
 | a::l,b::m,hl,hm,h=>by
  obtain ⟨la,hl2⟩:=List.pairwise_cons.1 hl
  obtain ⟨mb,hm2⟩:=List.pairwise_cons.1 hm
  have e:a=b:=by
   rcases List.mem_cons.1 ((h a).1 (by simp)) with e | e
   ·exact e
   ·rcases List.mem_cons.1 ((h b).2 (by simp)) with k | k
    ·exact k.symm
    ·exact absurd (tr _ _ _ (la b k) (mb a e)) (irr a)
  subst e
  have hh:∀ x,x∈l↔x∈m:=by
   intro x
   constructor
   ·intro hx
    rcases List.mem_cons.1 ((h x).1 (List.mem_cons_of_mem _ hx)) with e | e
    ·subst e;exact absurd (la _ hx) (irr _)
    ·exact e
   ·intro hx
    rcases List.mem_cons.1 ((h x).2 (List.mem_cons_of_mem _ hx)) with e | e
    ·subst e;exact absurd (mb _ hx) (irr _)
    ·exact e
  rw [pw_ext irr tr hl2 hm2 hh]
theorem len_le_nodup {α:Type} [DecidableEq α]:∀ {l m:List α},l.Nodup→(∀ x∈l,x∈m)→l.length≤m.length
 | [],_,_,_=>by simp
 | a::l,m,hl,h=>by
  obtain ⟨h1,h2⟩:=List.nodup_cons.1 hl
  have ha:=h a (by simp)
  have:=len_le_nodup (l:=l) (m:=m.erase a) h2 fun x hx=>by
   have hne:x≠a:=fun e=>h1 (e ▸ hx)
   exact (List.mem_erase_of_ne hne).2 (h x (by simp [hx]))
  rw [List.length_erase_of_mem ha] at this
  have hp:=List.length_pos_of_mem ha
  simp only [List.length_cons]
  omega
namespace Ky
theorem right_ext {l m:List En} (hl:Right l) (hm:Right m) (h:∀ x,x∈l↔x∈m):l=m :=
 pw_ext (r:=fun x y:En=>Md.nlt x.1 y.1=true) (fun a h=>zmk h rfl) (fun a b c h k=>zb2 h k) hl.2 hm.2 h
theorem mem_scan {a b:Nm} {l:List En} {x:En} (hr:Right l):x∈Tb.scan a b l↔x∈l∧Md.nlt x.1 a=false∧Tb.under b x=true:=by
 rw [zwc hr,List.mem_filter]
 simp
theorem right_scan {a b:Nm} {l:List En} (hr:Right l):Right (Tb.scan a b l):=by rw [zwc hr];exact zsu hr _
end Ky
end Go.Proofs.YtfknjmoekbabcaaGreatDoor
namespace Go.Proofs.YtfknjmoekbabcaaGreatDoor
namespace Sq
variable {L:LL} {k a b:Tk} {l p want:List Tk}
theorem keep_make (h:p∈L):p∈(zdk L k).2:=by
 unfold zdk
 split
 ·exact h
 ·split
  ·exact h
  ·exact List.mem_append_left _ h
theorem keep_remove (h:p∈L) (hp:k∉p):p∈(zfq L k).2:=by
 unfold zfq
 split
 ·exact h
 ·rename_i e
  split
  ·exact h
  ·exact zyt h (zxq.1 (Decidable.not_not.1 e)).2 hp
theorem keep_cut {n:Nat} (h:p∈L) (hp:k∉p):p∈(zdv L k n).2:=by
 unfold zdv
 split
 ·exact h
 ·rename_i e
  split
  ·exact h
  ·unfold cut
   exact List.mem_append_left _ (List.mem_append_left _ (zyt h (zxq.1 (Decidable.not_not.1 e)).2 hp))
theorem keep_join (hn:L.flatten.Nodup) (h:p∈L) (ha:a∉p) (hb:b∉p):p∈(zcw L a b).2:=by
 unfold zcw
 split
 ·exact h
 ·rename_i e
  have e:=Decidable.not_not.1 e
  split
  ·exact h
  ·rename_i e1
   obtain ⟨⟨_,h1⟩,_,h2⟩:=xc6.1 e
   rw [two1 e,decide_eq_true_iff] at e1
   unfold joined
   exact List.mem_append_left _ (zyt (zyt h h1 ha) (zxa hn h1 h2 e1) hb)
theorem len_remove:(zfq L k).2.flatten.length≤L.flatten.length:=by
 unfold zfq
 split
 ·simp
 ·rename_i e
  split
  ·simp
  ·have:=(zja (zxq.1 (Decidable.not_not.1 e)).2).length_eq
   rw [List.length_append] at this
   simp only
   omega
end Sq
end Go.Proofs.YtfknjmoekbabcaaGreatDoor
namespace Go.Proofs.YtfknjmoekbabcaaGreatDoor
open Go.RowKit Go.Lib
namespace Ky
def ist (key v:Nm) (s:List En × Bool) (x:En):List En × Bool:=if s.2=false∧Md.nlt key x.1=true then (s.1++[(key,v)]++[x],true) else (s.1++[x],s.2)
def ifin (key v:Nm) (s:List En × Bool):List En:=if s.2=true then s.1 else s.1++[(key,v)]
theorem ist_true (key v:Nm):∀ (l:List En) (o:List En),l.foldl (ist key v) (o,true)=(o++l,true)
 | [],o=>by simp
 | x::l,o=>by
  have e:ist key v (o,true) x=(o++[x],true):=by simp [ist]
  rw [List.foldl_cons,e,ist_true key v l]
  simp
theorem ist_ahead (key v:Nm):∀ (l:List En) (o:List En),(∀ x∈l,Md.nlt key x.1=false)→l.foldl (ist key v) (o,false)=(o++l,false)
 | [],o,_=>by simp
 | x::l,o,h=>by
  have e:ist key v (o,false) x=(o++[x],false):=by simp [ist,h x (by simp)]
  rw [List.foldl_cons,e,ist_ahead key v l _ fun y hy=>h y (by simp [hy])]
  simp
theorem ist_behind (key v:Nm) (l:List En) (o:List En) (h:∀ x∈l,Md.nlt key x.1=true):ifin key v (l.foldl (ist key v) (o,false))=o++[(key,v)]++l:=by
 cases l with
 | nil=>simp [ifin]
 | cons x l =>
  have e:ist key v (o,false) x=(o++[(key,v)]++[x],true):=by simp [ist,h x (by simp)]
  rw [List.foldl_cons,e,ist_true]
  simp [ifin]
theorem put_doc {l:List En} (hr:Right l) (key v:Nm):ifin key v ((l.filter fun x=>decide (x.1≠key)).foldl (ist key v) ([],false))=put l key v:=by
 obtain ⟨E1,Ec,E2,rfl,h1,h2,h3⟩:=zqa hr key
 rw [Tb.zwk h1 h2 hr]
 have f1:(E1.filter fun x=>decide (x.1≠key))=E1:=List.filter_eq_self.2 fun x hx=>by simpa using zmk (h1 x hx)
 have f2:(E2.filter fun x=>decide (x.1≠key))=E2:=List.filter_eq_self.2 fun x hx=>by simpa using (zmk (h2 x hx)).symm
 have f3:(Ec.filter fun x=>decide (x.1≠key))=[]:=by
  rcases h3 with rfl | ⟨w,rfl⟩
  ·rfl
  ·simp
 have hp:put Ec key v=[(key,v)]:=by
  rcases h3 with rfl | ⟨w,rfl⟩
  ·exact xeo _ _
  ·exact xen _ _ _
 rw [List.filter_append,List.filter_append,f1,f2,f3,hp,List.nil_append,List.foldl_append,ist_ahead key v E1 [] fun x hx=>ze4 (h1 x hx),List.nil_append,ist_behind key v E2 E1 h2,List.append_assoc]
theorem ist_len (key v:Nm):∀ (l:List En) (s:List En × Bool),(l.foldl (ist key v) s).1.length≤s.1.length+2*l.length
 | [],s=>by simp
 | x::l,s=>by
  have:=ist_len key v l (ist key v s x)
  have h:(ist key v s x).1.length≤s.1.length+2:=by
   unfold ist
   split<;>simp
  rw [List.foldl_cons,List.length_cons]
  omega
end Ky
namespace Ky
def may (k v:Nm):Bool:=decide (chk k v=0)
end Ky
theorem neq_entry (k v:ByteArray) (w:World):(binOp .neq 112 (.agg #[.string k,.string v]) (.agg #[.string k,.string v])).run Tryz.prog w=.ok (.bool false) w:=by
 have u3:=Tryz.underlying9
 have hS:Tryz.prog.underlying 112=some (.struct (Tryz.prog.fieldsOf 112)):=by kernel_rfl
 have hp:Tryz.prog.stoodInHeld 112=false:=by kernel_rfl
 rw [run_neq_struct,show (10000:Nat)=9999+1 from rfl,run_equalIn_agg w 9999 112 _ _ hS hp]
 simp only [Program.fieldsOf,Tryz.underlying112]
 go_simp
theorem rowE_one {v:Value} {l:List Ky.En} {y:Ky.En} {F:Asn} {w:World} (H:Sat (zda v (l++[y])*F) w):∃ a c,v=.slice a (l.length+1) c:=by
 obtain ⟨a,c,h⟩:=zg1 H
 rw [List.length_append,List.length_singleton] at h
 exact ⟨a,c,h⟩
theorem Sat.mid2 {A B C:Asn} {w:World} (h:Sat (A*(B*C)) w):Sat (A*C) w:=(zai h).right
section
variable {F:Asn} {w:World} {R:Ending→World→Prop} {l m:List Ky.En} {v u:Value}
theorem rmay11_any (key val:ByteArray) (hk:Hid (key.size≤9223372036854775807)) (hv:Hid (val.size≤40)) {d:Bool} (hd:Hid (d=Ky.may key val)) (h:R (.returned (.bool d)) w) :
  Calls Tryz.prog 30 #[.string key,.string val] w R:=by
 have HH:=L_ h
 have h2:(val.size:Int)≤40:=by have:=hv.out;omega
 have hx:=hd.out
 unfold Ky.may Ky.chk at hx
 clear h
 go_enter Tryz.func30,Tryz.ntmps30
 by_cases h1:1≤(key.size:Int)
 ·by_cases h3:(key.size:Int)≤16
  ·obtain rfl:d=true:=by rw [hx,decide_eq_true_eq,if_neg (by omega)]
   clear hx
   go_wp2_with fail
   exact HH.out
  ·obtain rfl:d=false:=by rw [hx,decide_eq_false_iff_not,if_pos (by omega)];omega
   clear hx
   go_wp2_with fail
   exact HH.out
 ·obtain rfl:d=false:=by rw [hx,decide_eq_false_iff_not,if_pos (by omega)];omega
  clear hx
  go_wp2_with fail
  exact HH.out
theorem rdel11_any (hv:zbi F v l) (hl:l.length≤1000) (key:ByteArray) (H:Sat F w) (h:∀ v' w',Sat (zda v' (l.filter fun x=>decide (x.1≠key))*F) w'→Io w w'→R (.returned v') w') :
  Calls Tryz.prog 67 #[v,.string key] w R:=by
 obtain ⟨a,c,rfl,hm⟩:=zcq hv
 have HV:=L_ (fun k hk=>zc6 hv k hk)
 have HH:=L_ h
 have HL:=L_ hl
 have n1:(l.length:Int)≤1000:=by omega
 clear h hv hl
 go_enter Tryz.func67,Tryz.ntmps67
 go_wp2_with fail
 go_loopw [5,6] (fun y x wr=>∃ (k:Nat) (o:List Ky.En),k≤l.length∧x=.int .i64 (k:Int)∧Hid ((l.take k).filter (fun x=>decide (x.1≠key))=o)∧Sat (zda y o*F) wr∧Io w wr) (fun _ x _=>l.length - (intOf x).toNat)
 case atStart=>exact ⟨0,[],by omega,rfl,L_ rfl,za5 (enc:=xfr) (sz:=2) (e:=112) H,Io.refl w⟩
 case round =>
  obtain ⟨k,o,hk,rfl,hs,Hk,Ik⟩:=hrel
  by_cases hlt:k<l.length
  ·have zph:(k:Int)<(l.length:Int):=by omega
   have hk0:(0:Int)≤(k:Int):=by omega
   obtain ⟨b,off,x1,x2,rfl,hx,hc⟩:=HV.out k hlt
   obtain ⟨c0,c1⟩:=hc wr Hk.right
   have ol:o.length≤1000:=by
    rw [←hs.out]
    have:=List.length_filter_le (fun x:Ky.En=>decide (x.1≠key)) (l.take k)
    rw [List.length_take] at this
    have:=HL.out
    omega
   have OL:=L_ ol
   have hn:(l.take (k+1)).filter (fun x=>decide (x.1≠key))=o++(if x1=key then [] else [(x1,x2)]):=by
    rw [List.take_succ_eq_append_getElem hlt,List.filter_append,hs.out,hx]
    by_cases e:x1=key<;>simp [e]
   have HN:=L_ hn
   clear hc hx hs ol hn H
   by_cases hke:x1=key
   ·subst hke
    have HS:Hid ((l.take (k+1)).filter (fun x=>decide (x.1≠x1))=o):=L_ (by rw [HN.out];simp)
    clear HN
    go_wp2_with fail
    go_roundw
    case rel=>exact ⟨k+1,o,by omega,by go_num,HS,Hk,Ik⟩
    case measure=>simp [intOf];omega
   ·have HS:Hid ((l.take (k+1)).filter (fun x=>decide (x.1≠key))=o++[(x1,x2)]):=L_ (by rw [HN.out,if_neg hke])
    have hb:(x1.toList == key.toList)=false:=beq_eq_false_iff_ne.2 fun e=>hke (z3m e)
    clear HN
    go_wp2_with (at_builtin;refine zat Tryz.z1d zbk rfl (.tmp 20) (.tmp 25) rfl rfl Hk (by have:=OL.out;omega) (x1,x2) rfl rfl ?_;intro v3 w3 H3 I3)
    go_roundw
    case rel=>exact ⟨k+1,o++[(x1,x2)],by omega,by go_num,HS,H3,Ik.trans I3⟩
    case measure=>simp [intOf];omega
  ·obtain rfl:k=l.length:=by omega
   have hge:¬ (l.length:Int)<(l.length:Int):=by omega
   have FIN:=L_ (HH.out _ _ (by rw [List.take_length] at hs;rw [hs.out];exact Hk) Ik)
   clear HV hs
   go_wp2_with fail
   exact FIN.out
theorem rscan13_any (hv:zbi F v l) (hl:l.length≤1000) (fr ub:ByteArray) {o':List Ky.En} (ho:Hid (o'=l.filter fun x=>!Md.nlt x.1 fr && Tb.under ub x)) (H:Sat F w) (h:∀ v' w',Sat (zda v' o'*F) w'→Io w w'→R (.returned v') w') :
  Calls Tryz.prog 35 #[v,.string fr,.string ub] w R:=by
 obtain rfl:=ho.out
 obtain ⟨a,c,rfl,hm⟩:=zcq hv
 have HV:=L_ (fun k hk=>zc6 hv k hk)
 have HH:=L_ h
 have HL:=L_ hl
 have n1:(l.length:Int)≤1000:=by omega
 clear h hv hl ho
 go_enter Tryz.func35,Tryz.ntmps35
 go_wp2_with fail
 go_loopw [7,8] (fun y x wr=>∃ (k:Nat) (o:List Ky.En),k≤l.length∧x=.int .i64 (k:Int)∧Hid ((l.take k).filter (fun x=>!Md.nlt x.1 fr && Tb.under ub x)=o)∧Sat (zda y o*F) wr∧Io w wr) (fun _ x _=>l.length - (intOf x).toNat)
 case atStart=>exact ⟨0,[],by omega,rfl,L_ rfl,za5 (enc:=xfr) (sz:=2) (e:=112) H,Io.refl w⟩
 case round =>
  obtain ⟨k,o,hk,rfl,hs,Hk,Ik⟩:=hrel
  by_cases hlt:k<l.length
  ·have zph:(k:Int)<(l.length:Int):=by omega
   have hk0:(0:Int)≤(k:Int):=by omega
   obtain ⟨b,off,x1,x2,rfl,hx,hc⟩:=HV.out k hlt
   obtain ⟨c0,c1⟩:=hc wr Hk.right
   have ol:o.length≤1000:=by
    rw [←hs.out]
    have:=List.length_filter_le (fun x:Ky.En=>!Md.nlt x.1 fr && Tb.under ub x) (l.take k)
    rw [List.length_take] at this
    have:=HL.out
    omega
   have OL:=L_ ol
   have hn:(l.take (k+1)).filter (fun x=>!Md.nlt x.1 fr && Tb.under ub x)=o++(if (!Md.nlt x1 fr && Tb.under ub (x1,x2))=true then [(x1,x2)] else []):=by
    rw [List.take_succ_eq_append_getElem hlt,List.filter_append,hs.out,hx]
    cases e:(!Md.nlt x1 fr && Tb.under ub (x1,x2))<;>simp [e]
   have HN:=L_ hn
   clear hc hx hs ol hn H
   have yes:∀ (e:(!Md.nlt x1 fr && Tb.under ub (x1,x2))=true),Hid ((l.take (k+1)).filter (fun x=>!Md.nlt x.1 fr && Tb.under ub x)=o++[(x1,x2)]):=fun e=>L_ (by rw [HN.out,if_pos e])
   have no:∀ (e:¬ (!Md.nlt x1 fr && Tb.under ub (x1,x2))=true),Hid ((l.take (k+1)).filter (fun x=>!Md.nlt x.1 fr && Tb.under ub x)=o):=fun e=>L_ (by rw [HN.out,if_neg e,List.append_nil])
   cases h1:Md.nlt x1 fr with
   | true =>
    have h1':Op.bytesLess x1.toList fr.toList=true:=h1
    have HS:=no (by simp [h1])
    clear HN yes no h1
    go_wp2_with fail
    go_roundw
    case rel=>exact ⟨k+1,o,by omega,by go_num,HS,Hk,Ik⟩
    case measure=>simp [intOf];omega
   | false =>
    have h1':Op.bytesLess x1.toList fr.toList=false:=h1
    by_cases h0:ub.size=0
    ·have hb:(ub.toList == [])=true:=by
      have:ub=⟨#[]⟩:=by
       have h2:ub.data.toList.length=0:=h0
       exact z3m (by rw [ByteArray.toList_eq,ByteArray.toList_eq,List.eq_nil_of_length_eq_zero h2])
      rw [this,ByteArray.toList_eq];rfl
     have HS:=yes (by simp [h1,Tb.under,h0])
     clear HN yes no h1 h0
     go_wp2_with (at_builtin;refine zat Tryz.z1d zbk rfl (.tmp 35) (.tmp 40) rfl rfl Hk (by have:=OL.out;omega) (x1,x2) rfl rfl ?_;intro v3 w3 H3 I3)
     go_roundw
     case rel=>exact ⟨k+1,o++[(x1,x2)],by omega,by go_num,HS,H3,Ik.trans I3⟩
     case measure=>simp [intOf];omega
    ·have hb:(ub.toList == [])=false:=by
      apply beq_eq_false_iff_ne.2
      intro e
      rw [ByteArray.toList_eq] at e
      have h2:ub.data.toList.length=ub.size:=rfl
      rw [e] at h2
      exact h0 (by simpa using h2.symm)
     cases h2:Md.nlt x1 ub with
     | true =>
      have h2':Op.bytesLess x1.toList ub.toList=true:=h2
      have HS:=yes (by simp [h1,Tb.under,h2])
      clear HN yes no h1 h0 h2
      go_wp2_with (at_builtin;refine zat Tryz.z1d zbk rfl (.tmp 35) (.tmp 40) rfl rfl Hk (by have:=OL.out;omega) (x1,x2) rfl rfl ?_;intro v3 w3 H3 I3)
      go_roundw
      case rel=>exact ⟨k+1,o++[(x1,x2)],by omega,by go_num,HS,H3,Ik.trans I3⟩
      case measure=>simp [intOf];omega
     | false =>
      have h2':Op.bytesLess x1.toList ub.toList=false:=h2
      have HS:=no (by simp [h1,Tb.under,h0,h2])
      clear HN yes no h1 h0 h2
      go_wp2_with fail
      go_roundw
      case rel=>exact ⟨k+1,o,by omega,by go_num,HS,Hk,Ik⟩
      case measure=>simp [intOf];omega
  ·obtain rfl:k=l.length:=by omega
   have hge:¬ (l.length:Int)<(l.length:Int):=by omega
   have FIN:=L_ (HH.out _ _ (by rw [List.take_length] at hs;rw [hs.out];exact Hk) Ik)
   clear HV hs
   go_wp2_with fail
   exact FIN.out
theorem rsame11_yes (hv:zbi F v l) (hu:zbi F u l) (H:Sat F w) (h:∀ w',Sat F w'→Io w w'→R (.returned (.bool true)) w') :
  Calls Tryz.prog 34 #[v,u] w R:=by
 obtain ⟨a,c,rfl,hm⟩:=zcq hv
 obtain ⟨a',c',rfl,hm'⟩:=zcq hu
 have HV:=L_ (fun k hk=>zc6 hv k hk)
 have HU:=L_ (fun k hk=>zc6 hu k hk)
 have HH:=L_ h
 clear h hv hu
 go_enter Tryz.func34,Tryz.ntmps34
 go_wp2_with fail
 go_loopw [5] (fun x wr=>∃ k:Nat,k≤l.length∧x=.int .i64 (k:Int)∧Sat F wr∧Io w wr) (fun x _=>l.length - (intOf x).toNat)
 case atStart=>exact ⟨0,by omega,rfl,H,Io.refl w⟩
 case round =>
  obtain ⟨k,hk,rfl,Hk,Ik⟩:=hrel
  clear H
  by_cases hlt:k<l.length
  ·have zph:(k:Int)<(l.length:Int):=by omega
   have hk0:(0:Int)≤(k:Int):=by omega
   obtain ⟨b,off,x1,x2,rfl,hx,hc⟩:=HV.out k hlt
   obtain ⟨b',off',y1,y2,rfl,hy,hc'⟩:=HU.out k hlt
   rw [hx,Prod.mk.injEq] at hy
   obtain ⟨rfl,rfl⟩:=hy
   obtain ⟨c0,c1⟩:=hc wr Hk
   obtain ⟨d0,d1⟩:=hc' wr Hk
   have EQ:=fun W=>neq_entry x1 x2 W
   clear hc hc' hx
   go_wp2_with fail
   go_quiet (fail)
   have Hn:=Hk.drewN nq
   have In:=Ik.drewN nq
   go_wp2_with fail
   go_roundw
   case rel=>exact ⟨k+1,by omega,by go_num,Hn,In⟩
   case measure=>simp [intOf];omega
  ·obtain rfl:k=l.length:=by omega
   have hge:¬ (l.length:Int)<(l.length:Int):=by omega
   have FIN:=L_ (HH.out _ Hk Ik)
   clear HV HU
   go_wp2_with fail
   exact FIN.out
theorem rput11_any (hr:Ky.Right l) (hv:zbi F v l) (hl:l.length≤500) (key val:ByteArray) (H:Sat F w) (h:∀ v' w',Sat (zda v' (Ky.put l key val)*F) w'→Io w w'→R (.returned v') w') :
  Calls Tryz.prog 32 #[v,.string key,.string val] w R:=by
 obtain ⟨a,c,rfl,hm⟩:=zcq hv
 have HH:=L_ h
 have HVV:=L_ hv
 have HL:Hid (l.length≤1000):=L_ (by omega)
 have hrl:=List.length_filter_le (fun x:Ky.En=>decide (x.1≠key)) l
 have HP:=L_ (Ky.put_doc hr key val)
 obtain ⟨r,hrr⟩:∃ r,r=l.filter fun x=>decide (x.1≠key):=⟨_,rfl⟩
 rw [←hrr] at hrl
 have HRR:=L_ hrr
 have n1:(r.length:Int)≤1000:=by omega
 have HRL:Hid (r.length≤500):=L_ (by omega)
 clear h hv hl hrr hr hrl
 go_enter Tryz.func32,Tryz.ntmps32
 go_wp2_with (go_at_call 67;(refine rdel11_any HVV.out HL.out key H ?_);intro vr w1 H1 I1;rw [←HRR.out] at H1;obtain ⟨ar,cr,hq⟩:=zg1 H1;subst hq)
 have HV:=L_ (fun k hk=>zc6 (Reads.zau H1 (by have:=HRL.out;omega)) k hk)
 have K1:=za5 (enc:=xfr) (sz:=2) (e:=112) H1
 clear H H1
 go_loopw [8,9,10] (fun y z x wr=>∃ (k:Nat) (o:List Ky.En) (d:Bool),k≤r.length∧x=.int .i64 (k:Int)∧z=.bool d∧Hid ((r.take k).foldl (Ky.ist key val) ([],false)=(o,d))∧Sat (zda y o*(zda (.slice ar r.length cr) r*F)) wr∧Io w wr) (fun _ _ x _=>r.length - (intOf x).toNat)
 case atStart=>exact ⟨0,[],false,by omega,rfl,rfl,L_ rfl,K1,I1⟩
 case round =>
  obtain ⟨k,o,d,hk,rfl,rfl,hs,Hk,Ik⟩:=hrel
  clear K1 I1
  have ol:o.length≤1000:=by
   have h1:=Ky.ist_len key val (r.take k) ([],false)
   rw [hs.out,List.length_take] at h1
   have h2:=HRL.out
   have h0:(([],false):List Ky.En × Bool).1.length=0:=rfl
   rw [h0] at h1
   simp only at h1
   omega
  have OL:=L_ ol
  by_cases hlt:k<r.length
  ·have zph:(k:Int)<(r.length:Int):=by omega
   have hk0:(0:Int)≤(k:Int):=by omega
   obtain ⟨b,off,x1,x2,rfl,hx,hc⟩:=HV.out k hlt
   obtain ⟨c0,c1⟩:=hc wr Hk.right
   have hn:(r.take (k+1)).foldl (Ky.ist key val) ([],false)=Ky.ist key val (o,d) (x1,x2):=by
    rw [List.take_succ_eq_append_getElem hlt,List.foldl_append,hs.out,hx]
    rfl
   have HN:=L_ hn
   have HC:=L_ hc
   clear hc hx hs ol hn
   cases d with
   | true =>
    have HS:Hid ((r.take (k+1)).foldl (Ky.ist key val) ([],false)=(o++[(x1,x2)],true)):=L_ (by rw [HN.out];simp [Ky.ist])
    clear HN
    go_wp2_with (at_builtin;refine zat Tryz.z1d zbk rfl (.tmp 37) (.tmp 42) rfl rfl Hk (by have:=OL.out;omega) (x1,x2) rfl rfl ?_;intro v3 w3 H3 I3)
    go_roundw
    case rel=>exact ⟨k+1,_,_,by omega,by go_num,rfl,HS,H3,Ik.trans I3⟩
    case measure=>simp [intOf];omega
   | false =>
    cases h1:Md.nlt key x1 with
    | true =>
     have h2':Op.bytesLess x1.toList key.toList=false:=ze4 h1
     have h3':(x1.toList == key.toList)=false:=beq_eq_false_iff_ne.2 fun e=>Ky.zmk h1 (z3m e).symm
     have HS:Hid ((r.take (k+1)).foldl (Ky.ist key val) ([],false)=(o++[(key,val)]++[(x1,x2)],true)):=L_ (by rw [HN.out];simp [Ky.ist,h1])
     have OL2:Hid ((o++[(key,val)]).length≤2000):=L_ (by rw [List.length_append,List.length_singleton];have:=OL.out;omega)
     clear HN h1
     go_wp2_with (first
      | (at_builtin;refine zat Tryz.z1d zbk rfl (.tmp 31) (.tmp 35) rfl rfl Hk (by have:=OL.out;omega) (key,val) rfl rfl ?_;intro v3 w3 H3 I3;obtain ⟨a3,c3,hq⟩:=rowE_one H3;subst hq;have Z:=HC.out _ H3.right;obtain ⟨d0,d1⟩:=Z)
      | (at_builtin;refine zat Tryz.z1d zbk rfl (.tmp 37) (.tmp 42) rfl rfl H3 (by have:=OL2.out;omega) (x1,x2) rfl rfl ?_;intro v4 w4 H4 I4))
     go_roundw
     case rel=>exact ⟨k+1,_,_,by omega,by go_num,rfl,HS,H4,(Ik.trans I3).trans I4⟩
     case measure=>simp [intOf];omega
    | false =>
     have HS:Hid ((r.take (k+1)).foldl (Ky.ist key val) ([],false)=(o++[(x1,x2)],false)):=L_ (by rw [HN.out];simp [Ky.ist,h1])
     cases h2:Md.nlt x1 key with
     | true =>
      have h2':Op.bytesLess x1.toList key.toList=true:=h2
      clear HN h1 h2
      go_wp2_with (at_builtin;refine zat Tryz.z1d zbk rfl (.tmp 37) (.tmp 42) rfl rfl Hk (by have:=OL.out;omega) (x1,x2) rfl rfl ?_;intro v3 w3 H3 I3)
      go_roundw
      case rel=>exact ⟨k+1,_,_,by omega,by go_num,rfl,HS,H3,Ik.trans I3⟩
      case measure=>simp [intOf];omega
     | false =>
      have h3':(x1.toList == key.toList)=true:=by rw [zjd h2 h1];simp
      clear HN h1 h2
      go_wp2_with (at_builtin;refine zat Tryz.z1d zbk rfl (.tmp 37) (.tmp 42) rfl rfl Hk (by have:=OL.out;omega) (x1,x2) rfl rfl ?_;intro v3 w3 H3 I3)
      go_roundw
      case rel=>exact ⟨k+1,_,_,by omega,by go_num,rfl,HS,H3,Ik.trans I3⟩
      case measure=>simp [intOf];omega
  ·obtain rfl:k=r.length:=by omega
   have hge:¬ (r.length:Int)<(r.length:Int):=by omega
   have hf:=HP.out
   rw [←HRR.out] at hf
   have hs':=hs.out
   rw [List.take_length] at hs'
   rw [hs'] at hf
   clear HV hs ol hs'
   cases d with
   | true =>
    have FIN:=L_ (HH.out _ _ (by rw [←hf];exact Hk.mid2) Ik)
    clear hf
    go_wp2_with fail
    exact FIN.out
   | false =>
    have HF:Hid (o++[(key,val)]=Ky.put l key val):=L_ hf
    clear hf
    go_wp2_with (at_builtin;refine zat Tryz.z1d zbk rfl (.tmp 46) (.tmp 50) rfl rfl Hk (by have:=OL.out;omega) (key,val) rfl rfl ?_;intro v3 w3 H3 I3)
    refine HH.out _ _ ?_ (Ik.trans I3)
    rw [←HF.out]
    exact H3.mid2
end
end Go.Proofs.YtfknjmoekbabcaaGreatDoor
