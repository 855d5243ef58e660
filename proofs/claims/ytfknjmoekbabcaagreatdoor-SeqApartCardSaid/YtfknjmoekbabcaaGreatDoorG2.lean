/-
  A part of a proof. It proves no statement by itself.
-/
import Derived.Test.YtfknjmoekbabcaaGreatDoorG1
import Derived.Test.YtfknjmoekbabcaaGreatDoorEQte
import Derived.Test.YtfknjmoekbabcaaGreatDoorEQta
import Derived.Deep.CutBlock
set_option linter.unusedSimpArgs false
set_option linter.unusedVariables false
set_option linter.unusedSectionVars false
set_option maxRecDepth 100000
set_option maxHeartbeats 64000000
namespace Go.Proofs.YtfknjmoekbabcaaGreatDoor
open Go.RowKit Go.Lib
open Sq (Tk Nd Mp LL)
namespace Sq
open Ky
theorem kk_list (k:Tk):∃ r,r≠[]∧(kk k).toList=78::r:=by
 refine ⟨(tok k).data.toList,fun h=>?_,?_⟩
 ·have:(tok k).size=(tok k).data.toList.length:=rfl
  rw [h,ziz] at this
  cases this
 ·rw [ByteArray.toList_eq]
  unfold kk
  rw [ByteArray.data_append,Array.toList_append]
  rfl
theorem kk_low (k:Tk):Md.nlt (kk k) ⟨#[78]⟩=false:=by
 obtain ⟨r,h1,h2⟩:=kk_list k
 unfold Md.nlt
 rw [h2,show (⟨#[78]⟩:ByteArray).toList=[78] from by kernel_rfl]
 cases r with
 | nil=>exact absurd rfl h1
 | cons a r=>simp [Op.bytesLess]
theorem kk_high (k:Tk):Md.nlt (kk k) ⟨#[79]⟩=true:=by
 obtain ⟨r,h1,h2⟩:=kk_list k
 unfold Md.nlt
 rw [h2,show (⟨#[79]⟩:ByteArray).toList=[79] from by kernel_rfl]
 simp [Op.bytesLess]
theorem kk_first {s:Nm} {c:UInt8} {r:List UInt8} (h:s.data.toList=c::r) (hc:c≠78) (k:Tk):s≠kk k:=fun e=>by
 obtain ⟨q,_,h2⟩:=kk_list k
 rw [←e,ByteArray.toList_eq,h] at h2
 exact hc (List.cons.inj h2).1
theorem Rep.low {es O:List En} {M:Mp} (r:Rep es M O) (hO:Right O):Tb.scan ⟨#[]⟩ ⟨#[78]⟩ es=Tb.scan ⟨#[]⟩ ⟨#[78]⟩ O:=by
 refine right_ext (right_scan r.right) (right_scan hO) fun x=>?_
 rw [mem_scan r.right,mem_scan hO]
 constructor
 ·rintro ⟨h1,h2,h3⟩
  rcases r.other x h1 with ⟨k,_,e⟩ | h4
  ·unfold Tb.under at h3
   have h5:decide ((⟨#[78]⟩:Nm).size=0)=false:=rfl
   rw [h5,e,kk_low] at h3
   cases h3
  ·exact ⟨h4,h2,h3⟩
 ·rintro ⟨h1,h2⟩
  exact ⟨r.sub x h1,h2⟩
theorem Rep.high {es O:List En} {M:Mp} (r:Rep es M O) (hO:Right O):Tb.scan ⟨#[79]⟩ ⟨#[]⟩ es=Tb.scan ⟨#[79]⟩ ⟨#[]⟩ O:=by
 refine right_ext (right_scan r.right) (right_scan hO) fun x=>?_
 rw [mem_scan r.right,mem_scan hO]
 constructor
 ·rintro ⟨h1,h2,h3⟩
  rcases r.other x h1 with ⟨k,_,e⟩ | h4
  ·rw [e,kk_high] at h2
   cases h2
  ·exact ⟨h4,h2,h3⟩
 ·rintro ⟨h1,h2⟩
  exact ⟨r.sub x h1,h2⟩
theorem Rep.len_le {es O:List En} {M:Mp} {L:LL} (r:Rep es M O) (hl:Ls M L):es.length≤O.length+L.flatten.length:=by
 have h1:(es.map Prod.fst).Nodup:=List.pairwise_map.2 (r.right.2.imp fun {a b} h e=>zmk h e)
 have h2:=len_le_nodup h1 (m:=O.map Prod.fst++L.flatten.map kk) fun a h=>by
  obtain ⟨⟨x,v⟩,hx,rfl⟩:=List.mem_map.1 h
  rcases r.other _ hx with ⟨k,ok,e⟩ | h
  ·have e:x=kk k:=e
   subst e
   obtain ⟨n,hn,_⟩:=(r.mem k v ok).1 hx
   exact List.mem_append.2 (.inr (List.mem_map.2 ⟨k,zao.1 (hl.there.2 (by rw [hn];simp)),rfl⟩))
  ·exact List.mem_append.2 (.inl (List.mem_map.2 ⟨_,h,rfl⟩))
 have e1:(O.map Prod.fst).length=O.length:=List.length_map _
 have e2:(L.flatten.map kk).length=L.flatten.length:=List.length_map _
 have e3:(es.map Prod.fst).length=es.length:=List.length_map _
 rw [List.length_append] at h2
 omega
def oT:Tk:=(1048575,1048575)
def lT:Tk:=(1048574,1)
def Kept (L:LL):Prop:=[oT,lT]∈L∧L.flatten.Nodup
theorem kept_first:zdk [] oT=(0,[[oT]])∧zdk [[oT]] lT=(0,[[oT],[lT]])∧zcw [[oT],[lT]] oT lT=(0,[[oT,lT]]):=by decide
theorem kept_one:Kept [[oT,lT]]:=by unfold Kept;decide
theorem Kept.make {L:LL} {k:Tk} (h:Kept L):Kept (zdk L k).2:=⟨keep_make h.1,by
 rcases z0e L k with ⟨e,_,hn⟩ | ⟨_,e⟩
 ·rw [e,z5p,List.nodup_append]
  refine ⟨h.2,by simp,fun a ha b hb e'=>?_⟩
  rw [List.mem_singleton] at hb
  exact hn (hb ▸ e' ▸ ha)
 ·rw [e];exact h.2⟩
theorem Kept.join {L:LL} {a b:Tk} (h:Kept L) (ha:a∉[oT,lT]) (hb:b∉[oT,lT]):Kept (zcw L a b).2:=⟨keep_join h.2 h.1 ha hb,(zs6 h.2).nodup_iff.2 h.2⟩
theorem Kept.cut {L:LL} {a:Tk} {n:Nat} (h:Kept L) (ha:a∉[oT,lT]):Kept (zdv L a n).2:=⟨keep_cut h.1 ha,ztc h.2⟩
theorem Kept.remove {L:LL} {a:Tk} (h:Kept L) (ha:a∉[oT,lT]):Kept (zfq L a).2:=⟨keep_remove h.1 ha,by
 unfold zfq
 split
 ·exact h.2
 ·rename_i h0
  split
  ·exact h.2
  ·exact (List.nodup_append.1 ((zpl (zxq.1 (Decidable.not_not.1 h0)).2).nodup_iff.1 h.2)).2.1⟩
theorem Kept.list {L:LL} (h:Kept L):zcz L lT=0∧lst L lT=[oT,lT]:=by
 have ht:there L lT:=zdc h.1 (by simp)
 have h0:zcz L lT=0:=zxq.2 ⟨by unfold OkT lT;decide,ht⟩
 exact ⟨h0,(zj7 h0).trans (row_of h.2 h.1 (by simp))⟩
end Sq
theorem idx15 {k:ByteArray} {c:UInt8} {r:List UInt8} (hk:k.size≤1000) (hc:k.data.toList=c::r) (W:World):(Instr.index 9 (.string k) (.int .i64 0)).run Tryz.prog W=.ok (.int .u8 (c.toNat:Int)) W:=by
 have h0:0<k.size:=by
  have:k.size=k.data.toList.length:=rfl
  rw [this,hc];simp
 have e:=run_index_string (P:=Tryz.prog) W 9 k .i64 0 Tryz.underlying9
 rw [dif_pos ⟨by omega,by omega⟩] at e
 have e8 : k[0]'(by omega) = c := by
  have h1:(k.data.toList)[0]?=some c:=by rw [hc];rfl
  rw [Array.getElem?_toList] at h1
  have h2 : k.data[0]? = some (k.data[0]'(by show 0 < k.size; omega)) := Array.getElem?_eq_getElem _
  rw [h2] at h1
  exact Option.some.inj h1
 rw [e]
 show Result.ok (Value.int IntKind.u8 ((k[0]'(by omega)).toNat : Int)) W = _
 rw [e8]
theorem may15_ok {k:ByteArray} (h:Ky.may k ⟨#[120]⟩=true):Ky.chk k ⟨#[120]⟩=0∧1≤k.size∧k.size≤16∧Ky.one (k,⟨#[120]⟩)≤19:=by
 have h1:Ky.chk k ⟨#[120]⟩=0:=of_decide_eq_true h
 have h2:=h1
 have h3:(⟨#[120]⟩:ByteArray).size=1:=rfl
 unfold Ky.chk at h2
 unfold Ky.one
 simp only [h3] at h2 ⊢
 split at h2
 ·omega
 ·refine ⟨h1,?_⟩;omega
theorem put15_len (M:List Ky.En) (k v:Ky.Nm):(Ky.put M k v).length≤M.length+1:=by
 unfold Ky.put
 split
 ·simp
 ·have:=Ky.zmg k M
  simp only [List.length_append,List.length_take,List.length_drop,List.length_singleton]
  omega
theorem head15 {k:ByteArray} (h:1≤k.size):∃ c r,k.data.toList=c::r:=by
 cases e:k.data.toList with
 | nil =>
  have:k.size=k.data.toList.length:=rfl
  rw [e,List.length_nil] at this
  omega
 | cons c r=>exact ⟨c,r,rfl⟩
theorem byte15 {c:UInt8} (h:c≠78):¬ ((c.toNat:Int)=78):=fun e=>h (UInt8.toNat_inj.1 (by
 have:(78:UInt8).toNat=78:=rfl
 omega))
structure Oth (M:List Ky.En) (k:Nat):Prop where
 right:Ky.Right M
 len:M.length≤k
 apart:∀ x∈M,∀ t,x.1≠Sq.kk t
theorem oth_nil:Oth [] 0:=⟨by constructor<;>simp,by simp,by simp⟩
theorem Oth.put {M:List Ky.En} {k:Nat} {s:ByteArray} (h:Oth M k) (hc:Ky.chk s ⟨#[120]⟩=0) (ha:∀ t,s≠Sq.kk t):Oth (Ky.put M s ⟨#[120]⟩) (k+1) where
 right:=Tb.zme h.right hc
 len:=by have:=put15_len M s ⟨#[120]⟩;have:=h.len;omega
 apart:=fun x hx t=>by
  rcases (Ky.zmq h.right).1 hx with e | ⟨h1,_⟩
  ·rw [e];exact ha t
  ·exact h.apart x h1 t
theorem Oth.mono {M:List Ky.En} {k k':Nat} (h:Oth M k) (hk:k≤k'):Oth M k':=⟨h.right,by have:=h.len;omega,h.apart⟩
section
variable {s:Nat} {c:Cq} {O:List Ky.En} {k:Nat} {L:LL} {F:Asn} {w:World} {R:Ending→World→Prop}
theorem ap_room {k:Nat} (hc:Hid (c.k.n=3000)) (hk:k≤30):Hid (30+(Tb.most (60+19*k) k:Int)<c.k.room):=L_ (by
 have h1:Tb.most (60+19*k) k≤Tb.most (60+19*30) 30:=zjf (by omega) (by omega)
 have h2:30+Tb.most (60+19*30) 30<3000:=by decide +kernel
 have:=hc.out
 unfold Tq.room
 omega)
theorem ap_room2 {k:Nat} (hc:Hid (c.k.n=3000)) (hk:k≤122):Hid (zck c 630 30 k):=L_ ⟨by have:=hc.out;omega,by omega,by omega,by
 have h1:Tb.most (630+40*k) (30+k)≤Tb.most (630+40*122) (30+122):=zjf (by omega) (by omega)
 have h2:30+Tb.most (630+40*122) (30+122)<3000:=by decide +kernel
 have:=hc.out
 omega⟩
theorem ap_put {es:List Ky.En} {key val:ByteArray} (hc:Hid (Ky.chk key val=0)) (ho:Hid (Ky.one (key,val)≤19)) (hk:Hid (c.k.n=3000)) (hg:k≤30) (hroom:Hid (30+(Tb.most (60+19*k) k:Int)<c.k.room)) (H:Sat (ze0 c es (60+19*k) k*F) w)
  (hR:∀ w',Sat (ze0 c (Ky.put es key val) (60+19*(k+1)) (k+1)*F) w'→Io w w'→R (.returned (.int .i64 0)) w') :
  Calls Tryz.prog 31 #[.pointer (some ⟨c.tr,0,none⟩),.string key,.string val] w R:=by
 have hl:=Tb.z4c hc.out
 refine zug (by have:=hk.out;omega) (by omega) (by omega) hc.out hl trivial H fun x w' D I=>?_
 rcases D with ⟨rfl,H'⟩ | ⟨_,h1,_⟩
 ·exact hR w' (ze0.mono (by have:=ho.out;omega) (by omega) H') I
 ·have:=hroom.out;omega
theorem ap_low (hO:Hid (Oth O 30)) (hc:Hid (L.flatten.length≤250)) (hr:Hid (zck c 630 30 k)) (H:Sat (SqL (Sx.at s c O 630 30 k) L*F) w)
  (h:∀ v w',Sat (zda v (Tb.scan ⟨#[]⟩ ⟨#[78]⟩ O)*(SqL (Sx.at s c O 630 30 k) L*F)) w'→Io w w'→R (.returned (.tuple #[v,.int .i64 0])) w') :
  Calls Tryz.prog 33 #[.pointer (some ⟨c.tr,0,none⟩),.string ⟨#[]⟩,.string ⟨#[78]⟩] w R:=by
 obtain ⟨M,hl,H⟩:=za7.1 H
 obtain ⟨es,rep,H⟩:=zbt.1 H
 refine z0y ⟨#[]⟩ ⟨#[78]⟩ hr.out.ok.g (by have:=rep.len_le hl;have:=hc.out;have:(Sx.at s c O 630 30 k).O=O:=rfl;have:=hO.out.len;simp only [*] at *;omega) (by decide) H fun v w' H' I=>?_
 rw [rep.low hO.out.right] at H'
 exact h v w' ((za7.2 ⟨M,hl,zbt.2 ⟨es,rep,(zai H').of_eq (show _=ze0 c es _ _*(zeo _ 0*(zda v (Tb.scan ⟨#[]⟩ ⟨#[78]⟩ O)*F)) from by ac_rfl)⟩⟩).of_eq (by ac_rfl)) I
theorem ap_high (hO:Hid (Oth O 30)) (hc:Hid (L.flatten.length≤250)) (hr:Hid (zck c 630 30 k)) (H:Sat (SqL (Sx.at s c O 630 30 k) L*F) w)
  (h:∀ v w',Sat (zda v (Tb.scan ⟨#[79]⟩ ⟨#[]⟩ O)*(SqL (Sx.at s c O 630 30 k) L*F)) w'→Io w w'→R (.returned (.tuple #[v,.int .i64 0])) w') :
  Calls Tryz.prog 33 #[.pointer (some ⟨c.tr,0,none⟩),.string ⟨#[79]⟩,.string ⟨#[]⟩] w R:=by
 obtain ⟨M,hl,H⟩:=za7.1 H
 obtain ⟨es,rep,H⟩:=zbt.1 H
 refine z0y ⟨#[79]⟩ ⟨#[]⟩ hr.out.ok.g (by have:=rep.len_le hl;have:=hc.out;have:(Sx.at s c O 630 30 k).O=O:=rfl;have:=hO.out.len;simp only [*] at *;omega) (by decide) H fun v w' H' I=>?_
 rw [rep.high hO.out.right] at H'
 exact h v w' ((za7.2 ⟨M,hl,zbt.2 ⟨es,rep,(zai H').of_eq (show _=ze0 c es _ _*(zeo _ 0*(zda v (Tb.scan ⟨#[79]⟩ ⟨#[]⟩ O)*F)) from by ac_rfl)⟩⟩).of_eq (by ac_rfl)) I
theorem ap15_same {v1 v3:Value} {S:List Ky.En} {X:Asn} (hS:S.length≤1000) (H:Sat (zda v1 S*(zda v3 S*X)) w) (h:∀ w',Sat (zda v1 S*(zda v3 S*X)) w'→Io w w'→R (.returned (.bool true)) w') :
  Calls Tryz.prog 34 #[v1,v3] w R :=
 rsame11_yes (Reads.zau H (by omega)) ((Reads.zau (zai H) (by omega)).imp fun _ h=>zai h) H h
end
section
variable {F:Asn} {w:World} {R:Ending→World→Prop}
theorem aq_row {A B:Asn} (H:Sat (A*(B*F)) w):Sat (B*(A*F)) w:=zai H
theorem aq_back {X Y A:Asn} (H:Sat (X*(Y*(A*F))) w):Sat (A*(X*F)) w:=(H.of_eq (show _=Y*(A*(X*F)) from by ac_rfl)).right
abbrev ApB (b1 b2:Nat) (v:Value) (M:List Ky.En):Asn:=pts b1 (.cells #[.int .i64 1048575,.int .i64 1048575] 29 (0,0))*(pts b2 (.cells #[.int .i64 1048574,.int .i64 1] 29 (0,0))*zda v M)
theorem apb_read {A:Asn} {b1 b2:Nat} {v:Value} {M:List Ky.En} (H:Sat (A*(ApB b1 b2 v M*F)) w):(w.cell? ⟨b1,0,none⟩=some (.int .i64 1048575)∧w.cell? ⟨b1,1,none⟩=some (.int .i64 1048575))∧(w.cell? ⟨b2,0,none⟩=some (.int .i64 1048574)∧w.cell? ⟨b2,1,none⟩=some (.int .i64 1)):=by
 have K:Sat (pts b1 (.cells #[.int .i64 1048575,.int .i64 1048575] 29 (0,0))*(pts b2 (.cells #[.int .i64 1048574,.int .i64 1] 29 (0,0))*(zda v M*(A*F)))) w:=H.of_eq (by unfold ApB zda;ac_rfl)
 exact ⟨tk2 K,tk2 K.right⟩
theorem apb_in {A B:Asn} {x1 x2 x3 x4:Value} {b1 b2:Nat} {t1 t2:TypeId} (H:Sat (pts b2 (.cells #[x3,x4] t2 (0,0))*(pts b1 (.cells #[x1,x2] t1 (0,0))*(A*(B*F)))) w):Sat (A*((pts b1 (.cells #[x1,x2] t1 (0,0))*(pts b2 (.cells #[x3,x4] t2 (0,0))*B))*F)) w:=H.of_eq (by ac_rfl)
theorem ap_in2 {X A B:Asn} (H:Sat (X*(A*(B*F))) w):Sat (A*(B*(X*F))) w:=H.of_eq (by ac_rfl)
theorem ap_out2 {X A B:Asn} (H:Sat (A*(B*(X*F))) w):Sat (A*(B*F)) w:=(H.of_eq (show _=X*(A*(B*F)) from by ac_rfl)).right
theorem aq5 {v1 v2 y:Value} {S1 S2 M:List Ky.En} {A:Asn} {b1 b2:Nat} (H:Sat (zda v2 S2*(A*(zda v1 S1*(ApB b1 b2 y M*F)))) w):Sat (zda y M*(zda v1 S1*(zda v2 S2*F))) w :=
 (H.of_eq (show _=(A*(pts b1 (.cells #[.int .i64 1048575,.int .i64 1048575] 29 (0,0))*pts b2 (.cells #[.int .i64 1048574,.int .i64 1] 29 (0,0))))*(zda y M*(zda v1 S1*(zda v2 S2*F))) from by unfold ApB zda;ac_rfl)).right
theorem aq6 {v1 v3 y:Value} {S1 S3 M:List Ky.En} {X:Asn} (H:Sat (zda v3 S3*(zda y M*(zda v1 S1*X))) w):Sat (zda v1 S1*(zda v3 S3*(zda y M*X))) w:=H.of_eq (by unfold zda;ac_rfl)
def ApOk (L:LL) (j k:Nat):Prop:=Sq.Kept L∧L.flatten.length≤j∧j≤k+2
theorem ApOk.make {L L':LL} {j k:Nat} {e:Int} {a:Tk} (h:ApOk L j k) (hm:Sq.zdk L a=(e,L')):ApOk L' (j+1) (k+1):=by
 have e:L'=(Sq.zdk L a).2:=by rw [hm]
 subst e
 exact ⟨h.1.make,by have:=Sq.xaz (L:=L) (k:=a);have:=h.2.1;omega,by have:=h.2.2;omega⟩
theorem ApOk.join {L L':LL} {j k:Nat} {e:Int} {a b:Tk} (h:ApOk L j k) (ha:a∉[Sq.oT,Sq.lT]) (hb:b∉[Sq.oT,Sq.lT]) (hm:Sq.zcw L a b=(e,L')):ApOk L' j (k+1):=by
 have e:L'=(Sq.zcw L a b).2:=by rw [hm]
 subst e
 exact ⟨h.1.join ha hb,by have:=(Sq.zs6 (a:=a) (b:=b) h.1.2).length_eq;have:=h.2.1;omega,by have:=h.2.2;omega⟩
theorem ApOk.cut {L L':LL} {j k:Nat} {e:Int} {a:Tk} (h:ApOk L j k) (ha:a∉[Sq.oT,Sq.lT]) (hm:Sq.zdv L a 0=(e,L')):ApOk L' j (k+1):=by
 have e:L'=(Sq.zdv L a 0).2:=by rw [hm]
 subst e
 exact ⟨h.1.cut ha,by have:=(Sq.zjb (L:=L) (k:=a) (n:=0)).length_eq;have:=h.2.1;omega,by have:=h.2.2;omega⟩
theorem ApOk.remove {L L':LL} {j k:Nat} {e:Int} {a:Tk} (h:ApOk L j k) (ha:a∉[Sq.oT,Sq.lT]) (hm:Sq.zfq L a=(e,L')):ApOk L' j (k+1):=by
 have e:L'=(Sq.zfq L a).2:=by rw [hm]
 subst e
 exact ⟨h.1.remove ha,by have:=Sq.len_remove (L:=L) (k:=a);have:=h.2.1;omega,by have:=h.2.2;omega⟩
theorem ApOk.next {L:LL} {j k:Nat} (h:ApOk L j k):ApOk L j (k+1):=⟨h.1,h.2.1,by have:=h.2.2;omega⟩
theorem ap_box {A B:Asn} {b:Nat} {t:TypeId} {v0 v1 v2 v3 v4 v5:Value} (H:Sat (A*(B*(pts b (.cells #[v0,v1,v2,v3,v4,v5] t (0,0))*F))) w):w.cell? ⟨b,0,none⟩=some v0∧w.cell? ⟨b,1,none⟩=some v1∧w.cell? ⟨b,2,none⟩=some v2∧w.cell? ⟨b,3,none⟩=some v3∧w.cell? ⟨b,4,none⟩=some v4∧w.cell? ⟨b,5,none⟩=some v5:=zjw H.right.right
theorem not_two {a:Tk} (h1:¬ a=(1048575,1048575)) (h2:¬ a=(1048574,1)):a∉[Sq.oT,Sq.lT]:=by
 simp only [List.mem_cons,List.not_mem_nil,or_false,not_or]
 exact ⟨h1,h2⟩
theorem seqApart_walk (a b:Int) {l:List zxv} {ks:List ByteArray} {v u:Value} (hv:Reads zko F v l) (hu:zbe F u ks) (hks:∀ s∈ks,s.size≤9223372036854775807) (H:Sat F w) (h:∀ w',Sat F w'→Io w w'→R (.returned (.bool true)) w') :
  Calls Tryz.prog 7 #[v,u,tkA a b] w R:=by
 have HH:=L_ h
 obtain ⟨a0,c0,rfl,hm'⟩:=zkk hv
 obtain ⟨a1,c1,rfl,hm1⟩:=zab hu
 have HV:=L_ (fun k hk=>zkl hv k hk)
 have HU:=L_ (fun k hk=>zdp hu k hk)
 have HKS:=L_ hks
 have H0:=H.new (.cells #[.int .i64 a,.int .i64 b] 29)
 have I0:=io1 H0 (Io.refl w)
 clear h hv hu hks H
 go_enter Tryz.func7,Tryz.ntmps7
 go_upto_region 1 with fail
 generalize w.alloc _=w0 at *
 generalize w.heap.size=bx at *
 go_upto_region 4 with (first
  | (go_at_call 9;(with_reducible refine zii H0.right ?_);intro w1 H1 I1)
  | fail)
 by_cases hl:(120:Int)<(l.length:Int)
 ·have FIN:=L_ (HH.out _ H1 (I0.trans I1))
  clear HV HU HKS
  go_wp2_with fail
  exact FIN.out
 ·by_cases hl2:(30:Int)<(ks.length:Int)
  ·have FIN:=L_ (HH.out _ H1 (I0.trans I1))
   clear HV HU HKS
   go_wp2_with fail
   exact FIN.out
  ·have HL:Hid (l.length≤120):=L_ (by omega)
   have HL2:Hid (ks.length≤30):=L_ (by omega)
   go_upto_region 7 with (first
    | (go_at_call 10;(with_reducible refine zjg (s:=3000) (L_ (by decide)) (L_ (by decide)) H1 ?_);intro c w3 hn H3 I3;have HC:=L_ (show c.k.n=3000 from hn.out);clear hn)
    | fail)
   have J3:=(I0.trans I1).trans I3
   have K3:Sat (ze0 c [] (60+19*0) 0*(zda (.slice none 0 0) []*F)) w3:=zai (za5 (enc:=xfr) (sz:=2) (e:=112) H3)
   clear H0 H1 H3 I0 I1 I3
   go_wp2_with fail
   go_loopw [9,10] (fun y x wr=>∃ (k:Nat) (M:List Ky.En),k≤ks.length∧x=.int .i64 (k:Int)∧Hid (Oth M k)∧Sat (ze0 c M (60+19*k) k*(zda y M*F)) wr∧Io w wr) (fun _ x _=>ks.length - (RowKit.intOf x).toNat)
   case atStart=>exact ⟨0,[],by omega,rfl,L_ oth_nil,K3,J3⟩
   case round =>
    obtain ⟨k,M,hk,rfl,hM,Hk,Ik⟩:=hrel
    clear K3 J3
    by_cases hlt:k<ks.length
    ·have zph:(k:Int)<(ks.length:Int):=by omega
     have hk0:(0:Int)≤(k:Int):=by omega
     have HKL:Hid (k+1≤ks.length):=L_ (by omega)
     have HGN:Hid (Value.int IntKind.i64 ((k:Int)+1)=Value.int IntKind.i64 ((k+1:Nat):Int)):=L_ (by go_num)
     obtain ⟨b1,o1,s,rfl,hx,hc⟩:=HU.out k hlt
     have HS:Hid (s.size≤9223372036854775807):=L_ (HKS.out s (hx ▸ List.getElem_mem hlt))
     have H1s:Hid ((⟨#[120]⟩:ByteArray).size≤40):=L_ (by decide)
     obtain ⟨m,hmay⟩:∃ m,m=Ky.may s ⟨#[120]⟩:=⟨_,rfl⟩
     have HMY:=L_ hmay
     have g0:=hc _ Hk.right.right
     have HC2:=L_ hc
     clear hc hx hmay
     cases m with
     | false =>
      go_wp2_with (go_at_call 30;(with_reducible refine rmay11_any s ⟨#[120]⟩ HS H1s HMY ?_))
      go_roundw
      case rel=>exact ⟨k+1,M,HKL.out,HGN.out,L_ (hM.out.mono (by omega)),ze0.mono (by omega) (by omega) Hk,Ik⟩
      case measure=>simp [RowKit.intOf];omega
     | true =>
      obtain ⟨hchk,hs1,hs2,hone⟩:=may15_ok HMY.out.symm
      obtain ⟨ch,r,hr⟩:=head15 hs1
      have hix:=fun W=>idx15 (by omega) hr W
      have HFI:=L_ (fun h=>Sq.kk_first hr h)
      have HCK:=L_ hchk
      have HON:=L_ hone
      have n16:(s.size:Int)≤16:=by omega
      have n17:(1:Int)≤(s.size:Int):=by omega
      clear hchk hs1 hs2 hone hr
      by_cases h78:ch=78
      ·subst h78
       have hix2:∀ W,(Instr.index 9 (.string s) (.int .i64 0)).run Tryz.prog W=.ok (.int .u8 78) W:=hix
       clear hix
       go_wp2_with (go_at_call 30;(with_reducible refine rmay11_any s ⟨#[120]⟩ HS H1s HMY ?_))
       go_roundw
       case rel=>exact ⟨k+1,M,HKL.out,HGN.out,L_ (hM.out.mono (by omega)),ze0.mono (by omega) (by omega) Hk,Ik⟩
       case measure=>simp [RowKit.intOf];omega
      ·have hne:=byte15 h78
       have HNK:=L_ (HFI.out h78)
       have HRM:=ap_room (k:=k) HC (by have:=HL2.out;omega)
       have HML:Hid (M.length≤500):=L_ (by have:=hM.out.len;have:=HL2.out;omega)
       have HRI:=L_ hM.out.right
       have HK30:Hid (k≤30):=L_ (by have:=HL2.out;omega)
       clear h78
       go_wp2_with (first
        | (go_at_call 30;(with_reducible refine rmay11_any s ⟨#[120]⟩ HS H1s HMY ?_))
        | (go_at_call 31;(with_reducible refine ap_put HCK HON HC HK30.out HRM Hk ?_);intro w4 H4 I4;have g1:=HC2.out _ H4.right.right;have K5:=aq_row H4)
        | (go_at_call 32;(with_reducible refine rput11_any HRI.out (Reads.zau K5 (by have:=HML.out;omega)) HML.out s ⟨#[120]⟩ K5 ?_);intro y2 w5 H5 I5)
        | fail)
       go_roundw
       case rel=>exact ⟨k+1,_,HKL.out,HGN.out,L_ (hM.out.put HCK.out HNK.out),aq_back H5,(Ik.trans I4).trans I5⟩
       case measure=>simp [RowKit.intOf];omega
    ·obtain rfl:k=ks.length:=by omega
     have hge:¬ (ks.length:Int)<(ks.length:Int):=by omega
     have HOT:Hid (Oth M 30):=L_ (hM.out.mono HL2.out)
     have HMB:Hid (M.length≤1000):=L_ (by have:=HOT.out.len;omega)
     obtain ⟨ay,cy,rfl⟩:=zg1 (aq_row Hk)
     have K1:Sat (ze0 c M 630 30*(zda (.slice ay M.length cy) M*F)) wr:=ze0.mono (by have:=HL2.out;omega) (by have:=HL2.out;omega) Hk
     clear Hk HU HKS hM
     go_upto_region 17 with (first
      | (go_at_call 11;(with_reducible refine zlp (c:=c) (O:=M) (L_ ⟨HOT.out.right,fun x hx t=>HOT.out.apart x hx t⟩) K1 ?_);intro s w4 H4 I4)
      | fail)
     have H5:Sat (SqL (Sx.at s c M 630 30 0) []*(zda (.slice ay M.length cy) M*F)) w4:=by rw [Sx.zrn];exact H4
     have H6:=apb_in ((H5.new (.cells #[.int .i64 1048575,.int .i64 1048575] 29)).new (.cells #[.int .i64 1048574,.int .i64 1] 29))
     have J6:=io2 H6 (Ik.trans I4)
     simp only [World.size_alloc,Nat.add_assoc,Nat.reduceAdd] at H6
     clear H4 H5 K1 Ik I4
     go_upto_region 19 with fail
     generalize (w4.alloc _).alloc _=w5 at *
     generalize w4.heap.size=bo at *
     obtain ⟨⟨p1,p2⟩,⟨p3,p4⟩⟩:=apb_read H6
     go_upto_region 21 with (first
      | (go_at_call 13;(with_reducible refine zeu (k:=0) 1048575 1048575 (L_ Sq.kept_first.1) (ap_room2 HC (by decide)) H6 ?_);intro w7 H7 I7;have Z7:=apb_read H7;obtain ⟨⟨q1,q2⟩,⟨q3,q4⟩⟩:=Z7)
      | (go_at_call 13;(with_reducible refine zeu (k:=1) 1048574 1 (L_ Sq.kept_first.2.1) (ap_room2 HC (by decide)) H7 ?_);intro w8 H8 I8;have Z8:=apb_read H8;obtain ⟨⟨r1,r2⟩,⟨r3,r4⟩⟩:=Z8)
      | (go_at_call 14;(with_reducible refine zg6 (k:=2) 1048575 1048575 1048574 1 (L_ Sq.kept_first.2.2) (L_ (by decide)) (ap_room2 HC (by decide)) H8 ?_);intro w9 H9 I9)
      | fail)
     have J9:=((J6.trans I7).trans I8).trans I9
     clear p1 p2 p3 p4 q1 q2 q3 q4 r1 r2 r3 r4 H6 H7 H8 J6 I7 I8 I9
     go_wp2_with fail
     go_loopw [15] (fun x wr=>∃ (k j:Nat) (L:LL),k≤l.length∧x=.int .i64 (k:Int)∧Hid (ApOk L j k)∧Sat (SqL (Sx.at s c M 630 30 j) L*(ApB bo (bo+1) (.slice ay M.length cy) M*F)) wr∧Io w wr) (fun x _=>l.length - (RowKit.intOf x).toNat)
     case atStart=>exact ⟨0,2,_,by omega,rfl,L_ ⟨Sq.kept_one,by decide,by omega⟩,H9,J9⟩
     case round =>
      obtain ⟨k,j,L,hk,rfl,HA,Hk,Ik⟩:=hrel
      clear H9 J9
      by_cases hlt:k<l.length
      ·have zph:(k:Int)<(l.length:Int):=by omega
       have hk0:(0:Int)≤(k:Int):=by omega
       have hk1:(k:Int)≤200:=by omega
       have HKL:Hid (k+1≤l.length):=L_ (by omega)
       have HGN:Hid (Value.int IntKind.i64 ((k:Int)+1)=Value.int IntKind.i64 ((k+1:Nat):Int)):=L_ (by go_num)
       have HJ:Hid (j+1≤122):=L_ (by have:=HA.out.2.2;omega)
       have HJ0:Hid (j≤122):=L_ (by have:=HJ.out;omega)
       have HLN:Hid (L.flatten.length≤250):=L_ (by have:=HA.out.2.1;have:=HJ.out;omega)
       obtain ⟨b1,o1,x0,x1,x2,x3,x4,x5,rfl,hx,hc⟩:=HV.out k hlt
       obtain ⟨g0,g1,g2,g3,g4,g5⟩:=hc _ Hk.right.right
       have H2:=ap_in2 (Hk.new (.cells #[.int .i64 x0,.int .i64 x1,.int .i64 x2,.int .i64 x3,.int .i64 x4,.int .i64 x5] 31))
       have I2:=io1 H2 Ik
       clear hc hx
       go_upto_region 25 with fail
       generalize wr.alloc _=w2 at *
       generalize wr.heap.size=bz at *
       clear g0 g1 g2 g3 g4 g5 Hk Ik
       obtain ⟨y0,y1,y2,y3,y4,y5⟩:=ap_box H2
       obtain ⟨⟨p1,p2⟩,⟨p3,p4⟩⟩:=apb_read H2
       have EQ1:=fun W=>zch x1 x2 1048575 1048575 W
       have EQ2:=fun W=>zch x3 x4 1048575 1048575 W
       have EQ3:=fun W=>zch x1 x2 1048574 1 W
       have EQ4:=fun W=>zch x3 x4 1048574 1 W
       by_cases e1:((x1:Int),(x2:Int))=(1048575,1048575)
       ·rw [decide_eq_true e1] at EQ1
        clear e1 EQ2 EQ3 EQ4
        go_wp2_with fail
        go_roundw
        case rel=>exact ⟨k+1,j,L,HKL.out,HGN.out,L_ HA.out.next,ap_out2 H2,I2⟩
        case measure=>simp [RowKit.intOf];omega
       ·rw [decide_eq_false e1] at EQ1
        have E1:=L_ e1
        clear e1
        by_cases e2:((x3:Int),(x4:Int))=(1048575,1048575)
        ·rw [decide_eq_true e2] at EQ2
         clear e2 EQ3 EQ4
         go_wp2_with fail
         go_roundw
         case rel=>exact ⟨k+1,j,L,HKL.out,HGN.out,L_ HA.out.next,ap_out2 H2,I2⟩
         case measure=>simp [RowKit.intOf];omega
        ·rw [decide_eq_false e2] at EQ2
         have E2:=L_ e2
         clear e2
         by_cases e3:((x1:Int),(x2:Int))=(1048574,1)
         ·rw [decide_eq_true e3] at EQ3
          clear e3 EQ4
          go_wp2_with fail
          go_roundw
          case rel=>exact ⟨k+1,j,L,HKL.out,HGN.out,L_ HA.out.next,ap_out2 H2,I2⟩
          case measure=>simp [RowKit.intOf];omega
         ·rw [decide_eq_false e3] at EQ3
          have N1:Hid ((x1,x2)∉[Sq.oT,Sq.lT]):=L_ (not_two E1.out e3)
          clear e3
          by_cases e4:((x3:Int),(x4:Int))=(1048574,1)
          ·rw [decide_eq_true e4] at EQ4
           clear e4
           go_wp2_with fail
           go_roundw
           case rel=>exact ⟨k+1,j,L,HKL.out,HGN.out,L_ HA.out.next,ap_out2 H2,I2⟩
           case measure=>simp [RowKit.intOf];omega
          ·rw [decide_eq_false e4] at EQ4
           have N2:Hid ((x3,x4)∉[Sq.oT,Sq.lT]):=L_ (not_two E2.out e4)
           clear e4
           by_cases r0:x0.tmod 4=0
           ·obtain ⟨e,L',hm⟩:∃ e L',Sq.zdk L (x1,x2)=(e,L'):=⟨_,_,rfl⟩
            have HM:=L_ hm
            clear hm
            go_wp2_with (first | (go_at_call 13;(with_reducible refine zeu (k:=j) x1 x2 HM (ap_room2 HC HJ.out) H2 ?_);intro w7 H7 I7) | fail)
            go_roundw
            case rel=>exact ⟨k+1,j+1,L',HKL.out,HGN.out,L_ (HA.out.make HM.out),ap_out2 H7,I2.trans I7⟩
            case measure=>simp [RowKit.intOf];omega
           ·by_cases r1:x0.tmod 4=1
            ·obtain ⟨e,L',hm⟩:∃ e L',Sq.zcw L (x1,x2) (x3,x4)=(e,L'):=⟨_,_,rfl⟩
             have HM:=L_ hm
             clear hm
             go_wp2_with (first | (go_at_call 14;(with_reducible refine zg6 (k:=j) x1 x2 x3 x4 HM HLN (ap_room2 HC HJ0.out) H2 ?_);intro w7 H7 I7) | fail)
             go_roundw
             case rel=>exact ⟨k+1,j,L',HKL.out,HGN.out,L_ (HA.out.join N1.out N2.out HM.out),ap_out2 H7,I2.trans I7⟩
             case measure=>simp [RowKit.intOf];omega
            ·by_cases r2:x0.tmod 4=2
             ·obtain ⟨e,L',hm⟩:∃ e L',Sq.zdv L (x1,x2) 0=(e,L'):=⟨_,_,rfl⟩
              have HM:=L_ hm
              clear hm
              go_wp2_with (first | (go_at_call 15;(with_reducible refine zqx (k:=j) x1 x2 HM HLN (ap_room2 HC HJ0.out) H2 ?_);intro w7 H7 I7) | fail)
              go_roundw
              case rel=>exact ⟨k+1,j,L',HKL.out,HGN.out,L_ (HA.out.cut N1.out HM.out),ap_out2 H7,I2.trans I7⟩
              case measure=>simp [RowKit.intOf];omega
             ·by_cases r3:x0.tmod 4=3
              ·obtain ⟨e,L',hm⟩:∃ e L',Sq.zfq L (x1,x2)=(e,L'):=⟨_,_,rfl⟩
               have HM:=L_ hm
               clear hm
               go_wp2_with (first | (go_at_call 25;(with_reducible refine ztl (k:=j) x1 x2 HM (ap_room2 HC HJ0.out) H2 ?_);intro w7 H7 I7) | fail)
               go_roundw
               case rel=>exact ⟨k+1,j,L',HKL.out,HGN.out,L_ (HA.out.remove N1.out HM.out),ap_out2 H7,I2.trans I7⟩
               case measure=>simp [RowKit.intOf];omega
              ·go_wp2_with fail
               go_roundw
               case rel=>exact ⟨k+1,j,L,HKL.out,HGN.out,L_ HA.out.next,ap_out2 H2,I2⟩
               case measure=>simp [RowKit.intOf];omega
      ·obtain rfl:k=l.length:=by omega
       have hge:¬ (l.length:Int)<(l.length:Int):=by omega
       have HJ0:Hid (j≤122):=L_ (by have:=HA.out.2.2;have:=HL.out;omega)
       have HLN:Hid (L.flatten.length≤250):=L_ (by have:=HA.out.2.1;have:=HJ0.out;omega)
       have HLS:Hid (Sq.zcz L (1048574,1)=0∧Sq.lst L (1048574,1)=[(1048575,1048575),(1048574,1)]):=L_ HA.out.1.list
       clear HV
       obtain ⟨⟨p1,p2⟩,⟨p3,p4⟩⟩:=apb_read Hk
       go_upto_region 36 with (first
        | (go_at_call 17;(with_reducible refine zin (k:=j) 1048574 1 HLS HLN (ap_room2 HC HJ0.out) Hk ?_);intro v10 w10 H10 I10)
        | fail)
       have J10:=Ik.trans I10
       obtain ⟨⟨q1,q2⟩,⟨q3,q4⟩⟩:=apb_read H10.right
       have K11:=H10.new (.cells #[.int .i64 1048575,.int .i64 1048575,.int .i64 1048574,.int .i64 1] 29)
       have J11:=io1 K11 J10
       clear p1 p2 p3 p4 Hk Ik I10 J10 H10
       go_upto_region 37 with (go_at_call 19;(refine zdn (l:=[(1048575,1048575),(1048574,1)]) (m:=[(1048575,1048575),(1048574,1)]) (d:=true) ((Reads.zau K11.right (by decide)).with) z2s (L_ (by decide)) K11 ?_);intro w12 H12 I12)
       have J12:=J11.trans I12
       have H13:=H12.right.right
       clear q1 q2 q3 q4 K11 J11 H12 I12
       have SF1:Hid (Tb.scan ⟨#[]⟩ ⟨#[78]⟩ M=M.filter fun x=>!Md.nlt x.1 ⟨#[]⟩ && Tb.under ⟨#[78]⟩ x):=L_ (Ky.zwc HOT.out.right)
       have SF2:Hid (Tb.scan ⟨#[79]⟩ ⟨#[]⟩ M=M.filter fun x=>!Md.nlt x.1 ⟨#[79]⟩ && Tb.under ⟨#[]⟩ x):=L_ (Ky.zwc HOT.out.right)
       have L1:Hid ((Tb.scan ⟨#[]⟩ ⟨#[78]⟩ M).length≤1000):=L_ (by rw [SF1.out];have:=List.length_filter_le (fun x:Ky.En=>!Md.nlt x.1 ⟨#[]⟩ && Tb.under ⟨#[78]⟩ x) M;have:=HMB.out;omega)
       have L2:Hid ((Tb.scan ⟨#[79]⟩ ⟨#[]⟩ M).length≤1000):=L_ (by rw [SF2.out];have:=List.length_filter_le (fun x:Ky.En=>!Md.nlt x.1 ⟨#[79]⟩ && Tb.under ⟨#[]⟩ x) M;have:=HMB.out;omega)
       obtain ⟨S1,hS1⟩:∃ S1,S1=Tb.scan ⟨#[]⟩ ⟨#[78]⟩ M:=⟨_,rfl⟩
       obtain ⟨S2,hS2⟩:∃ S2,S2=Tb.scan ⟨#[79]⟩ ⟨#[]⟩ M:=⟨_,rfl⟩
       rw [←hS1] at SF1 L1
       rw [←hS2] at SF2 L2
       have HS1:=L_ hS1
       have HS2:=L_ hS2
       clear hS1 hS2
       go_upto_region 39 with (first
        | (go_at_call 33;(with_reducible refine ap_low HOT HLN (ap_room2 HC HJ0.out) H13 ?_);intro v14 w14 H14 I14;have K14:=zai H14)
        | (go_at_call 33;(with_reducible refine ap_high HOT HLN (ap_room2 HC HJ0.out) K14 ?_);intro v15 w15 H15 I15)
        | fail)
       have J15:=(J12.trans I14).trans I15
       rw [←HS1.out,←HS2.out] at H15
       have K16:=aq5 H15
       clear H13 H14 K14 H15 J12 I14 I15
       go_wp2_with (first
        | (go_at_call 35;(with_reducible refine rscan13_any (Reads.zau K16 (by have:=HMB.out;omega)) HMB.out ⟨#[]⟩ ⟨#[78]⟩ SF1 K16 ?_);intro v17 w17 H17 I17;have K17:=aq6 H17)
        | (go_at_call 34;(with_reducible refine ap15_same L1.out K17 ?_);intro w18 H18 I18;have K18:=H18.right.right)
        | (go_at_call 35;(with_reducible refine rscan13_any (Reads.zau K18 (by have:=HMB.out;omega)) HMB.out ⟨#[79]⟩ ⟨#[]⟩ SF2 K18 ?_);intro v19 w19 H19 I19;have K19:=aq6 H19)
        | (go_at_call 34;(with_reducible refine ap15_same L2.out K19 ?_);intro w20 H20 I20)
        | fail)
       exact HH.out _ H20.right.right.right ((((J15.trans I17).trans I18).trans I19).trans I20)
end
end Go.Proofs.YtfknjmoekbabcaaGreatDoor
