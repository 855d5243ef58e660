/-
  A part of a proof. It proves no statement by itself.
-/
import Derived.Test.YtfknjmoekbabcaaGreatDoorC11
import Derived.Test.YtfknjmoekbabcaaGreatDoorC12
import Derived.Test.YtfknjmoekbabcaaGreatDoorC07
import Derived.Test.YtfknjmoekbabcaaGreatDoorC02
set_option linter.unusedSimpArgs false
set_option linter.unusedVariables false
set_option linter.unusedSectionVars false
set_option maxRecDepth 100000
set_option maxHeartbeats 64000000
namespace Go.Proofs.YtfknjmoekbabcaaGreatDoor
open Go.RowKit Go.Lib
namespace Ky
def txt (s:Nm):Nm:=tx [UInt8.ofNat s.size]++s
end Ky
section
variable {F:Asn} {w:World} {R:Ending→World→Prop} {p:Nat} {r:Rd}
theorem zly (H:Sat (zeb p r*F) w) (hs:r.rest.size≤1000000) (h:R (.returned (.int .i64 (r.rest.size:Int))) w):Calls Tryz.prog 166 #[.pointer (some ⟨p,0,none⟩)] w R:=by
 obtain ⟨_,c0,c1,_⟩:=zdu H
 have HH:=L_ h
 clear h
 go_enter Tryz.func166,Tryz.ntmps166
 go_wp2_with fail
 exact HH.out
theorem zrf (H:Sat (zeb p r*F) w) (h:R (.returned (.int .i64 r.err)) w):Calls Tryz.prog 167 #[.pointer (some ⟨p,0,none⟩)] w R:=by
 obtain ⟨_,c0,c1,_⟩:=zdu H
 have HH:=L_ h
 clear h
 go_enter Tryz.func167,Tryz.ntmps167
 go_wp2_with fail
 exact HH.out
theorem zqa (s:ByteArray) (hs:s.size≤255) (H:Sat F w) {t:ByteArray} (ht:Hid (t=Ky.txt s)) (h:∀ w',Sat F w'→Io w w'→R (.returned (.tuple #[.string t,.int .i64 0])) w'):Calls Tryz.prog 175 #[.string s] w R:=by
 have HH:=L_ h
 clear h
 have q1:¬ (255:Int)<(s.size:Int):=by omega
 have q2:(s.size:Int)≤255:=by omega
 have eb:((UInt8.ofNat s.size).toNat:Int)=(s.size:Int):=by rw [UInt8.toNat_ofNat',Nat.mod_eq_of_lt (by omega)]
 have e1:=xca (P:=Tryz.prog) 164 5 9 Tryz.underlying164 Tryz.underlying5 Tryz.underlying9 (s.size:Int) w
 have HT:tx [UInt8.ofNat (s.size:Int).toNat]++s=t:=ht.out.symm
 rw [Int.toNat_natCast] at HT
 have hz:(tx [UInt8.ofNat s.size]).size=1:=zl1 _
 have fin:=HH.out _ (H.new (.cells #[.int .u8 (s.size:Int)] 5)).right ((Io.refl w).alloc _)
 clear HH eb
 go_enter Tryz.func175,Tryz.ntmps175
 go_wp2_with fail
 exact fin
theorem xgg (a b:ByteArray) (n:Nat) (hn:n=a.size):(a++b).extract 0 n=a:=by
 have e:n=a.data.toList.length:=hn
 rw [←z1q a,←z1q b,zsd,zos,e,List.take_left,List.drop_zero]
theorem xgh (a b:ByteArray) (n m:Nat) (hn:n=a.size) (hm:m=(a++b).size):(a++b).extract n m=b:=by
 have e:n=a.data.toList.length:=hn
 have e2:m=(a.data.toList++b.data.toList).length:=by rw [hm,ByteArray.size_append,List.length_append];rfl
 rw [←z1q a,←z1q b,zsd,zos,e2,List.take_length,e,List.drop_left]
theorem zia (a b c:ByteArray):a++b++c=a++(b++c):=by
 apply ByteArray.ext;simp
theorem bE_at {a b:ByteArray} {n:Nat} (hn:n=a.size):(⟨a++b,0⟩:Rd).bE (n:Int)=0:=by
 unfold Rd.bE
 rw [if_neg (by simp),if_neg (by omega),if_neg (by simp only [ByteArray.size_append];omega)]
theorem xcm {a b:ByteArray} {n:Nat} (hn:n=a.size):(⟨a++b,0⟩:Rd).bS (n:Int)=a:=by
 unfold Rd.bS
 rw [if_pos (bE_at hn)]
 exact xgg a b _ (by simpa using hn)
theorem xcn {a b:ByteArray} {n:Nat} (hn:n=a.size):(⟨a++b,0⟩:Rd).bR (n:Int)=⟨b,0⟩:=by
 unfold Rd.bR
 rw [if_pos (bE_at hn)]
 exact congrArg (fun y=>(⟨y,0⟩:Rd)) (xgh a b _ _ (by simpa using hn) rfl)
theorem zl9 (s rest:ByteArray) (hs:s.size≤255) (hr:rest.size≤100000) (H:Sat (zeb p ⟨Ky.txt s++rest,0⟩*F) w) (h:∀ w',Sat (zeb p ⟨rest,0⟩*F) w'→Io w w'→R (.returned (.string s)) w') :
  Calls Tryz.prog 168 #[.pointer (some ⟨p,0,none⟩)] w R:=by
 have z0:(tx [UInt8.ofNat s.size]).size=1:=zl1 _
 have z1:(Ky.txt s++rest).size=1+s.size+rest.size:=by simp only [Ky.txt,ByteArray.size_append,z0]
 have q2:(Ky.txt s++rest).size≤1000000:=by omega
 rw [show Ky.txt s++rest=tx [UInt8.ofNat s.size]++(s++rest) from zia _ _ _] at H q2
 have b2:=xcn (a:=tx [UInt8.ofNat s.size]) (b:=s++rest) (n:=1) z0.symm
 have n1:(⟨tx [UInt8.ofNat s.size]++(s++rest),0⟩:Rd).num 1=s.size:=by
  unfold Rd.num
  rw [xcm z0.symm,zv5]
  simp [un,UInt8.toNat_ofNat',Nat.mod_eq_of_lt (show s.size<256 by omega)]
 have b3:=xcm (a:=s) (b:=rest) (n:=s.size) rfl
 have b4:=xcn (a:=s) (b:=rest) (n:=s.size) rfl
 have HH:=L_ h
 have HX:=L_ b2
 have HN:=L_ n1
 have HY:=L_ (And.intro b3 b4)
 have q:(s++rest).size≤1000000:=by simp [ByteArray.size_append];omega
 clear h b2 b3 b4 n1 z1 z0
 go_enter Tryz.func168,Tryz.ntmps168
 go_wp2_with (go_at_call 111;refine zw5 H q2 1 (.inl rfl) ?_;intro w1 H1 I1;rw [HX.out] at H1;rw [HN.out])
 go_wp2_with (go_at_call 140;refine z6p H1 q _ ?_;intro w2 H2 I2;rw [HY.out.2] at H2;rw [HY.out.1])
 exact HH.out _ H2 (I1.trans I2)
end
namespace Ky
theorem zee (s:Nm):(txt s).size=1+s.size:=by simp [txt,ByteArray.size_append,zl1]
def encX (x:En):Nm:=txt x.1++txt x.2
def zga:List En→Nm
 | []=>⟨#[]⟩
 | x::l=>encX x++zga l
theorem zuf (x:En):(encX x).size=one x:=by simp only [encX,ByteArray.size_append,zee,one];omega
theorem zm2:∀ l,(zga l).size=size l
 | []=>rfl
 | x::l=>by simp only [zga,ByteArray.size_append,zuf,zm2 l,size]
theorem nil_add (s:Nm):(⟨#[]⟩:Nm)++s=s:=by apply ByteArray.ext;simp
theorem add_nil (s:Nm):s++(⟨#[]⟩:Nm)=s:=by apply ByteArray.ext;simp
theorem zm3:∀ l m,zga (l++m)=zga l++zga m
 | [],m=>by rw [zga,nil_add];rfl
 | x::l,m=>by rw [List.cons_append,zga,zga,zm3 l m,zia]
theorem zuh {l:List En} {k:Nat} (hk:k<l.length):zga (l.take (k+1))=zga (l.take k)++encX l[k]:=by
 rw [List.take_succ_eq_append_getElem hk,zm3]
 simp only [zga,add_nil]
theorem z6a {l:List En} {k:Nat} (hk:k<l.length):zga (l.drop k)=encX l[k]++zga (l.drop (k+1)):=by
 rw [List.drop_eq_getElem_cons hk,zga]
theorem zeh {l:List En} (hr:Right l):Short 1000 l:=fun x hx=>by
 have:=hr.1 x hx
 unfold chk at this
 split at this
 ·cases this
 ·omega
theorem zjr {k v:Nm} (h:chk k v=0):1≤k.size∧k.size≤16∧v.size≤40:=by
 unfold chk at h
 split at h
 ·cases h
 ·omega
def slLen:Value→Nat
 | .slice _ n _=>n
 | _=>0
structure zp2 (l:List En) (k:Nat):Prop where
 low:1≤k
 high:k<l.length
 full:k+1=l.length∨size l≤2*size (l.take k)
 least:k=1∨2*size (l.take (k - 1))<size l
end Ky
theorem zh1 {α:Type} {enc:α→List Value} {sz:Nat} {e:TypeId} {v:Value} {l:List α} {F:Asn} {w:World} (H:Sat (RowOf e sz enc v l*F) w):∃ a c,v=.slice a l.length c:=by
 obtain ⟨hx,⟨rfl,h0,_⟩ | ⟨g,cap,cur,rfl,h2,h3,h4,h5,_⟩⟩:=za8.1 H
 ·exact ⟨none,0,by rw [h0]⟩
 ·exact ⟨_,_,rfl⟩
section
variable {F:Asn} {w:World} {R:Ending→World→Prop}
theorem zpm {l:List Ky.En} {v:Value} (hr:Ky.Right l) (hv:zbi F v l) (hl:l.length≤5000) (H:Sat F w) {s:ByteArray} (hs:Hid (s=Ky.zga l)) (h:∀ w',Sat F w'→Io w w'→R (.returned (.tuple #[.string s,.int .i64 0])) w') :
  Calls Tryz.prog 170 #[v] w R:=by
 obtain ⟨a,c,rfl,hm⟩:=zcr hv
 have HV:=L_ (fun k hk=>zc6 hv k hk)
 have HR:=L_ hr
 have HH:=L_ h
 have HB:Hid (∀ k,k≤l.length→(Ky.zga (l.take k)).size≤k*2002):=L_ (by
  intro k
  induction k with
  | zero=>intro _;exact Nat.le_refl _
  | succ k ih =>
   intro hk
   have:=ih (by omega)
   have h2:=Ky.zeh hr l[k] (List.getElem_mem (by omega))
   rw [Ky.zuh (by omega),ByteArray.size_append,Ky.zuf]
   unfold Ky.one
   omega)
 have hD:Hid (true=decide (Ky.Right l)):=L_ (decide_eq_true hr).symm
 clear h
 go_enter Tryz.func170,Tryz.ntmps170
 go_wp2_with (go_at_call 91;refine zeu hv (Ky.zeh HR.out) (by omega) H hD ?_;intro w1 H1 I1)
 clear hv
 go_loopw [4,16] (fun t x wr=>∃ (k:Nat),k≤l.length∧x=.int .i64 (k:Int)∧t=.string (Ky.zga (l.take k))∧Sat F wr∧Io w wr) (fun _ x _=>l.length - (RowKit.intOf x).toNat)
 case atStart=>exact ⟨0,by omega,rfl,by simp [Ky.zga],H1,I1⟩
 case round =>
  obtain ⟨k,hk,rfl,rfl,Hk,Ik⟩:=hrel
  have hb:=HB.out k hk
  by_cases hlt:k<l.length
  ·have zph:(k:Int)<(l.length:Int):=by omega
   have hk0:(0:Int)≤(k:Int):=by omega
   obtain ⟨b,off,key,val,rfl,hx,hc⟩:=HV.out k hlt
   obtain ⟨g0,g1⟩:=hc wr Hk
   have h2:=Ky.zjr (HR.out.1 l[k] (List.getElem_mem hlt))
   have HT:Hid (Ky.zga (l.take (k+1))=Ky.zga (l.take k)++(Ky.txt key++Ky.txt val)):=L_ (by rw [Ky.zuh hlt,hx];rfl)
   rw [hx] at h2
   simp only at h2
   obtain ⟨k0,k1,k2⟩:=h2
   clear hc hx
   generalize Ky.zga (l.take k)=s0 at *
   have K2:=Hk.new (.cells #[.string key,.string val] 112)
   have J2:=io1 K2 Ik
   obtain ⟨q0,q1⟩:_∧_:=⟨Sat.read K2.left.at 0,Sat.read K2.left.at 1⟩
   simp only [List.getElem?_toArray,List.getElem?_cons_zero,List.getElem?_cons_succ] at q0 q1
   have z1:(Ky.txt key).size=1+key.size:=Ky.zee _
   have z2:(Ky.txt val).size=1+val.size:=Ky.zee _
   go_wp2_with (go_at_call 175;refine zqa _ (by omega) K2 (L_ rfl) ?_;intro w2 H2 I2;obtain ⟨q0,q1⟩:_∧_:=⟨Sat.read H2.left.at 0,Sat.read H2.left.at 1⟩;simp only [List.getElem?_toArray,List.getElem?_cons_zero,List.getElem?_cons_succ] at q0 q1)
   go_wp2_with (go_at_call 175;refine zqa _ (by omega) H2 (L_ rfl) ?_;intro w3 H3 I3)
   generalize Ky.txt key=t1 at *
   generalize Ky.txt val=t2 at *
   go_roundw
   case rel=>exact ⟨k+1,by omega,by go_num,by rw [HT.out],H3.right,(J2.trans I2).trans I3⟩
   case measure=>simp [RowKit.intOf];omega
  ·obtain rfl:k=l.length:=by omega
   have hge:¬ (l.length:Int)<(l.length:Int):=by omega
   rw [List.take_length,←hs.out]
   clear HV
   go_wp2_with fail
   exact HH.out _ Hk Ik
theorem xbi {l:List Ky.En} {v:Value} (hr:Ky.Right l) (hv:zbi F v l) (hl:l.length≤5000) (h2l:2≤l.length) (H:Sat F w) (h:∀ k w',Ky.zp2 l k→Sat F w'→Io w w'→R (.returned (.int .i64 (k:Int))) w') :
  Calls Tryz.prog 146 #[v] w R:=by
 obtain ⟨a,c,rfl,hm⟩:=zcr hv
 have HV:=L_ (fun k hk=>zc6 hv k hk)
 have HR:=L_ hr
 have HH:=L_ h
 have HB:Hid (∀ k,k≤l.length→Ky.size (l.take k)≤k*2002):=L_ (by
  intro k
  induction k with
  | zero=>intro _;exact Nat.le_refl _
  | succ k ih =>
   intro hk
   have:=ih (by omega)
   have h2:=Ky.zeh hr l[k] (List.getElem_mem (by omega))
   rw [Ky.size_take (by omega)]
   unfold Ky.one
   omega)
 have hba:=HB.out l.length (Nat.le_refl _)
 rw [List.take_length] at hba
 clear h
 go_enter Tryz.func146,Tryz.ntmps146
 go_wp2_with (go_at_call 150;refine size_any hv (Ky.zeh HR.out) (by omega) H (L_ rfl) ?_;intro w1 H1 I1)
 clear hv
 obtain ⟨all,hall⟩:∃ all,Ky.size l=all:=⟨_,rfl⟩
 have HA:=L_ hall
 rw [hall] at hba ⊢
 clear hall
 go_loopw [4,11] (fun t x wr=>∃ (k:Nat),k≤l.length∧x=.int .i64 (k:Int)∧t=.int .i64 (Ky.size (l.take k):Int)∧Hid (k≤1∨(k<l.length∧2*Ky.size (l.take (k - 1))<Ky.size l))∧Sat F wr∧Io w wr) (fun _ x _=>l.length - (RowKit.intOf x).toNat)
 case atStart=>exact ⟨0,by omega,rfl,by simp [Ky.size],L_ (.inl (by omega)),H1,I1⟩
 case round =>
  obtain ⟨k,hk,rfl,rfl,hq,Hk,Ik⟩:=hrel
  have hb:=HB.out k hk
  have hlt:k<l.length:=by rcases hq.out with c | c<;>omega
  have zph:(k:Int)<(l.length:Int):=by omega
  have hk0:(0:Int)≤(k:Int):=by omega
  obtain ⟨b,off,key,val,rfl,hx,hc⟩:=HV.out k hlt
  obtain ⟨g0,g1⟩:=hc wr Hk
  have h2:=Ky.zjr (HR.out.1 l[k] (List.getElem_mem hlt))
  have HT:Hid (Ky.size (l.take (k+1))=Ky.size (l.take k)+(2+key.size+val.size)):=L_ (by rw [Ky.size_take hlt,hx];rfl)
  rw [hx] at h2
  simp only at h2
  obtain ⟨k0,k1,k2⟩:=h2
  clear hc hx
  obtain ⟨s,hs⟩:∃ s,Ky.size (l.take k)=s:=⟨_,rfl⟩
  have HS:=L_ hs
  rw [hs] at hb HT ⊢
  clear hs
  have K2:=Hk.new (.cells #[.string key,.string val] 112)
  have J2:=io1 K2 Ik
  obtain ⟨q0,q1⟩:_∧_:=⟨Sat.read K2.left.at 0,Sat.read K2.left.at 1⟩
  simp only [List.getElem?_toArray,List.getElem?_cons_zero,List.getElem?_cons_succ] at q0 q1
  have K3:=K2.new (.cells #[.string key,.string val] 112)
  have J3:=io1 K3 J2
  have hsz3:(wr.alloc (.cells #[.string key,.string val] 112)).heap.size=wr.heap.size+1:=by simp
  rw [hsz3] at K3
  have HX1:Ky.Short 1000 [(key,val)]:=fun x hx=>by rw [List.mem_singleton] at hx;subst hx;simp only;omega
  have hone:Ky.size [(key,val)]=2+key.size+val.size:=rfl
  by_cases hkz:k=0
  ·subst hkz
   simp only [Nat.zero_mul,Nat.add_zero,Nat.zero_add] at g0 g1
   go_wp2_with (go_at_call 150;refine size_any (zg2 zbk (key,val)) HX1 (by simp) K3 (L_ rfl) ?_;intro w4 H4 I4;rw [hone])
   go_roundw
   case rel=>exact ⟨0+1,by omega,by go_num,by rw [HT.out];go_num,L_ (.inl (by omega)),H4.right.right,J3.trans I4⟩
   case measure=>simp [RowKit.intOf];omega
  ·have hkp:(0:Int)<(k:Int):=by omega
   have hkq:0<k:=by omega
   have zt1:k=1∨2*Ky.size (l.take (k - 1))<Ky.size l:=hq.out.elim (fun c=>.inl (by omega)) (fun c=>.inr c.2)
   by_cases hf:all≤2*s
   ·have hf':(all:Int)≤2*(s:Int):=by omega
    have fin:=HH.out k _ ⟨by omega,hlt,.inr (by rw [HA.out,HS.out];exact hf),zt1⟩ K2.right J2
    clear zt1 hq
    go_wp2_with fail
    exact fin
   ·have hf':¬ (all:Int)≤2*(s:Int):=by omega
    by_cases he:k+1=l.length
    ·have he':((k:Int) == (l.length:Int) - 1)=true:=by rw [beq_iff_eq];omega
     have fin:=HH.out k _ ⟨by omega,hlt,.inl he,zt1⟩ K2.right J2
     clear zt1 hq
     go_wp2_with fail
     exact fin
    ·have he':((k:Int) == (l.length:Int) - 1)=false:=by rw [beq_eq_false_iff_ne];omega
     have HN:Hid (k+1≤1∨(k+1<l.length∧2*Ky.size (l.take (k+1 - 1))<Ky.size l)):=L_ (.inr ⟨by omega,by rw [Nat.add_sub_cancel,HA.out,HS.out];omega⟩)
     clear zt1 hq
     go_wp2_with (go_at_call 150;refine size_any (zg2 zbk (key,val)) HX1 (by simp) K3 (L_ rfl) ?_;intro w4 H4 I4;rw [hone])
     go_roundw
     case rel=>exact ⟨k+1,by omega,by go_num,by rw [HT.out];go_num,HN,H4.right.right,J3.trans I4⟩
     case measure=>simp [RowKit.intOf];omega
theorem decode_any {l:List Ky.En} (hr:Ky.Right l) (hl:Ky.size l≤5000) (H:Sat F w) {s:ByteArray} (hs:Hid (s=Ky.zga l)) (h:∀ v w',Sat (zda v l*F) w'→Io w w'→R (.returned (.tuple #[v,.int .i64 0])) w') :
  Calls Tryz.prog 165 #[.string s] w R:=by
 have HR:=L_ hr
 have HH:=L_ h
 have hD:Hid (true=decide (Ky.Right l)):=L_ (decide_eq_true hr).symm
 have hlen:l.length≤5000:=by
  have:∀ m:List Ky.En,m.length≤Ky.size m:=by
   intro m
   induction m with
   | nil=>exact Nat.le_refl _
   | cons x m ih=>simp only [List.length_cons,Ky.size];unfold Ky.one;omega
  have:=this l
  omega
 have hls:Hid (∀ k,(Ky.zga (l.drop k)).size≤5000):=L_ (fun k=>by
  rw [Ky.zm2]
  have:Ky.size (l.take k++l.drop k)=_:=Ky.size_append _ _
  rw [List.take_append_drop] at this
  omega)
 obtain ⟨rfl⟩:s=Ky.zga l:=hs.out
 clear h hl hr
 go_enter Tryz.func165,Tryz.ntmps165
 go_wp2_with (go_at_call 110;refine zqm H _ ?_;intro p w1 H1 I1)
 have J1:Sat (zda (.slice none 0 0) []*(zeb p ⟨Ky.zga l,0⟩*F)) w1:=za5 H1
 go_loopw [5] (fun t wr=>∃ (k:Nat),k≤l.length∧Sat (zda t (l.take k)*(zeb p ⟨Ky.zga (l.drop k),0⟩*F)) wr∧Io w wr) (fun t _=>l.length - Ky.slLen t)
 case atStart=>exact ⟨0,by omega,J1,I1⟩
 case round =>
  obtain ⟨k,hk,Hk,Ik⟩:=hrel
  have hlk:(l.take k).length=k:=by rw [List.length_take];omega
  obtain ⟨a5,c5,rfl⟩:=zh1 Hk
  have Hr:Sat (zeb p ⟨Ky.zga (l.drop k),0⟩*(zda (.slice a5 (l.take k).length c5) (l.take k)*F)) wr:=Hk.of_eq (by ac_rfl)
  rw [hlk] at Hr ⊢
  have hq:=hls.out k
  by_cases hlt:k<l.length
  ·have zph:(k:Int)<(l.length:Int):=by omega
   obtain ⟨⟨key,val⟩,hx⟩:∃ x,l[k]=x:=⟨_,rfl⟩
   have h2:=Ky.zjr (HR.out.1 l[k] (List.getElem_mem hlt))
   have HT:Hid (l.take (k+1)=l.take k++[(key,val)]):=L_ (by rw [List.take_succ_eq_append_getElem hlt,hx])
   have e1:Ky.zga (l.drop k)=Ky.txt key++(Ky.txt val++Ky.zga (l.drop (k+1))):=by rw [Ky.z6a hlt,hx,Ky.encX,zia]
   rw [hx] at h2
   simp only at h2
   obtain ⟨k0,k1,k2⟩:=h2
   have hq2:(Ky.zga (l.drop k)).size≤1000000:=by omega
   have hpos:(0:Int)<((Ky.zga (l.drop k)).size:Int):=by
    rw [e1,ByteArray.size_append,Ky.zee];omega
   rw [e1] at Hr hq hq2 hpos
   have HLK:=L_ hlk
   obtain ⟨rest,hrest⟩:∃ rest,Ky.zga (l.drop (k+1))=rest:=⟨_,rfl⟩
   have HRE:=L_ hrest
   rw [hrest] at Hr hq hq2 hpos
   have s1:rest.size≤5000:=by rw [←hrest];exact hls.out _
   have s2:(Ky.txt val++rest).size≤100000:=by rw [ByteArray.size_append,Ky.zee];omega
   obtain ⟨s0,hs0⟩:∃ s0,Ky.txt key++(Ky.txt val++rest)=s0:=⟨_,rfl⟩
   have HS0:=L_ hs0
   rw [hs0] at Hr hq2 hpos
   clear hx e1 hrest hq hlk Hk hs0
   go_wp2_with (first
    | (go_at_call 166;with_reducible refine zly Hr hq2 ?_)
    | (go_at_call 167;with_reducible refine zrf Hr ?_)
    | (go_at_call 168;refine zl9 key (Ky.txt val++rest) (by omega) s2 (Hr.of_eq (by rw [←HS0.out])) ?_;intro w3 H3 I3))
   go_wp2_with (first
    | (go_at_call 168;refine zl9 val rest (by omega) (by omega) H3 ?_;intro w4 H4 I4)
    | (at_builtin;refine zat Tryz.z1h zbk rfl (.tmp 19) (.tmp 24) rfl rfl (H4.of_eq (show _=zda (.slice a5 k c5) (l.take k)*(zeb p ⟨rest,0⟩*F) from by ac_rfl)) (by have:=HLK.out;omega) (key,val) rfl rfl ?_;intro v5 w5 H5 I5)
    | (refine zcn Tryz.z1h zbk rfl (.tmp 19) (.tmp 24) rfl rfl (H4.of_eq (show _=zda (.slice a5 k c5) (l.take k)*(zeb p ⟨rest,0⟩*F) from by ac_rfl)) (by have:=HLK.out;omega) (key,val) rfl rfl ?_;intro v5 w5 H5 I5))
   obtain ⟨a6,c6,e6⟩:=zh1 H5
   rw [List.length_append,HLK.out,List.length_singleton] at e6
   refine ⟨⟨k+1,by omega,by rw [HT.out,HRE.out];exact H5,(((Ik.trans I3).trans I4).trans I5)⟩,?_⟩
   rw [e6]
   simp only [Ky.slLen]
   omega
  ·obtain rfl:k=l.length:=by omega
   have e1:Ky.zga (l.drop l.length)=⟨#[]⟩:=by rw [List.drop_length];rfl
   rw [e1] at Hr
   rw [List.take_length] at Hr
   have EF:Hid ((⟨⟨#[]⟩,0⟩:Rd).fin=0):=L_ (by unfold Rd.fin;exact if_pos rfl)
   have hz:((⟨#[]⟩:ByteArray).size:Int)=0:=rfl
   have hz2:(⟨#[]⟩:ByteArray).size≤1000000:=Nat.zero_le _
   clear e1 hq Hk hlk
   go_wp2_with (first
    | (go_at_call 166;with_reducible refine zly Hr hz2 ?_)
    | (go_at_call 167;with_reducible refine zrf Hr ?_)
    | (go_at_call 112;with_reducible refine zxg Hr ?_;intro w4 H4 I4;rw [EF.out])
    | (go_at_call 91;with_reducible refine zeu (Reads.zau (H4.of_eq (show _=zda (.slice a5 l.length c5) l*(zeb p ⟨⟨#[]⟩,0⟩*F) from by ac_rfl)) (by omega)) (Ky.zeh HR.out) (by omega) (H4.of_eq (show _=zda (.slice a5 l.length c5) l*(zeb p ⟨⟨#[]⟩,0⟩*F) from by ac_rfl)) hD ?_;intro w5 H5 I5))
   exact HH.out _ w5 (zc4 H5) ((Ik.trans I4).trans I5)
end
namespace Ky
structure Nd where
 leaf:Bool
 es:List En
 kids:List Int
 keys:List Nm
def lf (es:List En):Nd:=⟨true,es,[],[]⟩
def inn (kids:List Int) (keys:List Nm):Nd:=⟨false,[],kids,keys⟩
structure InR (kids:List Int) (keys:List Nm):Prop where
 len:kids.length=keys.length+1
 ids:∀ k∈kids,2≤k∧k≤4294967295
 chk:∀ k∈keys,1≤k.size∧k.size≤16
 up:keys.Pairwise fun x y=>Md.nlt x y=true
def zah:List Nm→Nat
 | []=>0
 | k::l=>5+k.size+zah l
theorem zbx (l m:List Nm):zah (l++m)=zah l+zah m:=by
 induction l with
 | nil=>simp [zah]
 | cons x l ih=>simp only [List.cons_append,zah,ih];omega
theorem zq2 {l:List Nm} {k:Nat} (hk:k<l.length):zah (l.take (k+1))=zah (l.take k)+(5+l[k].size):=by
 rw [List.take_succ_eq_append_getElem hk,zbx]
 simp [zah]
theorem zw4 {l:List Nm} (h:∀ k∈l,k.size≤1000) (k:Nat):zah (l.take k)≤l.length*1005:=by
 induction l generalizing k with
 | nil=>simp [zah]
 | cons x l ih =>
  cases k with
  | zero=>simp [zah]
  | succ k =>
   have:=ih (fun y hy=>h y (List.mem_cons_of_mem _ hy)) k
   have:=h x (List.mem_cons_self ..)
   simp only [List.take_succ_cons,zah,List.length_cons]
   omega
inductive NdR:Nd→Prop
 | leaf {es:List En} (h:Right es):NdR (lf es)
 | inner {kids:List Int} {keys:List Nm} (h:InR kids keys):NdR (inn kids keys)
def zbf (n:Nd):Nat:=if n.leaf then size n.es else 4+zah n.keys
end Ky
def NdV (F:Asn) (v:Value) (n:Ky.Nd):Prop:=∃ se sk sx,v=.agg #[.bool n.leaf,se,sk,sx]∧(zbi F se n.es∧z1j se n.es.length)∧(zbd F sk n.kids∧z1j sk n.kids.length)∧zbe F sx n.keys∧z1j sx n.keys.length
theorem NdV.imp {F G:Asn} {v:Value} {n:Ky.Nd} (h:NdV F v n) (k:∀ w,Sat G w→Sat F w):NdV G v n:=by
 obtain ⟨se,sk,sx,e,⟨h1,h2⟩,⟨h3,h4⟩,h5,h6⟩:=h
 exact ⟨se,sk,sx,e,⟨h1.imp k,h2⟩,⟨h3.imp k,h4⟩,h5.imp k,h6⟩
theorem NdV.with {F G:Asn} {v:Value} {n:Ky.Nd} (h:NdV F v n):NdV (G*F) v n:=h.imp fun _ hw=>hw.right
theorem zdq {F:Asn} {a:Option Addr} {n c:Nat} {l:List ByteArray} (hl:zbe F (.slice a n c) l) (k:Nat) (hk:k<l.length):∃ b off s,a=some ⟨b,off,none⟩∧l[k]=s∧∀ w,Sat F w→w.cell? ⟨b,off+k,none⟩=some (.string s):=by
 obtain ⟨b,off,h1,h2⟩:=hl.get zbu k hk
 exact ⟨b,off,_,h1,rfl,fun w hw=>by have:=h2 w hw 0 _ (by omega) rfl;simpa using this⟩
theorem zgi {F:Asn} {a:Option Addr} {n c:Nat} {l:List Int} (hl:zbd F (.slice a n c) l) (k:Nat) (hk:k<l.length):∃ b off s,a=some ⟨b,off,none⟩∧l[k]=s∧∀ w,Sat F w→w.cell? ⟨b,off+k,none⟩=some (.int .i64 s):=by
 obtain ⟨b,off,h1,h2⟩:=hl.get zba k hk
 exact ⟨b,off,_,h1,rfl,fun w hw=>by have:=h2 w hw 0 _ (by omega) rfl;simpa using this⟩
section
variable {F:Asn} {w:World} {R:Ending→World→Prop}
theorem nd4 {b:Nat} {x y z u:Value} {t:TypeId} {G:Asn} {w:World} (H:Sat (pts b (.cells #[x,y,z,u] t (0,0))*G) w):w.cell? ⟨b,0,none⟩=some x∧w.cell? ⟨b,1,none⟩=some y∧w.cell? ⟨b,2,none⟩=some z∧w.cell? ⟨b,3,none⟩=some u :=
 ⟨Sat.read H.left.at 0,Sat.read H.left.at 1,Sat.read H.left.at 2,Sat.read H.left.at 3⟩
theorem xe5 (x:Int) (hx:2≤x∧x≤4294967295) (H:Sat F w) (h:R (.returned (.bool false)) w):Calls Tryz.prog 171 #[.int .i64 x] w R:=by
 have q1:¬ x<2:=by omega
 have q2:¬ (4294967295:Int)<x:=by omega
 go_enter Tryz.func171,Tryz.ntmps171
 go_wp2_with fail
 exact h
theorem zte {l:List Int} {v:Value} (hv:zbd F v l) (hl:∀ k∈l,2≤k∧k≤4294967295) (H:Sat F w)
  (h:∀ w',Sat F w'→Io w w'→R (.returned (.int .i64 (-1))) w') :
  Calls Tryz.prog 187 #[v,.func (.func 171) #[] #[]] w R:=by
 obtain ⟨a,c,rfl,hm⟩:=zab hv
 have HV:=L_ (fun k hk=>zgi hv k hk)
 have HH:=L_ h
 have HL:=L_ hl
 clear h hv hl
 go_enter Tryz.func187,Tryz.ntmps187
 go_wp2_with fail
 go_loopw [8] (fun x wr=>∃ (k:Nat),k≤l.length∧x=.int .i64 (k:Int)∧Sat F wr∧Io w wr) (fun x _=>l.length - (RowKit.intOf x).toNat)
 case atStart=>exact ⟨0,by omega,rfl,H,Io.refl _⟩
 case round =>
  obtain ⟨k,hk,rfl,Hk,Ik⟩:=hrel
  by_cases hlt:k<l.length
  ·have zph:(k:Int)<(l.length:Int):=by omega
   have hk0:(0:Int)≤(k:Int):=by omega
   obtain ⟨b',off,x1,rfl,hx,hc⟩:=HV.out k hlt
   have c0:=hc wr Hk
   have hb:=HL.out _ (List.getElem_mem hlt)
   rw [hx] at hb
   clear hc hx
   go_wp2_with (go_at_call 171;with_reducible refine xe5 x1 hb Hk ?_)
   go_roundw
   case rel=>exact ⟨k+1,by omega,by go_num,Hk,Ik⟩
   case measure=>simp [RowKit.intOf];omega
  ·obtain rfl:k=l.length:=by omega
   have hge:¬ (l.length:Int)<(l.length:Int):=by omega
   clear HV
   go_wp2_with fail
   exact HH.out _ Hk Ik
theorem zmi {l:List Int} {v:Value} (hv:zbd F v l) (hl:∀ k∈l,2≤k∧k≤4294967295) (H:Sat F w)
  (h:∀ w',Sat F w'→Io w w'→R (.returned (.bool false)) w') :
  Calls Tryz.prog 172 #[v,.func (.func 171) #[] #[]] w R:=by
 have HH:=L_ h
 clear h
 go_enter Tryz.func172,Tryz.ntmps172
 go_wp2_with (go_at_call 187;with_reducible refine zte hv hl H ?_;intro w2 H2 I2)
 exact HH.out _ H2 I2
theorem zwu {es:List Ky.En} {v:Value} (hr:Ky.Right es) (hv:NdV F v (Ky.lf es)) (hl:es.length≤5000) (H:Sat F w) (h:∀ w',Sat F w'→Io w w'→R (.returned (.bool true)) w') :
  Calls Tryz.prog 144 #[v] w R:=by
 obtain ⟨se,sk,sx,rfl,⟨h1,h2⟩,⟨h3,h4⟩,h5,h6⟩:=hv
 obtain ⟨a3,c3,rfl,m3⟩:=zab h3
 obtain ⟨a5,c5,rfl,m5⟩:=zab h5
 have HH:=L_ h
 clear h
 have H1:=H.new (.cells #[.bool true,se,.slice a3 0 c3,.slice a5 0 c5] 151)
 have I1:=io1 H1 (Io.refl w)
 obtain ⟨q0,q1,q2,q3⟩:=nd4 H1
 go_enter Tryz.func144,Tryz.ntmps144
 go_wp2_with (go_at_call 170;refine zpm hr h1.with hl H1 (L_ rfl) ?_;intro w2 H2 I2;obtain ⟨q0,q1,q2,q3⟩:=nd4 H2)
 exact HH.out _ H2.right (I1.trans I2)
theorem chkKey {k:Ky.Nm} (h:1≤k.size∧k.size≤16):Ky.chk k ⟨#[]⟩=0:=by
 unfold Ky.chk
 rw [if_neg]
 rintro (h1 | h1 | h1)
 ·omega
 ·omega
 ·exact absurd h1 (by decide)
theorem ztf {kids:List Int} {keys:List Ky.Nm} {v:Value} (hr:Ky.InR kids keys) (hv:NdV F v (Ky.inn kids keys)) (hl:kids.length≤5000) (H:Sat F w) (h:∀ w',Sat F w'→Io w w'→R (.returned (.bool true)) w') :
  Calls Tryz.prog 144 #[v] w R:=by
 obtain ⟨se,sk,sx,rfl,⟨h1,h2⟩,⟨h3,h4⟩,h5,h6⟩:=hv
 dsimp only [Ky.inn] at h1 h2 h3 h4 h5 h6 ⊢
 obtain ⟨a1,c1,rfl,m1⟩:=zab h1
 obtain ⟨a3,c3,rfl,m3⟩:=zab h3
 obtain ⟨a5,c5,rfl,m5⟩:=zab h5
 have HH:=L_ h
 have HV:=L_ (fun k hk=>zdq h5 k hk)
 have HC:=L_ hr.chk
 have HU:=L_ hr.up
 have hlen:=L_ hr.len
 clear h
 have q8:((keys.length:Int) != (kids.length:Int) - 1)=false:=by have:=hlen.out;simp;omega
 have H1:=H.new (.cells #[.bool false,.slice a1 0 c1,.slice a3 kids.length c3,.slice a5 keys.length c5] 151)
 have I1:=io1 H1 (Io.refl w)
 obtain ⟨q0,q1,q2,q3⟩:=nd4 H1
 go_enter Tryz.func144,Tryz.ntmps144
 go_wp2_with (go_at_call 172;refine zmi h3.with hr.ids H1 ?_;intro w2 H2 I2;obtain ⟨q0,q1,q2,q3⟩:=nd4 H2)
 go_loopw [51] (fun x wr=>∃ (k:Nat),k≤keys.length∧x=.int .i64 (k:Int)∧Sat (pts w.heap.size (.cells #[.bool false,.slice a1 0 c1,.slice a3 kids.length c3,.slice a5 keys.length c5] 151 (0,0))*F) wr∧Io w wr) (fun x _=>keys.length - (RowKit.intOf x).toNat)
 case atStart=>exact ⟨0,by omega,rfl,H2,I1.trans I2⟩
 case round =>
  obtain ⟨k,hk,rfl,Hk,Ik⟩:=hrel
  obtain ⟨r0,r1,r2,r3⟩:=nd4 Hk
  by_cases hlt:k<keys.length
  ·have zph:(k:Int)<(keys.length:Int):=by omega
   have hk0:(0:Int)≤(k:Int):=by omega
   obtain ⟨b',off,key,rfl,hx,hc⟩:=HV.out k hlt
   have g0:=hc wr Hk.right
   have hb:=HC.out _ (List.getElem_mem hlt)
   rw [hx] at hb
   have HE:Hid ((0:Int)=Ky.chk key ⟨#[]⟩):=L_ (chkKey hb).symm
   have hz1:key.size≤1000000:=by omega
   have hz2:(⟨#[]⟩:ByteArray).size≤1000000:=Nat.zero_le _
   by_cases hkz:k=0
   ·subst hkz
    simp only [Nat.add_zero] at g0
    clear hc hx
    go_wp2_with (go_at_call 63;with_reducible refine check_any key ⟨#[]⟩ hz1 hz2 HE ?_)
    go_roundw
    case rel=>exact ⟨0+1,by omega,by go_num,Hk,Ik⟩
    case measure=>simp [RowKit.intOf];omega
   ·obtain ⟨jj,hjj⟩:∃ jj,k=jj+1:=⟨k - 1,by omega⟩
    obtain ⟨b',off',key',hva,hx',hc'⟩:=HV.out jj (by omega)
    cases hva
    have g1:=hc' _ Hk.right
    have hkp:(0:Int)<(k:Int):=by omega
    have hkd:decide (0<k)=true:=decide_eq_true (by omega)
    have hkq:0<k:=by omega
    have hwr:IntKind.i64.wrap ((k:Int) - 1)=(jj:Int):=by rw [IntKind.wrap_i64];omega
    have hwj:IntKind.i64.wrap (jj:Int)=(jj:Int):=by rw [IntKind.wrap_i64];omega
    have hsub:(k:Int) - 1=(jj:Int):=by omega
    have hjn:(jj:Int)<(keys.length:Int):=by omega
    have hj0:(0:Int)≤(jj:Int):=by omega
    have ht:Op.bytesLess key'.toList key.toList=true:=by
     have hp:=HU.out
     rw [List.pairwise_iff_getElem] at hp
     have:=hp jj k (by omega) hlt (by omega)
     rw [hx,hx'] at this
     exact this
    have HJ:=L_ hjj
    clear hx hx' hc hc' hjj
    go_wp2_with (go_at_call 63;with_reducible refine check_any key ⟨#[]⟩ hz1 hz2 HE ?_)
    go_roundw
    case rel=>exact ⟨k+1,by omega,by go_num,Hk,Ik⟩
    case measure=>simp [RowKit.intOf];omega
  ·obtain rfl:k=keys.length:=by omega
   have hge:¬ (keys.length:Int)<(keys.length:Int):=by omega
   clear HV
   go_wp2_with fail
   exact HH.out _ Hk.right Ik
theorem zdr {n:Ky.Nd} {v:Value} (hr:Ky.NdR n) (hv:NdV F v n) (hl:n.es.length≤5000∧n.kids.length≤5000) (H:Sat F w) (h:∀ w',Sat F w'→Io w w'→R (.returned (.bool true)) w') :
  Calls Tryz.prog 144 #[v] w R:=by
 cases hr with
 | leaf hr=>exact zwu hr hv hl.1 H h
 | inner hr=>exact ztf hr hv hl.2 H h
theorem z0d {es:List Ky.En} {v:Value} (hr:Ky.Right es) (hv:NdV F v (Ky.lf es)) (hl:es.length≤5000) (H:Sat F w) (h:∀ w',Sat F w'→Io w w'→R (.returned (.int .i64 (Ky.size es:Int))) w') :
  Calls Tryz.prog 117 #[v] w R:=by
 obtain ⟨se,sk,sx,rfl,⟨h1,h2⟩,⟨h3,h4⟩,h5,h6⟩:=hv
 dsimp only [Ky.lf] at h1 h2 h3 h4 h5 h6 ⊢
 have HH:=L_ h
 clear h
 have H1:=H.new (.cells #[.bool true,se,sk,sx] 151)
 have I1:=io1 H1 (Io.refl w)
 obtain ⟨q0,q1,q2,q3⟩:=nd4 H1
 have HL:Hid (Ky.size es=Ky.size es):=L_ rfl
 go_enter Tryz.func117,Tryz.ntmps117
 go_wp2_with (go_at_call 150;refine size_any h1.with (Ky.zeh hr) (by omega) H1 HL ?_;intro w2 H2 I2;generalize Ky.size es=sz at *)
 exact HH.out _ H2.right (I1.trans I2)
theorem zwt {kids:List Int} {keys:List Ky.Nm} {v:Value} (hr:Ky.InR kids keys) (hv:NdV F v (Ky.inn kids keys)) (hl:kids.length≤5000) (H:Sat F w) (h:∀ w',Sat F w'→Io w w'→R (.returned (.int .i64 ((4+Ky.zah keys:Nat):Int))) w') :
  Calls Tryz.prog 117 #[v] w R:=by
 obtain ⟨se,sk,sx,rfl,⟨h1,h2⟩,⟨h3,h4⟩,h5,h6⟩:=hv
 dsimp only [Ky.inn] at h1 h2 h3 h4 h5 h6 ⊢
 obtain ⟨a5,c5,rfl,m5⟩:=zab h5
 have HH:=L_ h
 have HV:=L_ (fun k hk=>zdq h5 k hk)
 have HC:=L_ hr.chk
 have hkl:keys.length≤5000:=by have:=hr.len;omega
 have HB:Hid (∀ k,Ky.zah (keys.take k)≤5000*1005):=L_ (fun k=>by
  have:=Ky.zw4 (l:=keys) (fun x hx=>by have:=(hr.chk x hx).2;omega) k
  omega)
 clear h
 have H1:=H.new (.cells #[.bool false,se,sk,.slice a5 keys.length c5] 151)
 have I1:=io1 H1 (Io.refl w)
 obtain ⟨q0,q1,q2,q3⟩:=nd4 H1
 go_enter Tryz.func117,Tryz.ntmps117
 go_wp2_with fail
 go_loopw [3,14] (fun t x wr=>∃ (k:Nat),k≤keys.length∧x=.int .i64 (k:Int)∧t=.int .i64 ((4+Ky.zah (keys.take k):Nat):Int)∧Sat F wr∧Io w wr) (fun _ x _=>keys.length - (RowKit.intOf x).toNat)
 case atStart=>exact ⟨0,by omega,rfl,rfl,H1.right,I1⟩
 case round =>
  obtain ⟨k,hk,rfl,rfl,Hk,Ik⟩:=hrel
  have hb:=HB.out k
  by_cases hlt:k<keys.length
  ·have zph:(k:Int)<(keys.length:Int):=by omega
   have hk0:(0:Int)≤(k:Int):=by omega
   obtain ⟨b',off,key,rfl,hx,hc⟩:=HV.out k hlt
   have g0:=hc wr Hk
   have hb:=HC.out _ (List.getElem_mem hlt)
   rw [hx] at hb
   obtain ⟨hb1,hb2⟩:=hb
   have HT:Hid (Ky.zah (keys.take (k+1))=Ky.zah (keys.take k)+(5+key.size)):=L_ (by rw [Ky.zq2 hlt,hx])
   generalize Ky.zah (keys.take k)=s at *
   clear hc hx
   go_wp2_with fail
   go_roundw
   case rel=>exact ⟨k+1,by omega,by go_num,by rw [HT.out];go_num,Hk,Ik⟩
   case measure=>simp [RowKit.intOf];omega
  ·obtain rfl:k=keys.length:=by omega
   have hge:¬ (keys.length:Int)<(keys.length:Int):=by omega
   rw [List.take_length]
   clear HV hb
   generalize Ky.zah keys=s at *
   go_wp2_with fail
   exact HH.out _ Hk Ik
theorem zf6 {n:Ky.Nd} {v:Value} (hr:Ky.NdR n) (hv:NdV F v n) (hl:n.es.length≤5000∧n.kids.length≤5000) (H:Sat F w) {z:Nat} (hz:Hid (z=Ky.zbf n)) (h:∀ w',Sat F w'→Io w w'→R (.returned (.int .i64 (z:Int))) w') :
  Calls Tryz.prog 117 #[v] w R:=by
 obtain rfl:=hz.out
 cases hr with
 | leaf hr=>exact z0d hr hv hl.1 H h
 | inner hr=>exact zwt hr hv hl.2 H h
theorem z3t {n:Ky.Nd} {v:Value} (hv:NdV F v n):∃ x y z,v=.agg #[.bool n.leaf,x,y,z]:=by
 obtain ⟨se,sk,sx,e,_⟩:=hv
 exact ⟨_,_,_,e⟩
theorem zf7 {n:Ky.Nd} {v:Value} (hr:Ky.NdR n) (hv:NdV F v n) (hl:n.es.length≤5000∧n.kids.length≤5000) (H:Sat F w) {d:Bool} (hd:Hid (d=decide (Ky.zbf n≤240))) (h:∀ w',Sat F w'→Io w w'→R (.returned (.bool d)) w') :
  Calls Tryz.prog 155 #[v] w R:=by
 obtain ⟨x,y,z,rfl⟩:=z3t hv
 have HH:=L_ h
 clear h
 have H1:=H.new (.cells #[.bool n.leaf,x,y,z] 151)
 have I1:=io1 H1 (Io.refl w)
 obtain ⟨q0,q1,q2,q3⟩:=nd4 H1
 obtain ⟨sz,hsz⟩:∃ sz,sz=Ky.zbf n:=⟨_,rfl⟩
 have HZ:=L_ hsz
 rw [←hsz] at hd
 clear hsz
 by_cases hb:sz≤240
 ·obtain rfl:d=true:=by rw [hd.out];exact decide_eq_true hb
  have hb':(sz:Int)≤240:=by omega
  go_enter Tryz.func155,Tryz.ntmps155
  go_wp2_with (first
   | (go_at_call 144;refine zdr hr hv.with hl H1 ?_;intro w2 H2 I2;obtain ⟨q0,q1,q2,q3⟩:=nd4 H2)
   | (go_at_call 117;refine zf6 hr hv.with hl H2 HZ ?_;intro w3 H3 I3))
  exact HH.out _ H3.right ((I1.trans I2).trans I3)
 ·obtain rfl:d=false:=by rw [hd.out];exact decide_eq_false hb
  have hb':decide ((sz:Int)≤240)=false:=decide_eq_false (by omega)
  go_enter Tryz.func155,Tryz.ntmps155
  go_wp2_with (first
   | (go_at_call 144;refine zdr hr hv.with hl H1 ?_;intro w2 H2 I2;obtain ⟨q0,q1,q2,q3⟩:=nd4 H2)
   | (go_at_call 117;refine zf6 hr hv.with hl H2 HZ ?_;intro w3 H3 I3))
  exact HH.out _ H3.right ((I1.trans I2).trans I3)
end
end Go.Proofs.YtfknjmoekbabcaaGreatDoor
namespace Go.Proofs.YtfknjmoekbabcaaGreatDoor
namespace Tb
open Ky
abbrev Pg:=List (Int × Nd)
abbrev Bd:=Option Nm
def ge (lo:Bd) (k:Nm):Prop:=∀ y,lo=some y→Md.nlt k y=false
def lt (hi:Bd) (k:Nm):Prop:=∀ y,hi=some y→Md.nlt k y=true
def blt (lo hi:Bd):Prop:=∀ x y,lo=some x→hi=some y→Md.nlt x y=true
def lole (x y:Bd):Prop:=∀ a,x=some a→∃ b,y=some b∧Md.nlt b a=false
def hile (x y:Bd):Prop:=∀ b,y=some b→∃ a,x=some a∧Md.nlt b a=false
theorem ztr (x:Bd):lole x x:=fun a h=>⟨a,h,zbp _⟩
theorem zjj (x:Bd):hile x x:=fun a h=>⟨a,h,zbp _⟩
theorem zb4 {x y z:Nm} (h:Md.nlt x y=true) (k:Md.nlt z y=false):Md.nlt x z=true:=by
 cases e:Md.nlt x z with
 | true=>rfl
 | false=>rw [zh3 e k] at h;cases h
theorem zkn {x y z:Nm} (h:Md.nlt y x=false) (k:Md.nlt y z=true):Md.nlt x z=true:=by
 cases e:Md.nlt x z with
 | true=>rfl
 | false=>rw [zh3 h e] at k;cases k
theorem zq9 {x y:Bd} {k:Nm} (h:lole x y) (g:ge y k):ge x k:=fun a ha=>by
 obtain ⟨b,hb,e⟩:=h a ha
 exact zh3 (g b hb) e
theorem zms {x y:Bd} {k:Nm} (h:hile x y) (g:lt x k):lt y k:=fun b hb=>by
 obtain ⟨a,ha,e⟩:=h b hb
 exact zb4 (g a ha) e
theorem zze {x y z:Bd} (h:lole x y) (g:blt y z):blt x z:=fun a c ha hc=>by
 obtain ⟨b,hb,e⟩:=h a ha
 exact zkn e (g b c hb hc)
theorem zjt {x y z:Bd} (h:hile y z) (g:blt x y):blt x z:=fun a c ha hc=>by
 obtain ⟨b,hb,e⟩:=h c hc
 exact zb4 (g a b ha hb) e
theorem z6r {x z:Bd} {y:Nm} (h:blt x (some y)) (g:blt (some y) z):blt x z:=fun a c ha hc=>zb3 (h a y ha rfl) (g y c rfl hc)
theorem zgj {x:Bd} {y:Nm} (h:blt x (some y)):lole x (some y):=fun a ha=>⟨y,rfl,ze6 (h a y ha rfl)⟩
theorem zgl {y:Nm} {z:Bd} (h:blt (some y) z):hile (some y) z:=fun b hb=>⟨y,rfl,ze6 (h y b rfl hb)⟩
theorem zrn (y:Bd):blt none y:=fun a _ ha=>by cases ha
theorem ztw (A B:List Nm) (y:Nm):zah (A++y::B)=zah A+(5+y.size)+zah B:=by
 rw [zbx];simp only [zah];omega
def wt (p:Int × Nd):Nat:=if p.2.leaf then max 60 (size p.2.es) else 0
def wl (p:Int × Nd):Nat:=if p.2.leaf then 1 else 0
def psi:Pg→Nat
 | []=>0
 | p::L=>wt p+psi L
def lvs:Pg→Nat
 | []=>0
 | p::L=>wl p+lvs L
theorem zel (L M:Pg):psi (L++M)=psi L+psi M:=by
 induction L with
 | nil=>simp [psi]
 | cons x l ih=>simp only [List.cons_append,psi,ih];omega
theorem zpb (L M:Pg):lvs (L++M)=lvs L+lvs M:=by
 induction L with
 | nil=>simp [lvs]
 | cons x l ih=>simp only [List.cons_append,lvs,ih];omega
theorem zlt {L M:Pg} (h:L.Perm M):psi L=psi M:=by
 induction h with
 | nil=>rfl
 | cons x _ ih=>simp only [psi,ih]
 | swap x y l=>simp only [psi];omega
 | trans _ _ h1 h2=>exact h1.trans h2
theorem xat {L M:Pg} (h:L.Perm M):lvs L=lvs M:=by
 induction h with
 | nil=>rfl
 | cons x _ ih=>simp only [lvs,ih]
 | swap x y l=>simp only [lvs];omega
 | trans _ _ h1 h2=>exact h1.trans h2
theorem xe0 (L:Pg):60*lvs L≤psi L:=by
 induction L with
 | nil=>simp [psi,lvs]
 | cons x l ih =>
  simp only [psi,lvs,wt,wl]
  split<;>omega
section
variable (S:Bd→Bd→Int→List En→Pg→Prop)
inductive zix:Bd→Bd→List Int→List Nm→List En→Pg→Prop
 | nil {hi:Bd}:zix hi hi [] [] [] []
 | cons {y:Nm} {m hi:Bd} {k:Int} {K:List Int} {B:List Nm} {e1 e2:List En} {L1 L2:Pg} (h:S (some y) m k e1 L1) (r:zix m hi K B e2 L2):zix (some y) hi (k::K) (y::B) (e1++e2) (L1++L2)
inductive zli:Bd→Bd→List Int→List Nm→List En→Pg→Prop
 | nil {lo:Bd}:zli lo lo [] [] [] []
 | cons {y:Nm} {lo m:Bd} {k:Int} {K:List Int} {A:List Nm} {e1 e2:List En} {L1 L2:Pg} (h:S lo (some y) k e1 L1) (r:zli (some y) m K A e2 L2):zli lo m (k::K) (y::A) (e1++e2) (L1++L2)
inductive Node:Bd→Bd→List Int→List Nm→List En→Pg→Prop
 | mk {lo m hi:Bd} {k:Int} {K:List Int} {B:List Nm} {e1 e2:List En} {L1 L2:Pg} (h:S lo m k e1 L1) (r:zix S m hi K B e2 L2):Node lo hi (k::K) B (e1++e2) (L1++L2)
end
section
variable {S:Bd→Bd→Int→List En→Pg→Prop}
theorem zix.len {lo hi:Bd} {K:List Int} {B:List Nm} {e:List En} {L:Pg} (h:zix S lo hi K B e L):K.length=B.length:=by
 induction h with
 | nil=>rfl
 | cons _ _ ih=>simp [ih]
theorem zli.len {lo hi:Bd} {K:List Int} {B:List Nm} {e:List En} {L:Pg} (h:zli S lo hi K B e L):K.length=B.length:=by
 induction h with
 | nil=>rfl
 | cons _ _ ih=>simp [ih]
theorem Node.len {lo hi:Bd} {K:List Int} {B:List Nm} {e:List En} {L:Pg} (h:Node S lo hi K B e L):K.length=B.length+1:=by
 cases h with
 | mk h r=>simp [r.len]
theorem zix.start {lo hi:Bd} {K:List Int} {B:List Nm} {e:List En} {L:Pg} (h:zix S lo hi K B e L) (he:(∃ x,x∈e)∨∃ x,x∈B):∃ z,lo=some z:=by
 cases h with
 | nil=>simp at he
 | cons h r=>exact ⟨_,rfl⟩
theorem zix.app {lo m hi:Bd} {K1 K2:List Int} {B1 B2:List Nm} {e1 e2:List En} {L1 L2:Pg} (h:zix S lo m K1 B1 e1 L1) (g:zix S m hi K2 B2 e2 L2):zix S lo hi (K1++K2) (B1++B2) (e1++e2) (L1++L2):=by
 induction h with
 | nil=>simpa using g
 | cons h r ih=>rw [List.append_assoc,List.append_assoc];exact .cons h (ih g)
theorem Node.left {lo y:Bd} {z:Nm} {hi:Bd} {K1 K2:List Int} {A B:List Nm} {e1 e2:List En} {L1 L2:Pg} (h:Node S lo y K1 A e1 L1) (hy:y=some z) (g:Node S y hi K2 B e2 L2):Node S lo hi (K1++K2) (A++z::B) (e1++e2) (L1++L2):=by
 subst hy
 obtain ⟨h,r⟩:=h
 obtain ⟨h2,r2⟩:=g
 rw [List.append_assoc,List.append_assoc,List.cons_append]
 exact .mk h (r.app (.cons h2 r2))
theorem Node.cons {lo hi:Bd} {y:Nm} {k:Int} {K:List Int} {B:List Nm} {e1 e2:List En} {L1 L2:Pg} (h:S lo (some y) k e1 L1) (g:Node S (some y) hi K B e2 L2):Node S lo hi (k::K) (y::B) (e1++e2) (L1++L2):=by
 obtain ⟨h2,r2⟩:=g
 exact .mk h (.cons h2 r2)
theorem zli.node {lo m hi:Bd} {K1 K2:List Int} {A B:List Nm} {e1 e2:List En} {L1 L2:Pg} (h:zli S lo m K1 A e1 L1) (g:Node S m hi K2 B e2 L2):Node S lo hi (K1++K2) (A++B) (e1++e2) (L1++L2):=by
 induction h with
 | nil=>simpa using g
 | cons h r ih =>
  rw [List.append_assoc,List.append_assoc,List.cons_append,List.cons_append]
  exact .cons h (ih g)
theorem Node.cut {lo hi:Bd} {K:List Int} {B:List Nm} {e:List En} {L:Pg} (h:Node S lo hi K B e L) (i:Nat) (hi':i<K.length) :
  ∃ m e1 e2 L1 L2,zli S lo m (K.take i) (B.take i) e1 L1∧Node S m hi (K.drop i) (B.drop i) e2 L2∧e=e1++e2∧L=L1++L2:=by
 induction i generalizing lo K B e L with
 | zero=>exact ⟨lo,[],e,[],L,.nil,h,rfl,rfl⟩
 | succ i ih =>
  obtain ⟨h1,r⟩:=h
  cases r with
  | nil=>simp at hi'
  | cons h2 r2 =>
   obtain ⟨m,a1,a2,M1,M2,g1,g2,q1,q2⟩:=ih (Node.mk h2 r2) (by simpa using hi')
   exact ⟨m,_,a2,_,M2,.cons h1 g1,g2,by rw [q1,List.append_assoc],by rw [q2,List.append_assoc]⟩
theorem zli.last {lo m:Bd} {K:List Int} {A:List Nm} {e:List En} {L:Pg} (h:zli S lo m K A e L) (hK:K≠[]) :
  ∃ K' k A' y e1 e2 L1 L2 a,m=some y∧K=K'++[k]∧A=A'++[y]∧zli S lo a K' A' e1 L1∧S a (some y) k e2 L2∧e=e1++e2∧L=L1++L2:=by
 induction h with
 | nil=>exact absurd rfl hK
 | cons h r ih =>
  rename_i y lo m k K A e1 e2 L1 L2
  by_cases hk:K=[]
  ·subst hk
   cases r with
   | nil=>exact ⟨[],k,[],y,[],e1,[],L1,lo,rfl,rfl,rfl,.nil,h,by simp,by simp⟩
  ·obtain ⟨K',k',A',z,f1,f2,M1,M2,a,q1,q2,q3,q4,q5,q6,q7⟩:=ih hk
   refine ⟨k::K',k',y::A',z,e1++f1,f2,L1++M1,M2,a,q1,by rw [q2];rfl,by rw [q3];rfl,.cons h q4,q5,by rw [q6,List.append_assoc],by rw [q7,List.append_assoc]⟩
end
def zjx (k:Int):Prop:=2≤k∧k≤4294967295
def Sub:Nat→Bd→Bd→Int→List En→Pg→Nat→Prop
 | 0,lo,hi,id,es,L,c=>blt lo hi∧zjx id∧(∀ x∈es,ge lo x.1∧lt hi x.1)∧Right es∧es≠[]∧size es≤240∧L=[(id,lf es)]∧c=12
 | h+1,lo,hi,id,es,L,c=>blt lo hi∧zjx id∧∃ K B L',Node (fun lo hi k e L=>∃ c,Sub h lo hi k e L c) lo hi K B es L'∧4+zah B≤240∧(∀ k∈B,1≤k.size∧k.size≤16)∧L.Perm ((id,inn K B)::L')∧c=K.length
abbrev Sb (h:Nat) (lo hi:Bd) (k:Int) (e:List En) (L:Pg):Prop:=∃ c,Sub h lo hi k e L c
theorem Sub.bounds {h:Nat} {lo hi:Bd} {id:Int} {es:List En} {L:Pg} {c:Nat} (s:Sub h lo hi id es L c):blt lo hi∧zjx id:=by
 cases h with
 | zero=>exact ⟨s.1,s.2.1⟩
 | succ h=>exact ⟨s.1,s.2.1⟩
theorem z2k {S:Bd→Bd→Int→List En→Pg→Prop} (hS:∀ {lo hi k e L},S lo hi k e L→blt lo hi∧(∀ x∈e,ge lo x.1∧lt hi x.1)∧Right e) {lo hi:Bd} {K:List Int} {B:List Nm} {e:List En} {L:Pg} (h:zix S lo hi K B e L) :
  (∀ x∈e,ge lo x.1∧lt hi x.1)∧Right e∧hile lo hi:=by
 induction h with
 | nil=>exact ⟨by simp,by simp [Right],zjj _⟩
 | cons h r ih =>
  obtain ⟨i1,i2,i3⟩:=ih
  obtain ⟨s0,s1,s2⟩:=hS h
  have hb:=zjt i3 s0
  refine ⟨fun x hx=>?_,⟨fun x hx=>?_,?_⟩,zgl hb⟩
  ·rcases List.mem_append.1 hx with hx | hx
   ·exact ⟨(s1 x hx).1,zms i3 (s1 x hx).2⟩
   ·refine ⟨?_,(i1 x hx).2⟩
    obtain ⟨z,rfl⟩:=r.start (.inl ⟨_,hx⟩)
    exact zq9 (zgj s0) (i1 x hx).1
  ·rcases List.mem_append.1 hx with hx | hx
   ·exact s2.1 x hx
   ·exact i2.1 x hx
  ·rw [List.pairwise_append]
   refine ⟨s2.2,i2.2,fun a ha b hb'=>?_⟩
   obtain ⟨z,rfl⟩:=r.start (.inl ⟨_,hb'⟩)
   exact zb4 ((s1 a ha).2 z rfl) ((i1 b hb').1 z rfl)
theorem zqu {S:Bd→Bd→Int→List En→Pg→Prop} (hS:∀ {lo hi k e L},S lo hi k e L→blt lo hi∧(∀ x∈e,ge lo x.1∧lt hi x.1)∧Right e) {lo hi:Bd} {K:List Int} {B:List Nm} {e:List En} {L:Pg} (h:Node S lo hi K B e L) :
  (∀ x∈e,ge lo x.1∧lt hi x.1)∧Right e∧blt lo hi:=by
 obtain ⟨h,r⟩:=h
 obtain ⟨i1,i2,i3⟩:=z2k hS r
 obtain ⟨s0,s1,s2⟩:=hS h
 have hb:=zjt i3 s0
 refine ⟨fun x hx=>?_,⟨fun x hx=>?_,?_⟩,hb⟩
 ·rcases List.mem_append.1 hx with hx | hx
  ·exact ⟨(s1 x hx).1,zms i3 (s1 x hx).2⟩
  ·refine ⟨?_,(i1 x hx).2⟩
   obtain ⟨z,rfl⟩:=r.start (.inl ⟨_,hx⟩)
   exact zq9 (zgj s0) (i1 x hx).1
 ·rcases List.mem_append.1 hx with hx | hx
  ·exact s2.1 x hx
  ·exact i2.1 x hx
 ·rw [List.pairwise_append]
  refine ⟨s2.2,i2.2,fun a ha b hb'=>?_⟩
  obtain ⟨z,rfl⟩:=r.start (.inl ⟨_,hb'⟩)
  exact zb4 ((s1 a ha).2 z rfl) ((i1 b hb').1 z rfl)
theorem Sub.inn:∀ {h:Nat} {lo hi:Bd} {id:Int} {es:List En} {L:Pg} {c:Nat},Sub h lo hi id es L c→blt lo hi∧(∀ x∈es,ge lo x.1∧lt hi x.1)∧Right es
 | 0,_,_,_,_,_,_,s=>⟨s.1,s.2.2.1,s.2.2.2.1⟩
 | h+1,_,_,_,_,_,_,s=>by
  obtain ⟨s1,s2,K,B,L',n,_⟩:=s
  obtain ⟨a,b,c⟩:=zqu (fun ⟨c,s⟩=>Sub.inn s) n
  exact ⟨c,a,b⟩
theorem Sb.inn {h:Nat} {lo hi:Bd} {id:Int} {es:List En} {L:Pg} (s:Sb h lo hi id es L):blt lo hi∧(∀ x∈es,ge lo x.1∧lt hi x.1)∧Right es:=s.elim fun _ s=>s.inn
theorem xem {S:Bd→Bd→Int→List En→Pg→Prop} (hS:∀ {lo hi k e L},S lo hi k e L→blt lo hi) {lo hi:Bd} {K:List Int} {B:List Nm} {e:List En} {L:Pg} (h:zix S lo hi K B e L) :
  (∀ z∈B,ge lo z∧lt hi z)∧B.Pairwise (fun x y=>Md.nlt x y=true)∧hile lo hi:=by
 induction h with
 | nil=>exact ⟨by simp,.nil,zjj _⟩
 | cons h r ih =>
  obtain ⟨i1,i2,i3⟩:=ih
  have s0:=hS h
  have hb:=zjt i3 s0
  rename_i y m hi k K B e1 e2 L1 L2
  have hB:∀ z∈B,Md.nlt y z=true:=fun z hz=>by
   obtain ⟨a,rfl⟩:=r.start (.inr ⟨_,hz⟩)
   exact zb4 (s0 y a rfl rfl) ((i1 z hz).1 a rfl)
  refine ⟨fun z hz=>?_,List.pairwise_cons.2 ⟨hB,i2⟩,zgl hb⟩
  rcases List.mem_cons.1 hz with rfl | hz
  ·exact ⟨fun w hw=>by cases hw;exact zbp _,fun w hw=>hb _ w rfl hw⟩
  ·exact ⟨fun w hw=>by cases hw;exact ze6 (hB z hz),(i1 z hz).2⟩
theorem Node.up {S:Bd→Bd→Int→List En→Pg→Prop} (hS:∀ {lo hi k e L},S lo hi k e L→blt lo hi) {lo hi:Bd} {K:List Int} {B:List Nm} {e:List En} {L:Pg} (h:Node S lo hi K B e L):B.Pairwise (fun x y=>Md.nlt x y=true):=by
 obtain ⟨h,r⟩:=h
 exact (xem hS r).2.1
theorem z9m {S:Bd→Bd→Int→List En→Pg→Prop} (hS:∀ {lo hi k e L},S lo hi k e L→zjx k) {lo hi:Bd} {K:List Int} {B:List Nm} {e:List En} {L:Pg} (h:zix S lo hi K B e L):∀ k∈K,zjx k:=by
 induction h with
 | nil=>simp
 | cons h r ih =>
  intro k hk
  rcases List.mem_cons.1 hk with rfl | hk
  ·exact hS h
  ·exact ih k hk
theorem Node.ids {S:Bd→Bd→Int→List En→Pg→Prop} (hS:∀ {lo hi k e L},S lo hi k e L→zjx k) {lo hi:Bd} {K:List Int} {B:List Nm} {e:List En} {L:Pg} (h:Node S lo hi K B e L):∀ k∈K,zjx k:=by
 obtain ⟨h,r⟩:=h
 intro k hk
 rcases List.mem_cons.1 hk with rfl | hk
 ·exact hS h
 ·exact z9m hS r k hk
theorem zcx {h:Nat} {lo hi:Bd} {K:List Int} {B:List Nm} {e:List En} {L:Pg} (n:Node (Sb h) lo hi K B e L) (hc:∀ k∈B,1≤k.size∧k.size≤16):InR K B :=
 ⟨n.len,n.ids fun ⟨_,s⟩=>s.bounds.2,hc,n.up fun ⟨_,s⟩=>s.bounds.1⟩
theorem Sub.ndR {h:Nat} {lo hi:Bd} {id:Int} {es:List En} {L:Pg} {c:Nat} (s:Sub h lo hi id es L c):∃ n L',L.Perm ((id,n)::L')∧NdR n∧zbf n≤240:=by
 cases h with
 | zero =>
  obtain ⟨_,_,_,h1,_,h2,rfl,_⟩:=s
  exact ⟨_,[],.refl _,.leaf h1,h2⟩
 | succ h =>
  obtain ⟨_,_,K,B,L',n,h1,h2,h3,_⟩:=s
  exact ⟨_,L',h3,.inner (zcx n h2),h1⟩
theorem z2j {S:Bd→Bd→Int→List En→Pg→Prop} (hS:∀ {lo hi hi' k e L},hile hi hi'→S lo hi k e L→S lo hi' k e L) {lo hi hi':Bd} {K:List Int} {B:List Nm} {e:List En} {L:Pg} (w:hile hi hi') (h:zix S lo hi K B e L) :
  (K=[]∧B=[]∧e=[]∧L=[]∧lo=hi)∨zix S lo hi' K B e L:=by
 induction h with
 | nil=>exact .inl ⟨rfl,rfl,rfl,rfl,rfl⟩
 | cons h r ih =>
  right
  rcases ih w with ⟨rfl,rfl,rfl,rfl,rfl⟩ | r'
  ·exact .cons (hS w h) .nil
  ·exact .cons h r'
theorem Sub.wide:∀ {h:Nat} {lo hi lo' hi':Bd} {id:Int} {es:List En} {L:Pg} {c:Nat},lole lo' lo→hile hi hi'→Sub h lo hi id es L c→Sub h lo' hi' id es L c
 | 0,_,_,_,_,_,_,_,_,a,b,s=>⟨zze a (zjt b s.1),s.2.1,fun x hx=>⟨zq9 a (s.2.2.1 x hx).1,zms b (s.2.2.1 x hx).2⟩,s.2.2.2⟩
 | h+1,lo,hi,lo',hi',id,_,_,_,a,b,s=>by
  obtain ⟨s1,s2,K,B,L',n,s3⟩:=s
  refine ⟨zze a (zjt b s1),s2,K,B,L',?_,s3⟩
  obtain ⟨⟨c,h0⟩,r⟩:=n
  rcases z2j (S:=fun lo hi k e L=>∃ c,Sub h lo hi k e L c) (fun w ⟨c,s⟩=>⟨c,Sub.wide (ztr _) w s⟩) b r with ⟨rfl,rfl,rfl,rfl,rfl⟩ | r'
  ·exact .mk ⟨c,Sub.wide a b h0⟩ .nil
  ·exact .mk ⟨c,Sub.wide a (zjj _) h0⟩ r'
theorem z9l {S:Bd→Bd→Int→List En→Pg→Prop} {q:Nat} (hS:∀ {lo hi k e L},S lo hi k e L→1≤lvs L∧L.length≤lvs L*q) {lo hi:Bd} {K:List Int} {B:List Nm} {e:List En} {L:Pg} (h:zix S lo hi K B e L):L.length≤lvs L*q:=by
 induction h with
 | nil=>simp
 | cons h r ih =>
  have:=(hS h).2
  rw [List.length_append,zpb,Nat.add_mul]
  omega
theorem Sub.lvs:∀ {h:Nat} {lo hi:Bd} {id:Int} {es:List En} {L:Pg} {c:Nat},Sub h lo hi id es L c→1≤lvs L∧L.length≤Tb.lvs L*(h+1)
 | 0,_,_,_,_,_,_,s=>by
  obtain ⟨_,_,_,_,_,_,rfl,_⟩:=s
  simp [Tb.lvs,wl,lf]
 | h+1,_,_,_,_,_,_,s=>by
  obtain ⟨_,_,K,B,L',n,_,_,p,_⟩:=s
  obtain ⟨⟨c,h0⟩,r⟩:=n
  have e1:=xat p
  have e2:=p.length_eq
  have q1:=Sub.lvs h0
  have q2:=z9l (q:=h+1) (fun ⟨c,s⟩=>Sub.lvs s) r
  simp only [Tb.lvs,wl,Ky.inn,zpb,List.length_cons,List.length_append] at e1 e2
  rw [e1,e2]
  simp only [Bool.false_eq_true,if_false,Nat.zero_add]
  rw [show h+1+1=(h+1)+1 from rfl,Nat.mul_add,Nat.add_mul]
  omega
end Tb
namespace Tb
open Ky
theorem zf5 {a b:List En} (h:Right (a++b)):Right a∧Right b∧∀ x∈a,∀ y∈b,Md.nlt x.1 y.1=true:=by
 obtain ⟨h1,h2⟩:=h
 rw [List.pairwise_append] at h2
 exact ⟨⟨fun x hx=>h1 x (List.mem_append_left _ hx),h2.1⟩,⟨fun x hx=>h1 x (List.mem_append_right _ hx),h2.2.1⟩,h2.2.2⟩
theorem zqo {key:Nm} {E1 Ec E2:List En} (h1:∀ x∈E1,Md.nlt x.1 key=true) (h2:∀ x∈E2,Md.nlt key x.1=true):pos key (E1++(Ec++E2))=E1.length+pos key Ec:=by
 unfold pos
 rw [List.findIdx_append,if_neg,List.findIdx_append]
 ·split
  ·omega
  ·rename_i hn
   have hc:List.findIdx (fun x:En=>!Md.nlt x.1 key) Ec=Ec.length:=by
    have:=List.findIdx_le_length (p:=fun x:En=>!Md.nlt x.1 key) (xs:=Ec)
    omega
   have he:List.findIdx (fun x:En=>!Md.nlt x.1 key) E2=0:=by
    cases E2 with
    | nil=>rfl
    | cons x l =>
     rw [List.findIdx_cons]
     have:=ze6 (h2 x (List.mem_cons_self ..))
     simp [this]
   rw [hc,he];omega
 ·intro hc
  have hx:=List.findIdx_getElem (w:=hc)
  have:=h1 _ (List.getElem_mem hc)
  simp [this] at hx
theorem zmx {key:Nm} {E1 Ec E2:List En} (h1:∀ x∈E1,Md.nlt x.1 key=true) (h2:∀ x∈E2,Md.nlt key x.1=true):has key (E1++(Ec++E2))=has key Ec:=by
 unfold has
 rw [List.any_append,List.any_append]
 have a:E1.any (fun x=>decide (x.1=key))=false:=by
  rw [List.any_eq_false]
  intro x hx
  have:=h1 x hx
  simp only [decide_eq_true_eq]
  rintro rfl
  rw [zbp] at this;cases this
 have b:E2.any (fun x=>decide (x.1=key))=false:=by
  rw [List.any_eq_false]
  intro x hx
  have:=h2 x hx
  simp only [decide_eq_true_eq]
  rintro rfl
  rw [zbp] at this;cases this
 rw [a,b];simp
structure Loc (op:List En→List En) (P:List En→Prop) (key:Nm) (d:Nat):Prop where
 loc:∀ E1 Ec E2,(∀ x∈E1,Md.nlt x.1 key=true)→(∀ x∈E2,Md.nlt key x.1=true)→Right (E1++(Ec++E2))→op (E1++(Ec++E2))=E1++(op Ec++E2)
 ploc:∀ E1 Ec E2,(∀ x∈E1,Md.nlt x.1 key=true)→(∀ x∈E2,Md.nlt key x.1=true)→P (E1++(Ec++E2))→P Ec
 right:∀ E,Right E→Right (op E)
 keys:∀ E x,x∈op E→x∈E∨x.1=key
 size:∀ E,Right E→P E→Ky.size (op E)≤Ky.size E+d
 le:d≤58
theorem z5p {key:Nm} {E1 Ec E2:List En} (h1:∀ x∈E1,Md.nlt x.1 key=true) (h2:∀ x∈E2,Md.nlt key x.1=true) (hr:Right (E1++(Ec++E2))):Ky.get (E1++(Ec++E2)) key=Ky.get Ec key:=by
 unfold Ky.get
 rw [zmx h1 h2,zqo h1 h2]
 split
 ·rename_i hh
  have hc:Right Ec:=(zf5 (zf5 hr).2.1).1
  obtain ⟨hl,_⟩:=(zc1 hc).1 hh
  rw [List.getElem?_append_right (by omega),List.getElem?_append_left (by omega)]
  congr 2
  omega
 ·rfl
theorem zwp {key v:Nm} {E1 Ec E2:List En} (h1:∀ x∈E1,Md.nlt x.1 key=true) (h2:∀ x∈E2,Md.nlt key x.1=true) (hr:Right (E1++(Ec++E2))):put (E1++(Ec++E2)) key v=E1++(put Ec key v++E2):=by
 unfold put
 rw [zmx h1 h2,zqo h1 h2]
 have hle:=zmg key Ec
 split
 ·rename_i hh
  have hc:Right Ec:=(zf5 (zf5 hr).2.1).1
  obtain ⟨hl,_⟩:=(zc1 hc).1 hh
  rw [List.set_append_right _ _ (by omega),List.set_append_left _ _ (by omega)]
  congr 3
  omega
 ·rw [List.take_append,List.drop_append,List.take_of_length_le (by omega),List.drop_eq_nil_of_le (by omega),Nat.add_sub_cancel_left,List.take_append,List.drop_append]
  have:pos key Ec - Ec.length=0:=by omega
  rw [this]
  simp
theorem zxk {key:Nm} {E1 Ec E2:List En} (h1:∀ x∈E1,Md.nlt x.1 key=true) (h2:∀ x∈E2,Md.nlt key x.1=true) (hr:Right (E1++(Ec++E2))):del (E1++(Ec++E2)) key=E1++(del Ec key++E2):=by
 unfold del
 rw [zmx h1 h2,zqo h1 h2]
 have hle:=zmg key Ec
 split
 ·rename_i hh
  have hc:Right Ec:=(zf5 (zf5 hr).2.1).1
  obtain ⟨hl,_⟩:=(zc1 hc).1 hh
  rw [List.take_append,List.drop_append,List.take_of_length_le (by omega),List.drop_eq_nil_of_le (by omega),Nat.add_sub_cancel_left,List.take_append,List.drop_append]
  have:pos key Ec - Ec.length=0:=by omega
  rw [this]
  have e1:E1.length+pos key Ec+1 - E1.length=pos key Ec+1:=by omega
  rw [e1]
  have e2:pos key Ec+1 - Ec.length=0:=by omega
  rw [e2]
  simp
 ·rfl
theorem zme {key v:Nm} {l:List En} (hr:Right l) (hc:chk key v=0):Right (put l key v):=by
 unfold put
 split
 ·rename_i hh
  obtain ⟨hl,hk⟩:=(zc1 hr).1 hh
  refine ⟨fun x hx=>?_,?_⟩
  ·rcases List.mem_or_eq_of_mem_set hx with hx | rfl
   ·exact hr.1 x hx
   ·exact hc
  ·rw [List.pairwise_iff_getElem]
   intro i j hi hj hij
   have hp:=hr.2
   rw [List.pairwise_iff_getElem] at hp
   rw [List.length_set] at hi hj
   have:=hp i j hi hj hij
   rw [List.getElem_set,List.getElem_set]
   split
   ·rename_i e
    subst e
    rw [if_neg (by omega)]
    rw [hk] at this
    exact this
   ·split
    ·rename_i e
     subst e
     rw [hk] at this
     exact this
    ·exact this
 ·rename_i hh
  have hh:has key l=false:=by simpa using hh
  have hle:=zmg key l
  refine ⟨fun x hx=>?_,?_⟩
  ·rw [List.append_assoc] at hx
   rcases List.mem_append.1 hx with hx | hx
   ·exact hr.1 x (List.mem_of_mem_take hx)
   ·rcases List.mem_append.1 hx with hx | hx
    ·rw [List.mem_singleton] at hx;subst hx;exact hc
    ·exact hr.1 x (List.mem_of_mem_drop hx)
  ·have A:∀ x∈l.take (pos key l),Md.nlt x.1 key=true:=fun x hx=>by
    obtain ⟨i,hi,rfl⟩:=List.mem_iff_getElem.1 hx
    rw [List.length_take] at hi
    rw [List.getElem_take]
    exact zi9 (by omega) (by omega)
   have B:∀ x∈l.drop (pos key l),Md.nlt key x.1=true:=fun x hx=>by
    obtain ⟨i,hi,rfl⟩:=List.mem_iff_getElem.1 hx
    rw [List.length_drop] at hi
    have hlt:pos key l+i<l.length:=by omega
    rw [List.getElem_drop]
    have h1:=zo8 hr (key:=key) (j:=pos key l+i) hlt (by omega)
    cases h2:Md.nlt key (l[pos key l+i]).1 with
    | true=>rfl
    | false =>
     have:=zje h1 h2
     have h3:has key l=true:=by
      unfold has
      rw [List.any_eq_true]
      exact ⟨_,List.getElem_mem hlt,by simpa using this⟩
     rw [h3] at hh;cases hh
   rw [List.append_assoc,List.pairwise_append,List.pairwise_append]
   refine ⟨hr.2.sublist (List.take_sublist _ _),⟨List.pairwise_singleton _ _,hr.2.sublist (List.drop_sublist _ _),fun a ha b hb=>?_⟩,fun a ha b hb=>?_⟩
   ·rw [List.mem_singleton] at ha;subst ha;exact B b hb
   ·rcases List.mem_append.1 hb with hb | hb
    ·rw [List.mem_singleton] at hb;subst hb;exact A a ha
    ·exact zb3 (A a ha) (B b hb)
theorem zmf {key:Nm} {l:List En} (hr:Right l):Right (del l key):=by
 unfold del
 split
 ·have hs:(l.take (pos key l)++l.drop (pos key l+1)).Sublist l:=by
   conv=>rhs;rw [←List.take_append_drop (pos key l) l]
   exact List.Sublist.append (List.Sublist.refl _) (by
    rw [←List.drop_drop]
    exact List.drop_sublist _ _)
  exact ⟨fun x hx=>hr.1 x (hs.subset hx),hr.2.sublist hs⟩
 ·exact hr
theorem size_set {l:List En} {k:Nat} (hk:k<l.length) (y:En):size (l.set k y)+Ky.one l[k]=size l+Ky.one y:=by
 induction l generalizing k with
 | nil=>simp at hk
 | cons x l ih =>
  cases k with
  | zero=>simp only [List.set_cons_zero,size,List.getElem_cons_zero];omega
  | succ k =>
   have:=ih (k:=k) (by simpa using hk)
   simp only [List.set_cons_succ,size,List.getElem_cons_succ]
   omega
theorem size_put {key v:Nm} {l:List En} (hr:Right l):size (put l key v)≤size l+Ky.one (key,v):=by
 unfold put
 split
 ·rename_i hh
  obtain ⟨hl,hk⟩:=(zc1 hr).1 hh
  have:=size_set hl (key,v)
  omega
 ·have:size l=size (l.take (pos key l))+size (l.drop (pos key l)):=by rw [←size_append,List.take_append_drop]
  rw [size_append,size_append]
  simp only [size]
  omega
theorem size_del {key:Nm} {l:List En} (hr:Right l):size (del l key)≤size l:=by
 unfold del
 split
 ·rename_i hh
  obtain ⟨hl,hk⟩:=(zc1 hr).1 hh
  have e:size l=size (l.take (pos key l))+size (l.drop (pos key l)):=by rw [←size_append,List.take_append_drop]
  rw [List.drop_eq_getElem_cons hl] at e
  rw [size_append]
  simp only [size] at e
  omega
 ·omega
theorem z4g {key v:Nm} (hc:chk key v=0):Loc (fun l=>put l key v) (fun _=>True) key (Ky.one (key,v)) where
 loc:=fun _ _ _ h1 h2 hr=>zwp h1 h2 hr
 ploc:=fun _ _ _ _ _ _=>trivial
 right:=fun _ hr=>zme hr hc
 keys:=fun E x hx=>by
  unfold put at hx
  split at hx
  ·rcases List.mem_or_eq_of_mem_set hx with hx | rfl
   ·exact .inl hx
   ·exact .inr rfl
  ·rw [List.append_assoc] at hx
   rcases List.mem_append.1 hx with hx | hx
   ·exact .inl (List.mem_of_mem_take hx)
   ·rcases List.mem_append.1 hx with hx | hx
    ·rw [List.mem_singleton] at hx;subst hx;exact .inr rfl
    ·exact .inl (List.mem_of_mem_drop hx)
 size:=fun E hr _=>size_put hr
 le:=by have:=zjr hc;unfold Ky.one;simp only;omega
theorem xaz {key v:Nm} (hc:chk key v=0):Loc (fun l=>put l key v) (fun l=>has key l=true∧∀ x∈l,x.1=key→v.size≤x.2.size) key 0 where
 loc:=fun _ _ _ h1 h2 hr=>zwp h1 h2 hr
 ploc:=fun E1 Ec E2 h1 h2 hp=>⟨by rw [←zmx h1 h2];exact hp.1,fun x hx=>hp.2 x (by simp [hx])⟩
 right:=fun _ hr=>zme hr hc
 keys:=(z4g hc).keys
 size:=fun E hr hp=>by
  unfold put
  rw [if_pos hp.1]
  obtain ⟨hl,hk⟩:=(zc1 hr).1 hp.1
  have h1:=size_set hl (key,v)
  have h2:=hp.2 _ (List.getElem_mem hl) hk
  unfold Ky.one at h1
  rw [hk] at h1
  simp only at h1
  omega
 le:=by omega
theorem xff {key:Nm}:Loc (fun l=>del l key) (fun _=>True) key 0 where
 loc:=fun _ _ _ h1 h2 hr=>zxk h1 h2 hr
 ploc:=fun _ _ _ _ _ _=>trivial
 right:=fun _ hr=>zmf hr
 keys:=fun E x hx=>by
  unfold del at hx
  split at hx
  ·rcases List.mem_append.1 hx with hx | hx
   ·exact .inl (List.mem_of_mem_take hx)
   ·exact .inl (List.mem_of_mem_drop hx)
  ·exact .inl hx
 size:=fun E hr _=>by have:=size_del (key:=key) hr;omega
 le:=by omega
end Tb
namespace Tb
open Ky
theorem zbg {l:List Nm} (h:∀ k∈l,1≤k.size∧k.size≤16):6*l.length≤zah l∧zah l≤21*l.length:=by
 induction l with
 | nil=>simp [zah]
 | cons x l ih =>
  have:=ih fun y hy=>h y (List.mem_cons_of_mem _ hy)
  have:=h x (List.mem_cons_self ..)
  simp only [zah,List.length_cons]
  omega
theorem ztv {l m:List Nm} (h:l.Sublist m):zah l≤zah m:=by
 induction h with
 | slnil=>exact Nat.le_refl _
 | cons a _ ih=>simp only [zah];omega
 | cons_cons a _ ih=>simp only [zah];omega
inductive Part (h:Nat) (lo hi:Bd):List Int→List Nm→List En→Pg→Nat→Prop
 | none:Part h lo hi [] [] [] [] 0
 | one {k:Int} {e:List En} {L:Pg} {c:Nat} (s:Sub h lo hi k e L c):Part h lo hi [k] [] e L c
 | two {k1 k2:Int} {y:Nm} {e1 e2:List En} {L1 L2:Pg} {c1 c2:Nat} (s1:Sub h lo (some y) k1 e1 L1 c1) (s2:Sub h (some y) hi k2 e2 L2 c2) (hy:1≤y.size∧y.size≤16):Part h lo hi [k1,k2] [y] (e1++e2) (L1++L2) 2
structure Done (h:Nat) (lo hi:Bd) (c d:Nat) (L:Pg) (kids:List Int) (keys:List Nm) (es':List En) (L':Pg) (c':Nat):Prop where
 part:Part h lo hi kids keys es' L' c'
 rank:kids.length=1→min c' 12≤min c 12+min d 1
 grown:kids.length=2→12≤c∧0<d
 psi:psi L'≤Tb.psi L+d
 len:L'.length≤L.length+h+1
section
variable {op:List En→List En} {P:List En→Prop} {key:Nm} {d:Nat} {lo hi:Bd} {id:Int} {es:List En} {L:Pg} {c h:Nat}
theorem op_in (o:Loc op P key d) (hlo:ge lo key) (hhi:lt hi key) (hr:∀ x∈es,ge lo x.1∧lt hi x.1):∀ x∈op es,ge lo x.1∧lt hi x.1:=fun x hx=>by
 rcases o.keys es x hx with h | h
 ·exact hr x h
 ·rw [h];exact ⟨hlo,hhi⟩
theorem z4o:Done 0 lo hi c d L [] [] [] [] 0 :=
 ⟨.none,by simp,by simp,by simp [Tb.psi],by simp⟩
theorem xa6 (s:Sub 0 lo hi id es L c) (o:Loc op P key d) (hlo:ge lo key) (hhi:lt hi key) (hp:P es) (hn:op es≠[]) (hz:size (op es)≤240):Done 0 lo hi c d L [id] [] (op es) [(id,lf (op es))] 12:=by
 obtain ⟨s1,s2,s3,s4,s5,s6,rfl,rfl⟩:=s
 have:=o.size es s4 hp
 refine ⟨.one ⟨s1,s2,op_in o hlo hhi s3,o.right _ s4,hn,hz,rfl,rfl⟩,fun _=>by omega,by simp,?_,by simp⟩
 simp only [Tb.psi,wt,lf,if_true]
 omega
theorem one_le {x:En} (h:chk x.1 x.2=0):Ky.one x≤58∧3≤Ky.one x:=by
 have:=zjr h
 unfold Ky.one;omega
theorem zcj {l:List En} (h:∀ x∈l,chk x.1 x.2=0):3*l.length≤size l∧size l≤58*l.length:=by
 induction l with
 | nil=>simp [size]
 | cons x l ih =>
  have:=ih fun y hy=>h y (List.mem_cons_of_mem _ hy)
  have:=one_le (h x (List.mem_cons_self ..))
  simp only [size,List.length_cons]
  omega
theorem zpj {l:List En} {k:Nat} (hr:Right l) (hz:240<size l) (hz2:size l≤298) (hk:zp2 l k) :
  60≤size (l.take k)∧size (l.take k)≤240∧60≤size (l.drop k)∧size (l.drop k)≤240∧size (l.take k)+size (l.drop k)=size l:=by
 have e:size (l.take k)+size (l.drop k)=size l:=by rw [←size_append,List.take_append_drop]
 have hlen:=(zcj hr.1).2
 obtain ⟨h1,h2,h3,h4⟩:=hk
 obtain ⟨j,rfl⟩:∃ j,k=j+1:=⟨k - 1,by omega⟩
 rw [Nat.add_sub_cancel] at h4
 have ht:=size_take (l:=l) (k:=j) (by omega)
 have ho:=(one_le (hr.1 _ (List.getElem_mem (show j<l.length by omega)))).1
 rcases h4 with h4 | h4
 ·obtain rfl:j=0:=by omega
  rw [List.take_zero] at ht
  simp only [size] at ht
  rcases h3 with h3 | h3
  ·omega
  ·omega
 ·rcases h3 with h3 | h3
  ·have hd:size (l.drop (j+1))≤58:=by
    have e2:=(zcj (l:=l.drop (j+1)) fun x hx=>hr.1 x (List.mem_of_mem_drop hx)).2
    rw [List.length_drop] at e2
    have:l.length - (j+1)=1:=by omega
    rw [this] at e2
    omega
   omega
  ·omega
theorem xa5 (s:Sub 0 lo hi id es L c) (o:Loc op P key d) (hlo:ge lo key) (hhi:lt hi key) (hp:P es) (hz:240<size (op es)) {k:Nat} (hk:zp2 (op es) k) {id2:Int} (h2:zjx id2) :
  ∃ y v,(op es)[k]?=some (y,v)∧Done 0 lo hi c d L [id,id2] [y] (op es) [(id,lf ((op es).take k)),(id2,lf ((op es).drop k))] 2:=by
 obtain ⟨s1,s2,s3,s4,s5,s6,rfl,rfl⟩:=s
 have h0:=o.size es s4 hp
 have hle:=o.le
 have hr:=o.right _ s4
 have hin:=op_in o hlo hhi s3
 obtain ⟨z1,z2,z3,z4,z5⟩:=zpj hr hz (by omega) hk
 have hkl:=hk.high
 have hk1:=hk.low
 generalize op es=l at *
 have hy:=List.getElem?_eq_getElem hkl
 obtain ⟨y,v,hyv⟩:∃ y v,l[k]=(y,v):=⟨_,_,rfl⟩
 have hym:l[k]∈l:=List.getElem_mem hkl
 rw [hyv] at hym
 have q1:∀ x∈l.take k,Md.nlt x.1 y=true:=fun x hx=>by
  obtain ⟨i,hi,rfl⟩:=List.mem_iff_getElem.1 hx
  rw [List.length_take] at hi
  rw [List.getElem_take]
  have hp:=hr.2
  rw [List.pairwise_iff_getElem] at hp
  have:=hp i k (by omega) hkl (by omega)
  rw [hyv] at this
  exact this
 have q2:∀ x∈l.drop k,Md.nlt x.1 y=false:=fun x hx=>by
  obtain ⟨i,hi,rfl⟩:=List.mem_iff_getElem.1 hx
  rw [List.length_drop] at hi
  rw [List.getElem_drop]
  rcases Nat.eq_zero_or_pos i with rfl | hpos
  ·simp only [Nat.add_zero,hyv];exact zbp _
  ·have hp:=hr.2
   rw [List.pairwise_iff_getElem] at hp
   have:=hp k (k+i) hkl (by omega) (by omega)
   rw [hyv] at this
   exact ze6 this
 have hl0 : l[0]'(by omega) ∈ l.take k := by
  rw [List.mem_take_iff_getElem]
  exact ⟨0,by omega,rfl⟩
 have r1:Right (l.take k):=⟨fun x hx=>hr.1 x (List.mem_of_mem_take hx),hr.2.sublist (List.take_sublist _ _)⟩
 have r2:Right (l.drop k):=⟨fun x hx=>hr.1 x (List.mem_of_mem_drop hx),hr.2.sublist (List.drop_sublist _ _)⟩
 have hyc:=zjr (hr.1 _ hym)
 have hb1:blt lo (some y):=fun a b ha hb=>by
  cases hb
  exact zkn ((hin _ (List.mem_of_mem_take hl0)).1 a ha) (q1 _ hl0)
 have hb2:blt (some y) hi:=fun a b ha hb=>by
  cases ha
  exact (hin _ hym).2 b hb
 have S1:Sub 0 lo (some y) id (l.take k) [(id,lf (l.take k))] 12:=⟨hb1,s2,fun x hx=>⟨(hin x (List.mem_of_mem_take hx)).1,fun a ha=>by cases ha;exact q1 x hx⟩,r1,List.ne_nil_of_mem hl0,z2,rfl,rfl⟩
 have S2:Sub 0 (some y) hi id2 (l.drop k) [(id2,lf (l.drop k))] 12:=⟨hb2,h2,fun x hx=>⟨fun a ha=>by cases ha;exact q2 x hx,(hin x (List.mem_of_mem_drop hx)).2⟩,r2,by
  intro h
  have:=congrArg List.length h
  rw [List.length_drop,List.length_nil] at this
  omega,z4,rfl,rfl⟩
 refine ⟨y,v,by rw [hy,hyv],?_,by simp,fun _=>⟨by omega,by omega⟩,?_,by simp⟩
 ·have:=Part.two S1 S2 ⟨hyc.1,hyc.2.1⟩
  rw [List.take_append_drop] at this
  exact this
 ·simp only [Tb.psi,wt,lf,if_true]
  omega
end
def swK (K:List Int) (f t:Nat) (k':List Int):List Int:=K.take f++k'++K.drop t
def zlc (f:Nat) (k':List Int):Nat:=if k'=[]∧0<f then f - 1 else f
def zgt (n f t:Nat) (k':List Int):Nat:=if k'=[]∧f=0 then min t n else t - 1
def swB (B:List Nm) (f t:Nat) (k':List Int) (y':List Nm):List Nm:=B.take (zlc f k')++y'++B.drop (zgt B.length f t k')
section
variable {S:Bd→Bd→Int→List En→Pg→Prop}
theorem zli.inv {lo m:Bd} {K:List Int} {A:List Nm} {e:List En} {L:Pg} (h:zli S lo m K A e L):(K=[]∧A=[]∧e=[]∧L=[]∧m=lo) ∨
  ∃ K' k A' y e1 e2 L1 L2 a,m=some y∧K=K'++[k]∧A=A'++[y]∧zli S lo a K' A' e1 L1∧S a (some y) k e2 L2∧e=e1++e2∧L=L1++L2:=by
 by_cases hk:K=[]
 ·subst hk
  cases h with
  | nil=>exact .inl ⟨rfl,rfl,rfl,rfl,rfl⟩
 ·exact .inr (h.last hk)
theorem Node.at {lo hi:Bd} {K:List Int} {B:List Nm} {e:List En} {L:Pg} (h:Node S lo hi K B e L) (i:Nat) (hi':i<K.length) :
  ∃ a b e1 ec e2 L1 Lc L2,zli S lo a (K.take i) (B.take i) e1 L1∧S a b K[i] ec Lc∧zix S b hi (K.drop (i+1)) (B.drop i) e2 L2∧e=e1++(ec++e2)∧L=L1++(Lc++L2):=by
 obtain ⟨m,e1,e2,L1,L2,h1,h2,h3,h4⟩:=h.cut i hi'
 rw [List.drop_eq_getElem_cons hi'] at h2
 obtain ⟨g1,g2⟩:=h2
 exact ⟨m,_,e1,_,_,L1,_,_,h1,g1,g2,h3,h4⟩
theorem zli.low {lo m:Bd} {K:List Int} {A:List Nm} {e:List En} {L:Pg} (h:zli S lo m K A e L) {key:Nm} (hlo:ge lo key) (hk:∀ y∈A,Md.nlt key y=false):ge m key:=by
 rcases h.inv with ⟨_,_,_,_,rfl⟩ | ⟨K',k,A',y,e1,e2,L1,L2,a,rfl,rfl,rfl,_⟩
 ·exact hlo
 ·intro z hz
  cases hz
  exact hk y (by simp)
theorem zix.high {m hi:Bd} {K:List Int} {B:List Nm} {e:List En} {L:Pg} (h:zix S m hi K B e L) {key:Nm} (hhi:lt hi key) (hk:∀ y∈B,Md.nlt key y=true):lt m key:=by
 cases h with
 | nil=>exact hhi
 | cons h r =>
  intro z hz
  cases hz
  exact hk _ (by simp)
theorem zli.ahead (hS:∀ {lo hi k e L},S lo hi k e L→blt lo hi∧(∀ x∈e,ge lo x.1∧lt hi x.1)∧Right e) {lo m:Bd} {K:List Int} {A:List Nm} {e:List En} {L:Pg} (h:zli S lo m K A e L) {key:Nm} (hk:ge m key):∀ x∈e,Md.nlt x.1 key=true:=by
 have gen:∀ x∈e,lt m x.1:=by
  clear hk
  induction h with
  | nil=>simp
  | cons h r ih =>
   rename_i y _ m _ K A _ _ _ _
   intro x hx
   rcases List.mem_append.1 hx with hx | hx
   ·have h1:=((hS h).2.1 x hx).2
    rcases r.inv with ⟨rfl,rfl,rfl,rfl,rfl⟩ | ⟨K',k,A',y',e1,e2,L1,L2,a,rfl,rfl,rfl,r',s',_⟩
    ·exact h1
    ·have:hile (some y) (some y'):=by
      have gen2:∀ {lo m:Bd} {K:List Int} {A:List Nm} {e:List En} {L:Pg},zli S lo m K A e L→∀ y,lo=some y→∃ z,m=some z∧Md.nlt z y=false:=by
       intro lo m K A e L h
       induction h with
       | nil=>intro y hy;exact ⟨y,hy,zbp _⟩
       | cons h r ih =>
        intro y hy
        obtain ⟨z,hz,hzy⟩:=ih _ rfl
        exact ⟨z,hz,zh3 hzy (ze6 ((hS h).1 _ _ hy rfl))⟩
      obtain ⟨z,hz,hzy⟩:=gen2 r y rfl
      cases hz
      exact fun b hb=>⟨y,rfl,by cases hb;exact hzy⟩
     exact zms this h1
   ·exact ih x hx
 intro x hx
 rcases h.inv with ⟨_,_,rfl,_,_⟩ | ⟨K',k,A',y,e1,e2,L1,L2,a,rfl,_⟩
 ·simp at hx
 ·exact zb4 (gen x hx y rfl) (hk y rfl)
theorem zix.behind (hS:∀ {lo hi k e L},S lo hi k e L→blt lo hi∧(∀ x∈e,ge lo x.1∧lt hi x.1)∧Right e) {m hi:Bd} {K:List Int} {B:List Nm} {e:List En} {L:Pg} (h:zix S m hi K B e L) {key:Nm} (hk:lt m key):∀ x∈e,Md.nlt key x.1=true:=by
 intro x hx
 obtain ⟨z,rfl⟩:=h.start (.inl ⟨_,hx⟩)
 exact zb4 (hk z rfl) (((z2k hS h).1 x hx).1 z rfl)
theorem Node.split {lo hi:Bd} {K:List Int} {B:List Nm} {e:List En} {L:Pg} (h:Node S lo hi K B e L) (k:Nat) (h1:1≤k) (h2:k<K.length) :
  ∃ (hk:k - 1<B.length) (e1 e2:List En) (L1 L2:Pg),Node S lo (some B[k - 1]) (K.take k) (B.take (k - 1)) e1 L1∧Node S (some B[k - 1]) hi (K.drop k) (B.drop k) e2 L2∧e=e1++e2∧L=L1++L2:=by
 have hlen:=h.len
 obtain ⟨m,e1,e2,L1,L2,g1,g2,q1,q2⟩:=h.cut k h2
 have hk:k - 1<B.length:=by omega
 obtain ⟨K',k',A',y,f1,f2,M1,M2,a,rfl,p2,p3,p4,p5,rfl,rfl⟩:=g1.last (by
  intro h
  have:=congrArg List.length h
  rw [List.length_take,List.length_nil] at this
  omega)
 have hA:A'.length=k - 1:=by
  have:=congrArg List.length p3
  rw [List.length_take,List.length_append] at this
  simp only [List.length_singleton] at this
  omega
 have e3:B.take (k - 1)=A':=by
  have:=congrArg (List.take (k - 1)) p3
  rw [List.take_take,Nat.min_eq_left (by omega)] at this
  rw [this,List.take_append_of_le_length (by omega),List.take_of_length_le (by omega)]
 have e4:B[k - 1]=y:=by
  have:(B.take k)[k - 1]?=some y:=by rw [p3,List.getElem?_append_right (by omega)];simp [hA]
  rw [List.getElem?_take_of_lt (by omega),List.getElem?_eq_getElem hk] at this
  exact Option.some.inj this
 refine ⟨hk,f1++f2,e2,M1++M2,L2,?_,?_,q1,q2⟩
 ·rw [e3,e4,p2]
  have:=p4.node (.mk p5 .nil)
  simpa using this
 ·rw [e4];exact g2
end
theorem z1t {h:Nat} {lo hi a b:Bd} {K:List Int} {B:List Nm} {e1 e2:List En} {L1 L2:Pg} {i:Nat} (hi':i<K.length) (hlen:K.length=B.length+1)
  (g1:zli (Sb h) lo a (K.take i) (B.take i) e1 L1) (g2:zix (Sb h) b hi (K.drop (i+1)) (B.drop i) e2 L2) (hab:blt a b)
  {k':List Int} {y':List Nm} {e':List En} {L':Pg} {c':Nat} (p:Part h a b k' y' e' L' c') :
  (k'=[]∧K.length=1∧e1++(e'++e2)=[]∧L1++(L'++L2)=[]∧swK K i (i+1) k'=[]) ∨
  Node (Sb h) lo hi (swK K i (i+1) k') (swB B i (i+1) k' y') (e1++(e'++e2)) (L1++(L'++L2)):=by
 cases p with
 | none =>
  rcases g1.inv with ⟨p1,p2,rfl,rfl,rfl⟩ | ⟨K',kk,A',y,f1,f2,M1,M2,aa,rfl,p2,p3,p4,p5,rfl,rfl⟩
  ·have hi0:i=0:=by
    have:=congrArg List.length p1
    rw [List.length_take,List.length_nil] at this
    omega
   subst hi0
   generalize hB:B.drop 0=B0 at g2
   generalize hK:K.drop (0+1)=K0 at g2
   rw [List.drop_zero] at hB
   subst hB
   cases g2 with
   | nil =>
    left
    have:=congrArg List.length hK
    rw [List.length_drop,List.length_nil] at this
    refine ⟨rfl,by omega,rfl,rfl,?_⟩
    unfold swK
    rw [hK];rfl
   | cons s r =>
    right
    obtain ⟨c,s⟩:=s
    have w:Sb h a _ _ _ _:=⟨c,s.wide (zgj hab) (zjj _)⟩
    have:=Node.mk w r
    unfold swK swB zlc zgt
    simp only [List.take_zero,List.nil_append,hK,Nat.lt_irrefl,and_false,if_false,true_and,if_true,List.append_nil,List.length_cons]
    rw [Nat.min_eq_left (by omega)]
    simpa using this
  ·right
   obtain ⟨c,s⟩:=p5
   have hi1:0<i:=by
    have:=congrArg List.length p2
    rw [List.length_take,List.length_append,List.length_singleton] at this
    omega
   have hA:A'.length=i - 1:=by
    have:=congrArg List.length p3
    rw [List.length_take,List.length_append] at this
    simp only [List.length_singleton] at this
    omega
   have e3:B.take (i - 1)=A':=by
    have:=congrArg (List.take (i - 1)) p3
    rw [List.take_take,Nat.min_eq_left (by omega)] at this
    rw [this,List.take_append_of_le_length (by omega),List.take_of_length_le (by omega)]
   have w:Sb h aa b kk f2 M2:=⟨c,s.wide (ztr _) (zgl hab)⟩
   have:=p4.node (.mk w g2)
   unfold swK swB zlc zgt
   simp only [hi1,and_true,if_true,List.append_nil,true_and]
   rw [if_neg (by omega),Nat.add_sub_cancel,e3,p2,List.append_assoc,List.append_assoc,List.append_assoc]
   simpa using this
 | one s =>
  right
  have:=g1.node (.mk ⟨_,s⟩ g2)
  unfold swK swB zlc zgt
  simp only [reduceCtorEq,false_and,if_false,List.append_nil,Nat.add_sub_cancel]
  simpa using this
 | two s1 s2 hy =>
  right
  have:=g1.node (.mk ⟨_,s1⟩ (.cons ⟨_,s2⟩ g2))
  unfold swK swB zlc zgt
  simp only [reduceCtorEq,false_and,if_false,Nat.add_sub_cancel]
  simpa using this
theorem z1u {B:List Nm} {f t:Nat} {k':List Int} {y':List Nm} {y:Nm} (h:y∈swB B f t k' y'):y∈B∨y∈y':=by
 unfold swB at h
 rw [List.append_assoc] at h
 rcases List.mem_append.1 h with h | h
 ·exact .inl (List.mem_of_mem_take h)
 ·rcases List.mem_append.1 h with h | h
  ·exact .inr h
  ·exact .inl (List.mem_of_mem_drop h)
theorem zx6 {B:List Nm} {f t:Nat} {k':List Int} {y':List Nm} (h:zlc f k'≤zgt B.length f t k'):zah (swB B f t k' y')≤zah B+zah y':=by
 unfold swB
 rw [zbx,zbx]
 generalize zlc f k'=x at *
 generalize zgt B.length f t k'=z at *
 have e:zah B=zah (B.take x)+zah (B.drop x):=by rw [←zbx,List.take_append_drop]
 have e2:zah (B.drop z)≤zah (B.drop x):=by
  obtain ⟨m,rfl⟩:∃ m,z=x+m:=⟨z - x,by omega⟩
  rw [←List.drop_drop]
  exact ztv (List.drop_sublist _ _)
 omega
end Tb
namespace Tb
open Ky
structure Mid (h:Nat) (lo hi:Bd) (c d:Nat) (L:Pg) (kk:List Int) (bb:List Nm) (es':List En) (M:Pg):Prop where
 node:Node (Sb h) lo hi kk bb es' M
 chk:∀ k∈bb,1≤k.size∧k.size≤16
 size:zah bb≤257
 small:(kk.length≤c∧zah bb≤236)∨(0<d∧kk.length≤c+1)
 psi:psi M≤Tb.psi L+d
 len:M.length≤L.length+h
theorem zv8 (K:List Int) (f t:Nat) (k':List Int) (h:f≤t) (h2:t≤K.length):(swK K f t k').length=K.length - (t - f)+k'.length:=by
 unfold swK
 simp only [List.length_append,List.length_take,List.length_drop]
 omega
section
variable {d:Nat} {lo hi a b:Bd} {id:Int} {es:List En} {L:Pg} {c h:Nat}
theorem mid_of {K:List Int} {B:List Nm} {e1 e2:List En} {L1 Lc L2:Pg} {i:Nat} (hi':i<K.length) (hlen:K.length=B.length+1) (hK:c=K.length)
  (hz:4+zah B≤240) (hc:∀ k∈B,1≤k.size∧k.size≤16) (hL:L.Perm ((id,inn K B)::(L1++(Lc++L2))))
  (g1:zli (Sb h) lo a (K.take i) (B.take i) e1 L1) (g2:zix (Sb h) b hi (K.drop (i+1)) (B.drop i) e2 L2) (hab:blt a b)
  {k':List Int} {y':List Nm} {e':List En} {L':Pg} {c' cc:Nat} (p:Done h a b cc d Lc k' y' e' L' c') :
  (k'=[]∧e1++(e'++e2)=[]∧L1++(L'++L2)=[]∧swK K i (i+1) k'=[]∧swB B i (i+1) k' y'=[]) ∨
  Mid h lo hi c d L (swK K i (i+1) k') (swB B i (i+1) k' y') (e1++(e'++e2)) (L1++(L'++L2)):=by
 have hpart:=p.part
 have hlh:zlc i k'≤zgt B.length i (i+1) k':=by
  unfold zlc zgt
  split<;>split<;>omega
 have hB:=zx6 (B:=B) (f:=i) (t:=i+1) (k':=k') (y':=y') hlh
 have hkl:=zv8 K i (i+1) k' (by omega) (by omega)
 have hy:(∀ y∈y',1≤y.size∧y.size≤16)∧((k'.length≤1∧y'=[])∨(k'.length=2∧zah y'≤21)):=by
  cases hpart with
  | none=>simp
  | one s=>simp
  | two s1 s2 hy =>
   refine ⟨by simpa using hy,.inr ⟨rfl,?_⟩⟩
   simp only [zah];omega
 have hpl:=zlt hL
 have hll:=hL.length_eq
 have hp1:=p.psi
 have hp2:=p.len
 simp only [Tb.psi,wt,Ky.inn,zel,List.length_cons,List.length_append,Bool.false_eq_true,if_false] at hpl hll
 rcases z1t hi' hlen g1 g2 hab hpart with ⟨q1,q2,q3,q4,q5⟩ | q
 ·refine .inl ⟨q1,q3,q4,q5,?_⟩
  have:B.length=0:=by omega
  have hB0:=List.eq_nil_of_length_eq_zero this
  subst hB0
  subst q1
  cases hpart
  simp [swB]
 ·refine .inr ⟨q,fun y hy'=>?_,?_,?_,?_,?_⟩
  ·rcases z1u hy' with h | h
   ·exact hc y h
   ·exact hy.1 y h
  ·rcases hy.2 with ⟨_,rfl⟩ | ⟨_,hh⟩
   ·simp only [zah] at hB;omega
   ·omega
  ·rcases hy.2 with ⟨hk1,rfl⟩ | ⟨hk2,hh⟩
   ·simp only [zah] at hB
    exact .inl ⟨by omega,by omega⟩
   ·exact .inr ⟨(p.grown hk2).2,by omega⟩
  ·simp only [zel];omega
  ·simp only [List.length_append];omega
theorem zg7 {kk:List Int} {bb:List Nm} {M:Pg} (n:Node (Sb h) lo hi kk bb es M) (hid:zjx id) (hz:4+zah bb≤240) (hc:∀ k∈bb,1≤k.size∧k.size≤16) :
  Sub (h+1) lo hi id es ((id,inn kk bb)::M) kk.length :=
 ⟨(zqu (fun s=>s.inn) n).2.2,hid,kk,bb,M,n,hz,hc,.refl _,rfl⟩
variable {kk:List Int} {bb:List Nm} {M:Pg}
theorem xe7 (m:Mid h lo hi c d L kk bb es M) (hid:zjx id) (hz:4+zah bb≤240):Done (h+1) lo hi c d L [id] [] es ((id,inn kk bb)::M) kk.length:=by
 have hp:=m.psi
 have hl:=m.len
 refine ⟨.one (zg7 m.node hid hz m.chk),fun _=>?_,by simp,?_,?_⟩
 ·rcases m.small with ⟨h1,h2⟩ | ⟨h1,h2⟩<;>omega
 ·simp only [Tb.psi,wt,Ky.inn,Bool.false_eq_true,if_false];omega
 ·simp only [List.length_cons];omega
theorem z3y (m:Mid h lo hi c d L kk bb es M) (hid:zjx id) {id2:Int} (hid2:zjx id2) (hz:240<4+zah bb) :
  2≤kk.length∧∃ (hk:kk.length / 2 - 1<bb.length) (M1 M2:Pg),M=M1++M2∧1≤bb[kk.length / 2 - 1].size ∧
   InR (kk.take (kk.length / 2)) (bb.take (kk.length / 2 - 1))∧4+zah (bb.take (kk.length / 2 - 1))≤240∧InR (kk.drop (kk.length / 2)) (bb.drop (kk.length / 2))∧4+zah (bb.drop (kk.length / 2))≤240 ∧
   Done (h+1) lo hi c d L [id,id2] [bb[kk.length / 2 - 1]] es (((id,inn (kk.take (kk.length / 2)) (bb.take (kk.length / 2 - 1)))::M1)++((id2,inn (kk.drop (kk.length / 2)) (bb.drop (kk.length / 2)))::M2)) 2:=by
 have hlen:=m.node.len
 have hks:=zbg m.chk
 have hsz:=m.size
 have h13:13≤kk.length:=by omega
 have hp:=m.psi
 have hl:=m.len
 have hsm:=m.small
 have hck:=m.chk
 obtain ⟨hk,e1,e2,M1,M2,n1,n2,rfl,rfl⟩:=m.node.split (kk.length / 2) (by omega) (by omega)
 have hmem:bb[kk.length / 2 - 1]∈bb:=List.getElem_mem hk
 have hyc:=hck _ hmem
 have c1:∀ k∈bb.take (kk.length / 2 - 1),1≤k.size∧k.size≤16:=fun k hk=>hck k (List.mem_of_mem_take hk)
 have c2:∀ k∈bb.drop (kk.length / 2),1≤k.size∧k.size≤16:=fun k hk=>hck k (List.mem_of_mem_drop hk)
 have e:zah bb=zah (bb.take (kk.length / 2 - 1))+(5+bb[kk.length / 2 - 1].size)+zah (bb.drop (kk.length / 2)):=by
  have:=ztw (bb.take (kk.length / 2 - 1)) (bb.drop (kk.length / 2)) bb[kk.length / 2 - 1]
  rw [←this]
  congr 1
  have e0:=List.take_append_drop (kk.length / 2 - 1) bb
  rw [List.drop_eq_getElem_cons hk] at e0
  rw [show kk.length / 2 - 1+1=kk.length / 2 by omega] at e0
  exact e0.symm
 have k1:=zbg c1
 have k2:=zbg c2
 rw [List.length_take] at k1
 rw [List.length_drop] at k2
 have z1:4+zah (bb.take (kk.length / 2 - 1))≤240:=by omega
 have z2:4+zah (bb.drop (kk.length / 2))≤240:=by omega
 refine ⟨by omega,hk,M1,M2,rfl,hyc.1,zcx n1 c1,z1,zcx n2 c2,z2,.two (zg7 n1 hid z1 c1) (zg7 n2 hid2 z2 c2) hyc,by simp,fun _=>?_,?_,?_⟩
 ·rcases hsm with ⟨h1,h2⟩ | ⟨h1,h2⟩
  ·omega
  ·exact ⟨by omega,h1⟩
 ·simp only [zel] at hp
  simp only [zel,Tb.psi,wt,Ky.inn,Bool.false_eq_true,if_false]
  omega
 ·simp only [List.length_append] at hl
  simp only [List.length_append,List.length_cons]
  omega
theorem Node.two {S:Bd→Bd→Int→List En→Pg→Prop} (n:Node S lo hi kk bb es M) (j:Nat) (hj:j+1<kk.length) :
  ∃ (hb:j<bb.length) (a b:Bd) (e1 ea eb e2:List En) (L1 La Lb L2:Pg),zli S lo a (kk.take j) (bb.take j) e1 L1∧S a (some bb[j]) kk[j] ea La∧S (some bb[j]) b kk[j+1] eb Lb∧zix S b hi (kk.drop (j+2)) (bb.drop (j+1)) e2 L2∧es=e1++(ea++(eb++e2))∧M=L1++(La++(Lb++L2)):=by
 have hlen:=n.len
 have hb:j<bb.length:=by omega
 obtain ⟨a,b,e1,ec,e2,L1,Lc,L2,g1,g2,g3,q1,q2⟩:=n.at j (by omega)
 rw [List.drop_eq_getElem_cons hj,List.drop_eq_getElem_cons hb] at g3
 cases g3 with
 | cons s r=>exact ⟨hb,a,_,e1,ec,_,_,L1,Lc,_,_,g1,g2,s,r,q1,q2⟩
def zgk (a:Nd) (y:Nm) (b:Nd):Nd:=if a.leaf then lf (a.es++b.es) else inn (a.kids++b.kids) (a.keys++y::b.keys)
theorem z9c {y:Nm} {k1 k2:Int} {ea eb:List En} {La Lb:Pg} {c1 c2:Nat} (s1:Sub h a (some y) k1 ea La c1) (s2:Sub h (some y) b k2 eb Lb c2) (hy:1≤y.size∧y.size≤16) :
  ∃ na nb La' Lb',La.Perm ((k1,na)::La')∧Lb.Perm ((k2,nb)::Lb')∧na.leaf=nb.leaf∧NdR na∧NdR nb∧zbf na≤240∧zbf nb≤240∧NdR (zgk na y nb) ∧
   (zbf (zgk na y nb)≤240→∃ c,Sub h a b k1 (ea++eb) ((k1,zgk na y nb)::(La'++Lb')) c)∧Tb.psi ((k1,zgk na y nb)::(La'++Lb'))≤Tb.psi La+Tb.psi Lb:=by
 have hb:=z6r s1.bounds.1 s2.bounds.1
 cases h with
 | zero =>
  obtain ⟨p1,p2,p3,p4,p5,p6,rfl,rfl⟩:=s1
  obtain ⟨q1,q2,q3,q4,q5,q6,rfl,rfl⟩:=s2
  have hr:Right (ea++eb):=⟨fun x hx=>(List.mem_append.1 hx).elim (p4.1 x) (q4.1 x),by
   rw [List.pairwise_append]
   exact ⟨p4.2,q4.2,fun x hx z hz=>zb4 ((p3 x hx).2 y rfl) ((q3 z hz).1 y rfl)⟩⟩
  refine ⟨_,_,[],[],.refl _,.refl _,rfl,.leaf p4,.leaf q4,p6,q6,.leaf hr,fun hz=>⟨12,hb,p2,fun x hx=>?_,hr,by simp [p5],hz,rfl,rfl⟩,?_⟩
  ·rcases List.mem_append.1 hx with hx | hx
   ·exact ⟨(p3 x hx).1,zms (zgl q1) (p3 x hx).2⟩
   ·exact ⟨zq9 (zgj p1) (q3 x hx).1,(q3 x hx).2⟩
  ·simp only [zgk,lf,if_true,List.append_nil,Tb.psi,wt,size_append]
   omega
 | succ h =>
  obtain ⟨p1,p2,K1,B1,L1,n1,z1,ck1,pm1,rfl⟩:=s1
  obtain ⟨q1,q2,K2,B2,L2,n2,z2,ck2,pm2,rfl⟩:=s2
  have nn:=n1.left rfl n2
  have ckk:∀ k∈B1++y::B2,1≤k.size∧k.size≤16:=fun k hk=>by
   rcases List.mem_append.1 hk with hk | hk
   ·exact ck1 k hk
   ·rcases List.mem_cons.1 hk with rfl | hk
    ·exact hy
    ·exact ck2 k hk
  refine ⟨_,_,L1,L2,pm1,pm2,rfl,.inner (zcx n1 ck1),.inner (zcx n2 ck2),z1,z2,.inner (zcx nn ckk),fun hz=>⟨_,zg7 nn p2 hz ckk⟩,?_⟩
  rw [zlt pm1,zlt pm2]
  simp only [zgk,Ky.inn,Bool.false_eq_true,if_false,Tb.psi,wt,zel]
  omega
theorem xam {e1 ea eb e2:List En} {L1 La Lb L2 Ln:Pg} {j:Nat} (m:Mid h lo hi c d L kk bb (e1++(ea++(eb++e2))) (L1++(La++(Lb++L2)))) (hj:j+1<kk.length) {k:Int}
  (g1:zli (Sb h) lo a (kk.take j) (bb.take j) e1 L1) (g2:zix (Sb h) b hi (kk.drop (j+2)) (bb.drop (j+1)) e2 L2) (s:Sb h a b k (ea++eb) Ln) (hp:Tb.psi Ln≤Tb.psi La+Tb.psi Lb) (hl:Ln.length≤La.length+Lb.length) :
  Mid h lo hi c d L (swK kk j (j+2) [k]) (swB bb j (j+2) [k] []) (e1++(ea++(eb++e2))) (L1++(Ln++L2)):=by
 have hpm:=m.psi
 have hlm:=m.len
 have hB:=zx6 (B:=bb) (f:=j) (t:=j+2) (k':=[k]) (y':=[]) (by simp [zlc,zgt])
 have hkl:=zv8 kk j (j+2) [k] (by omega) (by omega)
 have nn:=g1.node (.mk s g2)
 simp only [zah] at hB
 have hsz:=m.size
 refine ⟨?_,fun y hy'=>?_,by omega,?_,?_,?_⟩
 ·unfold swK swB zlc zgt
  simp only [reduceCtorEq,false_and,if_false,List.append_nil]
  rw [show j+2 - 1=j+1 by omega]
  simpa using nn
 ·rcases z1u hy' with h | h
  ·exact m.chk y h
  ·simp at h
 ·simp only [List.length_singleton] at hkl
  rcases m.small with ⟨h1,h2⟩ | ⟨h1,h2⟩
  ·exact .inl ⟨by omega,by omega⟩
  ·exact .inr ⟨h1,by omega⟩
 ·simp only [zel] at hpm ⊢;omega
 ·simp only [List.length_append] at hlm ⊢;omega
end
def Tree (root:Int) (es:List En) (L:Pg) (g:Nat):Prop :=
 (root=0∧es=[]∧L=[])∨∃ h c,Sub h none none root es L c∧11*h+min c 12≤12+g
theorem Tree.right {root:Int} {es:List En} {L:Pg} {g:Nat} (t:Tree root es L g):Right es:=by
 rcases t with ⟨_,rfl,_⟩ | ⟨h,c,s,_⟩
 ·exact ⟨by simp,.nil⟩
 ·exact s.inn.2.2
theorem Sub.pos {h:Nat} {lo hi:Bd} {id:Int} {es:List En} {L:Pg} {c:Nat} (s:Sub h lo hi id es L c):1≤c:=by
 cases h with
 | zero=>obtain ⟨_,_,_,_,_,_,_,rfl⟩:=s;omega
 | succ h =>
  obtain ⟨_,_,K,B,L',n,_,_,_,rfl⟩:=s
  have:=n.len
  omega
theorem Tree.pages {root:Int} {es:List En} {L:Pg} {g:Nat} (t:Tree root es L g):60*L.length≤psi L*(g / 11+2):=by
 rcases t with ⟨_,_,rfl⟩ | ⟨h,c,s,hc⟩
 ·simp
 ·have h1:=s.lvs.2
  have h2:=xe0 L
  have hp:=s.pos
  have h3:h+1≤g / 11+2:=by omega
  calc 60*L.length≤60*(lvs L*(h+1)):=Nat.mul_le_mul_left _ h1
   _=60*lvs L*(h+1):=(Nat.mul_assoc _ _ _).symm
   _≤psi L*(h+1):=Nat.mul_le_mul_right _ h2
   _≤psi L*(g / 11+2):=Nat.mul_le_mul_left _ h3
theorem zq5 {h:Nat} {c d g:Nat} {L:Pg} {k1 k2:Int} {y:Nm} {es:List En} {L':Pg} {c':Nat} (p:Done h none none c d L [k1,k2] [y] es L' c') (hg:11*h+min c 12≤12+g) {id:Int} (hid:zjx id) :
  NdR (inn [k1,k2] [y])∧Sub (h+1) none none id es ((id,inn [k1,k2] [y])::L') 2∧11*(h+1)+min 2 12≤12+(g+min d 1):=by
 have hgr:=p.grown rfl
 obtain ⟨part,_,_,_,_⟩:=p
 cases part with
 | two s1 s2 hy =>
  have n:Node (Sb h) none none [k1,k2] [y] _ _:=.mk ⟨_,s1⟩ (by simpa using zix.cons (S:=Sb h) ⟨_,s2⟩ .nil)
  have ck:∀ k∈[y],1≤k.size∧k.size≤16:=by simpa using hy
  refine ⟨.inner (zcx n ck),zg7 n hid (by simp only [zah];omega) ck,by omega⟩
end Tb
namespace Tb
open Ky
def chd (key:Nm) (B:List Nm):Nat:=B.findIdx fun y=>Md.nlt key y
theorem zzc (key:Nm) (B:List Nm):chd key B≤B.length:=List.findIdx_le_length
theorem zuo {key:Nm} {B:List Nm} {j:Nat} (hj:j<B.length) (h:j<chd key B):Md.nlt key B[j]=false:=by
 have:=List.not_of_lt_findIdx h
 simpa using this
theorem zpt {key:Nm} {B:List Nm} (hu:B.Pairwise fun x y=>Md.nlt x y=true) {j:Nat} (hj:j<B.length) (h:chd key B≤j):Md.nlt key B[j]=true:=by
 have hc:chd key B<B.length:=by omega
 have h0:Md.nlt key (B[chd key B])=true:=List.findIdx_getElem (p:=fun y=>Md.nlt key y) (w:=hc)
 rcases Nat.lt_or_ge (chd key B) j with c | c
 ·rw [List.pairwise_iff_getElem] at hu
  exact zb3 h0 (hu _ _ hc hj c)
 ·obtain rfl:j=chd key B:=by omega
  exact h0
theorem z08 {key:Nm} {B:List Nm} (hu:B.Pairwise fun x y=>Md.nlt x y=true) {c:Nat} (hc:c≤B.length) (h1:∀ j (hj:j<B.length),j<c→Md.nlt key B[j]=false) (h2:∀ j (hj:j<B.length),c≤j→Md.nlt key B[j]=true):c=chd key B:=by
 rcases Nat.lt_trichotomy c (chd key B) with h | h | h
 ·have h3:=zzc key B
  have:=zuo (key:=key) (B:=B) (j:=c) (by omega) h
  rw [h2 c (by omega) (Nat.le_refl _)] at this
  cases this
 ·exact h
 ·have:=zpt hu (key:=key) (j:=chd key B) (by omega) (Nat.le_refl _)
  rw [h1 _ (by omega) h] at this
  cases this
theorem zzb {key:Nm} {B:List Nm}:∀ y∈B.take (chd key B),Md.nlt key y=false:=fun y hy=>by
 obtain ⟨i,hi,rfl⟩:=List.mem_iff_getElem.1 hy
 rw [List.length_take] at hi
 rw [List.getElem_take]
 exact zuo (by omega) (by omega)
theorem zzd {key:Nm} {B:List Nm} (hu:B.Pairwise fun x y=>Md.nlt x y=true):∀ y∈B.drop (chd key B),Md.nlt key y=true:=fun y hy=>by
 obtain ⟨i,hi,rfl⟩:=List.mem_iff_getElem.1 hy
 rw [List.length_drop] at hi
 rw [List.getElem_drop]
 exact zpt hu (by omega) (by omega)
theorem zza {h:Nat} {lo hi:Bd} {K:List Int} {B:List Nm} {es:List En} {L:Pg} {key:Nm} (n:Node (Sb h) lo hi K B es L) (hlo:ge lo key) (hhi:lt hi key) (hi':chd key B<K.length) :
  ∃ a b e1 ec e2 L1 Lc L2,zli (Sb h) lo a (K.take (chd key B)) (B.take (chd key B)) e1 L1∧Sb h a b K[chd key B] ec Lc∧zix (Sb h) b hi (K.drop (chd key B+1)) (B.drop (chd key B)) e2 L2∧es=e1++(ec++e2)∧L=L1++(Lc++L2) ∧
   ge a key∧lt b key∧(∀ x∈e1,Md.nlt x.1 key=true)∧∀ x∈e2,Md.nlt key x.1=true:=by
 have hu:=n.up fun ⟨_,s⟩=>s.bounds.1
 obtain ⟨a,b,e1,ec,e2,L1,Lc,L2,g1,g2,g3,q1,q2⟩:=n.at (chd key B) hi'
 have ha:=g1.low hlo zzb
 have hb:=g3.high hhi (zzd hu)
 exact ⟨a,b,e1,ec,e2,L1,Lc,L2,g1,g2,g3,q1,q2,ha,hb,g1.ahead (fun s=>s.inn) ha,g3.behind (fun s=>s.inn) hb⟩
end Tb
end Go.Proofs.YtfknjmoekbabcaaGreatDoor
namespace Go.Proofs.YtfknjmoekbabcaaGreatDoor
open Go.RowKit Go.Lib
theorem Sat.p1 {A1 X T:Asn} {w:World} (h:Sat ((A1*X)*T) w):Sat (A1*((X)*T)) w:=h.of_eq (by ac_rfl)
theorem Sat.p2 {A1 A2 X T:Asn} {w:World} (h:Sat ((A1*(A2*X))*T) w):Sat (A2*((A1*X)*T)) w:=h.of_eq (by ac_rfl)
theorem Sat.p3 {A1 A2 A3 X T:Asn} {w:World} (h:Sat ((A1*(A2*(A3*X)))*T) w):Sat (A3*((A1*(A2*X))*T)) w:=h.of_eq (by ac_rfl)
theorem Sat.p4 {A1 A2 A3 A4 X T:Asn} {w:World} (h:Sat ((A1*(A2*(A3*(A4*X))))*T) w):Sat (A4*((A1*(A2*(A3*X)))*T)) w:=h.of_eq (by ac_rfl)
theorem Sat.p5 {A1 A2 A3 A4 A5 X T:Asn} {w:World} (h:Sat ((A1*(A2*(A3*(A4*(A5*X)))))*T) w):Sat (A5*((A1*(A2*(A3*(A4*X))))*T)) w:=h.of_eq (by ac_rfl)
theorem Sat.push {A X T:Asn} {w:World} (h:Sat (A*(X*T)) w):Sat ((A*X)*T) w:=h.of_eq (zdn _ _ _).symm
theorem Sat.n1 {X T:Asn} {w:World} (h:Sat (X*T) w) (o:Obj):Sat ((pts w.heap.size o*X)*T) (w.alloc o):=(h.new o).push
theorem Sat.ze8 {A:Asn} {w:World} (h:Sat A w):Sat (emp*A) w:=h.of_eq (zcq A).symm
theorem za3 {A:Asn} {w:World} (h:Sat A w):Sat (A*emp) w:=h.of_eq (zlz A).symm
theorem Sat.drop2 {X P Q F:Asn} {w:World} (h:Sat (X*(P*(Q*F))) w):Sat (X*F) w:=(h.of_eq (show X*(P*(Q*F))=P*(Q*(X*F)) from by ac_rfl)).right.right
theorem Sat.sw {X P Q:Asn} {w:World} (h:Sat (X*(P*Q)) w):Sat (P*(X*Q)) w:=h.of_eq (by ac_rfl)
theorem Sat.sw2 {X P Q S:Asn} {w:World} (h:Sat (X*(P*(Q*S))) w):Sat (Q*(X*(P*S))) w:=h.of_eq (by ac_rfl)
theorem zaj {A:Asn} {W w0:World} {p:Program} {f:FuncId} {args:Array Value} {R:Ending→World→Prop} (h:Sat A W) (i:Io w0 W) (k:Sat A W→Io w0 W→Calls p f args W R):Calls p f args W R:=k h i
theorem heap_alloc (w:World) (o:Obj):(w.alloc o).heap.size=w.heap.size+1:=World.size_alloc w o
theorem zaf {α:Type} {enc:α→List Value} {sz:Nat} {e:TypeId} {v:Value} {l:List α} {F:Asn} {w:World} (H:Sat (RowOf e sz enc v l*F) w):∃ a n c,v=.slice a n c:=by
 obtain ⟨a,c,h⟩:=zh1 H
 exact ⟨a,_,c,h⟩
theorem zmv {W:World} {b:Nat} {x y z u:Value} {o:Obj} (h:W.cell? ⟨b,0,none⟩=some x∧W.cell? ⟨b,1,none⟩=some y∧W.cell? ⟨b,2,none⟩=some z∧W.cell? ⟨b,3,none⟩=some u) :
  (W.alloc o).cell? ⟨b,0,none⟩=some x∧(W.alloc o).cell? ⟨b,1,none⟩=some y∧(W.alloc o).cell? ⟨b,2,none⟩=some z∧(W.alloc o).cell? ⟨b,3,none⟩=some u:=by
 obtain ⟨h0,h1,h2,h3⟩:=h
 simp [h0,h1,h2,h3,World.cell?_alloc_some]
theorem zpi {W:World} {b:Nat} {x y z u:Value} {o:Obj} (h:W.drew.cell? ⟨b,0,none⟩=some x∧W.drew.cell? ⟨b,1,none⟩=some y∧W.drew.cell? ⟨b,2,none⟩=some z∧W.drew.cell? ⟨b,3,none⟩=some u) :
  (W.alloc o).drew.cell? ⟨b,0,none⟩=some x∧(W.alloc o).drew.cell? ⟨b,1,none⟩=some y∧(W.alloc o).drew.cell? ⟨b,2,none⟩=some z∧(W.alloc o).drew.cell? ⟨b,3,none⟩=some u:=zmv (W:=W.drew) h
theorem zj9 {W:World} {b:Nat} {x y z u p q r s:Value} (h:W.cell? ⟨b,0,none⟩=some x∧W.cell? ⟨b,1,none⟩=some y∧W.cell? ⟨b,2,none⟩=some z∧W.cell? ⟨b,3,none⟩=some u) :
  ((((W.setCell ⟨b+1,0,none⟩ p).setCell ⟨b+1,1,none⟩ q).setCell ⟨b+1,2,none⟩ r).setCell ⟨b+1,3,none⟩ s).cell? ⟨b,0,none⟩=some x ∧
  ((((W.setCell ⟨b+1,0,none⟩ p).setCell ⟨b+1,1,none⟩ q).setCell ⟨b+1,2,none⟩ r).setCell ⟨b+1,3,none⟩ s).cell? ⟨b,1,none⟩=some y ∧
  ((((W.setCell ⟨b+1,0,none⟩ p).setCell ⟨b+1,1,none⟩ q).setCell ⟨b+1,2,none⟩ r).setCell ⟨b+1,3,none⟩ s).cell? ⟨b,2,none⟩=some z ∧
  ((((W.setCell ⟨b+1,0,none⟩ p).setCell ⟨b+1,1,none⟩ q).setCell ⟨b+1,2,none⟩ r).setCell ⟨b+1,3,none⟩ s).cell? ⟨b,3,none⟩=some u:=by
 obtain ⟨h0,h1,h2,h3⟩:=h
 simp [h0,h1,h2,h3,World.cell?_setCell_far]
theorem Sat.drop1 {X Q F:Asn} {w:World} (h:Sat (X*(Q*F)) w):Sat (X*F) w:=(h.of_eq (show X*(Q*F)=Q*(X*F) from by ac_rfl)).right
theorem zd7 {b:Nat} {x y z u:Value} {t:TypeId} {G:Asn} {w:World} (H:Sat (pts b (.cells #[x,y,z,u] t (0,0))*G) w):w.frozen? ⟨b,0,none⟩=false∧w.frozen? ⟨b,1,none⟩=false∧w.frozen? ⟨b,2,none⟩=false∧w.frozen? ⟨b,3,none⟩=false :=
 ⟨Sat.free H.left.at 0,Sat.free H.left.at 1,Sat.free H.left.at 2,Sat.free H.left.at 3⟩
theorem Sat.cells4 {b:Nat} {x y z u x' y' z' u':Value} {t:TypeId} {G:Asn} {w:World} (H:Sat (pts b (.cells #[x,y,z,u] t (0,0))*G) w) :
  Sat (pts b (.cells #[x',y',z',u'] t (0,0))*G) ((((w.setCell ⟨b,0,none⟩ x').setCell ⟨b,1,none⟩ y').setCell ⟨b,2,none⟩ z').setCell ⟨b,3,none⟩ u') :=
 ((((H.cell 0 x').cell 1 y').cell 2 z').cell 3 u')
section
variable {F:Asn} {w:World} {R:Ending→World→Prop}
theorem z04 {n:Ky.Nd} {v:Value} (hv:NdV F v n) (hl:n.es.length≤5000∧n.kids.length≤5000∧n.keys.length≤5000) (H:Sat F w) (h:∀ G v' w',NdV G v' n→Sat (G*F) w'→Io w w'→R (.returned v') w') :
  Calls Tryz.prog 145 #[v] w R:=by
 obtain ⟨leaf,es,kids,keys⟩:=n
 obtain ⟨se,sk,sx,rfl,⟨h1,h2⟩,⟨h3,h4⟩,h5,h6⟩:=hv
 dsimp only at h1 h2 h3 h4 h5 h6 hl ⊢
 obtain ⟨a1,c1,rfl,m1⟩:=zab h1
 obtain ⟨a3,c3,rfl,m3⟩:=zab h3
 obtain ⟨a5,c5,rfl,m5⟩:=zab h5
 have HH:=L_ h
 obtain ⟨n1,hn1⟩:∃ n,n=es.length:=⟨_,rfl⟩
 obtain ⟨n3,hn3⟩:∃ n,n=kids.length:=⟨_,rfl⟩
 obtain ⟨n5,hn5⟩:∃ n,n=keys.length:=⟨_,rfl⟩
 rw [←hn1] at h1
 rw [←hn3] at h3
 rw [←hn5] at h5
 simp only [←hn1,←hn3,←hn5]
 have L1:Hid (es.length≤10000):=L_ (by omega)
 have L3:Hid (kids.length≤10000):=L_ (by omega)
 have L5:Hid (keys.length≤10000):=L_ (by omega)
 have P1:=L_ h1
 have P3:=L_ h3
 have P5:=L_ h5
 clear h h1 h2 h3 h4 h5 h6 hl m1 m3 m5 hn1 hn3 hn5
 have I:=((Io.refl w).alloc (.cells #[.bool leaf,.slice a1 n1 c1,.slice a3 n3 c3,.slice a5 n5 c5] 151)).alloc (.cells #[.bool false,.slice none 0 0,.slice none 0 0,.slice none 0 0] 151)
 have H3:=((H.new (.cells #[.bool leaf,.slice a1 n1 c1,.slice a3 n3 c3,.slice a5 n5 c5] 151)).new (.cells #[.bool false,.slice none 0 0,.slice none 0 0,.slice none 0 0] 151)).ze8
 rw [heap_alloc] at H3
 go_enter Tryz.func145,Tryz.ntmps145
 go_wp2_with fail
 generalize ((w.alloc _).alloc _)=w2 at *
 generalize hb1:w.heap.size=b1 at *
 have Zu:=nd4 H3.right.right
 replace I:=I.drew
 replace H3:=H3.drew
 have Z:=nd4 H3.right.right
 have Y:=nd4 H3.right
 have Yf:=zd7 H3.right
 have H':=H3
 clear H H3
 have H:=H'
 clear H'
 go_region_held3 (fun W=>W.cell? ⟨b1,0,none⟩=some (.bool leaf)∧W.cell? ⟨b1,1,none⟩=some (.slice a1 n1 c1)∧W.cell? ⟨b1,2,none⟩=some (.slice a3 n3 c3)∧W.cell? ⟨b1,3,none⟩=some (.slice a5 n5 c5)) ((with_reducible (first | exact Z | (refine zpi ?_;assumption) | (refine zmv ?_;assumption) | (refine zj9 ?_;assumption)))) ((first
  | (go_at_call 147;(with_reducible (first | refine zaj H I (fun HS IS=>?_) | refine zaj (H.n1 _) (I.alloc _) (fun HS IS=>?_) | refine zaj ((H.n1 _).n1 _) ((I.alloc _).alloc _) (fun HS IS=>?_) | refine zaj (((H.n1 _).n1 _).n1 _) (((I.alloc _).alloc _).alloc _) (fun HS IS=>?_) | refine zaj ((((H.n1 _).n1 _).n1 _).n1 _) ((((I.alloc _).alloc _).alloc _).alloc _) (fun HS IS=>?_)));(try simp only [heap_alloc,Nat.add_assoc,Nat.reduceAdd] at HS);(with_reducible (first | refine za0 (P1.out.imp (fun _ hw=>hw.right.right.right)) L1.out HS.p1 ?_ | refine za0 (P1.out.imp (fun _ hw=>hw.right.right.right)) L1.out HS.p2 ?_ | refine za0 (P1.out.imp (fun _ hw=>hw.right.right.right)) L1.out HS.p3 ?_ | refine za0 (P1.out.imp (fun _ hw=>hw.right.right.right)) L1.out HS.p4 ?_ | refine za0 (P1.out.imp (fun _ hw=>hw.right.right.right)) L1.out HS.p5 ?_ | refine za0 (P1.out.imp (fun _ hw=>hw.right.right.right)) L1.out HS.p6 ?_ | refine za0 (P1.out.imp (fun _ hw=>hw.right.right.right)) L1.out HS.p7 ?_ | refine za0 (P1.out.imp (fun _ hw=>hw.right.right.right)) L1.out HS.p8 ?_));clear H I Z Y Yf;(try clear Zu);intro vE wE H5 I5;obtain ⟨aE,mE,cE,rfl⟩:=zaf H5;have RE:=L_ (Reads.zau (za3 H5.left) (by have:=L1.out;omega));have SE:=L_ (za2 H5);have H:=H5.push;have I:=IS.trans I5;clear H5 I5 HS IS;have Z:=nd4 H.right.right;have Y:=nd4 H.right;have Yf:=zd7 H.right)
  | (go_at_call 148;(with_reducible (first | refine zaj H I (fun HS IS=>?_) | refine zaj (H.n1 _) (I.alloc _) (fun HS IS=>?_) | refine zaj ((H.n1 _).n1 _) ((I.alloc _).alloc _) (fun HS IS=>?_) | refine zaj (((H.n1 _).n1 _).n1 _) (((I.alloc _).alloc _).alloc _) (fun HS IS=>?_) | refine zaj ((((H.n1 _).n1 _).n1 _).n1 _) ((((I.alloc _).alloc _).alloc _).alloc _) (fun HS IS=>?_)));(try simp only [heap_alloc,Nat.add_assoc,Nat.reduceAdd] at HS);(with_reducible (first | refine zb8 (P3.out.imp (fun _ hw=>hw.right.right.right)) L3.out HS.p1 ?_ | refine zb8 (P3.out.imp (fun _ hw=>hw.right.right.right)) L3.out HS.p2 ?_ | refine zb8 (P3.out.imp (fun _ hw=>hw.right.right.right)) L3.out HS.p3 ?_ | refine zb8 (P3.out.imp (fun _ hw=>hw.right.right.right)) L3.out HS.p4 ?_ | refine zb8 (P3.out.imp (fun _ hw=>hw.right.right.right)) L3.out HS.p5 ?_ | refine zb8 (P3.out.imp (fun _ hw=>hw.right.right.right)) L3.out HS.p6 ?_ | refine zb8 (P3.out.imp (fun _ hw=>hw.right.right.right)) L3.out HS.p7 ?_ | refine zb8 (P3.out.imp (fun _ hw=>hw.right.right.right)) L3.out HS.p8 ?_));clear H I Z Y Yf;(try clear Zu);intro vN wN H5 I5;obtain ⟨aN,mN,cN,rfl⟩:=zaf H5;have RN:=L_ (Reads.zau (za3 H5.left) (by have:=L3.out;omega));have SN:=L_ (za2 H5);have H:=H5.push;have I:=IS.trans I5;clear H5 I5 HS IS;have Z:=nd4 H.right.right;have Y:=nd4 H.right;have Yf:=zd7 H.right)
  | (go_at_call 149;(with_reducible (first | refine zaj H I (fun HS IS=>?_) | refine zaj (H.n1 _) (I.alloc _) (fun HS IS=>?_) | refine zaj ((H.n1 _).n1 _) ((I.alloc _).alloc _) (fun HS IS=>?_) | refine zaj (((H.n1 _).n1 _).n1 _) (((I.alloc _).alloc _).alloc _) (fun HS IS=>?_) | refine zaj ((((H.n1 _).n1 _).n1 _).n1 _) ((((I.alloc _).alloc _).alloc _).alloc _) (fun HS IS=>?_)));(try simp only [heap_alloc,Nat.add_assoc,Nat.reduceAdd] at HS);(with_reducible (first | refine zb7 (P5.out.imp (fun _ hw=>hw.right.right.right)) L5.out HS.p1 ?_ | refine zb7 (P5.out.imp (fun _ hw=>hw.right.right.right)) L5.out HS.p2 ?_ | refine zb7 (P5.out.imp (fun _ hw=>hw.right.right.right)) L5.out HS.p3 ?_ | refine zb7 (P5.out.imp (fun _ hw=>hw.right.right.right)) L5.out HS.p4 ?_ | refine zb7 (P5.out.imp (fun _ hw=>hw.right.right.right)) L5.out HS.p5 ?_ | refine zb7 (P5.out.imp (fun _ hw=>hw.right.right.right)) L5.out HS.p6 ?_ | refine zb7 (P5.out.imp (fun _ hw=>hw.right.right.right)) L5.out HS.p7 ?_ | refine zb7 (P5.out.imp (fun _ hw=>hw.right.right.right)) L5.out HS.p8 ?_));clear H I Z Y Yf;(try clear Zu);intro vT wT H5 I5;obtain ⟨aT,mT,cT,rfl⟩:=zaf H5;have RT:=L_ (Reads.zau (za3 H5.left) (by have:=L5.out;omega));have ST:=L_ (za2 H5);have H:=H5.push;have I:=IS.trans I5;clear H5 I5 HS IS;have Z:=nd4 H.right.right;have Y:=nd4 H.right;have Yf:=zd7 H.right)))
 all_goals (
  obtain ⟨y0,y1,y2,y3⟩:=Y
  obtain ⟨f0,f1,f2,f3⟩:=Yf
  go_wp2_with fail
  have K:=(H.sw).cells4 (x':=.bool leaf) (y':=.slice aE mE cE) (z':=.slice aN mN cN) (u':=.slice aT mT cT)
  have J:=(((I.setCell ⟨b1+1,0,none⟩ (.bool leaf)).setCell ⟨b1+1,1,none⟩ (.slice aE mE cE)).setCell ⟨b1+1,2,none⟩ (.slice aN mN cN)).setCell ⟨b1+1,3,none⟩ (.slice aT mT cT)
  clear H I Z y0 y1 y2 y3 f0 f1 f2 f3
  generalize ((((wT.setCell ⟨b1+1,0,none⟩ (.bool leaf)).setCell ⟨b1+1,1,none⟩ (.slice aE mE cE)).setCell ⟨b1+1,2,none⟩ (.slice aN mN cN)).setCell ⟨b1+1,3,none⟩ (.slice aT mT cT))=W at *
  obtain ⟨y0,y1,y2,y3⟩:=nd4 K
  exact bodyPost_ret (v:=.agg #[.bool leaf,.slice aE mE cE,.slice aN mN cN,.slice aT mT cT]) (by simp [results,Tryz.results145,go_sem,y0,y1,y2,y3]) rfl (HH.out _ _ _ ⟨_,_,_,rfl,⟨RE.out.imp (fun _ hw=>za3 hw.right.right.left),SE.out⟩,⟨RN.out.imp (fun _ hw=>za3 hw.right.left),SN.out⟩,RT.out.imp (fun _ hw=>za3 hw.left),ST.out⟩ K.right.drop1 J))
end
namespace Ky
def p4 (n:Int):Nm:=tx (be 4 n.toNat)
theorem zb6 (n:Int):(p4 n).size=4:=by unfold p4;rw [zl1,z6w];rfl
def ziw:List Nm→List Int→Nm
 | k::l,c::m=>txt k++(p4 c++ziw l m)
 | _,_=>⟨#[]⟩
def zg9 (n:Nd):Nm:=if n.leaf then zga n.es else match n.kids with
 | c::m=>p4 c++ziw n.keys m
 | []=>⟨#[]⟩
theorem z5z (es:List En):zg9 (lf es)=zga es:=rfl
theorem z0w (c:Int) (m:List Int) (keys:List Nm):zg9 (inn (c::m) keys)=p4 c++ziw keys m:=rfl
theorem z5y {l:List Nm} {m:List Int} {k:Nat} (hl:k<l.length) (hm:k<m.length):ziw (l.drop k) (m.drop k)=txt l[k]++(p4 m[k]++ziw (l.drop (k+1)) (m.drop (k+1))):=by
 rw [List.drop_eq_getElem_cons hl,List.drop_eq_getElem_cons hm]
 rfl
theorem zug:∀ {l:List Nm} {m:List Int} {k:Nat} (hl:k<l.length) (hm:k<m.length),ziw (l.take (k+1)) (m.take (k+1))=ziw (l.take k) (m.take k)++(txt l[k]++p4 m[k])
 | x::l,y::m,0,_,_=>by simp [ziw,nil_add,add_nil]
 | x::l,y::m,k+1,hl,hm=>by
  have ih:=zug (l:=l) (m:=m) (k:=k) (by simpa using hl) (by simpa using hm)
  rw [List.take_succ_cons,List.take_succ_cons,List.take_succ_cons,List.take_succ_cons]
  simp only [ziw,ih,List.getElem_cons_succ]
  rw [zia,zia]
theorem zjn:∀ {l:List Nm} {m:List Int},l.length=m.length→(ziw l m).size=zah l
 | [],[],_=>rfl
 | x::l,y::m,h=>by
  have ih:=zjn (l:=l) (m:=m) (by simpa using h)
  simp only [ziw,ByteArray.size_append,zee,zb6,ih,zah]
  omega
theorem zey {n:Nd} (h:NdR n):(zg9 n).size=zbf n:=by
 cases h with
 | leaf h=>rw [z5z,zm2];rfl
 | @inner kids keys h =>
  obtain ⟨c,m,rfl⟩:∃ c m,kids=c::m:=by
   cases kids with
   | nil=>have:=h.len;simp at this
   | cons c m=>exact ⟨c,m,rfl⟩
  rw [z0w,ByteArray.size_append,zb6,zjn (by have:=h.len;simpa using this.symm)]
  rfl
def kind (n:Nd):Int:=if n.leaf then 1 else 2
end Ky
section
variable {F:Asn} {w:World} {R:Ending→World→Prop}
theorem ztj {es:List Ky.En} {v:Value} (hr:Ky.Right es) (hz:Ky.size es≤240) (hv:NdV F v (Ky.lf es)) (hl:es.length≤5000) (H:Sat F w) (h:∀ w',Sat F w'→Io w w'→R (.returned (.tuple #[.int .u8 1,.string (Ky.zga es),.int .i64 0])) w') :
  Calls Tryz.prog 151 #[v] w R:=by
 obtain ⟨se,sk,sx,rfl,hh⟩:=id hv
 dsimp only [Ky.lf] at hh
 obtain ⟨⟨h1,h2⟩,h34,h56⟩:=hh
 have HV:=L_ hv
 have HR:=L_ hr
 have P1:=L_ h1
 have HH:=L_ h
 have HD:Hid (true=decide (Ky.zbf (Ky.lf es)≤240)):=L_ (decide_eq_true hz).symm
 clear h hv h1 h2 h34 h56 hr
 have H1:=H.new (.cells #[.bool true,se,sk,sx] 151)
 have I1:=io1 H1 (Io.refl w)
 obtain ⟨q0,q1,q2,q3⟩:=nd4 H1
 go_enter Tryz.func151,Tryz.ntmps151
 go_wp2_with (first
  | (go_at_call 144;refine zdr (.leaf HR.out) HV.out.with ⟨hl,Nat.zero_le _⟩ H1 ?_;intro w2 H2 I2;obtain ⟨q0,q1,q2,q3⟩:=nd4 H2)
  | (go_at_call 155;refine zf7 (.leaf HR.out) HV.out.with ⟨hl,Nat.zero_le _⟩ H2 HD ?_;intro w3 H3 I3;obtain ⟨q0,q1,q2,q3⟩:=nd4 H3)
  | (go_at_call 170;refine zpm HR.out P1.out.with hl H3 (L_ rfl) ?_;intro w4 H4 I4))
 exact bodyPost_ret (v:=.tuple #[.int .u8 1,.string (Ky.zga es),.int .i64 0]) (by simp [results,Tryz.results151,go_sem]) rfl (HH.out _ H4.right (((I1.trans I2).trans I3).trans I4))
theorem ztd (m:Nat):Ky.p4 (m:Int)=tx (be 4 m):=by unfold Ky.p4;rw [Int.toNat_natCast]
theorem zqv {c0:Int} {kt:List Int} {keys:List Ky.Nm} {v:Value} (hr:Ky.InR (c0::kt) keys) (hz:4+Ky.zah keys≤240) (hv:NdV F v (Ky.inn (c0::kt) keys)) (hl:kt.length≤4000) (H:Sat F w) (h:∀ w',Sat F w'→Io w w'→R (.returned (.tuple #[.int .u8 2,.string (Ky.p4 c0++Ky.ziw keys kt),.int .i64 0])) w') :
  Calls Tryz.prog 151 #[v] w R:=by
 have HV:=L_ hv
 obtain ⟨se,sk,sx,rfl,hh⟩:=hv
 dsimp only [Ky.inn] at hh
 obtain ⟨h12,⟨h3,h4⟩,h5,h6⟩:=hh
 obtain ⟨a3,c3,rfl,m3⟩:=zab h3
 obtain ⟨a5,c5,rfl,m5⟩:=zab h5
 have HR:=L_ hr
 have P3:=L_ (fun k hk=>zgi h3 k hk)
 have P5:=L_ (fun k hk=>zdq h5 k hk)
 have HH:=L_ h
 have HD:Hid (true=decide (Ky.zbf (Ky.inn (c0::kt) keys)≤240)):=L_ (decide_eq_true hz).symm
 have HLK:Hid (kt.length=keys.length):=L_ (by have:=hr.len;simpa using this)
 have HC:=L_ hr.chk
 have HI:=L_ hr.ids
 have hle:Hid (((c0::kt).length≤5000)):=L_ (by rw [List.length_cons];omega)
 have HB:Hid (∀ k,k≤keys.length→(Ky.ziw (keys.take k) (kt.take k)).size≤300):=L_ (fun k hk=>by
  have e:=hr.len
  rw [List.length_cons] at e
  rw [Ky.zjn (by rw [List.length_take,List.length_take];omega)]
  have h1:Ky.zah (keys.take k)+Ky.zah (keys.drop k)=Ky.zah keys:=by rw [←Ky.zbx,List.take_append_drop]
  omega)
 obtain ⟨nk,hnk⟩:∃ nk,nk=(c0::kt).length:=⟨_,rfl⟩
 have HNK:Hid (nk=keys.length+1):=L_ (by rw [hnk];exact hr.len)
 have n1:(0:Int)<(nk:Int):=by rw [hnk,List.length_cons];omega
 have hi0:=hr.ids c0 (List.mem_cons_self ..)
 obtain ⟨b3,o3,x3,hsh,hx3,g3⟩:=P3.out 0 (by rw [List.length_cons];omega)
 subst hsh
 rw [List.getElem_cons_zero] at hx3
 subst hx3
 obtain ⟨m0,rfl⟩:∃ m0:Nat,c0=(m0:Int):=⟨c0.toNat,by omega⟩
 have hm0:m0<4294967296:=by omega
 rw [ztd] at HH
 have G3:=L_ g3
 rw [←hnk] at HV ⊢
 have P3':Hid (∀ k (hk:k<kt.length),∃ x,kt[k]=x∧(2≤x∧x≤4294967295)∧∀ w,Sat F w→w.cell? ⟨b3,o3+(k+1),none⟩=some (.int .i64 x)):=L_ (fun k hk=>by
  obtain ⟨b',o',x,e,hx,g⟩:=P3.out (k+1) (by rw [List.length_cons];omega)
  cases e
  rw [List.getElem_cons_succ] at hx
  exact ⟨x,hx,hx ▸ HI.out _ (List.mem_cons_of_mem _ (List.getElem_mem hk)),g⟩)
 have hkl:keys.length≤4000:=by have:=HLK.out;omega
 clear h h12 h3 h4 h5 h6 hr hl P3 hi0 g3 hz
 change Calls Tryz.prog 151 #[.agg #[.bool false,se,.slice (some ⟨b3,o3,none⟩) nk c3,.slice a5 keys.length c5]] w R
 have H1:=H.new (.cells #[.bool false,se,.slice (some ⟨b3,o3,none⟩) nk c3,.slice a5 keys.length c5] 151)
 have I1:=io1 H1 (Io.refl w)
 obtain ⟨q0,q1,q2,q3⟩:=nd4 H1
 have HNK2:=L_ hnk
 clear hnk
 go_enter Tryz.func151,Tryz.ntmps151
 go_wp2_with (first
  | (go_at_call 144;refine zdr (.inner HR.out) (HV.out.with) ⟨Nat.zero_le _,hle.out⟩ H1 ?_;intro w2 H2 I2;obtain ⟨q0,q1,q2,q3⟩:=nd4 H2)
  | (go_at_call 155;refine zf7 (.inner HR.out) (HV.out.with) ⟨Nat.zero_le _,hle.out⟩ H2 HD ?_;intro w3 H3 I3;obtain ⟨q0,q1,q2,q3⟩:=nd4 H3;have g0:=G3.out w3 H3.right;simp only [Nat.add_zero] at g0)
  | (go_at_call 141;refine zqn m0 hm0 H3 ?_;intro w4 H4 I4;obtain ⟨q0,q1,q2,q3⟩:=nd4 H4))
 have J4:=((I1.trans I2).trans I3).trans I4
 have T0:(tx (be 4 m0)).size=4:=by rw [←ztd,Ky.zb6]
 generalize tx (be 4 m0)=s4 at *
 clear q0 q1 q2 q3 I1 I2 I3 I4 H1 H2 H3 g0
 go_loopw [7,45] (fun t x wr=>∃ (k:Nat),k≤keys.length∧x=.int .i64 (k:Int)∧t=.string (s4++Ky.ziw (keys.take k) (kt.take k))∧Sat (pts w.heap.size (.cells #[.bool false,se,.slice (some ⟨b3,o3,none⟩) nk c3,.slice a5 keys.length c5] 151 (0,0))*F) wr∧Io w wr) (fun _ x _=>keys.length - (RowKit.intOf x).toNat)
 case atStart=>exact ⟨0,by omega,rfl,by simp [Ky.ziw,Ky.add_nil],H4,J4⟩
 case round =>
  obtain ⟨k,hk,rfl,rfl,Hk,Ik⟩:=hrel
  have hb:=HB.out k hk
  obtain ⟨r0,r1,r2,r3⟩:=nd4 Hk
  by_cases hlt:k<keys.length
  ·have zph:(k:Int)<(keys.length:Int):=by omega
   have hk0:(0:Int)≤(k:Int):=by omega
   have hk1:(k:Int)≤4000:=by omega
   obtain ⟨b',off,key,rfl,hx,hc⟩:=P5.out k hlt
   have g1:=hc wr Hk.right
   obtain ⟨xk,hxk,hxr,hg⟩:=P3'.out k (by have:=HLK.out;omega)
   obtain ⟨mk,rfl⟩:∃ mk:Nat,xk=(mk:Int):=⟨xk.toNat,by omega⟩
   have hmk:mk<4294967296:=by omega
   have hck:=HC.out _ (List.getElem_mem hlt)
   rw [hx] at hck
   obtain ⟨ck1,ck2⟩:=hck
   have HT:Hid (Ky.ziw (keys.take (k+1)) (kt.take (k+1))=Ky.ziw (keys.take k) (kt.take k)++(Ky.txt key++tx (be 4 mk))):=L_ (by rw [Ky.zug hlt (by have:=HLK.out;omega),hx,hxk,ztd])
   obtain ⟨jj,hjj⟩:∃ jj,jj=k+1:=⟨_,rfl⟩
   rw [←hjj] at hg HT
   have hj1:(k:Int)+1=(jj:Int):=by omega
   have hj2:(jj:Int)<(nk:Int):=by have:=HNK.out;omega
   have hj3:(0:Int)≤(jj:Int):=by omega
   have hj4:(jj:Int)≤4001:=by omega
   have HG:=L_ hg
   have HJ:=L_ hjj
   have z1:(Ky.txt key).size=1+key.size:=Ky.zee _
   have z2:(tx (be 4 mk)).size=4:=by rw [←ztd,Ky.zb6]
   clear hc hx hg hxk hxr hjj
   generalize Ky.ziw (keys.take k) (kt.take k)=s0 at *
   go_wp2_with (go_at_call 175;refine zqa _ (by omega) Hk (L_ rfl) ?_;intro w2 H2 I2;obtain ⟨q0,q1,q2,q3⟩:=nd4 H2;have g2:=HG.out w2 H2.right)
   go_wp2_with (go_at_call 141;refine zqn mk hmk H2 ?_;intro w3 H3 I3)
   generalize Ky.txt key=t1 at *
   generalize tx (be 4 mk)=t2 at *
   go_roundw
   case rel=>exact ⟨jj,by have:=HJ.out;omega,by go_num,by rw [HT.out,zia],H3,(Ik.trans I2).trans I3⟩
   case measure=>have:=HJ.out;simp [RowKit.intOf];omega
  ·obtain rfl:k=keys.length:=by omega
   have hge:¬ (keys.length:Int)<(keys.length:Int):=by omega
   have e1:keys.take keys.length=keys:=List.take_length
   have e2:kt.take keys.length=kt:=by rw [←HLK.out,List.take_length]
   rw [e1,e2]
   clear P3' e1 e2
   generalize Ky.ziw keys kt=s0 at *
   go_wp2_with fail
   exact bodyPost_ret (v:=.tuple #[.int .u8 2,.string (s4++s0),.int .i64 0]) (by simp [results,Tryz.results151,go_sem]) rfl (HH.out _ Hk.right Ik)
theorem zml {n:Ky.Nd} {v:Value} (hr:Ky.NdR n) (hz:Ky.zbf n≤240) (hv:NdV F v n) (H:Sat F w) (h:∀ w',Sat F w'→Io w w'→R (.returned (.tuple #[.int .u8 (Ky.kind n),.string (Ky.zg9 n),.int .i64 0])) w') :
  Calls Tryz.prog 151 #[v] w R:=by
 cases hr with
 | @leaf es hr =>
  have hl:=(Tb.zcj hr.1).1
  have hz':Ky.size es≤240:=hz
  exact ztj hr hz' hv (by omega) H h
 | @inner kids keys hr =>
  have hz':4+Ky.zah keys≤240:=hz
  have hl:=(Tb.zbg hr.chk).1
  have hlen:=hr.len
  cases kids with
  | nil=>simp at hlen
  | cons c m=>exact zqv hr hz' hv (by rw [List.length_cons] at hlen;omega) H h
end
namespace Sq
open Ky
def zca (n:Int):Prop:=0≤n∧n≤4294967295
def InT (k:Tk):Prop:=zca k.1∧zca k.2
theorem OkT.inT {k:Tk} (h:OkT k):InT k:=by unfold OkT at h;unfold InT zca;omega
theorem zwv:InT nob:=by unfold InT zca nob;omega
def p1 (n:Int):Nm:=tx (be 1 n.toNat)
theorem zqp (n:Int):(p1 n).size=1:=by unfold p1;rw [zl1,zju]
def pN:Nm:=⟨#[78]⟩
def tok (k:Tk):Nm:=p4 k.1++p4 k.2
theorem zi0 (k:Tk):(tok k).size=8:=by unfold tok;rw [ByteArray.size_append,zb6,zb6]
def kk (k:Tk):Nm:=pN++tok k
theorem z4r (k:Tk):(kk k).size=9:=by
 unfold kk
 rw [ByteArray.size_append,zi0]
 rfl
structure OkN (n:Nd):Prop where
 up:InT n.up
 left:InT n.left
 right:InT n.right
 count:zca n.count
 height:0≤n.height∧n.height≤255
def xe6:Nm:=⟨#[]⟩
def zg9 (n:Nd):Nm:=p4 n.up.1++(p4 n.up.2++(p4 n.left.1++(p4 n.left.2++(p4 n.right.1++(p4 n.right.2++(p4 n.count++(p1 n.height++xe6)))))))
theorem zey (n:Nd):(zg9 n).size=29:=by
 unfold zg9
 simp only [ByteArray.size_append,zb6,zqp]
 rfl
theorem ztu (k:Tk) (n:Nd):chk (kk k) (zg9 n)=0:=by unfold chk;rw [z4r,zey];decide
theorem kk_one (k:Tk) (n:Nd):Ky.one (kk k,zg9 n)=40:=by unfold Ky.one;rw [z4r,zey]
theorem z7i {a b c d:Nm} (h:a++b=c++d) (hs:a.size=c.size):a=c∧b=d:=by
 have h1:=congrArg (fun s:Nm=>s.data.toList) h
 rw [ByteArray.data_append,ByteArray.data_append,Array.toList_append,Array.toList_append] at h1
 obtain ⟨h2,h3⟩:=List.append_inj h1 (by rw [zd1,zd1];exact hs)
 exact ⟨ByteArray.ext (Array.toList_inj.1 h2),ByteArray.ext (Array.toList_inj.1 h3)⟩
theorem xdn {a b:Int} (ha:zca a) (hb:zca b) (h:p4 a=p4 b):a=b:=by
 unfold zca at ha hb
 have h1:=congrArg un (tx_inj h)
 rw [z1p,z1p,Nat.mod_eq_of_lt (by omega),Nat.mod_eq_of_lt (by omega)] at h1
 omega
theorem zyx {a b:Tk} (ha:InT a) (hb:InT b) (h:kk a=kk b):a=b:=by
 unfold kk tok at h
 have h1:=(z7i h rfl).2
 obtain ⟨h2,h3⟩:=z7i h1 (by rw [zb6,zb6])
 exact Prod.ext (xdn ha.1 hb.1 h2) (xdn ha.2 hb.2 h3)
end Sq
end Go.Proofs.YtfknjmoekbabcaaGreatDoor
