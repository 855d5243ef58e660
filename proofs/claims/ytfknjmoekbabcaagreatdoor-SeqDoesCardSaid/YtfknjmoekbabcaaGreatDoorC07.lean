/-
  A part of a proof. It proves no statement by itself.
-/
import Derived.Test.YtfknjmoekbabcaaGreatDoorC04
import Derived.Test.YtfknjmoekbabcaaGreatDoorC06
import Derived.Test.YtfknjmoekbabcaaGreatDoorRows
import Derived.Test.YtfknjmoekbabcaaGreatDoorEShelf
import Derived.Lib.Hide
import Derived.BigQuiet
import Derived.Deep.RegionHeld3
set_option linter.unusedSimpArgs false
set_option linter.unusedVariables false
set_option linter.unusedSectionVars false
set_option maxRecDepth 100000
set_option maxHeartbeats 64000000
namespace Go.Proofs.YtfknjmoekbabcaaGreatDoor
open Go.RowKit Go.Lib
namespace Ky
abbrev Nm:=ByteArray
abbrev En:=Nm × Nm
def chk (k v:Nm):Int:=if k.size=0∨16<k.size∨40<v.size then 110 else 0
def Right (l:List En):Prop:=(∀ x∈l,chk x.1 x.2=0)∧l.Pairwise fun x y=>Md.nlt x.1 y.1=true
instance (l:List En):Decidable (Right l):=by unfold Right;exact inferInstance
def one (x:En):Nat:=2+x.1.size+x.2.size
def size:List En→Nat
 | []=>0
 | x::l=>one x+size l
theorem size_append (l m:List En):size (l++m)=size l+size m:=by
 induction l with
 | nil=>simp [size]
 | cons x l ih=>simp only [List.cons_append,size,ih];omega
theorem size_take {l:List En} {k:Nat} (hk:k<l.length):size (l.take (k+1))=size (l.take k)+one l[k]:=by
 rw [List.take_succ_eq_append_getElem hk,size_append]
 simp [size]
def zea (l:List En) (k:Nat):Prop:=Right (l.take k)
theorem zs3 (l:List En):zea l 0:=by simp [zea,Right]
theorem zwk (l:List En):zea l l.length↔Right l:=by unfold zea;rw [List.take_length]
theorem zwj {l:List En} (hk:0<l.length) (hc:chk l[0].1 l[0].2=0):zea l 1:=by
 unfold zea
 rw [List.take_succ_eq_append_getElem hk]
 simp [Right,hc]
theorem zs4 {l : List En} {k : Nat} (hk : k + 1 < l.length) (h : zea l (k + 1)) (hc : chk l[k + 1].1 l[k + 1].2 = 0) (hl : Md.nlt (l[k]'(by omega)).1 l[k + 1].1 = true) : zea l (k + 2) := by
 unfold zea at h ⊢
 rw [List.take_succ_eq_append_getElem hk]
 refine ⟨fun x hx=>?_,?_⟩
 ·rcases List.mem_append.1 hx with hx | hx
  ·exact h.1 x hx
  ·rw [List.mem_singleton] at hx;subst hx;exact hc
 ·rw [List.pairwise_append]
  refine ⟨h.2,List.pairwise_singleton _ _,fun a ha b hb=>?_⟩
  rw [List.mem_singleton] at hb
  subst hb
  obtain ⟨i,hi,e⟩:=List.mem_iff_getElem.1 ha
  rw [List.length_take] at hi
  rw [List.getElem_take] at e
  have hp:=h.2
  rw [List.pairwise_iff_getElem] at hp
  rcases Nat.lt_or_ge i k with c | c
  ·have:=hp i k (by rw [List.length_take];omega) (by rw [List.length_take];omega) c
   simp only [List.getElem_take] at this
   rw [←e]
   exact zb3 this hl
  ·obtain rfl:i=k:=by omega
   rw [←e];exact hl
theorem z2u {l:List En} {k:Nat} (hk:k<l.length) (hc:chk l[k].1 l[k].2≠0):¬ Right l:=fun h=>hc (h.1 _ (List.getElem_mem hk))
theorem zz5 {l : List En} {k : Nat} (hk : k + 1 < l.length) (hl : Md.nlt (l[k]'(by omega)).1 l[k + 1].1 = false) : ¬ Right l := fun h => by
 have hp:=h.2
 rw [List.pairwise_iff_getElem] at hp
 have:=hp k (k+1) (by omega) hk (by omega)
 rw [hl] at this
 cases this
def Short (n:Nat) (l:List En):Prop:=∀ x∈l,x.1.size≤n∧x.2.size≤n
end Ky
def xfy (x:Ky.En):List Value:=[.string x.1,.string x.2]
theorem zbk:Enc xfy 2:=⟨fun _=>rfl,fun x u hu=>by simp [xfy] at hu;rcases hu with rfl | rfl<;>rfl⟩
theorem Tryz.z1h:zkg Tryz.prog 59 112 2 32:=⟨Tryz.underlying59,⟨.agg #[.string ⟨#[]⟩,.string ⟨#[]⟩],rfl,by kernel_rfl⟩,by omega⟩
abbrev zda (v:Value) (l:List Ky.En):Asn:=RowOf 112 2 xfy v l
abbrev zbi (F:Asn) (v:Value) (l:List Ky.En):Prop:=Reads xfy F v l
theorem zc6 {F:Asn} {a:Option Addr} {n c:Nat} {l:List Ky.En} (hl:zbi F (.slice a n c) l) (k:Nat) (hk:k<l.length):∃ b off key val,a=some ⟨b,off,none⟩∧l[k]=(key,val)∧∀ w,Sat F w→w.cell? ⟨b,off+k*2,none⟩=some (.string key)∧w.cell? ⟨b,off+k*2+1,none⟩=some (.string val):=by
 obtain ⟨b,off,h1,h2⟩:=hl.get zbk k hk
 exact ⟨b,off,_,_,h1,rfl,fun w hw=>⟨h2 w hw 0 _ (by omega) rfl,h2 w hw 1 _ (by omega) rfl⟩⟩
theorem zcr {F:Asn} {v:Value} {l:List Ky.En} (h:zbi F v l):∃ a c,v=.slice a l.length c∧(l.length:Int)≤9223372036854775807:=by
 obtain ⟨a,c,h1,h2,_⟩:=h
 exact ⟨a,c,h1,by omega⟩
section
variable {F:Asn} {w:World} {R:Ending→World→Prop}
theorem check_any (k v:ByteArray) (hk:k.size≤1000000) (hv:v.size≤1000000) {e:Int} (he:Hid (e=Ky.chk k v)) (h:R (.returned (.int .i64 e)) w):Calls Tryz.prog 63 #[.string k,.string v] w R:=by
 have hx:=he.out
 unfold Ky.chk at hx
 have HH:=L_ h
 clear h he
 by_cases h0:k.size=0
 ·rw [if_pos (.inl h0)] at hx
  subst hx
  have e2:k.toList=[]:=by
   have:k=⟨#[]⟩:=by obtain ⟨d⟩:=k;congr 1;exact Array.eq_empty_of_size_eq_zero h0
   rw [this];simp
  have e1:k.toList.isEmpty=true:=by rw [e2];rfl
  go_enter Tryz.func63,Tryz.ntmps63
  go_wp2_with fail
  exact HH.out
 ·have e2:¬ k.toList=[]:=fun e=>h0 (by
   have:k=⟨#[]⟩:=z3q (by rw [e];simp)
   rw [this];rfl)
  have e1:k.toList.isEmpty=false:=by
   cases hh:k.toList with
   | nil=>exact absurd hh e2
   | cons a l=>rfl
  by_cases h1:16<k.size
  ·rw [if_pos (.inr (.inl h1))] at hx
   subst hx
   have q1:(16:Int)<(k.size:Int):=by omega
   clear h0 h1
   go_enter Tryz.func63,Tryz.ntmps63
   go_wp2_with fail
   exact HH.out
  ·have q1:¬ (16:Int)<(k.size:Int):=by omega
   by_cases h2:40<v.size
   ·rw [if_pos (.inr (.inr h2))] at hx
    subst hx
    have q2:(40:Int)<(v.size:Int):=by omega
    clear h0 h1 h2
    go_enter Tryz.func63,Tryz.ntmps63
    go_wp2_with fail
    exact HH.out
   ·rw [if_neg (by omega)] at hx
    subst hx
    have q2:¬ (40:Int)<(v.size:Int):=by omega
    clear h0 h1 h2
    go_enter Tryz.func63,Tryz.ntmps63
    go_wp2_with fail
    exact HH.out
theorem size_any {l:List Ky.En} {v:Value} (hv:zbi F v l) (hs:Ky.Short 1000 l) (hl:l.length≤100000) (H:Sat F w) {n:Nat} (hn:Hid (n=Ky.size l)) (h:∀ w',Sat F w'→Io w w'→R (.returned (.int .i64 (n:Int))) w') :
  Calls Tryz.prog 150 #[v] w R:=by
 obtain ⟨a,c,rfl,hm⟩:=zcr hv
 have HV:=L_ (fun k hk=>zc6 hv k hk)
 have HS:=L_ hs
 have HH:=L_ h
 clear h hv
 have HB:Hid (∀ k,k≤l.length→Ky.size (l.take k)≤k*2002):=L_ (by
  intro k
  induction k with
  | zero=>intro _;simp [Ky.size]
  | succ k ih =>
   intro hk
   have:=ih (by omega)
   have h2:=hs l[k] (List.getElem_mem (by omega))
   rw [Ky.size_take (by omega)]
   unfold Ky.one
   omega)
 go_enter Tryz.func150,Tryz.ntmps150
 go_wp2_with fail
 go_loopw [3,8] (fun s x wr=>∃ (k:Nat),k≤l.length∧x=.int .i64 (k:Int)∧s=.int .i64 (Ky.size (l.take k):Int)∧Sat F wr∧Io w wr) (fun _ x _=>l.length - (RowKit.intOf x).toNat)
 case atStart=>exact ⟨0,by omega,rfl,by simp [Ky.size],H,Io.refl _⟩
 case round =>
  obtain ⟨k,hk,rfl,rfl,Hk,Ik⟩:=hrel
  have hb:=HB.out k hk
  by_cases hlt:k<l.length
  ·have zph:(k:Int)<(l.length:Int):=by omega
   have hk0:(0:Int)≤(k:Int):=by omega
   obtain ⟨b,off,key,val,rfl,hx,hc⟩:=HV.out k hlt
   obtain ⟨g0,g1⟩:=hc wr Hk
   have h2:=HS.out l[k] (List.getElem_mem hlt)
   have HT:Hid (Ky.size (l.take (k+1))=Ky.size (l.take k)+(2+key.size+val.size)):=L_ (by rw [Ky.size_take hlt,hx];rfl)
   rw [hx] at h2
   simp only at h2
   obtain ⟨k1,k2⟩:=h2
   clear hc hx
   generalize Ky.size (l.take k)=s at *
   have K2:=Hk.new (.cells #[.string key,.string val] 112)
   have J2:=io1 K2 Ik
   obtain ⟨q0,q1⟩:_∧_:=⟨Sat.read K2.left.at 0,Sat.read K2.left.at 1⟩
   simp only [List.getElem?_toArray,List.getElem?_cons_zero,List.getElem?_cons_succ] at q0 q1
   go_wp2_with fail
   go_roundw
   case rel=>exact ⟨k+1,by omega,by go_num,by rw [HT.out];go_num,K2.right,J2⟩
   case measure=>simp [RowKit.intOf];omega
  ·obtain rfl:k=l.length:=by omega
   have hge:¬ (l.length:Int)<(l.length:Int):=by omega
   rw [List.take_length,←hn.out]
   clear HV
   go_wp2_with fail
   exact HH.out _ Hk Ik
theorem zeu {l:List Ky.En} {v:Value} (hv:zbi F v l) (hs:Ky.Short 1000 l) (hl:l.length≤100000) (H:Sat F w) {d:Bool} (hd:Hid (d=decide (Ky.Right l))) (h:∀ w',Sat F w'→Io w w'→R (.returned (.bool d)) w') :
  Calls Tryz.prog 91 #[v] w R:=by
 obtain ⟨a,c,rfl,hm⟩:=zcr hv
 have HV:=L_ (fun k hk=>zc6 hv k hk)
 have HS:=L_ hs
 have HH:=L_ h
 clear h hv
 go_enter Tryz.func91,Tryz.ntmps91
 go_wp2_with fail
 go_loopw [7] (fun x wr=>∃ (k:Nat),k≤l.length∧x=.int .i64 (k:Int)∧Hid (Ky.zea l k)∧Sat F wr∧Io w wr) (fun x _=>l.length - (RowKit.intOf x).toNat)
 case atStart=>exact ⟨0,by omega,rfl,L_ (Ky.zs3 l),H,Io.refl _⟩
 case round =>
  obtain ⟨k,hk,rfl,hr,Hk,Ik⟩:=hrel
  by_cases hlt:k<l.length
  ·have zph:(k:Int)<(l.length:Int):=by omega
   have hk0:(0:Int)≤(k:Int):=by omega
   obtain ⟨b,off,key,val,rfl,hx,hc⟩:=HV.out k hlt
   obtain ⟨g0,g1⟩:=hc wr Hk
   have h2:=HS.out l[k] (List.getElem_mem hlt)
   rw [hx] at h2
   simp only at h2
   obtain ⟨k1,k2⟩:=h2
   have K2:=Hk.new (.cells #[.string key,.string val] 112)
   have J2:=io1 K2 Ik
   obtain ⟨q0,q1⟩:_∧_:=⟨Sat.read K2.left.at 0,Sat.read K2.left.at 1⟩
   simp only [List.getElem?_toArray,List.getElem?_cons_zero,List.getElem?_cons_succ] at q0 q1
   obtain ⟨e,he⟩:∃ e,e=Ky.chk key val:=⟨_,rfl⟩
   have HE:=L_ he
   have hz1:key.size≤1000000:=by omega
   have hz2:val.size≤1000000:=by omega
   by_cases e0:e=0
   ·subst e0
    by_cases hkz:k=0
    ·subst hkz
     have HN:Hid (Ky.zea l (0+1)):=L_ (Ky.zwj hlt (by rw [hx];exact he.symm))
     simp only [Nat.zero_mul,Nat.add_zero,Nat.zero_add] at g0 g1
     clear hc hx he hr
     go_wp2_with fail
     go_quiet (first | (go_at_call 63;with_reducible refine check_any key val hz1 hz2 HE ?_;exact ⟨rfl,_,rfl⟩))
     go_wp2_with fail
     go_roundw
     case rel=>exact ⟨0+1,by omega,by go_num,HN,K2.right.drewN _,J2.drewN _⟩
     case measure=>simp [RowKit.intOf];omega
    ·obtain ⟨jj,hjj⟩:∃ jj,k=jj+1:=⟨k - 1,by omega⟩
     obtain ⟨b',off',key',val',hva,hx',hc'⟩:=HV.out jj (by omega)
     cases hva
     obtain ⟨p0,p1⟩:=hc' _ K2.right
     have hkp:(0:Int)<(k:Int):=by omega
     have hkd:decide (0<k)=true:=decide_eq_true (by omega)
     have hkq:0<k:=by omega
     have hsub:(k:Int) - 1=(jj:Int):=by omega
     have hwr:IntKind.i64.wrap ((k:Int) - 1)=(jj:Int):=by rw [IntKind.wrap_i64];omega
     have hwj:IntKind.i64.wrap (jj:Int)=(jj:Int):=by rw [IntKind.wrap_i64];omega
     have hjn:(jj:Int)<(l.length:Int):=by omega
     have hj0:(0:Int)≤(jj:Int):=by omega
     obtain ⟨t,ht⟩:∃ t,Op.bytesLess key'.toList key.toList=t:=⟨_,rfl⟩
     have HT:=L_ ht
     have HJ:=L_ hjj
     have HX:=L_ hx
     have HX' : Hid (∀ h : jj < l.length, l[jj]'h = (key', val')) := L_ (fun _ => hx')
     clear hx hx' he hc hc' hjj
     cases t with
     | true =>
      have HN:Hid (Ky.zea l (k+1)):=L_ (by
       have hj:=HJ.out
       subst hj
       exact Ky.zs4 hlt hr.out (by rw [HX.out];exact HE.out.symm) (by rw [HX.out,HX'.out (by omega)];exact HT.out))
      clear hr
      go_wp2_with fail
      go_quiet (first | (go_at_call 63;with_reducible refine check_any key val hz1 hz2 HE ?_;exact ⟨rfl,_,rfl⟩))
      go_wp2_with fail
      go_roundw
      case rel=>exact ⟨k+1,by omega,by go_num,HN,K2.right.drewN _,J2.drewN _⟩
      case measure=>simp [RowKit.intOf];omega
     | false =>
      obtain rfl:d=false:=by
       rw [hd.out]
       have hj:=HJ.out
       subst hj
       exact decide_eq_false (Ky.zz5 hlt (by rw [HX.out,HX'.out (by omega)];exact HT.out))
      clear hr
      go_wp2_with fail
      go_quiet (first | (go_at_call 63;with_reducible refine check_any key val hz1 hz2 HE ?_;exact ⟨rfl,_,rfl⟩))
      go_wp2_with fail
      exact HH.out _ (K2.right.drewN _) (J2.drewN _)
   ·obtain rfl:d=false:=by rw [hd.out];exact decide_eq_false (Ky.z2u hlt (by rw [hx];simp only;rw [←he];exact e0))
    have hb:(e != 0)=true:=by simp [e0]
    clear hc hx he hr
    go_wp2_with fail
    go_quiet (first | (go_at_call 63;with_reducible refine check_any key val hz1 hz2 HE ?_;exact ⟨rfl,_,rfl⟩))
    go_wp2_with fail
    exact HH.out _ (K2.right.drewN _) (J2.drewN _)
  ·obtain rfl:k=l.length:=by omega
   have hge:¬ (l.length:Int)<(l.length:Int):=by omega
   obtain rfl:d=true:=by rw [hd.out];exact decide_eq_true ((Ky.zwk l).1 hr.out)
   clear HV hr
   go_wp2_with fail
   exact HH.out _ Hk Ik
end
end Go.Proofs.YtfknjmoekbabcaaGreatDoor
namespace Go.Proofs.YtfknjmoekbabcaaGreatDoor
namespace Sq
abbrev Tk:=Int × Int
def nob:Tk:=(4294967295,4294967295)
def OkT (k:Tk):Prop:=(0≤k.1∧k.1<1048576)∧0≤k.2∧k.2<1048576
instance (k:Tk):Decidable (OkT k):=by unfold OkT;exact inferInstance
theorem OkT.ne {k:Tk} (h:OkT k):k≠nob:=by
 rintro rfl
 unfold OkT nob at h
 omega
inductive T where
 | nil:T
 | node:T→Tk→T→T
namespace T
def toks:T→List Tk
 | .nil=>[]
 | .node l k r=>l.toks++k::r.toks
def top:T→Tk
 | .nil=>nob
 | .node _ k _=>k
def cnt:T→Nat
 | .nil=>0
 | .node l _ r=>l.cnt+r.cnt+1
def ht:T→Nat
 | .nil=>0
 | .node l _ r=>max l.ht r.ht+1
def Bal:T→Prop
 | .nil=>True
 | .node l _ r=>l.Bal∧r.Bal∧l.ht≤r.ht+1∧r.ht≤l.ht+1
theorem zbn:∀ t:T,t.toks.length=t.cnt
 | .nil=>rfl
 | .node l k r=>by
  have h1:=zbn l
  have h2:=zbn r
  simp only [toks,cnt,List.length_append,List.length_cons]
  omega
theorem zec:∀ t:T,t.ht≤t.cnt
 | .nil=>Nat.le_refl _
 | .node l k r=>by
  have h1:=zec l
  have h2:=zec r
  simp only [ht,cnt]
  omega
theorem zeo {t:T} (h:t≠.nil):t.top∈t.toks:=by
 cases t with
 | nil=>exact absurd rfl h
 | node l k r=>simp [top,toks]
theorem zot {t:T} (ht:∀ k∈t.toks,OkT k):t.top=nob↔t=.nil:=by
 cases t with
 | nil=>simp [top]
 | node l k r =>
  constructor
  ·intro h
   exact absurd h (OkT.ne (ht k (by simp [toks])))
  ·intro h;cases h
end T
structure Lk (l:T) (k:Tk) (r t:T):Prop where
 toks:t.toks=l.toks++k::r.toks
 bal:t.Bal
 lo:max l.ht r.ht≤t.ht
 hi:t.ht≤max l.ht r.ht+1
 near:l.ht≤r.ht+1→r.ht≤l.ht+1→t.ht=max l.ht r.ht+1
theorem Lk.set {l r:T} {k:Tk} (bl:l.Bal) (br:r.Bal) (h1:l.ht≤r.ht+1) (h2:r.ht≤l.ht+1):Lk l k r (.node l k r) :=
 ⟨rfl,⟨bl,br,h1,h2⟩,by simp only [T.ht];omega,by simp only [T.ht];omega,fun _ _=>rfl⟩
theorem Lk.left1 {a b r:T} {x k:Tk} (bl:(T.node a x b).Bal) (br:r.Bal) (h:(T.node a x b).ht=r.ht+2) (hb:b.ht≤a.ht):Lk (.node a x b) k r (.node a x (.node b k r)):=by
 simp only [T.Bal,T.ht] at bl h
 refine ⟨by simp [T.toks],?_,?_,?_,?_⟩
 ·simp only [T.Bal,T.ht];exact ⟨bl.1,⟨bl.2.1,br,by omega,by omega⟩,by omega,by omega⟩
 ·simp only [T.ht];omega
 ·simp only [T.ht];omega
 ·simp only [T.ht];omega
theorem Lk.left2 {a c d r:T} {x y k:Tk} (bl:(T.node a x (.node c y d)).Bal) (br:r.Bal) (h:(T.node a x (.node c y d)).ht=r.ht+2) (hb:a.ht<(T.node c y d).ht):Lk (.node a x (.node c y d)) k r (.node (.node a x c) y (.node d k r)):=by
 simp only [T.Bal,T.ht] at bl h hb
 refine ⟨by simp [T.toks],?_,?_,?_,?_⟩
 ·simp only [T.Bal,T.ht];exact ⟨⟨bl.1,bl.2.1.1,by omega,by omega⟩,⟨bl.2.1.2.1,br,by omega,by omega⟩,by omega,by omega⟩
 ·simp only [T.ht];omega
 ·simp only [T.ht];omega
 ·simp only [T.ht];omega
theorem Lk.xdl {l a b:T} {x k:Tk} (bl:l.Bal) (br:(T.node a x b).Bal) (h:(T.node a x b).ht=l.ht+2) (hb:a.ht≤b.ht):Lk l k (.node a x b) (.node (.node l k a) x b):=by
 simp only [T.Bal,T.ht] at br h
 refine ⟨by simp [T.toks],?_,?_,?_,?_⟩
 ·simp only [T.Bal,T.ht];exact ⟨⟨bl,br.1,by omega,by omega⟩,br.2.1,by omega,by omega⟩
 ·simp only [T.ht];omega
 ·simp only [T.ht];omega
 ·simp only [T.ht];omega
theorem Lk.xdk {l c d b:T} {x y k:Tk} (bl:l.Bal) (br:(T.node (.node c y d) x b).Bal) (h:(T.node (.node c y d) x b).ht=l.ht+2) (hb:b.ht<(T.node c y d).ht):Lk l k (.node (.node c y d) x b) (.node (.node l k c) y (.node d x b)):=by
 simp only [T.Bal,T.ht] at br h hb
 refine ⟨by simp [T.toks],?_,?_,?_,?_⟩
 ·simp only [T.Bal,T.ht];exact ⟨⟨bl,br.1.1,by omega,by omega⟩,⟨br.1.2.1,br.2.1,by omega,by omega⟩,by omega,by omega⟩
 ·simp only [T.ht];omega
 ·simp only [T.ht];omega
 ·simp only [T.ht];omega
theorem Lk.zuk {a b r t':T} {x k:Tk} (bl:(T.node a x b).Bal) (h:r.ht+1<(T.node a x b).ht) (h':Lk b k r t'):a.ht≤t'.ht+2∧t'.ht≤a.ht+2:=by
 simp only [T.Bal,T.ht] at bl h
 have:=h'.lo
 have:=h'.hi
 omega
theorem Lk.zsg {a b r t' t:T} {x k:Tk} (bl:(T.node a x b).Bal) (h:r.ht+1<(T.node a x b).ht) (h':Lk b k r t') (h2:Lk a x t' t):Lk (.node a x b) k r t:=by
 have e:=h'.toks
 have e2:=h2.toks
 have l1:=h'.lo
 have u1:=h'.hi
 have n1:=h'.near
 have l2:=h2.lo
 have u2:=h2.hi
 have n2:=h2.near
 simp only [T.Bal,T.ht] at bl h
 refine ⟨by rw [e2,e];simp [T.toks],h2.bal,?_,?_,?_⟩
 ·simp only [T.ht]
  by_cases c1:a.ht≤t'.ht+1
  ·by_cases c2:t'.ht≤a.ht+1
   ·have:=n2 c1 c2;omega
   ·omega
  ·omega
 ·simp only [T.ht];omega
 ·simp only [T.ht];omega
theorem Lk.zpo {l a b t':T} {x k:Tk} (br:(T.node a x b).Bal) (h:l.ht+1<(T.node a x b).ht) (h':Lk l k a t'):b.ht≤t'.ht+2∧t'.ht≤b.ht+2:=by
 simp only [T.Bal,T.ht] at br h
 have:=h'.lo
 have:=h'.hi
 omega
theorem Lk.zov {l a b t' t:T} {x k:Tk} (br:(T.node a x b).Bal) (h:l.ht+1<(T.node a x b).ht) (h':Lk l k a t') (h2:Lk t' x b t):Lk l k (.node a x b) t:=by
 have e:=h'.toks
 have e2:=h2.toks
 have l1:=h'.lo
 have u1:=h'.hi
 have l2:=h2.lo
 have u2:=h2.hi
 have n2:=h2.near
 simp only [T.Bal,T.ht] at br h
 refine ⟨by rw [e2,e];simp [T.toks],h2.bal,?_,?_,?_⟩
 ·simp only [T.ht]
  by_cases c1:b.ht≤t'.ht+1
  ·by_cases c2:t'.ht≤b.ht+1
   ·have:=n2 c2 c1;omega
   ·omega
  ·omega
 ·simp only [T.ht];omega
 ·simp only [T.ht];omega
structure La (t rest:T) (e:Tk):Prop where
 toks:t.toks=rest.toks++[e]
 bal:rest.Bal
 lo:rest.ht≤t.ht
 hi:t.ht≤rest.ht+1
theorem La.here {l:T} {k:Tk} (bl:l.Bal):La (.node l k .nil) l k:=⟨by simp [T.toks],bl,by simp only [T.ht];omega,by simp only [T.ht];omega⟩
theorem La.step {l r r' t:T} {k e:Tk} (bl:(T.node l k r).Bal) (h:La r r' e) (h2:Lk l k r' t):La (.node l k r) t e:=by
 have e1:=h.toks
 have e2:=h2.toks
 have l1:=h.lo
 have u1:=h.hi
 have l2:=h2.lo
 have u2:=h2.hi
 have n2:=h2.near
 simp only [T.Bal,T.ht] at bl
 refine ⟨by rw [e2];simp [T.toks,e1],h2.bal,by simp only [T.ht];omega,?_⟩
 simp only [T.ht]
 by_cases c1:l.ht≤r'.ht+1
 ·by_cases c2:r'.ht≤l.ht+1
  ·have:=n2 c1 c2;omega
  ·omega
 ·omega
def least:Nat→Nat
 | 0=>0
 | 1=>1
 | h+2=>least h+least (h+1)+1
theorem zpe (h:Nat):least h≤least (h+1):=by
 cases h with
 | zero=>decide
 | succ h=>simp only [least];omega
theorem zmt:∀ t:T,t.Bal→least t.ht≤t.cnt
 | .nil,_=>Nat.le_refl _
 | .node l k r,b=>by
  simp only [T.Bal] at b
  have h1:=zmt l b.1
  have h2:=zmt r b.2.1
  simp only [T.ht,T.cnt]
  rcases Nat.lt_trichotomy l.ht r.ht with c | c | c
  ·have e:max l.ht r.ht+1=l.ht+2:=by omega
   have e2:r.ht=l.ht+1:=by omega
   rw [e,least]
   rw [e2] at h2
   omega
  ·rw [c,Nat.max_self]
   rw [c] at h1
   cases hh:r.ht with
   | zero=>simp only [least];omega
   | succ n =>
    rw [hh] at h1 h2
    have:=zpe n
    simp only [least]
    omega
  ·have e:max l.ht r.ht+1=r.ht+2:=by omega
   have e2:l.ht=r.ht+1:=by omega
   rw [e,least]
   rw [e2] at h1
   omega
structure Nd where
 up:Tk
 left:Tk
 right:Tk
 count:Int
 height:Int
abbrev Mp:=Tk→Option Nd
def nd0:Nd:=⟨(0,0),(0,0),(0,0),0,0⟩
def upd (M:Mp) (k:Tk) (n:Nd):Mp:=fun x=>if x=k then some n else M x
theorem zlk (M:Mp) (k:Tk) (n:Nd):upd M k n k=some n:=by unfold upd;rw [if_pos rfl]
theorem upd_ne {M:Mp} {k x:Tk} {n:Nd} (h:x≠k):upd M k n x=M x:=by unfold upd;rw [if_neg h]
def nod (l r:T) (u:Tk):Nd:=⟨u,l.top,r.top,(l.cnt+r.cnt+1:Nat),(max l.ht r.ht+1:Nat)⟩
def zc8 (M:Mp):T→Tk→Prop
 | .nil,_=>True
 | .node l k r,u=>M k=some (nod l r u)∧zc8 M l k∧zc8 M r k
theorem zc8.congr {M M':Mp}:∀ {t:T} {u:Tk},(∀ k∈t.toks,M' k=M k)→zc8 M t u→zc8 M' t u
 | .nil,_,_,_=>trivial
 | .node l k r,u,e,h=>⟨(e k (by simp [T.toks])).trans h.1,h.2.1.congr fun x hx=>e x (by simp [T.toks,hx]),h.2.2.congr fun x hx=>e x (by simp [T.toks,hx])⟩
theorem zc8.some {M:Mp}:∀ {t:T} {u:Tk},zc8 M t u→∀ k∈t.toks,∃ n,M k=Option.some n
 | .nil,_,_,k,hk=>by simp [T.toks] at hk
 | .node l x r,u,h,k,hk=>by
  simp only [T.toks,List.mem_append,List.mem_cons] at hk
  rcases hk with hk | rfl | hk
  ·exact h.2.1.some k hk
  ·exact ⟨_,h.1⟩
  ·exact h.2.2.some k hk
def T.nd (t:T) (u:Tk):Nd:=match t with
 | .nil=>nd0
 | .node l _ r=>nod l r u
theorem zc8.read {M:Mp} {t:T} {u:Tk} (h:zc8 M t u) (hn:t≠.nil):M t.top=Option.some (t.nd u):=by
 cases t with
 | nil=>exact absurd rfl hn
 | node l k r=>exact h.1
theorem T.zyp (t:T) (u:Tk):(t.nd u).count=(t.cnt:Int):=by cases t<;>rfl
theorem T.nd_ht (t:T) (u:Tk):(t.nd u).height=(t.ht:Int):=by cases t<;>rfl
def zxa (M:Mp) (t:T) (v:Tk):Mp:=match t with
 | .nil=>M
 | .node l k r=>upd M k (nod l r v)
theorem zh5 {M:Mp} {t:T} {u v:Tk} (h:zc8 M t u) (hn:t.toks.Nodup):zc8 (zxa M t v) t v:=by
 cases t with
 | nil=>trivial
 | node l k r =>
  simp only [T.toks,List.nodup_append,List.nodup_cons] at hn
  refine ⟨zlk _ _ _,h.2.1.congr fun x hx=>upd_ne ?_,h.2.2.congr fun x hx=>upd_ne ?_⟩
  ·rintro rfl;exact hn.2.2 x hx x (by simp) rfl
  ·rintro rfl;exact hn.2.1.1 hx
theorem ze9 {M:Mp} {t:T} {v x:Tk} (h:x∉t.toks):zxa M t v x=M x:=by
 cases t with
 | nil=>rfl
 | node l k r=>exact upd_ne (by rintro rfl;exact h (by simp [T.toks]))
theorem z0r {M:Mp} {t:T} {v:Tk} (h:zc8 M t v):zxa M t v=M:=by
 cases t with
 | nil=>rfl
 | node l k r =>
  funext x
  unfold zxa upd
  simp only
  split
  ·rename_i e;rw [e];exact h.1.symm
  ·rfl
end Sq
end Go.Proofs.YtfknjmoekbabcaaGreatDoor
namespace Go.Proofs.YtfknjmoekbabcaaGreatDoor
open Go.RowKit Go.Lib
namespace Ky
def cmp (x y:Nm):Int:=if Md.nlt x y=true then -1 else if Md.nlt y x=true then 1 else 0
theorem cmpB:∀ x y:List UInt8,Lib.compareBytes x y=if Op.bytesLess x y=true then -1 else if Op.bytesLess y x=true then 1 else 0
 | [],[]=>rfl
 | [],_::_=>rfl
 | _::_,[]=>rfl
 | a::x,b::y=>by
  have ih:=cmpB x y
  unfold Lib.compareBytes
  simp only [Op.bytesLess]
  by_cases h1:a<b
  ·simp [h1]
  ·by_cases h2:b<a
   ·have h3:(a == b)=false:=by
     rw [beq_eq_false_iff_ne];rintro rfl;exact h1 h2
    simp [h1,h2,h3]
   ·have e:a=b:=by
     rw [UInt8.lt_iff_toNat_lt] at h1 h2
     exact UInt8.toNat_inj.1 (by omega)
    subst e
    simp [h1,ih]
theorem cmp_eq (x y:Nm):Lib.compareBytes x.data.toList y.data.toList=cmp x y:=by
 rw [cmpB]
 unfold cmp Md.nlt
 rw [ByteArray.toList_eq,ByteArray.toList_eq]
theorem cmp_lt (x y:Nm):cmp x y<0↔Md.nlt x y=true:=by
 unfold cmp
 by_cases h:Md.nlt x y=true
 ·simp [h]
 ·rw [if_neg h]
  split<;>simp [h]
theorem xcb (x y:Nm):cmp x y=0↔x=y:=by
 unfold cmp
 constructor
 ·intro h
  by_cases h1:Md.nlt x y=true
  ·rw [if_pos h1] at h;omega
  ·rw [if_neg h1] at h
   by_cases h2:Md.nlt y x=true
   ·rw [if_pos h2] at h;omega
   ·exact zje (by simpa using h1) (by simpa using h2)
 ·rintro rfl
  rw [zbp]
  simp
def pos (key:Nm) (l:List En):Nat:=l.findIdx fun x=>!Md.nlt x.1 key
def has (key:Nm) (l:List En):Bool:=l.any fun x=>decide (x.1=key)
theorem zmg (key:Nm) (l:List En):pos key l≤l.length:=List.findIdx_le_length
theorem zi9 {key:Nm} {l:List En} {j:Nat} (hj:j<l.length) (h:j<pos key l):Md.nlt l[j].1 key=true:=by
 have:=List.not_of_lt_findIdx h
 simpa using this
theorem pos_at {key:Nm} {l:List En} (h:pos key l<l.length):Md.nlt (l[pos key l]).1 key=false:=by
 have:=List.findIdx_getElem (w:=h)
 exact (Bool.not_eq_true' _).mp this
theorem zo8 {key:Nm} {l:List En} (hr:Right l) {j:Nat} (hj:j<l.length) (h:pos key l≤j):Md.nlt l[j].1 key=false:=by
 rcases Nat.eq_or_lt_of_le h with e | e
 ·subst e;exact pos_at hj
 ·have h0:pos key l<l.length:=by omega
  have h1:=pos_at h0
  have hp:=hr.2
  rw [List.pairwise_iff_getElem] at hp
  have h2:=hp _ _ h0 hj e
  cases e3:Md.nlt l[j].1 key with
  | false=>rfl
  | true=>rw [zb3 h2 e3] at h1;cases h1
theorem z0a {key:Nm} {l:List En} (hr:Right l) {c:Nat} (hc:c≤l.length) (h1:∀ j (hj:j<l.length),j<c→Md.nlt l[j].1 key=true) (h2:∀ j (hj:j<l.length),c≤j→Md.nlt l[j].1 key=false):c=pos key l:=by
 have hl:=zmg key l
 rcases Nat.lt_trichotomy c (pos key l) with h | h | h
 ·have a:=zi9 (by omega) h
  have b:=h2 c (by omega) (Nat.le_refl _)
  rw [a] at b;cases b
 ·exact h
 ·have a:=pos_at (key:=key) (l:=l) (by omega)
  have b:=h1 (pos key l) (by omega) h
  rw [a] at b;cases b
theorem zc1 {key:Nm} {l:List En} (hr:Right l):has key l=true↔∃ h:pos key l<l.length,(l[pos key l]).1=key:=by
 unfold has
 rw [List.any_eq_true]
 constructor
 ·rintro ⟨x,hx,e⟩
  have e:=of_decide_eq_true e
  obtain ⟨j,hj,e2⟩:=List.mem_iff_getElem.1 hx
  have hk:l[j].1=key:=by rw [e2];exact e
  have h1:¬ j<pos key l:=fun h=>by have:=zi9 hj h;rw [hk,zbp] at this;cases this
  have h2:¬ pos key l<j:=fun h=>by
   have h0:pos key l<l.length:=by omega
   have a:=pos_at h0
   have hp:=hr.2
   rw [List.pairwise_iff_getElem] at hp
   have:=hp _ _ h0 hj h
   rw [hk,a] at this;cases this
  have e3:pos key l=j:=by omega
  refine ⟨by omega,?_⟩
  simp only [e3];exact hk
 ·rintro ⟨h,e⟩
  exact ⟨_,List.getElem_mem h,decide_eq_true e⟩
end Ky
section
variable {F:Asn} {w:World} {R:Ending→World→Prop}
theorem zsq (x y:ByteArray) {c:Int} (hc:Hid (c=Ky.cmp x y)) (h:R (.returned (.int .i64 c)) w):Calls Tryz.prog 124 #[.string x,.string y] w R :=
 (Tryz.strings_Compare x y w).mono fun e w' ⟨he,hw⟩=>by
  subst he hw
  rw [Ky.cmp_eq,←hc.out]
  exact h
theorem zrd (k v key:ByteArray) {c:Int} (hc:Hid (c=Ky.cmp k key)) (H:Sat F w) (h:∀ w',Sat F w'→Io w w'→R (.returned (.int .i64 c)) w'):Calls Tryz.prog 123 #[.agg #[.string k,.string v],.string key] w R:=by
 have HH:=L_ h
 clear h
 have K2:=H.new (.cells #[.string k,.string v] 112)
 have J2:=io1 K2 (Io.refl w)
 obtain ⟨q0,q1⟩:_∧_:=⟨Sat.read K2.left.at 0,Sat.read K2.left.at 1⟩
 simp only [List.getElem?_toArray,List.getElem?_cons_zero,List.getElem?_cons_succ] at q0 q1
 go_enter Tryz.func123,Tryz.ntmps123
 go_wp2_with (go_at_call 124;with_reducible refine zsq k key hc ?_)
 exact HH.out _ K2.right J2
theorem zxe {l:List Ky.En} {v:Value} (hr:Ky.Right l) (hv:zbi F v l) (hl:l.length≤1000000) (key:ByteArray) (H:Sat F w) {n:Nat} {d:Bool} (hn:Hid (n=Ky.pos key l)) (hd:Hid (d=Ky.has key l)) (h:∀ w',Sat F w'→Io w w'→R (.returned (.tuple #[.int .i64 (n:Int),.bool d])) w') :
  Calls Tryz.prog 122 #[v,.string key,.func (.func 123) #[] #[]] w R:=by
 obtain ⟨a,c,rfl,hm⟩:=zcr hv
 have HV:=L_ (fun k hk=>zc6 hv k hk)
 have HH:=L_ h
 have HR:=L_ hr
 clear h hv hr
 go_enter Tryz.func122,Tryz.ntmps122
 go_wp2_with fail
 go_loopw [9,10] (fun x y wr=>∃ lo hi:Nat,x=.int .i64 (lo:Int)∧y=.int .i64 (hi:Int)∧lo≤hi∧hi≤l.length ∧
  Hid ((∀ t (ht:t<l.length),t<lo→Md.nlt l[t].1 key=true)∧∀ t (ht:t<l.length),hi≤t→Md.nlt l[t].1 key=false)∧Sat F wr∧Io w wr) (fun x y _=>(RowKit.intOf y - RowKit.intOf x).toNat)
 case atStart=>exact ⟨0,l.length,rfl,rfl,by omega,by omega,L_ ⟨fun t ht h0=>absurd h0 (Nat.not_lt_zero _),fun t h1 h2=>by omega⟩,H,Io.refl _⟩
 case round =>
  obtain ⟨lo,hi,rfl,rfl,b1,b2,hs,Hk,Ik⟩:=hrel
  by_cases hlt:lo<hi
  ·have zph:(lo:Int)<(hi:Int):=by omega
   obtain ⟨k,hk⟩:∃ k,k=(lo+hi) / 2:=⟨_,rfl⟩
   have hk2:((lo:Int)+(hi:Int)) / 2=(k:Int):=by omega
   have hkn:k<l.length:=by omega
   have hkl:lo≤k∧k<hi:=by omega
   have hki:(k:Int)<(l.length:Int):=by omega
   have hk0:(0:Int)≤(k:Int):=by omega
   obtain ⟨b,off,xk,xv,rfl,hx,hc⟩:=HV.out k hkn
   obtain ⟨c0,c1⟩:=hc wr Hk
   obtain ⟨y,hy⟩:∃ y,Hid (y=Ky.cmp xk key):=⟨_,L_ rfl⟩
   have kx:=Ky.cmp_lt xk key
   rw [←hy.out] at kx
   have HX:=L_ hx
   clear hc hx hk
   by_cases hy0:y<0
   ·have hs':Hid ((∀ t (ht:t<l.length),t<k+1→Md.nlt l[t].1 key=true)∧∀ t (ht:t<l.length),hi≤t→Md.nlt l[t].1 key=false):=L_ ⟨fun t ht h1=>by
     by_cases e:t=k
     ·subst e;rw [HX.out];exact kx.1 hy0
     ·exact zb3 ((List.pairwise_iff_getElem.1 HR.out.2) t k ht hkn (by omega)) (by rw [HX.out];exact kx.1 hy0),hs.out.2⟩
    clear kx hs
    go_wp2_with (go_at_call 123;with_reducible refine zrd xk xv key hy Hk ?_;intro w4 H4 I4)
    go_roundw
    case rel=>exact ⟨k+1,hi,by go_num,rfl,by omega,b2,hs',H4,Ik.trans I4⟩
    case measure=>simp [RowKit.intOf];omega
   ·have hs':Hid ((∀ t (ht:t<l.length),t<lo→Md.nlt l[t].1 key=true)∧∀ t (ht:t<l.length),k≤t→Md.nlt l[t].1 key=false):=L_ ⟨hs.out.1,fun t ht h1=>by
     have kn:Md.nlt xk key=false:=by
      cases e:Md.nlt xk key with
      | true=>exact absurd (kx.2 e) hy0
      | false=>rfl
     by_cases e:t=k
     ·subst e;rw [HX.out];exact kn
     ·have g:=(List.pairwise_iff_getElem.1 HR.out.2) k t hkn ht (by omega)
      rw [HX.out] at g
      cases e2:Md.nlt l[t].1 key with
      | true=>rw [zb3 g e2] at kn;cases kn
      | false=>rfl⟩
    clear kx hs
    go_wp2_with (go_at_call 123;with_reducible refine zrd xk xv key hy Hk ?_;intro w4 H4 I4)
    go_roundw
    case rel=>exact ⟨lo,k,rfl,rfl,by omega,by omega,hs',H4,Ik.trans I4⟩
    case measure=>simp [RowKit.intOf];omega
  ·obtain rfl:lo=hi:=by omega
   have hge:¬ (lo:Int)<(lo:Int):=by omega
   obtain rfl:n=lo:=by rw [hn.out];exact (Ky.z0a HR.out b2 (fun j hl' h1=>hs.out.1 j hl' h1) (fun j hl' h1=>hs.out.2 j hl' h1)).symm
   have ht:=Ky.zc1 (key:=key) HR.out
   rw [←hn.out,←hd.out] at ht
   by_cases hin:n<l.length
   ·have hini:(n:Int)<(l.length:Int):=by omega
    have hind:decide (n<l.length)=true:=decide_eq_true hin
    have hc00:(0:Int)≤(n:Int):=by omega
    obtain ⟨b,off,xk,xv,rfl,hx,hc⟩:=HV.out n hin
    obtain ⟨c0,c1⟩:=hc wr Hk
    obtain ⟨y,hy⟩:∃ y,Hid (y=Ky.cmp xk key):=⟨_,L_ rfl⟩
    have kx:=Ky.xcb xk key
    rw [←hy.out] at kx
    have hdy:(y == 0)=d:=by
     rw [Bool.eq_iff_iff,beq_iff_eq,kx,ht]
     exact ⟨fun e=>⟨hin,by rw [hx];exact e⟩,fun ⟨_,e⟩=>by rw [hx] at e;exact e⟩
    clear kx hs hc hx ht
    go_wp2_with (go_at_call 123;with_reducible refine zrd xk xv key hy Hk ?_;intro w4 H4 I4)
    exact HH.out _ H4 (Ik.trans I4)
   ·have hge2:¬ (n:Int)<(l.length:Int):=by omega
    obtain rfl:d=false:=by
     cases d with
     | false=>rfl
     | true=>obtain ⟨h,_⟩:=ht.1 rfl;exact absurd h hin
    have hdec:decide (n<l.length)=false:=decide_eq_false hin
    clear ht hs
    go_wp2_with fail
    exact HH.out _ Hk Ik
theorem zgm {l:List Ky.En} {v:Value} (hr:Ky.Right l) (hv:zbi F v l) (hl:l.length≤1000000) (key:ByteArray) (H:Sat F w) {n:Nat} {d:Bool} (hn:Hid (n=Ky.pos key l)) (hd:Hid (d=Ky.has key l)) (h:∀ w',Sat F w'→Io w w'→R (.returned (.tuple #[.int .i64 (n:Int),.bool d])) w') :
  Calls Tryz.prog 92 #[v,.string key] w R:=by
 have HH:=L_ h
 clear h
 go_enter Tryz.func92,Tryz.ntmps92
 go_wp2_with (go_at_call 122;with_reducible refine zxe hr hv hl key H hn hd ?_;intro w1 H1 I1)
 exact HH.out _ H1 I1
end
end Go.Proofs.YtfknjmoekbabcaaGreatDoor
