/-
  A part of a proof. It proves no statement by itself.
-/
import Derived.Test.YtfknjmoekbabcaaGreatDoorC13
set_option linter.unusedSimpArgs false
set_option linter.unusedVariables false
set_option linter.unusedSectionVars false
set_option maxRecDepth 100000
set_option maxHeartbeats 64000000
namespace Go.Proofs.YtfknjmoekbabcaaGreatDoor
open Go.RowKit Go.Lib
section
variable {F:Asn} {w:World} {R:Ending→World→Prop}
theorem xfp {x y:Ky.Nm} {t:Bool} (h:Md.nlt x y=t):(t=true∧Op.bytesLess y.toList x.toList=false∧(y.toList == x.toList)=false)∨(t=false∧Op.bytesLess y.toList x.toList=true)∨(t=false∧Op.bytesLess y.toList x.toList=false∧(y.toList == x.toList)=true):=by
 cases t with
 | true =>
  refine .inl ⟨rfl,ze6 h,?_⟩
  rw [beq_eq_false_iff_ne]
  intro e
  have:=z3q e
  subst this
  rw [zbp] at h;cases h
 | false =>
  cases e:Md.nlt y x with
  | true=>exact .inr (.inl ⟨rfl,e⟩)
  | false =>
   have:=zje h e
   subst this
   exact .inr (.inr ⟨rfl,e,by simp⟩)
theorem zps {bn bk b off n c k:Nat} {x y z:Value} {key ki:ByteArray} (hk:(k:Int)<(n:Int)) (hc:w.cell? ⟨b,off+k,none⟩=some (.string ki)) (H:Sat (pts bk (.cells #[.string key] 9 (0,0))*(pts bn (.cells #[x,y,z,.slice (some ⟨b,off,none⟩) n c] 151 (0,0))*F)) w) {t:Bool} (ht:Hid (Md.nlt key ki=t))
  (h:∀ w',Sat (pts bk (.cells #[.string key] 9 (0,0))*(pts bn (.cells #[x,y,z,.slice (some ⟨b,off,none⟩) n c] 151 (0,0))*F)) w'→Io w w'→R (.returned (.bool t)) w') :
  Calls Tryz.prog 136 #[.int .i64 (k:Int),.pointer (some ⟨bn,0,none⟩),.pointer (some ⟨bk,0,none⟩)] w R:=by
 have q0:=Sat.read H.left.at 0
 simp only [List.getElem?_toArray,List.getElem?_cons_zero,List.getElem?_cons_succ] at q0
 obtain ⟨_,_,_,q3⟩:=nd4 H.right
 have hk0:(0:Int)≤(k:Int):=by omega
 have hw:=xfp ht.out
 have HH:=L_ h
 clear h ht
 rcases hw with ⟨rfl,e1,e2⟩ | ⟨rfl,e1⟩ | ⟨rfl,e1,e2⟩
 all_goals
  go_enter Tryz.func136,Tryz.ntmps136
  go_wp2_with fail
  go_quiet (fail)
  go_wp2_with fail
  exact HH.out _ (H.drewN _) ((Io.refl w).drewN _)
theorem zxl {bn bk:Nat} {x y z:Value} {a:Option Addr} {c:Nat} {keys:List Ky.Nm} {key:ByteArray} (hv:zbe F (.slice a keys.length c) keys) (hu:keys.Pairwise fun p q=>Md.nlt p q=true) (hl:keys.length≤5000)
  (H:Sat (pts bk (.cells #[.string key] 9 (0,0))*(pts bn (.cells #[x,y,z,.slice a keys.length c] 151 (0,0))*F)) w) {n:Nat} (hn:Hid (n=Tb.chd key keys))
  (h:∀ w',Sat (pts bk (.cells #[.string key] 9 (0,0))*(pts bn (.cells #[x,y,z,.slice a keys.length c] 151 (0,0))*F)) w'→Io w w'→R (.returned (.int .i64 (n:Int))) w') :
  Calls Tryz.prog 135 #[.int .i64 (keys.length:Int),.func (.func 136) #[] #[.pointer (some ⟨bn,0,none⟩),.pointer (some ⟨bk,0,none⟩)]] w R:=by
 have HV:=L_ (fun k hk=>zdq hv k hk)
 have HH:=L_ h
 have HU:=L_ hu
 have hli:(keys.length:Int)≤5000:=by omega
 clear h hv hu
 go_enter Tryz.func135,Tryz.ntmps135
 go_wp2_with fail
 go_loopw [5,6] (fun p q wr=>∃ lo hi:Nat,p=.int .i64 (lo:Int)∧q=.int .i64 (hi:Int)∧lo≤hi∧hi≤keys.length ∧
  Hid ((∀ t (ht:t<keys.length),t<lo→Md.nlt key keys[t]=false)∧∀ t (ht:t<keys.length),hi≤t→Md.nlt key keys[t]=true)∧Sat (pts bk (.cells #[.string key] 9 (0,0))*(pts bn (.cells #[x,y,z,.slice a keys.length c] 151 (0,0))*F)) wr∧Io w wr) (fun p q _=>(RowKit.intOf q - RowKit.intOf p).toNat)
 case atStart=>exact ⟨0,keys.length,rfl,rfl,by omega,by omega,L_ ⟨fun t ht h0=>absurd h0 (Nat.not_lt_zero _),fun t h1 h2=>by omega⟩,H,Io.refl _⟩
 case round =>
  obtain ⟨lo,hi,rfl,rfl,b1,b2,hs,Hk,Ik⟩:=hrel
  by_cases hlt:lo<hi
  ·have zph:(lo:Int)<(hi:Int):=by omega
   obtain ⟨k,hk⟩:∃ k,k=(lo+hi) / 2:=⟨_,rfl⟩
   have hk2:((lo:Int)+(hi:Int)) / 2=(k:Int):=by omega
   have hkn:k<keys.length:=by omega
   have hkl:lo≤k∧k<hi:=by omega
   have hki:(k:Int)<(keys.length:Int):=by omega
   have hk0:(0:Int)≤(k:Int):=by omega
   have hk5:(k:Int)≤5000:=by omega
   obtain ⟨b,off,ki,rfl,hx,hc⟩:=HV.out k hkn
   have c0:=hc wr Hk.right.right
   obtain ⟨t0,ht0⟩:∃ t0,Md.nlt key ki=t0:=⟨_,rfl⟩
   have HT:=L_ ht0
   have HX:=L_ hx
   clear hc hx hk
   cases t0 with
   | false =>
    have hs':Hid ((∀ t (ht:t<keys.length),t<k+1→Md.nlt key keys[t]=false)∧∀ t (ht:t<keys.length),hi≤t→Md.nlt key keys[t]=true):=L_ ⟨fun t ht h1=>(by
     by_cases e:t=k
     ·subst e;rw [HX.out];exact HT.out
     ·have g:=(List.pairwise_iff_getElem.1 HU.out) t k ht hkn (by omega)
      rw [HX.out] at g
      cases e2:Md.nlt key keys[t] with
      | false=>rfl
      | true=>exact absurd (zb3 e2 g) (by rw [HT.out];exact Bool.false_ne_true)),hs.out.2⟩
    clear hs ht0
    go_wp2_with (go_at_call 136;with_reducible refine zps hki c0 Hk HT ?_;intro w4 H4 I4)
    go_roundw
    case rel=>exact ⟨k+1,hi,by go_num,rfl,by omega,b2,hs',H4,Ik.trans I4⟩
    case measure=>simp [RowKit.intOf];omega
   | true =>
    have hs':Hid ((∀ t (ht:t<keys.length),t<lo→Md.nlt key keys[t]=false)∧∀ t (ht:t<keys.length),k≤t→Md.nlt key keys[t]=true):=L_ ⟨hs.out.1,fun t ht h1=>by
     by_cases e:t=k
     ·subst e;rw [HX.out];exact HT.out
     ·have g:=(List.pairwise_iff_getElem.1 HU.out) k t hkn ht (by omega)
      rw [HX.out] at g
      exact zb3 HT.out g⟩
    clear hs ht0
    go_wp2_with (go_at_call 136;with_reducible refine zps hki c0 Hk HT ?_;intro w4 H4 I4)
    go_roundw
    case rel=>exact ⟨lo,k,rfl,rfl,by omega,by omega,hs',H4,Ik.trans I4⟩
    case measure=>simp [RowKit.intOf];omega
  ·obtain rfl:lo=hi:=by omega
   have hge:¬ (lo:Int)<(lo:Int):=by omega
   obtain rfl:n=lo:=by rw [hn.out];exact (Tb.z08 HU.out b2 (fun j hl' h1=>hs.out.1 j hl' h1) (fun j hl' h1=>hs.out.2 j hl' h1)).symm
   clear hs HV
   go_wp2_with fail
   exact HH.out _ Hk Ik
theorem zm5 {kids:List Int} {keys:List Ky.Nm} {v:Value} (hr:Ky.InR kids keys) (hv:NdV F v (Ky.inn kids keys)) (hl:keys.length≤5000) (key:ByteArray) (H:Sat F w) {n:Nat} (hn:Hid (n=Tb.chd key keys))
  (h:∀ w',Sat F w'→Io w w'→R (.returned (.int .i64 (n:Int))) w') :
  Calls Tryz.prog 108 #[v,.string key] w R:=by
 obtain ⟨se,sk,sx,rfl,hh⟩:=hv
 dsimp only [Ky.inn] at hh
 obtain ⟨h12,h34,h5,h6⟩:=hh
 obtain ⟨a5,c5,rfl,m5⟩:=zab h5
 have HH:=L_ h
 have P5:=L_ h5
 have HU:=L_ hr.up
 clear h h12 h34 h5 h6 hr
 change Calls Tryz.prog 108 #[.agg #[.bool false,se,sk,.slice a5 keys.length c5],.string key] w R
 have H1:=(H.new (.cells #[.bool false,se,sk,.slice a5 keys.length c5] 151)).new (.cells #[.string key] 9)
 have I1:=io2 H1 (Io.refl w)
 rw [World.size_alloc] at H1
 obtain ⟨q0,q1,q2,q3⟩:=nd4 H1.right
 go_enter Tryz.func108,Tryz.ntmps108
 go_wp2_with (go_at_call 135;refine zxl P5.out HU.out hl H1 hn ?_;intro w2 H2 I2)
 exact HH.out _ H2.right.right (I1.trans I2)
end
end Go.Proofs.YtfknjmoekbabcaaGreatDoor
