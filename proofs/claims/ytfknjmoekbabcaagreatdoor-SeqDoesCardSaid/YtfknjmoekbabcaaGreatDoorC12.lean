/-
  A part of a proof. It proves no statement by itself.
-/
import Derived.Test.YtfknjmoekbabcaaGreatDoorC02
set_option linter.unusedSimpArgs false
set_option linter.unusedVariables false
set_option linter.unusedSectionVars false
set_option maxRecDepth 100000
set_option maxHeartbeats 64000000
namespace Go.Proofs.YtfknjmoekbabcaaGreatDoor
open Go.RowKit
theorem xd9 (s:ByteArray) (k:Nat) (h:k<s.size):un (s.data.toList.take (k+1))=un (s.data.toList.take k)*256+(s.data.toList.getD k 0).toNat:=by
 have hk:k<s.data.toList.length:=h
 rw [List.take_succ_eq_append_getElem hk,z1o,z0v hk]
theorem un_le (l:List UInt8) (k:Nat) (h:l.length≤k) (hk:k≤4):un l<4294967296:=by
 have h1:=un_lt l
 have h2:256 ^ l.length≤256 ^ 4:=Nat.pow_le_pow_right (by omega) (by omega)
 have e:256 ^ 4=4294967296:=rfl
 omega
theorem zw6 (n b:Nat) (hn:n<4294967296) (hb:b<256):bits .or .i64 ((n:Int)*256) (b:Int)=((n*256+b:Nat):Int):=by
 have e:((n:Int)*256)=((n*256:Nat):Int):=by omega
 have ho:n*256 ||| b=n*256+b:=by
  have:=Nat.two_pow_add_eq_or_of_lt (i:=8) hb n
  rw [Nat.mul_comm n 256]
  exact this.symm
 rw [e]
 show IntKind.i64.wrap ((BitVec.ofInt 64 ((n*256:Nat):Int) ||| BitVec.ofInt 64 (b:Int)).toNat:Int)=_
 rw [BitVec.toNat_or,BitVec.ofInt_natCast,BitVec.toNat_ofNat,Nat.mod_eq_of_lt (by omega),BitVec.ofInt_natCast,BitVec.toNat_ofNat,Nat.mod_eq_of_lt (by omega),ho]
 exact IntWalk.i64_in _ (by omega)
structure Rd where
 rest:ByteArray
 err:Int
def zeb (p:Nat) (r:Rd):Asn:=pts p (.cells #[.string r.rest,.int .i64 r.err] 212 (0,0))
namespace Rd
def bE (r:Rd) (n:Int):Int:=if r.err≠0 then r.err else if n<0 then 1 else if (r.rest.size:Int)<n then 10 else 0
def bS (r:Rd) (n:Int):ByteArray:=if r.bE n=0 then r.rest.extract 0 n.toNat else ByteArray.empty
def bR (r:Rd) (n:Int):Rd:=if r.bE n=0 then ⟨r.rest.extract n.toNat r.rest.size,0⟩ else ⟨r.rest,r.bE n⟩
def num (r:Rd) (k:Nat):Nat:=un (r.bS k).data.toList
end Rd
section
variable {F:Asn} {w:World} {R:Ending→World→Prop} {p:Nat} {r:Rd}
theorem zdu (H:Sat (zeb p r*F) w):p<w.heap.size∧w.cell? ⟨p,0,none⟩=some (.string r.rest)∧w.cell? ⟨p,1,none⟩=some (.int .i64 r.err)∧(∀ j,w.frozen? ⟨p,j,none⟩=false) :=
 ⟨H.left.lt,Sat.read H.left.at 0,Sat.read H.left.at 1,fun j=>Sat.free H.left.at j⟩
theorem xet (H:Sat (zeb p r*F) w) (s:ByteArray):Sat (zeb p { r with rest:=s }*F) (w.setCell ⟨p,0,none⟩ (.string s)):=Sat.cell H 0 _
theorem rd_err (H:Sat (zeb p r*F) w) (e:Int):Sat (zeb p { r with err:=e }*F) (w.setCell ⟨p,1,none⟩ (.int .i64 e)):=Sat.cell H 1 _
theorem zqm (H:Sat F w) (s:ByteArray) (h:∀ p w',Sat (zeb p ⟨s,0⟩*F) w'→Io w w'→R (.returned (.pointer (some ⟨p,0,none⟩))) w') :
  Calls Tryz.prog 110 #[.string s] w R:=by
 have fin:=h _ _ (H.new (.cells #[.string s,.int .i64 0] 212)) ((Io.refl w).alloc _)
 clear h
 go_enter Tryz.func110,Tryz.ntmps110
 go_wp2_with fail
 exact fin
theorem zre (H:Sat (zeb p r*F) w) (e:Int) (h:∀ w',Sat (zeb p { r with err:=if r.err=0 then e else r.err }*F) w'→Io w w'→R (.returned (.tuple #[])) w') :
  Calls Tryz.prog 139 #[.pointer (some ⟨p,0,none⟩),.int .i64 e] w R:=by
 obtain ⟨lp,c0,c1,fz⟩:=zdu H
 have f1:=fz 1
 by_cases h0:r.err=0
 ·have fin:=h _ (by rw [if_pos h0];exact rd_err H e) ((Io.refl w).setCell _ _)
  rw [h0] at c1
  clear h H fz h0
  go_enter Tryz.func139,Tryz.ntmps139
  go_wp2_with fail
  go_end0
  exact fin
 ·have fin:=h w (by rw [if_neg h0];exact H) (Io.refl w)
  have hb:(r.err == 0)=false:=by simpa using h0
  clear h H fz h0
  go_enter Tryz.func139,Tryz.ntmps139
  go_wp2_with fail
  go_end0
  exact fin
theorem zna (H:Sat (zeb p r*F) w) (hs:r.rest.size≤9223372036854775807) (n:Int) (h:∀ w',Sat (zeb p (r.bR n)*F) w'→Io w w'→R (.returned (.string (r.bS n))) w') :
  Calls Tryz.prog 140 #[.pointer (some ⟨p,0,none⟩),.int .i64 n] w R:=by
 have hs':(r.rest.size:Int)≤9223372036854775807:=by omega
 by_cases h0:n<0
 ·have e1:r.bE n≠0:=by unfold Rd.bE;split<;>simp_all
  have e2:r.bE n=if r.err=0 then 1 else r.err:=by unfold Rd.bE;by_cases hx:r.err=0<;>simp [hx,h0]
  have e3:r.bR n={ r with err:=if r.err=0 then 1 else r.err }:=by unfold Rd.bR;rw [if_neg e1,e2]
  have e4:r.bS n=ByteArray.empty:=by unfold Rd.bS;rw [if_neg e1]
  rw [e3,e4] at h
  rw [e2] at e1
  have hb:((if r.err=0 then 1 else r.err) != 0)=true:=by simpa using e1
  clear e1 e2 e3 e4 hs
  go_enter Tryz.func140,Tryz.ntmps140
  go_wp2_with (go_at_call 139;refine zre H 1 ?_;intro w1 H1 I1;obtain ⟨l1,c0,c1,_⟩:=zdu H1;simp only at c1;generalize (if r.err=0 then 1 else r.err)=z at *)
  exact h w1 H1 I1
 ·by_cases h1:(r.rest.size:Int)<n
  ·have e1:r.bE n≠0:=by unfold Rd.bE;split<;>simp_all
   have e2:r.bE n=if r.err=0 then 10 else r.err:=by unfold Rd.bE;by_cases hx:r.err=0<;>simp [hx,h0,h1]
   have e3:r.bR n={ r with err:=if r.err=0 then 10 else r.err }:=by unfold Rd.bR;rw [if_neg e1,e2]
   have e4:r.bS n=ByteArray.empty:=by unfold Rd.bS;rw [if_neg e1]
   rw [e3,e4] at h
   rw [e2] at e1
   have hb:((if r.err=0 then 10 else r.err) != 0)=true:=by simpa using e1
   obtain ⟨l0,c00,_⟩:=zdu H
   clear e1 e2 e3 e4 hs
   go_enter Tryz.func140,Tryz.ntmps140
   go_wp2_with (go_at_call 139;refine zre H 10 ?_;intro w1 H1 I1;obtain ⟨l1,c0,c1,_⟩:=zdu H1;simp only at c1;generalize (if r.err=0 then 10 else r.err)=z at *)
   exact h w1 H1 I1
  ·obtain ⟨lp,c0,c1,fz⟩:=zdu H
   have f0:=fz 0
   by_cases hx:r.err=0
   ·have e1:r.bE n=0:=by unfold Rd.bE;simp [hx,h0,h1]
    have e3:r.bR n=⟨r.rest.extract n.toNat r.rest.size,0⟩:=by unfold Rd.bR;rw [if_pos e1]
    have e4:r.bS n=r.rest.extract 0 n.toNat:=by unfold Rd.bS;rw [if_pos e1]
    have H2:=xet H (r.rest.extract n.toNat r.rest.size)
    rw [hx] at c1 H2
    rw [e3,e4] at h
    have fin:=h _ H2 ((Io.refl w).setCell _ _)
    have n0:0≤n:=by omega
    have n1:n≤(r.rest.size:Int):=by omega
    have n2:n.toNat≤r.rest.size:=by omega
    clear e1 e3 e4 hs h H H2 fz hx h0 h1
    generalize r.rest=t at *
    go_enter Tryz.func140,Tryz.ntmps140
    go_wp2_with fail
    exact fin
   ·have e1:r.bE n=r.err:=by unfold Rd.bE;rw [if_pos hx]
    have e3:r.bR n=r:=by unfold Rd.bR;rw [if_neg (by rw [e1];exact hx),e1]
    have e4:r.bS n=ByteArray.empty:=by unfold Rd.bS;rw [if_neg (by rw [e1];exact hx)]
    rw [e3,e4] at h
    have hb:(r.err != 0)=true:=by simpa using hx
    have fin:=h w H (Io.refl w)
    clear e1 e3 e4 hs h H fz hx
    go_enter Tryz.func140,Tryz.ntmps140
    go_wp2_with fail
    exact fin
theorem z6p (H:Sat (zeb p r*F) w) (hs:r.rest.size≤1000000) (n:Int) (h:∀ w',Sat (zeb p (r.bR n)*F) w'→Io w w'→R (.returned (.string (r.bS n))) w') :
  Calls Tryz.prog 140 #[.pointer (some ⟨p,0,none⟩),.int .i64 n] w R:=zna H (by omega) n h
theorem z6z (r:Rd) (n:Int) (hn:0≤n):(r.bS n).data.toList.length=if r.bE n=0 then n.toNat else 0:=by
 unfold Rd.bS
 by_cases e:r.bE n=0
 ·have hs:n≤(r.rest.size:Int):=by
   unfold Rd.bE at e
   split at e
   ·contradiction
   ·split at e
    ·cases e
    ·split at e
     ·cases e
     ·omega
  rw [if_pos e,if_pos e,zd1,ByteArray.size_extract]
  omega
 ·rw [if_neg e,if_neg e];rfl
theorem z5b (H:Sat (zeb p r*F) w) (hs:r.rest.size≤9223372036854775807) (k:Nat) (hk:k=1∨k=2∨k=4) (h:∀ w',Sat (zeb p (r.bR k)*F) w'→Io w w'→R (.returned (.int .i64 (r.num k:Nat))) w') :
  Calls Tryz.prog 111 #[.pointer (some ⟨p,0,none⟩),.int .i64 (k:Int)] w R:=by
 have hlen:=z6z r k (by omega)
 have hle:(r.bS k).data.toList.length≤k:=by rw [hlen];split<;>simp
 clear hlen
 have hsz:(r.bS k).size≤k:=hle
 have e:r.num k=un (r.bS k).data.toList:=rfl
 rw [e] at h
 have HH:=L_ h
 have HK:=L_ hk
 clear e h
 go_enter Tryz.func111,Tryz.ntmps111
 go_wp2_with (go_at_call 138;refine zer k (by have:=HK.out;omega) ?_)
 refine zna H hs k ?_
 intro w1 H1 I1
 generalize r.bS k=s at *
 have hs4:(s.size:Int)≤4:=by have:=HK.out;omega
 have kc:∀ W,(convert 9 164 (.string s)).run Tryz.prog W=.ok (.slice (some ⟨W.heap.size,0,none⟩) s.size (grownCap W s.size 0 5)) (Lib.bytesWorld W 5 s) :=
  fun W=>Lib.run_convert_string_bytes W _ _ _ s Tryz.underlying9 Tryz.underlying164 Tryz.underlying5
 have hcell:=Lib.bytesWorld_cell w1 5 s
 have hg:w1.heap.size<(Lib.bytesWorld w1 5 s).heap.size:=by rw [Lib.bytesWorld_size];omega
 have fin:=HH.out _ (z6o 5 s H1).right (I1.trans (xch 5 s))
 have HC:=L_ hcell
 have FIN:=L_ fin
 have HLE:=L_ hle
 clear hcell fin HH hle hsz hk
 go_wp2_with fail
 clear kc
 generalize Lib.bytesWorld w1 5 s=w2 at *
 generalize grownCap w1 s.size 0 5=cap at *
 generalize w1.heap.size=g at *
 go_loop [5,18] (fun x y=>∃ j:Nat,j≤s.size∧x=.int .i64 (un (s.data.toList.take j):Nat)∧y=.int .i64 (j:Int)) (fun _ y=>s.size - (intOf y).toNat)
 case atStart=>exact ⟨0,by omega,rfl,rfl⟩
 case round =>
  obtain ⟨j,hj,rfl,rfl⟩:=hrel
  have hm:=un_le (s.data.toList.take j) 4 (by have:=HLE.out;have:=HK.out;rw [List.length_take];omega) (by omega)
  by_cases hlt:j<s.size
  ·have hc:=HC.out j hlt
   have hn:=xd9 s j hlt
   generalize s.data.toList.getD j 0=b at *
   have hb:=b.toNat_lt
   generalize un (s.data.toList.take j)=m at *
   have hor:=zw6 m b.toNat hm (by omega)
   have hj':(j:Int)<(s.size:Int):=by omega
   have HN:=L_ hn
   have m0:(0:Int)≤(m:Int):=by omega
   have m1:(m:Int)≤4294967295:=by omega
   have b0:(0:Int)≤(b.toNat:Int):=by omega
   have b1:(b.toNat:Int)≤255:=by omega
   clear hm hb hn hlt hj
   go_wp2_with fail
   go_round
   case rel=>exact ⟨j+1,by omega,by rw [HN.out];go_num,by go_num⟩
   case measure=>simp [intOf];omega
  ·obtain rfl:j=s.size:=by omega
   have ht:s.data.toList.take s.size=s.data.toList:=List.take_length
   rw [ht]
   clear hm ht hlt hj
   generalize un s.data.toList=m at *
   go_wp2_with fail
   exact FIN.out
theorem zw5 (H:Sat (zeb p r*F) w) (hs:r.rest.size≤1000000) (k:Nat) (hk:k=1∨k=2∨k=4) (h:∀ w',Sat (zeb p (r.bR k)*F) w'→Io w w'→R (.returned (.int .i64 (r.num k:Nat))) w') :
  Calls Tryz.prog 111 #[.pointer (some ⟨p,0,none⟩),.int .i64 (k:Int)] w R:=z5b H (by omega) k hk h
end
def cat (xs:List ByteArray):List UInt8:=(xs.map fun s=>s.data.toList).flatten
theorem zyz:∀ xs:List ByteArray,Lib.join (xs.map (·.data.toList)) ([]:List UInt8)=cat xs
 | []=>rfl
 | x::l=>by
  rw [List.map_cons,Lib.join_cons]
  have e:((fun x:List UInt8=>x) ∘ fun x:ByteArray=>x.data.toList)=fun x:ByteArray=>x.data.toList:=rfl
  simp [cat,Lib.joinTail,e]
theorem xca {P:Program} (src e dst:TypeId) (hs:P.underlying src=some (.slice e)) (he:P.underlying e=some (.int .u8)) (hd:P.underlying dst=some .string)
  (y:Int) (w:World) :
  (convert src dst (.slice (some ⟨w.heap.size,0,none⟩) 1 1)).run P (w.alloc (.cells #[.int .u8 y] e))=.ok (.string (tx [UInt8.ofNat y.toNat])) (w.alloc (.cells #[.int .u8 y] e)):=by
 have:=run_convert_bytes_arg (P:=P) (w.alloc (.cells #[.int .u8 y] e)) src e hs he w.heap.size 0 1 1 [y] rfl (by
  intro i hi
  obtain rfl:i=0:=by omega
  simp) dst hd
 simpa [strOfNums,tx] using this
section
variable {F:Asn} {w:World} {R:Ending→World→Prop}
theorem xbb (H:Sat F w) (b n c:Nat) (xs:List ByteArray) (hn:n=xs.length) (hb:b<w.heap.size) (hc:∀ j x,xs[j]?=some x→w.cell? ⟨b,j,none⟩=some (.string x)) (hcap:n≤c) (hlen:(cat xs).length≤1000000)
  (hcl:xs.length≤1000000) (h:∀ w',Sat F w'→Io w w'→R (.returned (.string (tx (cat xs)))) w') :
  Calls Tryz.prog 137 #[.slice (some ⟨b,0,none⟩) n c] w R:=by
 subst hn
 have hj:=Tryz.strings_Join b 0 c xs ⟨#[]⟩ w (by simpa using hc) hb (by omega) hcap (by have:=zyz xs;show (Lib.join (xs.map (·.data.toList)) []).length≤_;rw [this];omega)
 have e:Lib.join (xs.map (·.data.toList)) (⟨#[]⟩:ByteArray).data.toList=cat xs:=zyz xs
 rw [e] at hj
 have hcl':(xs.length:Int)≤1000000:=by omega
 go_enter Tryz.func137,Tryz.ntmps137
 go_wp2_with (go_at_call 169;refine hj.mono ?_;rintro e w' ⟨rfl,hb1⟩)
 exact h w' (z6t H hb1) (xcl hb1)
end
theorem xby {t:ByteArray} (h:¬ t=ByteArray.empty):t.toList.isEmpty=false:=by
 rw [Bool.eq_false_iff]
 intro e
 rw [List.isEmpty_iff,ByteArray.toList_eq] at e
 exact h (by rw [←z1q t,e];rfl)
def Rd.fin (r:Rd):Int:=if r.rest=ByteArray.empty then r.err else if r.err=0 then 11 else r.err
section
variable {F:Asn} {w:World} {R:Ending→World→Prop} {p:Nat} {r:Rd}
theorem zxg (H:Sat (zeb p r*F) w) (h:∀ w',Sat (zeb p r*F) w'→Io w w'→R (.returned (.int .i64 r.fin)) w') :
  Calls Tryz.prog 112 #[.pointer (some ⟨p,0,none⟩)] w R:=by
 obtain ⟨lp,c0,c1,fz⟩:=zdu H
 by_cases h0:r.rest=ByteArray.empty
 ·have fin:=h w H (Io.refl w)
  unfold Rd.fin at fin
  rw [if_pos h0] at fin
  rw [h0] at c0
  have q:(ByteArray.empty.toList == (⟨#[]⟩:ByteArray).toList)=true:=by simp
  clear h H fz h0
  go_enter Tryz.func112,Tryz.ntmps112
  go_wp2_with fail
  exact fin
 ·have q:r.rest.toList.isEmpty=false:=xby h0
  have e:r.fin=if r.err=0 then 11 else r.err:=by unfold Rd.fin;rw [if_neg h0]
  rw [e] at h
  have HN:=H.new (.cells #[.string ByteArray.empty,.int .i64 r.err] 212)
  have IN:=io1 HN (Io.refl w)
  have HN':Sat (zeb w.heap.size ⟨ByteArray.empty,r.err⟩*(zeb p r*F)) _:=HN
  clear H fz h0 e HN
  generalize r.rest=t at *
  go_enter Tryz.func112,Tryz.ntmps112
  go_wp2_with fail
  refine zre HN' 11 ?_
  intro w1 H1 I1
  obtain ⟨l1,d0,d1,-⟩:=zdu H1
  simp only at d1
  generalize (if r.err=0 then 11 else r.err)=z at *
  go_wp2_with fail
  exact h w1 H1.right (IN.trans I1)
end
end Go.Proofs.YtfknjmoekbabcaaGreatDoor
