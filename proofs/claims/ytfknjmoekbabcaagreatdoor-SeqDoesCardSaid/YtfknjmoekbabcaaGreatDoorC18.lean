/-
  A part of a proof. It proves no statement by itself.
-/
import Derived.Test.YtfknjmoekbabcaaGreatDoorRows
import Derived.Test.YtfknjmoekbabcaaGreatDoorC01
import Derived.Test.YtfknjmoekbabcaaGreatDoorEShelf
import Derived.Deep.RegionWith
import Derived.Test.YtfknjmoekbabcaaGreatDoorC17
set_option linter.unusedSimpArgs false
set_option linter.unusedVariables false
set_option linter.unusedSectionVars false
set_option maxRecDepth 100000
set_option maxHeartbeats 64000000
namespace Go.Proofs.YtfknjmoekbabcaaGreatDoor
open Go.RowKit
theorem Tryz.info9:(Tryz.prog.info? 9).map (fun i=>(i.zero,i.size,i.bytes))=some (some (.string ⟨#[]⟩),1,16):=by kernel_rfl
def half (z:Value) (k n:Nat):Array Value:=(List.replicate k z++List.replicate (n - k) (Value.string ⟨#[]⟩)).toArray
theorem z5g (z:Value) (k n:Nat) (h:k≤n):(half z k n).size=n:=by simp [half];omega
theorem z5h (z:Value) (n:Nat):half z n n=(List.replicate n z).toArray:=by simp [half]
theorem xbh (z:Value) (k n j:Nat) (h:j<k):(half z k n)[j]?=some z:=by
 simp [half,List.getElem?_append,List.getElem?_replicate,h]
theorem z5f (z:Value) (k n m:Nat) (h:k+m≤n) :
  ((half z k n).toList.take k++List.replicate m z++(half z k n).toList.drop (k+m)).toArray=half z (k+m) n:=by
 have e1:(half z k n).toList.take k=List.replicate k z:=by simp [half,List.take_append_of_le_length]
 have e2:(half z k n).toList.drop (k+m)=List.replicate (n - (k+m)) (Value.string ⟨#[]⟩):=by
  simp only [half]
  rw [List.drop_append,List.drop_of_length_le (by simp),List.nil_append,List.length_replicate,List.drop_replicate]
  congr 1
  omega
 rw [e1,e2,List.replicate_append_replicate]
 rfl
theorem xbg (n:Nat):madeCells (Value.string ⟨#[]⟩).cells n=half (.string ⟨#[]⟩) 0 n:=by
 apply Array.ext
 ·simp [half,madeCells]
 ·intro j h1 h2
  simp [half,madeCells,Value.cells,Nat.mod_one]
theorem z5e (z y:Value) (n:Nat):half z 0 n=half y 0 n:=by simp [half]
theorem zww (n:Nat) (hn:n≤16384) (w:World):Calls Tryz.prog 100 #[.int .u64 1,.int .u64 (n:Int)] w fun e w'=>e=.returned (.tuple #[.int .u64 0,.int .u64 (n:Int)])∧w=w':=by
 refine (Tryz.bits_Mul 1 n (by omega) (by omega) w).mono ?_
 rintro e w' ⟨he,hw⟩
 refine ⟨?_,hw.symm⟩
 have h1:1*n / 18446744073709551616=0:=by omega
 have h2:1*n % 18446744073709551616=n:=by omega
 rw [he,h1,h2]
 rfl
theorem zqg (n:Nat) (hn:n≤16384) (w:World) :
  (Instr.makeSlice 58 (.int .i64 (n:Int)) (.int .i64 (n:Int))).run Tryz.prog w=.ok (.slice (some ⟨w.heap.size,0,none⟩) n n) (w.alloc (.cells (half (.string ⟨#[]⟩) 0 n) 9)):=by
 obtain ⟨i0,hi,hz0,hz1,hz2⟩:=info_parts Tryz.info9
 have h:=run_make (P:=Tryz.prog) w 58 9 i0 _ Tryz.underlying58 hi hz0 .i64 .i64 (n:Int) (n:Int) (by omega) (Int.le_refl _) (by rw [hz2];omega) (by omega)
 rw [hz1,Int.toNat_natCast,Nat.mul_one,xbg] at h
 exact h
theorem z9g:(Tryz.prog.info? 9).map (·.size)=some 1:=by kernel_rfl
theorem zi5 (g k n m dCap sLen sCap:Nat) (z:Value) (hz:z.oneCell'=true) (a:Addr) (w:World) {F:Asn} (H:Sat (pts g (.cells (half z k n) 9 (0,0))*F) w) (hkm:k+m≤n)
  (hm:m=Nat.min sLen (n - k)) (hsrc:∀ j,j<m→w.cell? (a.add j)=some z) (ty:TypeId) :
  ∃ w',(Builtin.copy_ #[58,58] ty #[.slice (some ⟨g,k,none⟩) (n - k) dCap,.slice (some a) sLen sCap]).run Tryz.prog w=.ok (.int .i64 (m:Int)) w'∧Sat (pts g (.cells (half z (k+m) n) 9 (0,0))*F) w'∧Io w w':=by
 have hg:=H.left.at
 have h:=run_copy_row (P:=Tryz.prog) w 58 58 ty 9 g k (n - k) dCap a sLen sCap (half z k n) 9 (List.replicate m z) Tryz.underlying58 z9g hg (by simp [hm])
  (by intro j v hj;rw [List.getElem?_replicate] at hj;split at hj<;>first | (cases hj;exact hsrc j (by assumption)) | cases hj) (by rw [z5g z k n (by omega),List.length_replicate];exact hkm) (by intro v hv;rw [List.eq_of_mem_replicate hv];exact hz)
 rw [List.length_replicate] at h
 rw [z5f z k n m hkm] at h
 exact ⟨_,h,H.set (setRow_heap w g _ _ _ _ hg) fun j _ hj=>setRow_other w g j _ hj,⟨rfl,rfl,rfl,by simp⟩⟩
theorem zwl (b n:Nat) (z:Value) (hz:z.oneCell'=true) (w:World) {F:Asn} (H:Sat F w) (hbl:b<w.heap.size) (hb:w.cell? ⟨b,0,none⟩=some z) (hn:n≤16384) {R:Ending→World→Prop}
  (h:∀ g w',Sat (pts g (.cells (List.replicate n z).toArray 9 (0,0))*F) w'→Io w w'→R (.returned (.slice (some ⟨g,0,none⟩) n n)) w') :
  Calls Tryz.prog 75 #[.slice (some ⟨b,0,none⟩) 1 1,.int .i64 (n:Int)] w R:=by
 have hmk:=zqg n hn w
 go_enter Tryz.func75,Tryz.ntmps75
 go_wp2_with (go_at_call 100;refine (zww n hn _).mono ?_;rintro e w' ⟨rfl,rfl⟩)
 have H1:=H.new (.cells (half (.string ⟨#[]⟩) 0 n) 9)
 have I1:=io1 H1 (Io.refl w)
 have hb1:(w.alloc (.cells (half (.string ⟨#[]⟩) 0 n) 9)).cell? ⟨b,0,none⟩=some z:=by go_simp
 clear hmk
 generalize w.heap.size=g at *
 generalize w.alloc _=w1 at *
 rw [z5e _ z] at H1
 have hmin:Nat.min 1 n≤1:=Nat.min_le_left _ _
 have hmin2:Nat.min 1 n≤n:=Nat.min_le_right _ _
 have hsrc:∀ j,j<Nat.min 1 n→w1.cell? ((⟨b,0,none⟩:Addr).add j)=some z:=by
  intro j hj
  obtain rfl:j=0:=by omega
  exact hb1
 obtain ⟨w2,hr,H2,I2⟩:=zi5 g 0 n (Nat.min 1 n) n 1 1 z hz ⟨b,0,none⟩ w1 H1 (by omega) rfl hsrc 3
 clear hsrc
 rw [Nat.sub_zero] at hr
 rw [hr]
 clear hr H1
 rw [Nat.zero_add] at H2
 have hmin3:n=0∨1≤Nat.min 1 n:=by
  rcases Nat.eq_zero_or_pos n with h0 | h0
  ·exact .inl h0
  ·exact .inr (Nat.le_min.2 ⟨Nat.le_refl _,h0⟩)
 generalize Nat.min 1 n=m at *
 have I12:=I1.trans I2
 clear I1 I2 hb1
 go_wp2_with fail
 go_loopw [8] (fun v wr=>∃ k:Nat,k≤n∧(n=0∨1≤k)∧v=.int .i64 (k:Int)∧Sat (pts g (.cells (half z k n) 9 (0,0))*F) wr∧Io w wr) (fun v _=>n - (intOf v).toNat)
 case atStart=>exact ⟨m,hmin2,hmin3,rfl,H2,I12⟩
 case round =>
  obtain ⟨k,hk,hk1,rfl,Hk,Ik⟩:=hrel
  clear hmin3 hmin2 hmin H2 I12
  by_cases hlt:k<n
  ·go_wp2_with fail
   have hk0:1≤k:=by omega
   have Hd:=Hk.drew
   have Id:=Ik.drew
   have hsrc:∀ j,j<Nat.min k (n - k)→wr.drew.cell? ((⟨g,0,none⟩:Addr).add j)=some z:=by
    intro j hj
    have hjk:j<k:=Nat.lt_of_lt_of_le hj (Nat.min_le_left _ _)
    have e:(⟨g,0,none⟩:Addr).add j=⟨g,j,none⟩:=by unfold Addr.add;split<;>simp_all
    rw [e,Sat.read Hd.left.at,xbh z k n j hjk]
   have hle:Nat.min k (n - k)≤n - k:=Nat.min_le_right _ _
   have hle1:1≤Nat.min k (n - k):=Nat.le_min.2 ⟨hk0,by omega⟩
   obtain ⟨w3,hr,H3,I3⟩:=zi5 g k n (Nat.min k (n - k)) (n - k) k n z hz ⟨g,0,none⟩ wr.drew Hd (by omega) rfl hsrc 3
   have hne:¬ n=k:=by omega
   clear hsrc
   generalize Nat.min k (n - k)=q at *
   have hwr:IntKind.i64.wrap ((k:Int)+(q:Int))=(k:Int)+(q:Int):=IntWalk.i64_in _ (by omega)
   go_region_with ((rw [hr];go_simp))
   all_goals
    clear hr
    go_simp
    clear hwr
    go_roundw
    case rel=>exact ⟨_,_,_,_,_,_,_,_,_,_,_,_,_,_,⟨k+q,by omega,by omega,by go_num,H3,Id.trans I3⟩,rfl⟩
    case measure=>simp [intOf];omega
  ·go_wp2_with fail
   obtain rfl:k=n:=by omega
   rw [z5h] at Hk
   exact h g wr Hk Ik
section
variable {p sb mb:Nat} {pv:Value} {ob:Obj} {d:Dk} {w:World} {R:Ending→World→Prop}
theorem zwf (S:xd7 p sb mb pv ob d w) (hm:d.sure.length≤16384) (h:R (.returned (.int .i64 (d.sure.length:Int))) w) :
  Calls Tryz.prog 97 #[.pointer (some ⟨p,0,none⟩)] w R:=by
 have h0:=S.c0
 go_enter Tryz.func97,Tryz.ntmps97
 go_wp2
 exact h
end
def zr3 (q p:Nat) (d:Dk):Asn:=pts q (.cells #[.pointer (some ⟨p,0,none⟩)] 125 (0,0))*z8g p d
section
variable {q p:Nat} {d:Dk} {F:Asn} {w:World} {R:Ending→World→Prop}
theorem z01 (H:Sat (z8g p d*F) w) (hm:d.sure.length≤16384) (h:R (.returned (.int .i64 (d.sure.length:Int))) w) :
  Calls Tryz.prog 97 #[.pointer (some ⟨p,0,none⟩)] w R:=by
 obtain ⟨sb,mb,pv,ob,m,h1,h2,HP⟩:=z5a H
 exact zwf (xf2 HP) hm h
theorem xaa (H:Sat (zr3 q p d*F) w):q<w.heap.size∧w.cell? ⟨q,0,none⟩=some (.pointer (some ⟨p,0,none⟩)):=by
 have h:Sat (pts q (.cells #[.pointer (some ⟨p,0,none⟩)] 125 (0,0))*(z8g p d*F)) w:=H.of_eq (by unfold zr3;ac_rfl)
 exact ⟨h.left.lt,Sat.read h.left.at 0⟩
theorem xe2 (H:Sat (zr3 q p d*F) w):Sat (z8g p d*(pts q (.cells #[.pointer (some ⟨p,0,none⟩)] 125 (0,0))*F)) w:=H.of_eq (by unfold zr3;ac_rfl)
theorem xe3 (H:Sat (z8g p d*(pts q (.cells #[.pointer (some ⟨p,0,none⟩)] 125 (0,0))*F)) w):Sat (zr3 q p d*F) w:=H.of_eq (by unfold zr3;ac_rfl)
theorem z3g (H:Sat (zr3 q p d*F) w) (hm:d.sure.length≤16384) (h:R (.returned (.int .i64 (max (d.sure.length:Int) 2))) w) :
  Calls Tryz.prog 72 #[.pointer (some ⟨q,0,none⟩)] w R:=by
 obtain ⟨lq,c0⟩:=xaa H
 have HD:=xe2 H
 go_enter Tryz.func72,Tryz.ntmps72
 go_wp2_with (go_at_call 97;refine z01 HD hm ?_)
 exact h
theorem pf_new (H:Sat (z8g p d*F) w) (h:∀ q w',Sat (zr3 q p d*F) w'→Io w w'→R (.returned (.pointer (some ⟨q,0,none⟩))) w') :
  Calls Tryz.prog 42 #[.pointer (some ⟨p,0,none⟩)] w R:=by
 have fin:=h _ _ (xe3 ((H.new (.cells #[.pointer (some ⟨p,0,none⟩)] 125)).of_eq (by ac_rfl))) ((Io.refl w).alloc _)
 clear h
 go_enter Tryz.func42,Tryz.ntmps42
 go_wp2_with fail
 exact fin
end
end Go.Proofs.YtfknjmoekbabcaaGreatDoor
