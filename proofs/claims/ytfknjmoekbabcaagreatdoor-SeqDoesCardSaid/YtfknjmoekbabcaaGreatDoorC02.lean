/-
  A part of a proof. It proves no statement by itself.
-/
import Derived.Test.YtfknjmoekbabcaaGreatDoorRows
import Derived.Test.YtfknjmoekbabcaaGreatDoorC01
import Derived.Test.YtfknjmoekbabcaaGreatDoorEShelf
import Derived.Laws.BitsAllLaws
import Derived.Lib.ConvBytes
set_option linter.unusedSimpArgs false
set_option linter.unusedVariables false
set_option linter.unusedSectionVars false
set_option maxRecDepth 100000
set_option maxHeartbeats 64000000
namespace Go.Proofs.YtfknjmoekbabcaaGreatDoor
open Go.RowKit
def tx (l:List UInt8):ByteArray:=⟨l.toArray⟩
theorem zl1 (l:List UInt8):(tx l).size=l.length:=by simp [tx,ByteArray.size]
theorem zsd (l m:List UInt8):tx l++tx m=tx (l++m):=by apply ByteArray.ext;simp [tx]
theorem zv5 (l:List UInt8):(tx l).data.toList=l:=rfl
theorem z1q (s:ByteArray):tx s.data.toList=s:=rfl
theorem tx_inj {l m:List UInt8} (h:tx l=tx m):l=m:=by have:=congrArg (fun s=>s.data.toList) h;simpa [tx] using this
theorem zos (l:List UInt8) (a b:Nat):(tx l).extract a b=tx ((l.take b).drop a):=by
 apply ByteArray.ext
 apply Array.ext'
 simp [tx,List.extract_eq_take_drop,List.take_drop]
 by_cases h:a≤b
 ·rw [Nat.add_sub_cancel' h]
 ·have e:b - a=0:=by omega
  rw [e,Nat.add_zero,List.drop_of_length_le (by simp;omega),List.drop_of_length_le (by simp;omega)]
theorem zd1 (s:ByteArray):s.data.toList.length=s.size:=rfl
def u8s (l:List UInt8):List Value:=l.map fun b=>.int .u8 (b.toNat:Int)
theorem zy7 {P:Program} {src e dst:TypeId} (hs:P.underlying src=some (.slice e)) (he:P.underlying e=some (.int .u8)) (hd:P.underlying dst=some .string)
  {l:List UInt8} {g c n:Nat} {R:Asn} {w:World} (hn:n=l.length) (H:Sat (Row e 1 (.slice (some ⟨g,0,none⟩) n c) n (u8s l)*R) w) :
  (convert src dst (.slice (some ⟨g,0,none⟩) n c)).run P w=.ok (.string (tx l)) w:=by
 have ho:=H.owns
 have h:=run_convert_bytes_arg (P:=P) w src e hs he g 0 n c (l.map fun b=>(b.toNat:Int)) (by simp [hn]) (by
  intro i hi
  have hil:i<l.length:=by omega
  have:=ho.cells (g:=g) rfl i (.int .u8 (l[i].toNat:Int)) (by simp [u8s,hil])
  have e:(⟨g,0,none⟩:Addr).add i=⟨g,0+i,none⟩:=by unfold Addr.add;split<;>simp_all
  rw [e] at this
  rw [this]
  simp [List.getD,hil]) dst hd
 rw [h]
 congr 2
 apply ByteArray.ext
 apply Array.ext'
 simp only [strOfNums,tx,List.map_map,List.toList_toArray]
 have e:((fun n:Int=>UInt8.ofNat n.toNat) ∘ fun b:UInt8=>(b.toNat:Int))=id:=by funext b;simp
 simp [e]
theorem z6t {F:Asn} {w w':World} (h:Sat F w) (b:Below w.heap.size w w'):Sat F w':=h.keep fun k hk=>b.block k hk
theorem xcl {w w':World} (b:Below w.heap.size w w'):Io w w':=⟨b.os,b.tape,b.output,b.size⟩
def fits (k:Nat) (n:Int):Bool:=decide (0≤n) && decide (n<256 ^ k)
def zyn (k:Nat) (n:Int):Int:=if fits k n then 0 else 1
def zym (k:Nat) (n:Int):ByteArray:=if fits k n then tx (be k n.toNat) else ByteArray.empty
theorem be_one (n:Nat):be 1 n=[UInt8.ofNat (n % 256)]:=rfl
theorem z6w (n:Nat):be 4 n=[UInt8.ofNat (n / 16777216 % 256),UInt8.ofNat (n / 65536 % 256),UInt8.ofNat (n / 256 % 256),UInt8.ofNat (n % 256)]:=by
 show [UInt8.ofNat (n / 256 / 256 / 256 % 256),UInt8.ofNat (n / 256 / 256 % 256),UInt8.ofNat (n / 256 % 256),UInt8.ofNat (n % 256)]=_
 simp only [Nat.div_div_eq_div_mul]
theorem Tryz.info5:(Tryz.prog.info? 5).map (fun i=>(i.zero,i.size,i.bytes))=some (some (.int .u8 0),1,1):=by kernel_rfl
section
variable {F:Asn} {w:World} {R:Ending→World→Prop}
theorem zer (k:Int) (hk:k=1∨k=2∨k=4) (h:R (.returned (.bool true)) w):Calls Tryz.prog 138 #[.int .i64 k] w R:=by
 rcases hk with rfl | rfl | rfl
 all_goals
  go_enter Tryz.func138,Tryz.ntmps138
  go_wp2
  exact h
theorem zqn (n:Nat) (hn:n<4294967296) (H:Sat F w) (h:∀ w',Sat F w'→Io w w'→R (.returned (.tuple #[.string (tx (be 4 n)),.int .i64 0])) w') :
  Calls Tryz.prog 141 #[.int .i64 4,.int .i64 (n:Int)] w R:=by
 obtain ⟨i0,hi,hz0,hz1,hz2⟩:=info_parts Tryz.info5
 have hn0:¬ (n:Int)<0:=by omega
 have hlt0:decide ((n:Int)<0)=false:=by simp
 have hn1:(n:Int)<4294967296:=by omega
 have hq:((n:Int) / 4294967296 != 0)=false:=by rw [bne_eq_false_iff_eq];exact Int.ediv_eq_zero_of_lt (by omega) (by omega)
 clear hn
 go_enter Tryz.func141,Tryz.ntmps141
 go_wp2_with (go_at_call 138;refine zer 4 (by omega) ?_)
 refine wp_loop_rounds 5 ?_
 have H0:=zj3 5 1 F w H
 rw [rounds_succ]
 go_wp2_with (at_builtin;refine zbv rfl (.tmp 28) (.tmp 34) 164 rfl 5 Tryz.underlying164 hi hz0 hz1 hz2 rfl rfl H0 1 1 [_] rfl rfl rfl rfl (by omega) (by omega) (by omega) ?_;intro g1 c1 w1 H1 I1)
 rw [rounds_succ]
 go_wp2_with (at_builtin;refine zbv rfl (.tmp 28) (.tmp 34) 164 rfl 5 Tryz.underlying164 hi hz0 hz1 hz2 rfl rfl H1 1 1 [_] rfl rfl rfl rfl (by omega) (by omega) (by omega) ?_;intro g2 c2 w2 H2 I2)
 rw [rounds_succ]
 go_wp2_with (at_builtin;refine zbv rfl (.tmp 28) (.tmp 34) 164 rfl 5 Tryz.underlying164 hi hz0 hz1 hz2 rfl rfl H2 1 1 [_] rfl rfl rfl rfl (by omega) (by omega) (by omega) ?_;intro g3 c3 w3 H3 I3)
 rw [rounds_succ]
 go_wp2_with (at_builtin;refine zbv rfl (.tmp 28) (.tmp 34) 164 rfl 5 Tryz.underlying164 hi hz0 hz1 hz2 rfl rfl H3 1 1 [_] rfl rfl rfl rfl (by omega) (by omega) (by omega) ?_;intro g4 c4 w4 H4 I4)
 rw [rounds_succ]
 have HB:Sat (Row 5 1 (.slice (some ⟨g4,0,none⟩) 4 c4) 4 (u8s (be 4 n))*F) w4:=H4.of_eq (by rw [z6w];have e:(n:Int) / 16777216 % 256=(n:Int) / 16777216:=Int.emod_eq_of_lt (by omega) (by omega);simp [u8s,e])
 have hc:=zy7 (P:=Tryz.prog) Tryz.underlying164 Tryz.underlying5 Tryz.underlying9 (zju 4 n).symm HB
 have fin:=h w4 HB.right ((((I1.trans I2).trans I3).trans I4))
 clear HB h H0 H1 H2 H3 H4
 generalize tx (be 4 n)=s at *
 go_wp2_with fail
 exact fin
theorem xey (n:Int) (hn:¬ (0≤n∧n<4294967296)) (h:R (.returned (.tuple #[.string ByteArray.empty,.int .i64 1])) w) :
  Calls Tryz.prog 141 #[.int .i64 4,.int .i64 n] w R:=by
 by_cases hn0:n<0
 ·have hlt0:decide (n<0)=true:=by simpa using hn0
  clear hn
  go_enter Tryz.func141,Tryz.ntmps141
  go_wp2_with (go_at_call 138;refine zer 4 (by omega) ?_)
  exact h
 ·have hlt0:decide (n<0)=false:=by simpa using hn0
  have hq:(n / 4294967296 != 0)=true:=by
   rw [bne_iff_ne]
   omega
  clear hn
  go_enter Tryz.func141,Tryz.ntmps141
  go_wp2_with (go_at_call 138;refine zer 4 (by omega) ?_)
  exact h
theorem z95 (n:Int) (H:Sat F w) (h:∀ w',Sat F w'→Io w w'→R (.returned (.tuple #[.string (zym 4 n),.int .i64 (zyn 4 n)])) w') :
  Calls Tryz.prog 141 #[.int .i64 4,.int .i64 n] w R:=by
 by_cases hn:0≤n∧n<4294967296
 ·have e:fits 4 n=true:=by simp [fits];omega
  obtain ⟨m,rfl⟩:=Int.eq_ofNat_of_zero_le hn.1
  refine zqn m (by omega) H fun w' H' I'=>?_
  have:=h w' H' I'
  rwa [zym,zyn,e,if_pos rfl,if_pos rfl,Int.toNat_natCast] at this
 ·have e:fits 4 n=false:=by simp [fits];omega
  have:=h w H (Io.refl w)
  rw [zym,zyn,e] at this
  exact xey n hn this
theorem z96 (n:Nat) (hn:n<256) (H:Sat F w) (h:∀ w',Sat F w'→Io w w'→R (.returned (.tuple #[.string (tx (be 1 n)),.int .i64 0])) w') :
  Calls Tryz.prog 141 #[.int .i64 1,.int .i64 (n:Int)] w R:=by
 obtain ⟨i0,hi,hz0,hz1,hz2⟩:=info_parts Tryz.info5
 have hn0:¬ (n:Int)<0:=by omega
 have hlt0:decide ((n:Int)<0)=false:=by simp
 have hn1:(n:Int)<256:=by omega
 have hq:((n:Int) / 256 != 0)=false:=by rw [bne_eq_false_iff_eq];exact Int.ediv_eq_zero_of_lt (by omega) (by omega)
 clear hn
 go_enter Tryz.func141,Tryz.ntmps141
 go_wp2_with (go_at_call 138;refine zer 1 (by omega) ?_)
 refine wp_loop_rounds 2 ?_
 have H0:=zj3 5 1 F w H
 rw [rounds_succ]
 go_wp2_with (at_builtin;refine zbv rfl (.tmp 28) (.tmp 34) 164 rfl 5 Tryz.underlying164 hi hz0 hz1 hz2 rfl rfl H0 1 1 [_] rfl rfl rfl rfl (by omega) (by omega) (by omega) ?_;intro g1 c1 w1 H1 I1)
 rw [rounds_succ]
 have HB:Sat (Row 5 1 (.slice (some ⟨g1,0,none⟩) 1 c1) 1 (u8s (be 1 n))*F) w1:=H1.of_eq (by rw [be_one];have e:(n:Int) % 256=(n:Int):=Int.emod_eq_of_lt (by omega) (by omega);simp [u8s,e])
 have hc:=zy7 (P:=Tryz.prog) Tryz.underlying164 Tryz.underlying5 Tryz.underlying9 (zju 1 n).symm HB
 have fin:=h w1 HB.right (I1)
 clear HB h H0 H1
 generalize tx (be 1 n)=s at *
 go_wp2_with fail
 exact fin
theorem xez (n:Int) (hn:¬ (0≤n∧n<256)) (h:R (.returned (.tuple #[.string ByteArray.empty,.int .i64 1])) w) :
  Calls Tryz.prog 141 #[.int .i64 1,.int .i64 n] w R:=by
 by_cases hn0:n<0
 ·have hlt0:decide (n<0)=true:=by simpa using hn0
  clear hn
  go_enter Tryz.func141,Tryz.ntmps141
  go_wp2_with (go_at_call 138;refine zer 1 (by omega) ?_)
  exact h
 ·have hlt0:decide (n<0)=false:=by simpa using hn0
  have hq:(n / 256 != 0)=true:=by
   rw [bne_iff_ne]
   omega
  clear hn
  go_enter Tryz.func141,Tryz.ntmps141
  go_wp2_with (go_at_call 138;refine zer 1 (by omega) ?_)
  exact h
theorem z97 (n:Int) (H:Sat F w) (h:∀ w',Sat F w'→Io w w'→R (.returned (.tuple #[.string (zym 1 n),.int .i64 (zyn 1 n)])) w') :
  Calls Tryz.prog 141 #[.int .i64 1,.int .i64 n] w R:=by
 by_cases hn:0≤n∧n<256
 ·have e:fits 1 n=true:=by simp [fits];omega
  obtain ⟨m,rfl⟩:=Int.eq_ofNat_of_zero_le hn.1
  refine z96 m (by omega) H fun w' H' I'=>?_
  have:=h w' H' I'
  rwa [zym,zyn,e,if_pos rfl,if_pos rfl,Int.toNat_natCast] at this
 ·have e:fits 1 n=false:=by simp [fits];omega
  have:=h w H (Io.refl w)
  rw [zym,zyn,e] at this
  exact xez n hn this
end
def Hv (F:Asn):Prop:=∀ w,Sat F w→∀ j,j<16→w.cell? ⟨1,j,none⟩=some (.int .u32 (halves.getD j 0:Nat))
theorem Hv.with {F G:Asn} (h:Hv F):Hv (G*F):=fun w hw=>h w hw.right
section
variable {F:Asn} {w:World} {R:Ending→World→Prop}
theorem z6o (e:TypeId) (s:ByteArray) (H:Sat F w) :
  Sat (pts w.heap.size (.cells (Lib.bytesCells w e s) e ((Lib.bytesCells w e s).size,(Lib.bytesCells w e s).size+1))*F) (Lib.bytesWorld w e s) :=
 H.fresh (Nat.le_refl _) (Lib.bytesWorld_at_new w e s) fun k hk=>Lib.bytesWorld_at_old w e s k hk
theorem xch (e:TypeId) (s:ByteArray):Io w (Lib.bytesWorld w e s):=⟨rfl,rfl,rfl,by rw [Lib.bytesWorld_size];omega⟩
theorem z0v {l:List UInt8} {k:Nat} (h:k<l.length):l.getD k 0=l[k]:=by simp [List.getD,h]
end
end Go.Proofs.YtfknjmoekbabcaaGreatDoor
