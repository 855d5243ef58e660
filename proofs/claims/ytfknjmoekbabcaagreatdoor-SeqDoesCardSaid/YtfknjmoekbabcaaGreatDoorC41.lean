/-
  A part of a proof. It proves no statement by itself.
-/
import Derived.Test.YtfknjmoekbabcaaGreatDoorC18
set_option linter.unusedSimpArgs false
set_option linter.unusedVariables false
set_option linter.unusedSectionVars false
set_option maxRecDepth 100000
set_option maxHeartbeats 64000000
namespace Go.Proofs.YtfknjmoekbabcaaGreatDoor
open Go.RowKit
section
variable {F:Asn} {w:World} {R:Ending→World→Prop}
theorem z2m {w w':World} (H:Sat F w) (h:Below w.heap.size w w'):Sat F w':=H.keep fun k hk=>h.block k hk
theorem xbc {B:Nat} {w w':World} (h:Below B w w'):Io w w':=⟨h.os,h.tape,h.output,h.size⟩
theorem z8r (w:World):Calls Tryz.prog 74 #[.string ⟨#[0]⟩,.int .i64 256] w fun e w'=>e=.returned (.string (rp 256 0))∧Below w.heap.size w w':=by
 have h:=Tryz.strings_Repeat ⟨#[0]⟩ 256 w (by omega) (by decide)
 have e:(⟨(Lib.repeatL (⟨#[0]⟩:ByteArray).data.toList 256).toArray⟩:ByteArray)=rp 256 0:=by decide +kernel
 rw [e] at h
 exact h
theorem new_any (n:Int) (hn0:-9223372036854775808≤n) (hn1:n≤9223372036854775807) (H:Sat F w)
  (h:∀ p w',Sat (z8g p (Dk.new (min (max n 0) 16384).toNat)*F) w'→Io w w'→R (.returned (.pointer (some ⟨p,0,none⟩))) w') :
  Calls Tryz.prog 43 #[.int .i64 n] w R:=by
 have hm0:0≤min (max n 0) 16384:=by omega
 have hm1:min (max n 0) 16384≤16384:=by omega
 have hmm:=@run_makeMap Tryz.prog
 have hrep:=fun (b:Nat) (W:World) (HW:Sat F W) (hbl:b<W.heap.size) (hb:W.cell? ⟨b,0,none⟩=some (.string (rp 256 0))) {R:Ending→World→Prop} (h:∀ g w',Sat (pts g (.cells (List.replicate (min (max n 0) 16384).toNat (Value.string (rp 256 0))).toArray 9 (0,0))*F) w'→Io W w'→R (.returned (.slice (some ⟨g,0,none⟩) (min (max n 0) 16384).toNat (min (max n 0) 16384).toNat)) w') =>
  zwl (R:=R) b (min (max n 0) 16384).toNat (.string (rp 256 0)) rfl W HW hbl hb (by omega) h
 rw [Int.toNat_of_nonneg hm0] at hrep
 have HR:=L_ @hrep
 have HH:Hid (∀ p w',Sat (z8g p (Dk.new (min (max n 0) 16384).toNat)*F) w'→Io w w'→R (.returned (.pointer (some ⟨p,0,none⟩))) w'):=h
 clear hrep h
 generalize hz:rp 256 0=z at *
 go_enter Tryz.func43,Tryz.ntmps43
 go_wp2_with (first | (go_at_call 74;refine (z8r _).mono ?_;rw [hz];rintro e w1 ⟨rfl,B1⟩;have H1:=z2m H B1) | (go_at_call 75;refine HR.out _ _ (H1.alloc _) (by simp) (by simp) ?_;intro g w2 H2 I2))
 have H3:=(H2.new (.map #[] 0)).new (.cells #[.slice (some ⟨g,0,none⟩) (min (max n 0) 16384).toNat (min (max n 0) 16384).toNat,.map (some w2.heap.size),.slice none 0 0,.int .i64 (-1),.bool false,.int .i64 0,.int .i64 0] 136)
 have es:(w2.alloc (.map #[] 0)).heap.size=w2.heap.size+1:=by simp
 rw [es] at H3
 refine HH.out (w2.heap.size+1) _ (z4z (sb:=g) (mb:=w2.heap.size) (pv:=.slice none 0 0) (d:=Dk.new (min (max n 0) 16384).toNat) (xar .i64) z1g ?_) (((((xbc B1).alloc _).trans I2).alloc _).alloc _)
 rw [dk_row]
 refine zj3 _ _ _ _ (H3.of_eq ?_)
 have e1:strs (Dk.new (min (max n 0) 16384).toNat).sure=(List.replicate (min (max n 0) 16384).toNat (Value.string z)).toArray:=by simp [strs,Dk.new,hz]
 have e2:zfv g w2.heap.size (.slice none 0 0) (Dk.new (min (max n 0) 16384).toNat)=#[.slice (some ⟨g,0,none⟩) (min (max n 0) 16384).toNat (min (max n 0) 16384).toNat,.map (some w2.heap.size),.slice none 0 0,.int .i64 (-1),.bool false,.int .i64 0,.int .i64 0]:=by simp [zfv,Dk.new]
 rw [e1,e2]
 ac_rfl
end
end Go.Proofs.YtfknjmoekbabcaaGreatDoor
