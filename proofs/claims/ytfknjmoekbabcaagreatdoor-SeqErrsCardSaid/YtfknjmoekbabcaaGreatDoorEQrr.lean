/-
  A part of a proof. It proves no statement by itself.
-/
import Derived.Test.YtfknjmoekbabcaaGreatDoorC40
set_option linter.unusedSimpArgs false
set_option linter.unusedVariables false
set_option linter.unusedSectionVars false
set_option maxRecDepth 100000
set_option maxHeartbeats 64000000
namespace Go.Proofs.YtfknjmoekbabcaaGreatDoor
open Go.RowKit Go.Lib
open Sq (Tk Nd Mp)
section
variable {x:Sx} {F:Asn} {w:World} {R:Ending→World→Prop} {e0:Int}
theorem xav {a b:Int} {e:Int} (he:e=if ¬ (Sq.OkT (a,b)) then 30 else 2):e=30∨e=2:=by
 rw [he];split
 ·exact .inl rfl
 ·exact .inr rfl
theorem xe7 {a1 b1 a2 b2:Int} {e:Int} (he:e=if ¬ (Sq.OkT (a1,b1)∧Sq.OkT (a2,b2)) then 30 else 2):e=30∨e=2:=by
 rw [he];split
 ·exact .inl rfl
 ·exact .inr rfl
theorem zzq (a b:Int) {e:Int} (he:Hid (e=if ¬ (Sq.OkT (a,b)) then 30 else 2)) (hx:Hid x.Ok) (H:Sat (zca x e0*F) w) (h:∀ w',Sat (zca x 0*F) w'→Io w w'→R (.returned (.int .i64 e)) w') :
  Calls Tryz.prog 13 #[.pointer (some ⟨x.s,0,none⟩),tkA a b] w R:=by
 have HH:=L_ h
 have H1:=zai (H.new (.cells #[.int .i64 a,.int .i64 b] 29))
 have I1:=io1 H1 (Io.refl w)
 have K1:=zai (H1.new (.cells #[.int .i64 a,.int .i64 b] 29))
 have J1:=io1 K1 I1
 clear h H
 go_enter Tryz.func13,Tryz.ntmps13
 go_upto_region 1 with fail
 generalize w.alloc _=w1 at *
 generalize w.heap.size=bx at *
 obtain ⟨y0,y1⟩:=tk2 H1.right
 go_upto_region 2 with (go_at_call 44;(with_reducible refine zkj a b he hx K1 ?_);intro w2 H2 I2;have K2:=zce H2;have J2:=J1.trans I2)
 clear y0 y1 H1 I1 K1 J1 H2 I2
 have FIN:=L_ (HH.out w2 (zce K2) J2)
 rcases xav he.out with rfl | rfl
 ·clear he
  go_wp2_with fail
  exact FIN.out
 ·clear he
  go_wp2_with fail
  exact FIN.out
theorem zow (a1 b1 a2 b2:Int) {e:Int} (he:Hid (e=if ¬ (Sq.OkT (a1,b1)∧Sq.OkT (a2,b2)) then 30 else 2)) (hx:Hid x.Ok) (H:Sat (zca x e0*F) w)
  (h:∀ w',Sat (zca x 0*F) w'→Io w w'→R (.returned (.tuple #[.bool false,.int .i64 e])) w') :
  Calls Tryz.prog 27 #[.pointer (some ⟨x.s,0,none⟩),tkA a1 b1,tkA a2 b2] w R:=by
 have HH:=L_ h
 have H1:=wr_in (((H.new (.cells #[.int .i64 a1,.int .i64 b1] 29)).new (.cells #[.int .i64 a2,.int .i64 b2] 29)).of_eq (show _=pts (w.alloc (.cells #[.int .i64 a1,.int .i64 b1] 29)).heap.size (.cells #[.int .i64 a2,.int .i64 b2] 29 (0,0))*(pts w.heap.size (.cells #[.int .i64 a1,.int .i64 b1] 29 (0,0))*(zca x e0*F)) from by ac_rfl))
 have I1:=io2 H1 (Io.refl w)
 rw [World.size_alloc] at H1
 have K1:=zai (H1.new (.cells #[.int .i64 a1,.int .i64 b1,.int .i64 a2,.int .i64 b2] 29))
 have J1:=io1 K1 I1
 clear h H
 go_enter Tryz.func27,Tryz.ntmps27
 go_upto_region 1 with fail
 generalize (w.alloc _).alloc _=w1 at *
 generalize w.heap.size=bx at *
 obtain ⟨y0,y1⟩:=tk2 H1.right.right
 obtain ⟨y2,y3⟩:=tk2 H1.right
 go_upto_region 2 with (go_at_call 44;(with_reducible refine zsn a1 b1 a2 b2 he hx K1 ?_);intro w2 H2 I2;have K2:=zce H2;have J2:=J1.trans I2)
 clear y0 y1 y2 y3 H1 I1 K1 J1 H2 I2
 have FIN:=L_ (HH.out w2 (z1g K2) J2)
 rcases xe7 he.out with rfl | rfl
 ·clear he
  go_wp2_with fail
  first | exact FIN.out | exact bodyPost_ret (v:=.tuple #[.bool false,.int .i64 30]) (by simp [results,Tryz.results27,go_sem]) rfl FIN.out
 ·clear he
  go_wp2_with fail
  first | exact FIN.out | exact bodyPost_ret (v:=.tuple #[.bool false,.int .i64 2]) (by simp [results,Tryz.results27,go_sem]) rfl FIN.out
theorem zzu (a1 b1 a2 b2:Int) {e:Int} (he:Hid (e=if ¬ (Sq.OkT (a1,b1)∧Sq.OkT (a2,b2)) then 30 else 2)) (hx:Hid x.Ok) (H:Sat (zca x e0*F) w)
  (h:∀ w',Sat (zca x 0*F) w'→Io w w'→R (.returned (.int .i64 e)) w') :
  Calls Tryz.prog 14 #[.pointer (some ⟨x.s,0,none⟩),tkA a1 b1,tkA a2 b2] w R:=by
 have HH:=L_ h
 have H1:=xfc (((H.new (.cells #[.int .i64 a1,.int .i64 b1] 29)).new (.cells #[.int .i64 a2,.int .i64 b2] 29)).of_eq (show _=pts (w.alloc (.cells #[.int .i64 a1,.int .i64 b1] 29)).heap.size (.cells #[.int .i64 a2,.int .i64 b2] 29 (0,0))*(pts w.heap.size (.cells #[.int .i64 a1,.int .i64 b1] 29 (0,0))*(zca x e0*F)) from by ac_rfl))
 have I1:=io2 H1 (Io.refl w)
 rw [World.size_alloc] at H1
 clear h H
 go_enter Tryz.func14,Tryz.ntmps14
 go_upto_region 1 with fail
 generalize (w.alloc _).alloc _=w1 at *
 generalize w.heap.size=bx at *
 obtain ⟨y0,y1⟩:=tk2 H1.right.right
 obtain ⟨y2,y3⟩:=tk2 H1.right
 rcases xe7 he.out with h30 | h2
 ·have HE:=L_ h30
  subst h30
  go_wp2_with (go_at_call 27;(with_reducible refine zow a1 b1 a2 b2 he hx H1 ?_);intro w2 H2 I2)
  have FIN:=L_ (HH.out w2 (ztt H2) (I1.trans I2))
  first | exact FIN.out | exact bodyPost_ret (v:=.int .i64 30) (by simp [results,Tryz.results14,go_sem]) rfl FIN.out
 ·have HE:=L_ h2
  subst h2
  go_wp2_with (go_at_call 27;(with_reducible refine zow a1 b1 a2 b2 he hx H1 ?_);intro w2 H2 I2)
  have FIN:=L_ (HH.out w2 (ztt H2) (I1.trans I2))
  first | exact FIN.out | exact bodyPost_ret (v:=.int .i64 2) (by simp [results,Tryz.results14,go_sem]) rfl FIN.out
theorem zzo (a b:Int) {e:Int} (he:Hid (e=if ¬ (Sq.OkT (a,b)) then 30 else 2)) (hx:Hid x.Ok) (H:Sat (zca x e0*F) w)
  (h:∀ w',Sat (zca x 0*F) w'→Io w w'→R (.returned (.tuple #[.int .i64 0,.int .i64 e])) w') :
  Calls Tryz.prog 37 #[.pointer (some ⟨x.s,0,none⟩),tkA a b] w R:=by
 have HH:=L_ h
 have H1:=rn_in (((H.new (.cells #[.pointer (some ⟨x.s,0,none⟩)] 26)).new (.cells #[.int .i64 a,.int .i64 b] 29)).of_eq (show _=pts (w.alloc (.cells #[.pointer (some ⟨x.s,0,none⟩)] 26)).heap.size (.cells #[.int .i64 a,.int .i64 b] 29 (0,0))*(pts w.heap.size (.cells #[.pointer (some ⟨x.s,0,none⟩)] 26 (0,0))*(zca x e0*F)) from by ac_rfl))
 have I1:=io2 H1 (Io.refl w)
 simp only [World.size_alloc] at H1
 have K1:=zai (H1.new (.cells #[.int .i64 a,.int .i64 b] 29))
 have J1:=io1 K1 I1
 clear h H
 go_enter Tryz.func37,Tryz.ntmps37
 go_upto_region 1 with fail
 generalize (w.alloc _).alloc _=w1 at *
 generalize w.heap.size=bx at *
 obtain ⟨y0,y1⟩:=tk2 H1.right
 have y2:w1.cell? ⟨bx,0,none⟩=some (.pointer (some ⟨x.s,0,none⟩)):=Sat.read H1.right.right.left.at 0
 go_upto_region 2 with (go_at_call 44;(with_reducible refine zkj a b he hx K1 ?_);intro w2 H2 I2;have K2:=zce H2;have J2:=J1.trans I2)
 clear y0 y1 y2 H1 I1 K1 J1 H2 I2
 have FIN:=L_ (HH.out w2 (z2p K2) J2)
 rcases xav he.out with rfl | rfl
 ·clear he
  go_wp2_with fail
  first | exact FIN.out | exact bodyPost_ret (v:=.tuple #[.int .i64 0,.int .i64 30]) (by simp [results,Tryz.results37,go_sem]) rfl FIN.out
 ·clear he
  go_wp2_with fail
  first | exact FIN.out | exact bodyPost_ret (v:=.tuple #[.int .i64 0,.int .i64 2]) (by simp [results,Tryz.results37,go_sem]) rfl FIN.out
theorem zv5 (a b:Int) {e:Int} (he:Hid (e=if ¬ (Sq.OkT (a,b)) then 30 else 2)) (hx:Hid x.Ok) (H:Sat (zca x e0*F) w)
  (h:∀ w',Sat (zca x 0*F) w'→Io w w'→R (.returned (.int .i64 e)) w') :
  Calls Tryz.prog 15 #[.pointer (some ⟨x.s,0,none⟩),tkA a b] w R:=by
 have HH:=L_ h
 have H1:=zol (H.new (.cells #[.int .i64 a,.int .i64 b] 29))
 have I1:=io1 H1 (Io.refl w)
 clear h H
 go_enter Tryz.func15,Tryz.ntmps15
 go_upto_region 1 with fail
 generalize w.alloc _=w1 at *
 generalize w.heap.size=bx at *
 obtain ⟨y0,y1⟩:=tk2 H1.right
 go_upto_region 2 with (go_at_call 37;(with_reducible refine zzo a b he hx H1 ?_);intro w2 H2 I2;have J2:=I1.trans I2)
 clear y0 y1 H1 I1 I2
 have FIN:=L_ (HH.out w2 (zol H2).right J2)
 rcases xav he.out with rfl | rfl
 ·clear he
  go_wp2_with fail
  first | exact FIN.out | exact bodyPost_ret (v:=.int .i64 30) (by simp [results,Tryz.results15,go_sem]) rfl FIN.out
 ·clear he
  go_wp2_with fail
  first | exact FIN.out | exact bodyPost_ret (v:=.int .i64 2) (by simp [results,Tryz.results15,go_sem]) rfl FIN.out
end
end Go.Proofs.YtfknjmoekbabcaaGreatDoor
