/-
  The statement RootTorn, walked: it answers true. It proves the walk alone; the row is closed elsewhere.
-/
import Derived.Test.YtghpfepmkngfdaaDoorRtN
import Derived.Test.YtghpfepmkngfdaaDoorRtT
import Derived.Deep.RegionHeld3
namespace Go.Proofs.YtghpfepmkngfdaaDoor
open Go.RowKit
set_option linter.unusedSimpArgs false
set_option linter.unusedVariables false

section
variable {F : Asn} {w : World} {R : Ending → World → Prop} {s : ByteArray} {e p c f n e2 p2 c2 f2 n2 cut : Int}

set_option maxRecDepth 100000 in
set_option maxHeartbeats 4000000 in
theorem torn_a (hv : Hv F) (hg : Hid (Rt.good ⟨e, p, c, f, n⟩ = false)) (H : Sat F w) (h : ∀ w', Sat F w' → Io w w' → R (.returned (.bool true)) w') :
    Calls Tryd.prog 5 #[.agg #[.int .i64 e, .int .i64 p, .int .i64 c, .int .i64 f, .int .i64 n], .agg #[.int .i64 e2, .int .i64 p2, .int .i64 c2, .int .i64 f2, .int .i64 n2], .int .i64 cut] w R := by
  have H0 := ((H.new (.cells #[.int .i64 e, .int .i64 p, .int .i64 c, .int .i64 f, .int .i64 n] 23)).new (.cells #[.int .i64 e2, .int .i64 p2, .int .i64 c2, .int .i64 f2, .int .i64 n2] 23))
  have J0 := (((Io.refl w).alloc (.cells #[.int .i64 e, .int .i64 p, .int .i64 c, .int .i64 f, .int .i64 n] 23)).alloc (.cells #[.int .i64 e2, .int .i64 p2, .int .i64 c2, .int .i64 f2, .int .i64 n2] 23))
  rw [show (w.alloc (.cells #[.int .i64 e, .int .i64 p, .int .i64 c, .int .i64 f, .int .i64 n] 23)).heap.size = w.heap.size + 1 from by simp] at H0
  have HH := Lib.hid h
  clear h
  go_enter Tryd.func5, Tryd.ntmps5
  go_wp2_with fail
  generalize ((w.alloc (.cells #[.int .i64 e, .int .i64 p, .int .i64 c, .int .i64 f, .int .i64 n] 23)).alloc (.cells #[.int .i64 e2, .int .i64 p2, .int .i64 c2, .int .i64 f2, .int .i64 n2] 23)) = v0 at *
  generalize w.heap.size + 1 = B1 at *
  generalize w.heap.size = B0 at *
  refine works_any hv.with.with H0 ?_
  intro w11 H11 I11
  have J11 := (J0.trans I11)
  clear I11 H0 J0
  have l0 := (H11.right).left.lt
  have x00 := Sat.read (H11.right).left.at 0
  have x01 := Sat.read (H11.right).left.at 1
  have x02 := Sat.read (H11.right).left.at 2
  have x03 := Sat.read (H11.right).left.at 3
  have x04 := Sat.read (H11.right).left.at 4
  have l1 := (H11).left.lt
  have x10 := Sat.read (H11).left.at 0
  have x11 := Sat.read (H11).left.at 1
  have x12 := Sat.read (H11).left.at 2
  have x13 := Sat.read (H11).left.at 3
  have x14 := Sat.read (H11).left.at 4
  simp only [List.getElem?_toArray, List.getElem?_cons_zero, List.getElem?_cons_succ] at x00 x01 x02 x03 x04 x10 x11 x12 x13 x14
  go_wp2_with fail
  clear l0 l1 x00 x01 x02 x03 x04 x10 x11 x12 x13 x14
  refine enc_no hg hv.with.with H11 ?_
  intro w12 H12 I12
  have J12 := (J11.trans I12)
  clear I12 H11 J11
  have l0 := (H12.right).left.lt
  have x00 := Sat.read (H12.right).left.at 0
  have x01 := Sat.read (H12.right).left.at 1
  have x02 := Sat.read (H12.right).left.at 2
  have x03 := Sat.read (H12.right).left.at 3
  have x04 := Sat.read (H12.right).left.at 4
  have l1 := (H12).left.lt
  have x10 := Sat.read (H12).left.at 0
  have x11 := Sat.read (H12).left.at 1
  have x12 := Sat.read (H12).left.at 2
  have x13 := Sat.read (H12).left.at 3
  have x14 := Sat.read (H12).left.at 4
  simp only [List.getElem?_toArray, List.getElem?_cons_zero, List.getElem?_cons_succ] at x00 x01 x02 x03 x04 x10 x11 x12 x13 x14
  go_wp2_with fail
  clear l0 l1 x00 x01 x02 x03 x04 x10 x11 x12 x13 x14
  refine enc_gen hv.with.with H12 ?_
  intro w13 H13 I13
  have J13 := (J12.trans I13)
  clear I13 H12 J12
  generalize Rt.encE ⟨e2, p2, c2, f2, n2⟩ = eb at *
  generalize Rt.encS ⟨e2, p2, c2, f2, n2⟩ = sb at *
  have l0 := (H13.right).left.lt
  have x00 := Sat.read (H13.right).left.at 0
  have x01 := Sat.read (H13.right).left.at 1
  have x02 := Sat.read (H13.right).left.at 2
  have x03 := Sat.read (H13.right).left.at 3
  have x04 := Sat.read (H13.right).left.at 4
  have l1 := (H13).left.lt
  have x10 := Sat.read (H13).left.at 0
  have x11 := Sat.read (H13).left.at 1
  have x12 := Sat.read (H13).left.at 2
  have x13 := Sat.read (H13).left.at 3
  have x14 := Sat.read (H13).left.at 4
  simp only [List.getElem?_toArray, List.getElem?_cons_zero, List.getElem?_cons_succ] at x00 x01 x02 x03 x04 x10 x11 x12 x13 x14
  have fin := HH.out _ H13.right.right J13
  clear HH H13 J13
  go_wp2_with fail
  exact fin

set_option maxRecDepth 100000 in
set_option maxHeartbeats 4000000 in
theorem torn_b (hv : Hv F) (hg : Hid (Rt.good ⟨e, p, c, f, n⟩ = true)) (hk : Hid (Rt.good ⟨e2, p2, c2, f2, n2⟩ = false)) (H : Sat F w) (h : ∀ w', Sat F w' → Io w w' → R (.returned (.bool true)) w') :
    Calls Tryd.prog 5 #[.agg #[.int .i64 e, .int .i64 p, .int .i64 c, .int .i64 f, .int .i64 n], .agg #[.int .i64 e2, .int .i64 p2, .int .i64 c2, .int .i64 f2, .int .i64 n2], .int .i64 cut] w R := by
  have H0 := ((H.new (.cells #[.int .i64 e, .int .i64 p, .int .i64 c, .int .i64 f, .int .i64 n] 23)).new (.cells #[.int .i64 e2, .int .i64 p2, .int .i64 c2, .int .i64 f2, .int .i64 n2] 23))
  have J0 := (((Io.refl w).alloc (.cells #[.int .i64 e, .int .i64 p, .int .i64 c, .int .i64 f, .int .i64 n] 23)).alloc (.cells #[.int .i64 e2, .int .i64 p2, .int .i64 c2, .int .i64 f2, .int .i64 n2] 23))
  rw [show (w.alloc (.cells #[.int .i64 e, .int .i64 p, .int .i64 c, .int .i64 f, .int .i64 n] 23)).heap.size = w.heap.size + 1 from by simp] at H0
  have HH := Lib.hid h
  clear h
  obtain ⟨t, T⟩ : ∃ t, Hid (t = tx (Rt.bytes ⟨e, p, c, f, n⟩)) := ⟨_, Lib.hid rfl⟩
  go_enter Tryd.func5, Tryd.ntmps5
  go_wp2_with fail
  generalize ((w.alloc (.cells #[.int .i64 e, .int .i64 p, .int .i64 c, .int .i64 f, .int .i64 n] 23)).alloc (.cells #[.int .i64 e2, .int .i64 p2, .int .i64 c2, .int .i64 f2, .int .i64 n2] 23)) = v0 at *
  generalize w.heap.size + 1 = B1 at *
  generalize w.heap.size = B0 at *
  refine works_any hv.with.with H0 ?_
  intro w11 H11 I11
  have J11 := (J0.trans I11)
  clear I11 H0 J0
  have l0 := (H11.right).left.lt
  have x00 := Sat.read (H11.right).left.at 0
  have x01 := Sat.read (H11.right).left.at 1
  have x02 := Sat.read (H11.right).left.at 2
  have x03 := Sat.read (H11.right).left.at 3
  have x04 := Sat.read (H11.right).left.at 4
  have l1 := (H11).left.lt
  have x10 := Sat.read (H11).left.at 0
  have x11 := Sat.read (H11).left.at 1
  have x12 := Sat.read (H11).left.at 2
  have x13 := Sat.read (H11).left.at 3
  have x14 := Sat.read (H11).left.at 4
  simp only [List.getElem?_toArray, List.getElem?_cons_zero, List.getElem?_cons_succ] at x00 x01 x02 x03 x04 x10 x11 x12 x13 x14
  go_wp2_with fail
  clear l0 l1 x00 x01 x02 x03 x04 x10 x11 x12 x13 x14
  refine enc_yes hg T hv.with.with H11 ?_
  intro w12 H12 I12
  have J12 := (J11.trans I12)
  clear I12 H11 J11
  have l0 := (H12.right).left.lt
  have x00 := Sat.read (H12.right).left.at 0
  have x01 := Sat.read (H12.right).left.at 1
  have x02 := Sat.read (H12.right).left.at 2
  have x03 := Sat.read (H12.right).left.at 3
  have x04 := Sat.read (H12.right).left.at 4
  have l1 := (H12).left.lt
  have x10 := Sat.read (H12).left.at 0
  have x11 := Sat.read (H12).left.at 1
  have x12 := Sat.read (H12).left.at 2
  have x13 := Sat.read (H12).left.at 3
  have x14 := Sat.read (H12).left.at 4
  simp only [List.getElem?_toArray, List.getElem?_cons_zero, List.getElem?_cons_succ] at x00 x01 x02 x03 x04 x10 x11 x12 x13 x14
  go_wp2_with fail
  clear l0 l1 x00 x01 x02 x03 x04 x10 x11 x12 x13 x14
  refine enc_no hk hv.with.with H12 ?_
  intro w13 H13 I13
  have J13 := (J12.trans I13)
  clear I13 H12 J12
  have l0 := (H13.right).left.lt
  have x00 := Sat.read (H13.right).left.at 0
  have x01 := Sat.read (H13.right).left.at 1
  have x02 := Sat.read (H13.right).left.at 2
  have x03 := Sat.read (H13.right).left.at 3
  have x04 := Sat.read (H13.right).left.at 4
  have l1 := (H13).left.lt
  have x10 := Sat.read (H13).left.at 0
  have x11 := Sat.read (H13).left.at 1
  have x12 := Sat.read (H13).left.at 2
  have x13 := Sat.read (H13).left.at 3
  have x14 := Sat.read (H13).left.at 4
  simp only [List.getElem?_toArray, List.getElem?_cons_zero, List.getElem?_cons_succ] at x00 x01 x02 x03 x04 x10 x11 x12 x13 x14
  have fin := HH.out _ H13.right.right J13
  clear HH H13 J13
  go_wp2_with fail
  exact fin

set_option maxRecDepth 100000 in
set_option maxHeartbeats 4000000 in
theorem torn_e (hv : Hv F) (hg : Hid (Rt.good ⟨e, p, c, f, n⟩ = true)) (hk : Hid (Rt.good ⟨e2, p2, c2, f2, n2⟩ = true)) (hc : e = e2) (H : Sat F w) (h : ∀ w', Sat F w' → Io w w' → R (.returned (.bool true)) w') :
    Calls Tryd.prog 5 #[.agg #[.int .i64 e, .int .i64 p, .int .i64 c, .int .i64 f, .int .i64 n], .agg #[.int .i64 e2, .int .i64 p2, .int .i64 c2, .int .i64 f2, .int .i64 n2], .int .i64 cut] w R := by
  have H0 := ((H.new (.cells #[.int .i64 e, .int .i64 p, .int .i64 c, .int .i64 f, .int .i64 n] 23)).new (.cells #[.int .i64 e2, .int .i64 p2, .int .i64 c2, .int .i64 f2, .int .i64 n2] 23))
  have J0 := (((Io.refl w).alloc (.cells #[.int .i64 e, .int .i64 p, .int .i64 c, .int .i64 f, .int .i64 n] 23)).alloc (.cells #[.int .i64 e2, .int .i64 p2, .int .i64 c2, .int .i64 f2, .int .i64 n2] 23))
  rw [show (w.alloc (.cells #[.int .i64 e, .int .i64 p, .int .i64 c, .int .i64 f, .int .i64 n] 23)).heap.size = w.heap.size + 1 from by simp] at H0
  have HH := Lib.hid h
  clear h
  obtain ⟨t, T⟩ : ∃ t, Hid (t = tx (Rt.bytes ⟨e, p, c, f, n⟩)) := ⟨_, Lib.hid rfl⟩
  obtain ⟨u, U⟩ : ∃ t, Hid (t = tx (Rt.bytes ⟨e2, p2, c2, f2, n2⟩)) := ⟨_, Lib.hid rfl⟩
  have g2 : (e == e2) = true := by rw [beq_iff_eq]; exact hc
  clear hc
  go_enter Tryd.func5, Tryd.ntmps5
  go_wp2_with fail
  generalize ((w.alloc (.cells #[.int .i64 e, .int .i64 p, .int .i64 c, .int .i64 f, .int .i64 n] 23)).alloc (.cells #[.int .i64 e2, .int .i64 p2, .int .i64 c2, .int .i64 f2, .int .i64 n2] 23)) = v0 at *
  generalize w.heap.size + 1 = B1 at *
  generalize w.heap.size = B0 at *
  refine works_any hv.with.with H0 ?_
  intro w11 H11 I11
  have J11 := (J0.trans I11)
  clear I11 H0 J0
  have l0 := (H11.right).left.lt
  have x00 := Sat.read (H11.right).left.at 0
  have x01 := Sat.read (H11.right).left.at 1
  have x02 := Sat.read (H11.right).left.at 2
  have x03 := Sat.read (H11.right).left.at 3
  have x04 := Sat.read (H11.right).left.at 4
  have l1 := (H11).left.lt
  have x10 := Sat.read (H11).left.at 0
  have x11 := Sat.read (H11).left.at 1
  have x12 := Sat.read (H11).left.at 2
  have x13 := Sat.read (H11).left.at 3
  have x14 := Sat.read (H11).left.at 4
  simp only [List.getElem?_toArray, List.getElem?_cons_zero, List.getElem?_cons_succ] at x00 x01 x02 x03 x04 x10 x11 x12 x13 x14
  go_wp2_with fail
  clear l0 l1 x00 x01 x02 x03 x04 x10 x11 x12 x13 x14
  refine enc_yes hg T hv.with.with H11 ?_
  intro w12 H12 I12
  have J12 := (J11.trans I12)
  clear I12 H11 J11
  have l0 := (H12.right).left.lt
  have x00 := Sat.read (H12.right).left.at 0
  have x01 := Sat.read (H12.right).left.at 1
  have x02 := Sat.read (H12.right).left.at 2
  have x03 := Sat.read (H12.right).left.at 3
  have x04 := Sat.read (H12.right).left.at 4
  have l1 := (H12).left.lt
  have x10 := Sat.read (H12).left.at 0
  have x11 := Sat.read (H12).left.at 1
  have x12 := Sat.read (H12).left.at 2
  have x13 := Sat.read (H12).left.at 3
  have x14 := Sat.read (H12).left.at 4
  simp only [List.getElem?_toArray, List.getElem?_cons_zero, List.getElem?_cons_succ] at x00 x01 x02 x03 x04 x10 x11 x12 x13 x14
  go_wp2_with fail
  clear l0 l1 x00 x01 x02 x03 x04 x10 x11 x12 x13 x14
  refine enc_yes hk U hv.with.with H12 ?_
  intro w13 H13 I13
  have J13 := (J12.trans I13)
  clear I13 H12 J12
  have l0 := (H13.right).left.lt
  have x00 := Sat.read (H13.right).left.at 0
  have x01 := Sat.read (H13.right).left.at 1
  have x02 := Sat.read (H13.right).left.at 2
  have x03 := Sat.read (H13.right).left.at 3
  have x04 := Sat.read (H13.right).left.at 4
  have l1 := (H13).left.lt
  have x10 := Sat.read (H13).left.at 0
  have x11 := Sat.read (H13).left.at 1
  have x12 := Sat.read (H13).left.at 2
  have x13 := Sat.read (H13).left.at 3
  have x14 := Sat.read (H13).left.at 4
  simp only [List.getElem?_toArray, List.getElem?_cons_zero, List.getElem?_cons_succ] at x00 x01 x02 x03 x04 x10 x11 x12 x13 x14
  have fin := HH.out _ H13.right.right J13
  clear HH H13 J13
  go_wp2_with fail
  exact fin

set_option maxRecDepth 100000 in
set_option maxHeartbeats 4000000 in
theorem torn_z (hv : Hv F) (hg : Hid (Rt.good ⟨e, p, c, f, n⟩ = true)) (hk : Hid (Rt.good ⟨e2, p2, c2, f2, n2⟩ = true)) (hc : e ≠ e2) {nn : Int} (hn : min (max cut 0) 256 = nn) (z0 : (nn == 0) = true) (z1 : (nn == 256) = false) {t u : ByteArray} (T : Hid (t = tx (Rt.bytes ⟨e, p, c, f, n⟩))) (U : Hid (u = tx (Rt.bytes ⟨e2, p2, c2, f2, n2⟩))) {z : ByteArray} (ZZ : Hid (z = u.extract 0 nn.toNat ++ t.extract nn.toNat t.size)) (ZD : Hid (Rt.dec z = some ⟨e, p, c, f, n⟩)) (H : Sat F w) (h : ∀ w', Sat F w' → Io w w' → R (.returned (.bool true)) w') :
    Calls Tryd.prog 5 #[.agg #[.int .i64 e, .int .i64 p, .int .i64 c, .int .i64 f, .int .i64 n], .agg #[.int .i64 e2, .int .i64 p2, .int .i64 c2, .int .i64 f2, .int .i64 n2], .int .i64 cut] w R := by
  have H0 := ((H.new (.cells #[.int .i64 e, .int .i64 p, .int .i64 c, .int .i64 f, .int .i64 n] 23)).new (.cells #[.int .i64 e2, .int .i64 p2, .int .i64 c2, .int .i64 f2, .int .i64 n2] 23))
  have J0 := (((Io.refl w).alloc (.cells #[.int .i64 e, .int .i64 p, .int .i64 c, .int .i64 f, .int .i64 n] 23)).alloc (.cells #[.int .i64 e2, .int .i64 p2, .int .i64 c2, .int .i64 f2, .int .i64 n2] 23))
  rw [show (w.alloc (.cells #[.int .i64 e, .int .i64 p, .int .i64 c, .int .i64 f, .int .i64 n] 23)).heap.size = w.heap.size + 1 from by simp] at H0
  have HH := Lib.hid h
  clear h
  have g2 : (e == e2) = false := by rw [beq_eq_false_iff_ne]; exact hc
  have g3 : (e2 == e) = false := by rw [beq_eq_false_iff_ne]; exact fun x => hc x.symm
  clear hc
  have nn0 : 0 ≤ nn := by omega
  have nn1 : nn ≤ 256 := by omega
  have D1 := Lib.hid (dec_of hg T)
  have D2 := Lib.hid (dec_of hk U)
  have S1 := Lib.hid (small_of T)
  have S2 := Lib.hid (small_of U)
  have st := size_of T
  have su := size_of U
  have ht1 : ((t.size : Int) != 256) = false := by rw [bne_eq_false_iff_eq]; omega
  have hu1 : ((u.size : Int) != 256) = false := by rw [bne_eq_false_iff_eq]; omega
  have hu2 : nn ≤ (u.size : Int) := by omega
  have ht2 : nn ≤ (t.size : Int) := by omega
  have hu3 : nn.toNat ≤ u.size := by omega
  have ht3 : nn.toNat ≤ t.size := by omega
  have hadd : ∀ W, (Op.stringOp .add (u.extract 0 nn.toNat) (t.extract nn.toNat t.size)).run Tryd.prog W = .ok (.string z) W := fun W => by
    rw [run_string_add_sum W _ _ (by rw [ByteArray.size_extract, ByteArray.size_extract]; omega), ZZ.out]
  have ZS : Hid (z.size ≤ 1000000) := Lib.hid (by rw [ZZ.out, ByteArray.size_append, ByteArray.size_extract, ByteArray.size_extract]; omega)
  have ht9 : (t.size : Int) ≤ 256 := by omega
  have hu9 : (u.size : Int) ≤ 256 := by omega
  clear st su
  go_enter Tryd.func5, Tryd.ntmps5
  go_wp2_with fail
  generalize ((w.alloc (.cells #[.int .i64 e, .int .i64 p, .int .i64 c, .int .i64 f, .int .i64 n] 23)).alloc (.cells #[.int .i64 e2, .int .i64 p2, .int .i64 c2, .int .i64 f2, .int .i64 n2] 23)) = v0 at *
  generalize w.heap.size + 1 = B1 at *
  generalize w.heap.size = B0 at *
  refine works_any hv.with.with H0 ?_
  intro w11 H11 I11
  have J11 := (J0.trans I11)
  clear I11 H0 J0
  have l0 := (H11.right).left.lt
  have x00 := Sat.read (H11.right).left.at 0
  have x01 := Sat.read (H11.right).left.at 1
  have x02 := Sat.read (H11.right).left.at 2
  have x03 := Sat.read (H11.right).left.at 3
  have x04 := Sat.read (H11.right).left.at 4
  have l1 := (H11).left.lt
  have x10 := Sat.read (H11).left.at 0
  have x11 := Sat.read (H11).left.at 1
  have x12 := Sat.read (H11).left.at 2
  have x13 := Sat.read (H11).left.at 3
  have x14 := Sat.read (H11).left.at 4
  simp only [List.getElem?_toArray, List.getElem?_cons_zero, List.getElem?_cons_succ] at x00 x01 x02 x03 x04 x10 x11 x12 x13 x14
  go_wp2_with fail
  clear l0 l1 x00 x01 x02 x03 x04 x10 x11 x12 x13 x14
  refine enc_yes hg T hv.with.with H11 ?_
  intro w12 H12 I12
  have J12 := (J11.trans I12)
  clear I12 H11 J11
  have l0 := (H12.right).left.lt
  have x00 := Sat.read (H12.right).left.at 0
  have x01 := Sat.read (H12.right).left.at 1
  have x02 := Sat.read (H12.right).left.at 2
  have x03 := Sat.read (H12.right).left.at 3
  have x04 := Sat.read (H12.right).left.at 4
  have l1 := (H12).left.lt
  have x10 := Sat.read (H12).left.at 0
  have x11 := Sat.read (H12).left.at 1
  have x12 := Sat.read (H12).left.at 2
  have x13 := Sat.read (H12).left.at 3
  have x14 := Sat.read (H12).left.at 4
  simp only [List.getElem?_toArray, List.getElem?_cons_zero, List.getElem?_cons_succ] at x00 x01 x02 x03 x04 x10 x11 x12 x13 x14
  go_wp2_with fail
  clear l0 l1 x00 x01 x02 x03 x04 x10 x11 x12 x13 x14
  refine enc_yes hk U hv.with.with H12 ?_
  intro w13 H13 I13
  have J13 := (J12.trans I13)
  clear I13 H12 J12
  have l0 := (H13.right).left.lt
  have x00 := Sat.read (H13.right).left.at 0
  have x01 := Sat.read (H13.right).left.at 1
  have x02 := Sat.read (H13.right).left.at 2
  have x03 := Sat.read (H13.right).left.at 3
  have x04 := Sat.read (H13.right).left.at 4
  have l1 := (H13).left.lt
  have x10 := Sat.read (H13).left.at 0
  have x11 := Sat.read (H13).left.at 1
  have x12 := Sat.read (H13).left.at 2
  have x13 := Sat.read (H13).left.at 3
  have x14 := Sat.read (H13).left.at 4
  simp only [List.getElem?_toArray, List.getElem?_cons_zero, List.getElem?_cons_succ] at x00 x01 x02 x03 x04 x10 x11 x12 x13 x14
  go_wp2_with fail
  clear l0 l1 x00 x01 x02 x03 x04 x10 x11 x12 x13 x14
  have HD0 := H13.drew
  have JD0 := J13.drew
  have HD1 := (H13.new (.cells #[.int .i64 0, .int .i64 0, .int .i64 0, .int .i64 0, .int .i64 0] 23)).drew
  have JD1 := (J13.alloc (.cells #[.int .i64 0, .int .i64 0, .int .i64 0, .int .i64 0, .int .i64 0] 23)).drew
  go_region_held3 (fun _ => True) (exact True.intro) (first | (go_at_call 12; with_reducible refine dec_some hv.with.with HD0 z ZS.out ZD.out ?_; intro w20 H20 I20) | (go_at_call 12; with_reducible refine dec_some hv.with.with.with HD1 z ZS.out ZD.out ?_; intro w21 H21 I21; have lQ := H21.left.lt; have fQ0 := Sat.free H21.left.at 0; have xQ0 := Sat.read H21.left.at 0; have fQ1 := Sat.free H21.left.at 1; have xQ1 := Sat.read H21.left.at 1; have fQ2 := Sat.free H21.left.at 2; have xQ2 := Sat.read H21.left.at 2; have fQ3 := Sat.free H21.left.at 3; have xQ3 := Sat.read H21.left.at 3; have fQ4 := Sat.free H21.left.at 4; have xQ4 := Sat.read H21.left.at 4))
  · have H22 := H20.new (.cells #[.int .i64 e, .int .i64 p, .int .i64 c, .int .i64 f, .int .i64 n] 23)
    have J22 := (JD0.trans I20).alloc (.cells #[.int .i64 e, .int .i64 p, .int .i64 c, .int .i64 f, .int .i64 n] 23)
    clear HD0 JD0 HD1 JD1 H20 I20 H13 J13
    go_wp2_with fail
    generalize w20.alloc (.cells #[.int .i64 e, .int .i64 p, .int .i64 c, .int .i64 f, .int .i64 n] 23) = v9 at *
    generalize w20.heap.size = B9 at *
    refine dec_some hv.with.with.with H22 _ S1.out D1.out ?_
    intro w40 H40 I40
    have J40 := J22.trans I40
    clear I40 H22 J22
    have H41 := H40.new (.cells #[.int .i64 e, .int .i64 p, .int .i64 c, .int .i64 f, .int .i64 n] 23)
    have J41 := J40.alloc (.cells #[.int .i64 e, .int .i64 p, .int .i64 c, .int .i64 f, .int .i64 n] 23)
    clear H40 J40
    go_wp2_with fail
    generalize w40.alloc (.cells #[.int .i64 e, .int .i64 p, .int .i64 c, .int .i64 f, .int .i64 n] 23) = v10 at *
    generalize w40.heap.size = B10 at *
    refine dec_some hv.with.with.with.with H41 _ S2.out D2.out ?_
    intro w50 H50 I50
    have J50 := J41.trans I50
    clear I50 H41 J41
    have l0 := (H50.right.right.right).left.lt
    have x00 := Sat.read (H50.right.right.right).left.at 0
    have x01 := Sat.read (H50.right.right.right).left.at 1
    have x02 := Sat.read (H50.right.right.right).left.at 2
    have x03 := Sat.read (H50.right.right.right).left.at 3
    have x04 := Sat.read (H50.right.right.right).left.at 4
    have l1 := (H50.right.right).left.lt
    have x10 := Sat.read (H50.right.right).left.at 0
    have x11 := Sat.read (H50.right.right).left.at 1
    have x12 := Sat.read (H50.right.right).left.at 2
    have x13 := Sat.read (H50.right.right).left.at 3
    have x14 := Sat.read (H50.right.right).left.at 4
    have l2 := (H50.right).left.lt
    have x20 := Sat.read (H50.right).left.at 0
    have x21 := Sat.read (H50.right).left.at 1
    have x22 := Sat.read (H50.right).left.at 2
    have x23 := Sat.read (H50.right).left.at 3
    have x24 := Sat.read (H50.right).left.at 4
    have l3 := (H50).left.lt
    have x30 := Sat.read (H50).left.at 0
    have x31 := Sat.read (H50).left.at 1
    have x32 := Sat.read (H50).left.at 2
    have x33 := Sat.read (H50).left.at 3
    have x34 := Sat.read (H50).left.at 4
    simp only [List.getElem?_toArray, List.getElem?_cons_zero, List.getElem?_cons_succ] at x00 x01 x02 x03 x04 x10 x11 x12 x13 x14 x20 x21 x22 x23 x24 x30 x31 x32 x33 x34
    have fin := HH.out _ ((H50.right.right.right.right).alloc (.cells #[.int .i64 e2, .int .i64 p2, .int .i64 c2, .int .i64 f2, .int .i64 n2] 23)) (J50.alloc (.cells #[.int .i64 e2, .int .i64 p2, .int .i64 c2, .int .i64 f2, .int .i64 n2] 23))
    clear HH H50 J50
    go_wp2_with fail
    exact fin
  · have H22 : Sat (pts w13.heap.size (.cells #[.int .i64 e, .int .i64 p, .int .i64 c, .int .i64 f, .int .i64 n] 23 (0, 0)) * (pts B1 (.cells #[.int .i64 e2, .int .i64 p2, .int .i64 c2, .int .i64 f2, .int .i64 n2] 23 (0, 0)) * (pts B0 (.cells #[.int .i64 e, .int .i64 p, .int .i64 c, .int .i64 f, .int .i64 n] 23 (0, 0)) * F))) (((((w21.setCell ⟨w13.heap.size, 0, none⟩ (.int .i64 e)).setCell ⟨w13.heap.size, 1, none⟩ (.int .i64 p)).setCell ⟨w13.heap.size, 2, none⟩ (.int .i64 c)).setCell ⟨w13.heap.size, 3, none⟩ (.int .i64 f)).setCell ⟨w13.heap.size, 4, none⟩ (.int .i64 n)) := (Sat.cell (Sat.cell (Sat.cell (Sat.cell (Sat.cell H21 0 (.int .i64 e)) 1 (.int .i64 p)) 2 (.int .i64 c)) 3 (.int .i64 f)) 4 (.int .i64 n))
    have J22 := ((((((JD1.trans I21).setCell ⟨w13.heap.size, 0, none⟩ (.int .i64 e)).setCell ⟨w13.heap.size, 1, none⟩ (.int .i64 p)).setCell ⟨w13.heap.size, 2, none⟩ (.int .i64 c)).setCell ⟨w13.heap.size, 3, none⟩ (.int .i64 f)).setCell ⟨w13.heap.size, 4, none⟩ (.int .i64 n))
    clear HD0 JD0 HD1 JD1 H21 I21 lQ fQ0 xQ0 fQ1 xQ1 fQ2 xQ2 fQ3 xQ3 fQ4 xQ4 H13 J13
    go_wp2_with fail
    generalize (((((w21.setCell ⟨w13.heap.size, 0, none⟩ (.int .i64 e)).setCell ⟨w13.heap.size, 1, none⟩ (.int .i64 p)).setCell ⟨w13.heap.size, 2, none⟩ (.int .i64 c)).setCell ⟨w13.heap.size, 3, none⟩ (.int .i64 f)).setCell ⟨w13.heap.size, 4, none⟩ (.int .i64 n)) = v9 at *
    generalize w13.heap.size = B9 at *
    refine dec_some hv.with.with.with H22 _ S1.out D1.out ?_
    intro w40 H40 I40
    have J40 := J22.trans I40
    clear I40 H22 J22
    have H41 := H40.new (.cells #[.int .i64 e, .int .i64 p, .int .i64 c, .int .i64 f, .int .i64 n] 23)
    have J41 := J40.alloc (.cells #[.int .i64 e, .int .i64 p, .int .i64 c, .int .i64 f, .int .i64 n] 23)
    clear H40 J40
    go_wp2_with fail
    generalize w40.alloc (.cells #[.int .i64 e, .int .i64 p, .int .i64 c, .int .i64 f, .int .i64 n] 23) = v10 at *
    generalize w40.heap.size = B10 at *
    refine dec_some hv.with.with.with.with H41 _ S2.out D2.out ?_
    intro w50 H50 I50
    have J50 := J41.trans I50
    clear I50 H41 J41
    have l0 := (H50.right.right.right).left.lt
    have x00 := Sat.read (H50.right.right.right).left.at 0
    have x01 := Sat.read (H50.right.right.right).left.at 1
    have x02 := Sat.read (H50.right.right.right).left.at 2
    have x03 := Sat.read (H50.right.right.right).left.at 3
    have x04 := Sat.read (H50.right.right.right).left.at 4
    have l1 := (H50.right.right).left.lt
    have x10 := Sat.read (H50.right.right).left.at 0
    have x11 := Sat.read (H50.right.right).left.at 1
    have x12 := Sat.read (H50.right.right).left.at 2
    have x13 := Sat.read (H50.right.right).left.at 3
    have x14 := Sat.read (H50.right.right).left.at 4
    have l2 := (H50.right).left.lt
    have x20 := Sat.read (H50.right).left.at 0
    have x21 := Sat.read (H50.right).left.at 1
    have x22 := Sat.read (H50.right).left.at 2
    have x23 := Sat.read (H50.right).left.at 3
    have x24 := Sat.read (H50.right).left.at 4
    have l3 := (H50).left.lt
    have x30 := Sat.read (H50).left.at 0
    have x31 := Sat.read (H50).left.at 1
    have x32 := Sat.read (H50).left.at 2
    have x33 := Sat.read (H50).left.at 3
    have x34 := Sat.read (H50).left.at 4
    simp only [List.getElem?_toArray, List.getElem?_cons_zero, List.getElem?_cons_succ] at x00 x01 x02 x03 x04 x10 x11 x12 x13 x14 x20 x21 x22 x23 x24 x30 x31 x32 x33 x34
    have fin := HH.out _ ((H50.right.right.right.right).alloc (.cells #[.int .i64 e2, .int .i64 p2, .int .i64 c2, .int .i64 f2, .int .i64 n2] 23)) (J50.alloc (.cells #[.int .i64 e2, .int .i64 p2, .int .i64 c2, .int .i64 f2, .int .i64 n2] 23))
    clear HH H50 J50
    go_wp2_with fail
    exact fin

set_option maxRecDepth 100000 in
set_option maxHeartbeats 4000000 in
theorem torn_f (hv : Hv F) (hg : Hid (Rt.good ⟨e, p, c, f, n⟩ = true)) (hk : Hid (Rt.good ⟨e2, p2, c2, f2, n2⟩ = true)) (hc : e ≠ e2) {nn : Int} (hn : min (max cut 0) 256 = nn) (z0 : (nn == 0) = false) (z1 : (nn == 256) = true) {t u : ByteArray} (T : Hid (t = tx (Rt.bytes ⟨e, p, c, f, n⟩))) (U : Hid (u = tx (Rt.bytes ⟨e2, p2, c2, f2, n2⟩))) {z : ByteArray} (ZZ : Hid (z = u.extract 0 nn.toNat ++ t.extract nn.toNat t.size)) (ZD : Hid (Rt.dec z = some ⟨e2, p2, c2, f2, n2⟩)) (H : Sat F w) (h : ∀ w', Sat F w' → Io w w' → R (.returned (.bool true)) w') :
    Calls Tryd.prog 5 #[.agg #[.int .i64 e, .int .i64 p, .int .i64 c, .int .i64 f, .int .i64 n], .agg #[.int .i64 e2, .int .i64 p2, .int .i64 c2, .int .i64 f2, .int .i64 n2], .int .i64 cut] w R := by
  have H0 := ((H.new (.cells #[.int .i64 e, .int .i64 p, .int .i64 c, .int .i64 f, .int .i64 n] 23)).new (.cells #[.int .i64 e2, .int .i64 p2, .int .i64 c2, .int .i64 f2, .int .i64 n2] 23))
  have J0 := (((Io.refl w).alloc (.cells #[.int .i64 e, .int .i64 p, .int .i64 c, .int .i64 f, .int .i64 n] 23)).alloc (.cells #[.int .i64 e2, .int .i64 p2, .int .i64 c2, .int .i64 f2, .int .i64 n2] 23))
  rw [show (w.alloc (.cells #[.int .i64 e, .int .i64 p, .int .i64 c, .int .i64 f, .int .i64 n] 23)).heap.size = w.heap.size + 1 from by simp] at H0
  have HH := Lib.hid h
  clear h
  have g2 : (e == e2) = false := by rw [beq_eq_false_iff_ne]; exact hc
  have g3 : (e2 == e) = false := by rw [beq_eq_false_iff_ne]; exact fun x => hc x.symm
  clear hc
  have nn0 : 0 ≤ nn := by omega
  have nn1 : nn ≤ 256 := by omega
  have D1 := Lib.hid (dec_of hg T)
  have D2 := Lib.hid (dec_of hk U)
  have S1 := Lib.hid (small_of T)
  have S2 := Lib.hid (small_of U)
  have st := size_of T
  have su := size_of U
  have ht1 : ((t.size : Int) != 256) = false := by rw [bne_eq_false_iff_eq]; omega
  have hu1 : ((u.size : Int) != 256) = false := by rw [bne_eq_false_iff_eq]; omega
  have hu2 : nn ≤ (u.size : Int) := by omega
  have ht2 : nn ≤ (t.size : Int) := by omega
  have hu3 : nn.toNat ≤ u.size := by omega
  have ht3 : nn.toNat ≤ t.size := by omega
  have hadd : ∀ W, (Op.stringOp .add (u.extract 0 nn.toNat) (t.extract nn.toNat t.size)).run Tryd.prog W = .ok (.string z) W := fun W => by
    rw [run_string_add_sum W _ _ (by rw [ByteArray.size_extract, ByteArray.size_extract]; omega), ZZ.out]
  have ZS : Hid (z.size ≤ 1000000) := Lib.hid (by rw [ZZ.out, ByteArray.size_append, ByteArray.size_extract, ByteArray.size_extract]; omega)
  have ht9 : (t.size : Int) ≤ 256 := by omega
  have hu9 : (u.size : Int) ≤ 256 := by omega
  clear st su
  go_enter Tryd.func5, Tryd.ntmps5
  go_wp2_with fail
  generalize ((w.alloc (.cells #[.int .i64 e, .int .i64 p, .int .i64 c, .int .i64 f, .int .i64 n] 23)).alloc (.cells #[.int .i64 e2, .int .i64 p2, .int .i64 c2, .int .i64 f2, .int .i64 n2] 23)) = v0 at *
  generalize w.heap.size + 1 = B1 at *
  generalize w.heap.size = B0 at *
  refine works_any hv.with.with H0 ?_
  intro w11 H11 I11
  have J11 := (J0.trans I11)
  clear I11 H0 J0
  have l0 := (H11.right).left.lt
  have x00 := Sat.read (H11.right).left.at 0
  have x01 := Sat.read (H11.right).left.at 1
  have x02 := Sat.read (H11.right).left.at 2
  have x03 := Sat.read (H11.right).left.at 3
  have x04 := Sat.read (H11.right).left.at 4
  have l1 := (H11).left.lt
  have x10 := Sat.read (H11).left.at 0
  have x11 := Sat.read (H11).left.at 1
  have x12 := Sat.read (H11).left.at 2
  have x13 := Sat.read (H11).left.at 3
  have x14 := Sat.read (H11).left.at 4
  simp only [List.getElem?_toArray, List.getElem?_cons_zero, List.getElem?_cons_succ] at x00 x01 x02 x03 x04 x10 x11 x12 x13 x14
  go_wp2_with fail
  clear l0 l1 x00 x01 x02 x03 x04 x10 x11 x12 x13 x14
  refine enc_yes hg T hv.with.with H11 ?_
  intro w12 H12 I12
  have J12 := (J11.trans I12)
  clear I12 H11 J11
  have l0 := (H12.right).left.lt
  have x00 := Sat.read (H12.right).left.at 0
  have x01 := Sat.read (H12.right).left.at 1
  have x02 := Sat.read (H12.right).left.at 2
  have x03 := Sat.read (H12.right).left.at 3
  have x04 := Sat.read (H12.right).left.at 4
  have l1 := (H12).left.lt
  have x10 := Sat.read (H12).left.at 0
  have x11 := Sat.read (H12).left.at 1
  have x12 := Sat.read (H12).left.at 2
  have x13 := Sat.read (H12).left.at 3
  have x14 := Sat.read (H12).left.at 4
  simp only [List.getElem?_toArray, List.getElem?_cons_zero, List.getElem?_cons_succ] at x00 x01 x02 x03 x04 x10 x11 x12 x13 x14
  go_wp2_with fail
  clear l0 l1 x00 x01 x02 x03 x04 x10 x11 x12 x13 x14
  refine enc_yes hk U hv.with.with H12 ?_
  intro w13 H13 I13
  have J13 := (J12.trans I13)
  clear I13 H12 J12
  have l0 := (H13.right).left.lt
  have x00 := Sat.read (H13.right).left.at 0
  have x01 := Sat.read (H13.right).left.at 1
  have x02 := Sat.read (H13.right).left.at 2
  have x03 := Sat.read (H13.right).left.at 3
  have x04 := Sat.read (H13.right).left.at 4
  have l1 := (H13).left.lt
  have x10 := Sat.read (H13).left.at 0
  have x11 := Sat.read (H13).left.at 1
  have x12 := Sat.read (H13).left.at 2
  have x13 := Sat.read (H13).left.at 3
  have x14 := Sat.read (H13).left.at 4
  simp only [List.getElem?_toArray, List.getElem?_cons_zero, List.getElem?_cons_succ] at x00 x01 x02 x03 x04 x10 x11 x12 x13 x14
  go_wp2_with fail
  clear l0 l1 x00 x01 x02 x03 x04 x10 x11 x12 x13 x14
  have HD0 := H13.drew
  have JD0 := J13.drew
  have HD1 := (H13.new (.cells #[.int .i64 0, .int .i64 0, .int .i64 0, .int .i64 0, .int .i64 0] 23)).drew
  have JD1 := (J13.alloc (.cells #[.int .i64 0, .int .i64 0, .int .i64 0, .int .i64 0, .int .i64 0] 23)).drew
  go_region_held3 (fun _ => True) (exact True.intro) (first | (go_at_call 12; with_reducible refine dec_some hv.with.with HD0 z ZS.out ZD.out ?_; intro w20 H20 I20) | (go_at_call 12; with_reducible refine dec_some hv.with.with.with HD1 z ZS.out ZD.out ?_; intro w21 H21 I21; have lQ := H21.left.lt; have fQ0 := Sat.free H21.left.at 0; have xQ0 := Sat.read H21.left.at 0; have fQ1 := Sat.free H21.left.at 1; have xQ1 := Sat.read H21.left.at 1; have fQ2 := Sat.free H21.left.at 2; have xQ2 := Sat.read H21.left.at 2; have fQ3 := Sat.free H21.left.at 3; have xQ3 := Sat.read H21.left.at 3; have fQ4 := Sat.free H21.left.at 4; have xQ4 := Sat.read H21.left.at 4))
  · have H22 := H20.new (.cells #[.int .i64 e2, .int .i64 p2, .int .i64 c2, .int .i64 f2, .int .i64 n2] 23)
    have J22 := (JD0.trans I20).alloc (.cells #[.int .i64 e2, .int .i64 p2, .int .i64 c2, .int .i64 f2, .int .i64 n2] 23)
    clear HD0 JD0 HD1 JD1 H20 I20 H13 J13
    go_wp2_with fail
    generalize w20.alloc (.cells #[.int .i64 e2, .int .i64 p2, .int .i64 c2, .int .i64 f2, .int .i64 n2] 23) = v9 at *
    generalize w20.heap.size = B9 at *
    refine dec_some hv.with.with.with H22 _ S1.out D1.out ?_
    intro w40 H40 I40
    have J40 := J22.trans I40
    clear I40 H22 J22
    have H41 := H40.new (.cells #[.int .i64 e, .int .i64 p, .int .i64 c, .int .i64 f, .int .i64 n] 23)
    have J41 := J40.alloc (.cells #[.int .i64 e, .int .i64 p, .int .i64 c, .int .i64 f, .int .i64 n] 23)
    clear H40 J40
    go_wp2_with fail
    generalize w40.alloc (.cells #[.int .i64 e, .int .i64 p, .int .i64 c, .int .i64 f, .int .i64 n] 23) = v10 at *
    generalize w40.heap.size = B10 at *
    refine dec_some hv.with.with.with.with H41 _ S2.out D2.out ?_
    intro w50 H50 I50
    have J50 := J41.trans I50
    clear I50 H41 J41
    have l0 := (H50.right.right.right).left.lt
    have x00 := Sat.read (H50.right.right.right).left.at 0
    have x01 := Sat.read (H50.right.right.right).left.at 1
    have x02 := Sat.read (H50.right.right.right).left.at 2
    have x03 := Sat.read (H50.right.right.right).left.at 3
    have x04 := Sat.read (H50.right.right.right).left.at 4
    have l1 := (H50.right.right).left.lt
    have x10 := Sat.read (H50.right.right).left.at 0
    have x11 := Sat.read (H50.right.right).left.at 1
    have x12 := Sat.read (H50.right.right).left.at 2
    have x13 := Sat.read (H50.right.right).left.at 3
    have x14 := Sat.read (H50.right.right).left.at 4
    have l2 := (H50.right).left.lt
    have x20 := Sat.read (H50.right).left.at 0
    have x21 := Sat.read (H50.right).left.at 1
    have x22 := Sat.read (H50.right).left.at 2
    have x23 := Sat.read (H50.right).left.at 3
    have x24 := Sat.read (H50.right).left.at 4
    have l3 := (H50).left.lt
    have x30 := Sat.read (H50).left.at 0
    have x31 := Sat.read (H50).left.at 1
    have x32 := Sat.read (H50).left.at 2
    have x33 := Sat.read (H50).left.at 3
    have x34 := Sat.read (H50).left.at 4
    simp only [List.getElem?_toArray, List.getElem?_cons_zero, List.getElem?_cons_succ] at x00 x01 x02 x03 x04 x10 x11 x12 x13 x14 x20 x21 x22 x23 x24 x30 x31 x32 x33 x34
    have fin := HH.out _ ((H50.right.right.right.right).alloc (.cells #[.int .i64 e2, .int .i64 p2, .int .i64 c2, .int .i64 f2, .int .i64 n2] 23)) (J50.alloc (.cells #[.int .i64 e2, .int .i64 p2, .int .i64 c2, .int .i64 f2, .int .i64 n2] 23))
    clear HH H50 J50
    go_wp2_with fail
    exact fin
  · have H22 : Sat (pts w13.heap.size (.cells #[.int .i64 e2, .int .i64 p2, .int .i64 c2, .int .i64 f2, .int .i64 n2] 23 (0, 0)) * (pts B1 (.cells #[.int .i64 e2, .int .i64 p2, .int .i64 c2, .int .i64 f2, .int .i64 n2] 23 (0, 0)) * (pts B0 (.cells #[.int .i64 e, .int .i64 p, .int .i64 c, .int .i64 f, .int .i64 n] 23 (0, 0)) * F))) (((((w21.setCell ⟨w13.heap.size, 0, none⟩ (.int .i64 e2)).setCell ⟨w13.heap.size, 1, none⟩ (.int .i64 p2)).setCell ⟨w13.heap.size, 2, none⟩ (.int .i64 c2)).setCell ⟨w13.heap.size, 3, none⟩ (.int .i64 f2)).setCell ⟨w13.heap.size, 4, none⟩ (.int .i64 n2)) := (Sat.cell (Sat.cell (Sat.cell (Sat.cell (Sat.cell H21 0 (.int .i64 e2)) 1 (.int .i64 p2)) 2 (.int .i64 c2)) 3 (.int .i64 f2)) 4 (.int .i64 n2))
    have J22 := ((((((JD1.trans I21).setCell ⟨w13.heap.size, 0, none⟩ (.int .i64 e2)).setCell ⟨w13.heap.size, 1, none⟩ (.int .i64 p2)).setCell ⟨w13.heap.size, 2, none⟩ (.int .i64 c2)).setCell ⟨w13.heap.size, 3, none⟩ (.int .i64 f2)).setCell ⟨w13.heap.size, 4, none⟩ (.int .i64 n2))
    clear HD0 JD0 HD1 JD1 H21 I21 lQ fQ0 xQ0 fQ1 xQ1 fQ2 xQ2 fQ3 xQ3 fQ4 xQ4 H13 J13
    go_wp2_with fail
    generalize (((((w21.setCell ⟨w13.heap.size, 0, none⟩ (.int .i64 e2)).setCell ⟨w13.heap.size, 1, none⟩ (.int .i64 p2)).setCell ⟨w13.heap.size, 2, none⟩ (.int .i64 c2)).setCell ⟨w13.heap.size, 3, none⟩ (.int .i64 f2)).setCell ⟨w13.heap.size, 4, none⟩ (.int .i64 n2)) = v9 at *
    generalize w13.heap.size = B9 at *
    refine dec_some hv.with.with.with H22 _ S1.out D1.out ?_
    intro w40 H40 I40
    have J40 := J22.trans I40
    clear I40 H22 J22
    have H41 := H40.new (.cells #[.int .i64 e, .int .i64 p, .int .i64 c, .int .i64 f, .int .i64 n] 23)
    have J41 := J40.alloc (.cells #[.int .i64 e, .int .i64 p, .int .i64 c, .int .i64 f, .int .i64 n] 23)
    clear H40 J40
    go_wp2_with fail
    generalize w40.alloc (.cells #[.int .i64 e, .int .i64 p, .int .i64 c, .int .i64 f, .int .i64 n] 23) = v10 at *
    generalize w40.heap.size = B10 at *
    refine dec_some hv.with.with.with.with H41 _ S2.out D2.out ?_
    intro w50 H50 I50
    have J50 := J41.trans I50
    clear I50 H41 J41
    have l0 := (H50.right.right.right).left.lt
    have x00 := Sat.read (H50.right.right.right).left.at 0
    have x01 := Sat.read (H50.right.right.right).left.at 1
    have x02 := Sat.read (H50.right.right.right).left.at 2
    have x03 := Sat.read (H50.right.right.right).left.at 3
    have x04 := Sat.read (H50.right.right.right).left.at 4
    have l1 := (H50.right.right).left.lt
    have x10 := Sat.read (H50.right.right).left.at 0
    have x11 := Sat.read (H50.right.right).left.at 1
    have x12 := Sat.read (H50.right.right).left.at 2
    have x13 := Sat.read (H50.right.right).left.at 3
    have x14 := Sat.read (H50.right.right).left.at 4
    have l2 := (H50.right).left.lt
    have x20 := Sat.read (H50.right).left.at 0
    have x21 := Sat.read (H50.right).left.at 1
    have x22 := Sat.read (H50.right).left.at 2
    have x23 := Sat.read (H50.right).left.at 3
    have x24 := Sat.read (H50.right).left.at 4
    have l3 := (H50).left.lt
    have x30 := Sat.read (H50).left.at 0
    have x31 := Sat.read (H50).left.at 1
    have x32 := Sat.read (H50).left.at 2
    have x33 := Sat.read (H50).left.at 3
    have x34 := Sat.read (H50).left.at 4
    simp only [List.getElem?_toArray, List.getElem?_cons_zero, List.getElem?_cons_succ] at x00 x01 x02 x03 x04 x10 x11 x12 x13 x14 x20 x21 x22 x23 x24 x30 x31 x32 x33 x34
    have fin := HH.out _ ((H50.right.right.right.right).alloc (.cells #[.int .i64 e2, .int .i64 p2, .int .i64 c2, .int .i64 f2, .int .i64 n2] 23)) (J50.alloc (.cells #[.int .i64 e2, .int .i64 p2, .int .i64 c2, .int .i64 f2, .int .i64 n2] 23))
    clear HH H50 J50
    go_wp2_with fail
    exact fin

set_option maxRecDepth 100000 in
set_option maxHeartbeats 4000000 in
theorem torn_mn (hv : Hv F) (hg : Hid (Rt.good ⟨e, p, c, f, n⟩ = true)) (hk : Hid (Rt.good ⟨e2, p2, c2, f2, n2⟩ = true)) (hc : e ≠ e2) {nn : Int} (hn : min (max cut 0) 256 = nn) (z0 : (nn == 0) = false) (z1 : (nn == 256) = false) {t u : ByteArray} (T : Hid (t = tx (Rt.bytes ⟨e, p, c, f, n⟩))) (U : Hid (u = tx (Rt.bytes ⟨e2, p2, c2, f2, n2⟩))) {z : ByteArray} (ZZ : Hid (z = u.extract 0 nn.toNat ++ t.extract nn.toNat t.size)) (ZD : Hid (Rt.dec z = none)) (H : Sat F w) (h : ∀ w', Sat F w' → Io w w' → R (.returned (.bool true)) w') :
    Calls Tryd.prog 5 #[.agg #[.int .i64 e, .int .i64 p, .int .i64 c, .int .i64 f, .int .i64 n], .agg #[.int .i64 e2, .int .i64 p2, .int .i64 c2, .int .i64 f2, .int .i64 n2], .int .i64 cut] w R := by
  have H0 := ((H.new (.cells #[.int .i64 e, .int .i64 p, .int .i64 c, .int .i64 f, .int .i64 n] 23)).new (.cells #[.int .i64 e2, .int .i64 p2, .int .i64 c2, .int .i64 f2, .int .i64 n2] 23))
  have J0 := (((Io.refl w).alloc (.cells #[.int .i64 e, .int .i64 p, .int .i64 c, .int .i64 f, .int .i64 n] 23)).alloc (.cells #[.int .i64 e2, .int .i64 p2, .int .i64 c2, .int .i64 f2, .int .i64 n2] 23))
  rw [show (w.alloc (.cells #[.int .i64 e, .int .i64 p, .int .i64 c, .int .i64 f, .int .i64 n] 23)).heap.size = w.heap.size + 1 from by simp] at H0
  have HH := Lib.hid h
  clear h
  have g2 : (e == e2) = false := by rw [beq_eq_false_iff_ne]; exact hc
  have g3 : (e2 == e) = false := by rw [beq_eq_false_iff_ne]; exact fun x => hc x.symm
  clear hc
  have nn0 : 0 ≤ nn := by omega
  have nn1 : nn ≤ 256 := by omega
  have D1 := Lib.hid (dec_of hg T)
  have D2 := Lib.hid (dec_of hk U)
  have S1 := Lib.hid (small_of T)
  have S2 := Lib.hid (small_of U)
  have st := size_of T
  have su := size_of U
  have ht1 : ((t.size : Int) != 256) = false := by rw [bne_eq_false_iff_eq]; omega
  have hu1 : ((u.size : Int) != 256) = false := by rw [bne_eq_false_iff_eq]; omega
  have hu2 : nn ≤ (u.size : Int) := by omega
  have ht2 : nn ≤ (t.size : Int) := by omega
  have hu3 : nn.toNat ≤ u.size := by omega
  have ht3 : nn.toNat ≤ t.size := by omega
  have hadd : ∀ W, (Op.stringOp .add (u.extract 0 nn.toNat) (t.extract nn.toNat t.size)).run Tryd.prog W = .ok (.string z) W := fun W => by
    rw [run_string_add_sum W _ _ (by rw [ByteArray.size_extract, ByteArray.size_extract]; omega), ZZ.out]
  have ZS : Hid (z.size ≤ 1000000) := Lib.hid (by rw [ZZ.out, ByteArray.size_append, ByteArray.size_extract, ByteArray.size_extract]; omega)
  have ht9 : (t.size : Int) ≤ 256 := by omega
  have hu9 : (u.size : Int) ≤ 256 := by omega
  clear st su
  go_enter Tryd.func5, Tryd.ntmps5
  go_wp2_with fail
  generalize ((w.alloc (.cells #[.int .i64 e, .int .i64 p, .int .i64 c, .int .i64 f, .int .i64 n] 23)).alloc (.cells #[.int .i64 e2, .int .i64 p2, .int .i64 c2, .int .i64 f2, .int .i64 n2] 23)) = v0 at *
  generalize w.heap.size + 1 = B1 at *
  generalize w.heap.size = B0 at *
  refine works_any hv.with.with H0 ?_
  intro w11 H11 I11
  have J11 := (J0.trans I11)
  clear I11 H0 J0
  have l0 := (H11.right).left.lt
  have x00 := Sat.read (H11.right).left.at 0
  have x01 := Sat.read (H11.right).left.at 1
  have x02 := Sat.read (H11.right).left.at 2
  have x03 := Sat.read (H11.right).left.at 3
  have x04 := Sat.read (H11.right).left.at 4
  have l1 := (H11).left.lt
  have x10 := Sat.read (H11).left.at 0
  have x11 := Sat.read (H11).left.at 1
  have x12 := Sat.read (H11).left.at 2
  have x13 := Sat.read (H11).left.at 3
  have x14 := Sat.read (H11).left.at 4
  simp only [List.getElem?_toArray, List.getElem?_cons_zero, List.getElem?_cons_succ] at x00 x01 x02 x03 x04 x10 x11 x12 x13 x14
  go_wp2_with fail
  clear l0 l1 x00 x01 x02 x03 x04 x10 x11 x12 x13 x14
  refine enc_yes hg T hv.with.with H11 ?_
  intro w12 H12 I12
  have J12 := (J11.trans I12)
  clear I12 H11 J11
  have l0 := (H12.right).left.lt
  have x00 := Sat.read (H12.right).left.at 0
  have x01 := Sat.read (H12.right).left.at 1
  have x02 := Sat.read (H12.right).left.at 2
  have x03 := Sat.read (H12.right).left.at 3
  have x04 := Sat.read (H12.right).left.at 4
  have l1 := (H12).left.lt
  have x10 := Sat.read (H12).left.at 0
  have x11 := Sat.read (H12).left.at 1
  have x12 := Sat.read (H12).left.at 2
  have x13 := Sat.read (H12).left.at 3
  have x14 := Sat.read (H12).left.at 4
  simp only [List.getElem?_toArray, List.getElem?_cons_zero, List.getElem?_cons_succ] at x00 x01 x02 x03 x04 x10 x11 x12 x13 x14
  go_wp2_with fail
  clear l0 l1 x00 x01 x02 x03 x04 x10 x11 x12 x13 x14
  refine enc_yes hk U hv.with.with H12 ?_
  intro w13 H13 I13
  have J13 := (J12.trans I13)
  clear I13 H12 J12
  have l0 := (H13.right).left.lt
  have x00 := Sat.read (H13.right).left.at 0
  have x01 := Sat.read (H13.right).left.at 1
  have x02 := Sat.read (H13.right).left.at 2
  have x03 := Sat.read (H13.right).left.at 3
  have x04 := Sat.read (H13.right).left.at 4
  have l1 := (H13).left.lt
  have x10 := Sat.read (H13).left.at 0
  have x11 := Sat.read (H13).left.at 1
  have x12 := Sat.read (H13).left.at 2
  have x13 := Sat.read (H13).left.at 3
  have x14 := Sat.read (H13).left.at 4
  simp only [List.getElem?_toArray, List.getElem?_cons_zero, List.getElem?_cons_succ] at x00 x01 x02 x03 x04 x10 x11 x12 x13 x14
  go_wp2_with fail
  clear l0 l1 x00 x01 x02 x03 x04 x10 x11 x12 x13 x14
  have HD0 := H13.drew
  have JD0 := J13.drew
  have HD1 := (H13.new (.cells #[.int .i64 0, .int .i64 0, .int .i64 0, .int .i64 0, .int .i64 0] 23)).drew
  have JD1 := (J13.alloc (.cells #[.int .i64 0, .int .i64 0, .int .i64 0, .int .i64 0, .int .i64 0] 23)).drew
  go_region_held3 (fun _ => True) (exact True.intro) (first | (go_at_call 12; with_reducible refine dec_none hv.with.with HD0 z ZS.out ZD.out ?_; intro w20 H20 I20) | (go_at_call 12; with_reducible refine dec_none hv.with.with.with HD1 z ZS.out ZD.out ?_; intro w21 H21 I21; have lQ := H21.left.lt; have fQ0 := Sat.free H21.left.at 0; have xQ0 := Sat.read H21.left.at 0; have fQ1 := Sat.free H21.left.at 1; have xQ1 := Sat.read H21.left.at 1; have fQ2 := Sat.free H21.left.at 2; have xQ2 := Sat.read H21.left.at 2; have fQ3 := Sat.free H21.left.at 3; have xQ3 := Sat.read H21.left.at 3; have fQ4 := Sat.free H21.left.at 4; have xQ4 := Sat.read H21.left.at 4))
  · have H22 := H20.new (.cells #[.int .i64 0, .int .i64 0, .int .i64 0, .int .i64 0, .int .i64 0] 23)
    have J22 := (JD0.trans I20).alloc (.cells #[.int .i64 0, .int .i64 0, .int .i64 0, .int .i64 0, .int .i64 0] 23)
    clear HD0 JD0 HD1 JD1 H20 I20 H13 J13
    go_wp2_with fail
    generalize w20.alloc (.cells #[.int .i64 0, .int .i64 0, .int .i64 0, .int .i64 0, .int .i64 0] 23) = v9 at *
    generalize w20.heap.size = B9 at *
    refine dec_some hv.with.with.with H22 _ S1.out D1.out ?_
    intro w40 H40 I40
    have J40 := J22.trans I40
    clear I40 H22 J22
    have H41 := H40.new (.cells #[.int .i64 e, .int .i64 p, .int .i64 c, .int .i64 f, .int .i64 n] 23)
    have J41 := J40.alloc (.cells #[.int .i64 e, .int .i64 p, .int .i64 c, .int .i64 f, .int .i64 n] 23)
    clear H40 J40
    go_wp2_with fail
    generalize w40.alloc (.cells #[.int .i64 e, .int .i64 p, .int .i64 c, .int .i64 f, .int .i64 n] 23) = v10 at *
    generalize w40.heap.size = B10 at *
    refine dec_some hv.with.with.with.with H41 _ S2.out D2.out ?_
    intro w50 H50 I50
    have J50 := J41.trans I50
    clear I50 H41 J41
    have l0 := (H50.right.right.right).left.lt
    have x00 := Sat.read (H50.right.right.right).left.at 0
    have x01 := Sat.read (H50.right.right.right).left.at 1
    have x02 := Sat.read (H50.right.right.right).left.at 2
    have x03 := Sat.read (H50.right.right.right).left.at 3
    have x04 := Sat.read (H50.right.right.right).left.at 4
    have l1 := (H50.right.right).left.lt
    have x10 := Sat.read (H50.right.right).left.at 0
    have x11 := Sat.read (H50.right.right).left.at 1
    have x12 := Sat.read (H50.right.right).left.at 2
    have x13 := Sat.read (H50.right.right).left.at 3
    have x14 := Sat.read (H50.right.right).left.at 4
    have l2 := (H50.right).left.lt
    have x20 := Sat.read (H50.right).left.at 0
    have x21 := Sat.read (H50.right).left.at 1
    have x22 := Sat.read (H50.right).left.at 2
    have x23 := Sat.read (H50.right).left.at 3
    have x24 := Sat.read (H50.right).left.at 4
    have l3 := (H50).left.lt
    have x30 := Sat.read (H50).left.at 0
    have x31 := Sat.read (H50).left.at 1
    have x32 := Sat.read (H50).left.at 2
    have x33 := Sat.read (H50).left.at 3
    have x34 := Sat.read (H50).left.at 4
    simp only [List.getElem?_toArray, List.getElem?_cons_zero, List.getElem?_cons_succ] at x00 x01 x02 x03 x04 x10 x11 x12 x13 x14 x20 x21 x22 x23 x24 x30 x31 x32 x33 x34
    have fin := HH.out _ ((H50.right.right.right.right).alloc (.cells #[.int .i64 e2, .int .i64 p2, .int .i64 c2, .int .i64 f2, .int .i64 n2] 23)) (J50.alloc (.cells #[.int .i64 e2, .int .i64 p2, .int .i64 c2, .int .i64 f2, .int .i64 n2] 23))
    clear HH H50 J50
    go_wp2_with fail
    exact fin
  · have H22 : Sat (pts w13.heap.size (.cells #[.int .i64 0, .int .i64 0, .int .i64 0, .int .i64 0, .int .i64 0] 23 (0, 0)) * (pts B1 (.cells #[.int .i64 e2, .int .i64 p2, .int .i64 c2, .int .i64 f2, .int .i64 n2] 23 (0, 0)) * (pts B0 (.cells #[.int .i64 e, .int .i64 p, .int .i64 c, .int .i64 f, .int .i64 n] 23 (0, 0)) * F))) (((((w21.setCell ⟨w13.heap.size, 0, none⟩ (.int .i64 0)).setCell ⟨w13.heap.size, 1, none⟩ (.int .i64 0)).setCell ⟨w13.heap.size, 2, none⟩ (.int .i64 0)).setCell ⟨w13.heap.size, 3, none⟩ (.int .i64 0)).setCell ⟨w13.heap.size, 4, none⟩ (.int .i64 0)) := (Sat.cell (Sat.cell (Sat.cell (Sat.cell (Sat.cell H21 0 (.int .i64 0)) 1 (.int .i64 0)) 2 (.int .i64 0)) 3 (.int .i64 0)) 4 (.int .i64 0))
    have J22 := ((((((JD1.trans I21).setCell ⟨w13.heap.size, 0, none⟩ (.int .i64 0)).setCell ⟨w13.heap.size, 1, none⟩ (.int .i64 0)).setCell ⟨w13.heap.size, 2, none⟩ (.int .i64 0)).setCell ⟨w13.heap.size, 3, none⟩ (.int .i64 0)).setCell ⟨w13.heap.size, 4, none⟩ (.int .i64 0))
    clear HD0 JD0 HD1 JD1 H21 I21 lQ fQ0 xQ0 fQ1 xQ1 fQ2 xQ2 fQ3 xQ3 fQ4 xQ4 H13 J13
    go_wp2_with fail
    generalize (((((w21.setCell ⟨w13.heap.size, 0, none⟩ (.int .i64 0)).setCell ⟨w13.heap.size, 1, none⟩ (.int .i64 0)).setCell ⟨w13.heap.size, 2, none⟩ (.int .i64 0)).setCell ⟨w13.heap.size, 3, none⟩ (.int .i64 0)).setCell ⟨w13.heap.size, 4, none⟩ (.int .i64 0)) = v9 at *
    generalize w13.heap.size = B9 at *
    refine dec_some hv.with.with.with H22 _ S1.out D1.out ?_
    intro w40 H40 I40
    have J40 := J22.trans I40
    clear I40 H22 J22
    have H41 := H40.new (.cells #[.int .i64 e, .int .i64 p, .int .i64 c, .int .i64 f, .int .i64 n] 23)
    have J41 := J40.alloc (.cells #[.int .i64 e, .int .i64 p, .int .i64 c, .int .i64 f, .int .i64 n] 23)
    clear H40 J40
    go_wp2_with fail
    generalize w40.alloc (.cells #[.int .i64 e, .int .i64 p, .int .i64 c, .int .i64 f, .int .i64 n] 23) = v10 at *
    generalize w40.heap.size = B10 at *
    refine dec_some hv.with.with.with.with H41 _ S2.out D2.out ?_
    intro w50 H50 I50
    have J50 := J41.trans I50
    clear I50 H41 J41
    have l0 := (H50.right.right.right).left.lt
    have x00 := Sat.read (H50.right.right.right).left.at 0
    have x01 := Sat.read (H50.right.right.right).left.at 1
    have x02 := Sat.read (H50.right.right.right).left.at 2
    have x03 := Sat.read (H50.right.right.right).left.at 3
    have x04 := Sat.read (H50.right.right.right).left.at 4
    have l1 := (H50.right.right).left.lt
    have x10 := Sat.read (H50.right.right).left.at 0
    have x11 := Sat.read (H50.right.right).left.at 1
    have x12 := Sat.read (H50.right.right).left.at 2
    have x13 := Sat.read (H50.right.right).left.at 3
    have x14 := Sat.read (H50.right.right).left.at 4
    have l2 := (H50.right).left.lt
    have x20 := Sat.read (H50.right).left.at 0
    have x21 := Sat.read (H50.right).left.at 1
    have x22 := Sat.read (H50.right).left.at 2
    have x23 := Sat.read (H50.right).left.at 3
    have x24 := Sat.read (H50.right).left.at 4
    have l3 := (H50).left.lt
    have x30 := Sat.read (H50).left.at 0
    have x31 := Sat.read (H50).left.at 1
    have x32 := Sat.read (H50).left.at 2
    have x33 := Sat.read (H50).left.at 3
    have x34 := Sat.read (H50).left.at 4
    simp only [List.getElem?_toArray, List.getElem?_cons_zero, List.getElem?_cons_succ] at x00 x01 x02 x03 x04 x10 x11 x12 x13 x14 x20 x21 x22 x23 x24 x30 x31 x32 x33 x34
    have fin := HH.out _ ((H50.right.right.right.right).alloc (.cells #[.int .i64 e2, .int .i64 p2, .int .i64 c2, .int .i64 f2, .int .i64 n2] 23)) (J50.alloc (.cells #[.int .i64 e2, .int .i64 p2, .int .i64 c2, .int .i64 f2, .int .i64 n2] 23))
    clear HH H50 J50
    go_wp2_with fail
    exact fin

set_option maxRecDepth 100000 in
set_option maxHeartbeats 4000000 in
theorem torn_mo (hv : Hv F) (hg : Hid (Rt.good ⟨e, p, c, f, n⟩ = true)) (hk : Hid (Rt.good ⟨e2, p2, c2, f2, n2⟩ = true)) (hc : e ≠ e2) {nn : Int} (hn : min (max cut 0) 256 = nn) (z0 : (nn == 0) = false) (z1 : (nn == 256) = false) {t u : ByteArray} (T : Hid (t = tx (Rt.bytes ⟨e, p, c, f, n⟩))) (U : Hid (u = tx (Rt.bytes ⟨e2, p2, c2, f2, n2⟩))) {z : ByteArray} (ZZ : Hid (z = u.extract 0 nn.toNat ++ t.extract nn.toNat t.size)) (ZD : Hid (Rt.dec z = some ⟨e, p, c, f, n⟩)) (H : Sat F w) (h : ∀ w', Sat F w' → Io w w' → R (.returned (.bool true)) w') :
    Calls Tryd.prog 5 #[.agg #[.int .i64 e, .int .i64 p, .int .i64 c, .int .i64 f, .int .i64 n], .agg #[.int .i64 e2, .int .i64 p2, .int .i64 c2, .int .i64 f2, .int .i64 n2], .int .i64 cut] w R := by
  have H0 := ((H.new (.cells #[.int .i64 e, .int .i64 p, .int .i64 c, .int .i64 f, .int .i64 n] 23)).new (.cells #[.int .i64 e2, .int .i64 p2, .int .i64 c2, .int .i64 f2, .int .i64 n2] 23))
  have J0 := (((Io.refl w).alloc (.cells #[.int .i64 e, .int .i64 p, .int .i64 c, .int .i64 f, .int .i64 n] 23)).alloc (.cells #[.int .i64 e2, .int .i64 p2, .int .i64 c2, .int .i64 f2, .int .i64 n2] 23))
  rw [show (w.alloc (.cells #[.int .i64 e, .int .i64 p, .int .i64 c, .int .i64 f, .int .i64 n] 23)).heap.size = w.heap.size + 1 from by simp] at H0
  have HH := Lib.hid h
  clear h
  have g2 : (e == e2) = false := by rw [beq_eq_false_iff_ne]; exact hc
  have g3 : (e2 == e) = false := by rw [beq_eq_false_iff_ne]; exact fun x => hc x.symm
  clear hc
  have nn0 : 0 ≤ nn := by omega
  have nn1 : nn ≤ 256 := by omega
  have D1 := Lib.hid (dec_of hg T)
  have D2 := Lib.hid (dec_of hk U)
  have S1 := Lib.hid (small_of T)
  have S2 := Lib.hid (small_of U)
  have st := size_of T
  have su := size_of U
  have ht1 : ((t.size : Int) != 256) = false := by rw [bne_eq_false_iff_eq]; omega
  have hu1 : ((u.size : Int) != 256) = false := by rw [bne_eq_false_iff_eq]; omega
  have hu2 : nn ≤ (u.size : Int) := by omega
  have ht2 : nn ≤ (t.size : Int) := by omega
  have hu3 : nn.toNat ≤ u.size := by omega
  have ht3 : nn.toNat ≤ t.size := by omega
  have hadd : ∀ W, (Op.stringOp .add (u.extract 0 nn.toNat) (t.extract nn.toNat t.size)).run Tryd.prog W = .ok (.string z) W := fun W => by
    rw [run_string_add_sum W _ _ (by rw [ByteArray.size_extract, ByteArray.size_extract]; omega), ZZ.out]
  have ZS : Hid (z.size ≤ 1000000) := Lib.hid (by rw [ZZ.out, ByteArray.size_append, ByteArray.size_extract, ByteArray.size_extract]; omega)
  have ht9 : (t.size : Int) ≤ 256 := by omega
  have hu9 : (u.size : Int) ≤ 256 := by omega
  clear st su
  go_enter Tryd.func5, Tryd.ntmps5
  go_wp2_with fail
  generalize ((w.alloc (.cells #[.int .i64 e, .int .i64 p, .int .i64 c, .int .i64 f, .int .i64 n] 23)).alloc (.cells #[.int .i64 e2, .int .i64 p2, .int .i64 c2, .int .i64 f2, .int .i64 n2] 23)) = v0 at *
  generalize w.heap.size + 1 = B1 at *
  generalize w.heap.size = B0 at *
  refine works_any hv.with.with H0 ?_
  intro w11 H11 I11
  have J11 := (J0.trans I11)
  clear I11 H0 J0
  have l0 := (H11.right).left.lt
  have x00 := Sat.read (H11.right).left.at 0
  have x01 := Sat.read (H11.right).left.at 1
  have x02 := Sat.read (H11.right).left.at 2
  have x03 := Sat.read (H11.right).left.at 3
  have x04 := Sat.read (H11.right).left.at 4
  have l1 := (H11).left.lt
  have x10 := Sat.read (H11).left.at 0
  have x11 := Sat.read (H11).left.at 1
  have x12 := Sat.read (H11).left.at 2
  have x13 := Sat.read (H11).left.at 3
  have x14 := Sat.read (H11).left.at 4
  simp only [List.getElem?_toArray, List.getElem?_cons_zero, List.getElem?_cons_succ] at x00 x01 x02 x03 x04 x10 x11 x12 x13 x14
  go_wp2_with fail
  clear l0 l1 x00 x01 x02 x03 x04 x10 x11 x12 x13 x14
  refine enc_yes hg T hv.with.with H11 ?_
  intro w12 H12 I12
  have J12 := (J11.trans I12)
  clear I12 H11 J11
  have l0 := (H12.right).left.lt
  have x00 := Sat.read (H12.right).left.at 0
  have x01 := Sat.read (H12.right).left.at 1
  have x02 := Sat.read (H12.right).left.at 2
  have x03 := Sat.read (H12.right).left.at 3
  have x04 := Sat.read (H12.right).left.at 4
  have l1 := (H12).left.lt
  have x10 := Sat.read (H12).left.at 0
  have x11 := Sat.read (H12).left.at 1
  have x12 := Sat.read (H12).left.at 2
  have x13 := Sat.read (H12).left.at 3
  have x14 := Sat.read (H12).left.at 4
  simp only [List.getElem?_toArray, List.getElem?_cons_zero, List.getElem?_cons_succ] at x00 x01 x02 x03 x04 x10 x11 x12 x13 x14
  go_wp2_with fail
  clear l0 l1 x00 x01 x02 x03 x04 x10 x11 x12 x13 x14
  refine enc_yes hk U hv.with.with H12 ?_
  intro w13 H13 I13
  have J13 := (J12.trans I13)
  clear I13 H12 J12
  have l0 := (H13.right).left.lt
  have x00 := Sat.read (H13.right).left.at 0
  have x01 := Sat.read (H13.right).left.at 1
  have x02 := Sat.read (H13.right).left.at 2
  have x03 := Sat.read (H13.right).left.at 3
  have x04 := Sat.read (H13.right).left.at 4
  have l1 := (H13).left.lt
  have x10 := Sat.read (H13).left.at 0
  have x11 := Sat.read (H13).left.at 1
  have x12 := Sat.read (H13).left.at 2
  have x13 := Sat.read (H13).left.at 3
  have x14 := Sat.read (H13).left.at 4
  simp only [List.getElem?_toArray, List.getElem?_cons_zero, List.getElem?_cons_succ] at x00 x01 x02 x03 x04 x10 x11 x12 x13 x14
  go_wp2_with fail
  clear l0 l1 x00 x01 x02 x03 x04 x10 x11 x12 x13 x14
  have HD0 := H13.drew
  have JD0 := J13.drew
  have HD1 := (H13.new (.cells #[.int .i64 0, .int .i64 0, .int .i64 0, .int .i64 0, .int .i64 0] 23)).drew
  have JD1 := (J13.alloc (.cells #[.int .i64 0, .int .i64 0, .int .i64 0, .int .i64 0, .int .i64 0] 23)).drew
  go_region_held3 (fun _ => True) (exact True.intro) (first | (go_at_call 12; with_reducible refine dec_some hv.with.with HD0 z ZS.out ZD.out ?_; intro w20 H20 I20) | (go_at_call 12; with_reducible refine dec_some hv.with.with.with HD1 z ZS.out ZD.out ?_; intro w21 H21 I21; have lQ := H21.left.lt; have fQ0 := Sat.free H21.left.at 0; have xQ0 := Sat.read H21.left.at 0; have fQ1 := Sat.free H21.left.at 1; have xQ1 := Sat.read H21.left.at 1; have fQ2 := Sat.free H21.left.at 2; have xQ2 := Sat.read H21.left.at 2; have fQ3 := Sat.free H21.left.at 3; have xQ3 := Sat.read H21.left.at 3; have fQ4 := Sat.free H21.left.at 4; have xQ4 := Sat.read H21.left.at 4))
  · have H22 := H20.new (.cells #[.int .i64 e, .int .i64 p, .int .i64 c, .int .i64 f, .int .i64 n] 23)
    have J22 := (JD0.trans I20).alloc (.cells #[.int .i64 e, .int .i64 p, .int .i64 c, .int .i64 f, .int .i64 n] 23)
    clear HD0 JD0 HD1 JD1 H20 I20 H13 J13
    go_wp2_with fail
    generalize w20.alloc (.cells #[.int .i64 e, .int .i64 p, .int .i64 c, .int .i64 f, .int .i64 n] 23) = v9 at *
    generalize w20.heap.size = B9 at *
    refine dec_some hv.with.with.with H22 _ S1.out D1.out ?_
    intro w40 H40 I40
    have J40 := J22.trans I40
    clear I40 H22 J22
    have H41 := H40.new (.cells #[.int .i64 e, .int .i64 p, .int .i64 c, .int .i64 f, .int .i64 n] 23)
    have J41 := J40.alloc (.cells #[.int .i64 e, .int .i64 p, .int .i64 c, .int .i64 f, .int .i64 n] 23)
    clear H40 J40
    go_wp2_with fail
    generalize w40.alloc (.cells #[.int .i64 e, .int .i64 p, .int .i64 c, .int .i64 f, .int .i64 n] 23) = v10 at *
    generalize w40.heap.size = B10 at *
    refine dec_some hv.with.with.with.with H41 _ S2.out D2.out ?_
    intro w50 H50 I50
    have J50 := J41.trans I50
    clear I50 H41 J41
    have l0 := (H50.right.right.right).left.lt
    have x00 := Sat.read (H50.right.right.right).left.at 0
    have x01 := Sat.read (H50.right.right.right).left.at 1
    have x02 := Sat.read (H50.right.right.right).left.at 2
    have x03 := Sat.read (H50.right.right.right).left.at 3
    have x04 := Sat.read (H50.right.right.right).left.at 4
    have l1 := (H50.right.right).left.lt
    have x10 := Sat.read (H50.right.right).left.at 0
    have x11 := Sat.read (H50.right.right).left.at 1
    have x12 := Sat.read (H50.right.right).left.at 2
    have x13 := Sat.read (H50.right.right).left.at 3
    have x14 := Sat.read (H50.right.right).left.at 4
    have l2 := (H50.right).left.lt
    have x20 := Sat.read (H50.right).left.at 0
    have x21 := Sat.read (H50.right).left.at 1
    have x22 := Sat.read (H50.right).left.at 2
    have x23 := Sat.read (H50.right).left.at 3
    have x24 := Sat.read (H50.right).left.at 4
    have l3 := (H50).left.lt
    have x30 := Sat.read (H50).left.at 0
    have x31 := Sat.read (H50).left.at 1
    have x32 := Sat.read (H50).left.at 2
    have x33 := Sat.read (H50).left.at 3
    have x34 := Sat.read (H50).left.at 4
    simp only [List.getElem?_toArray, List.getElem?_cons_zero, List.getElem?_cons_succ] at x00 x01 x02 x03 x04 x10 x11 x12 x13 x14 x20 x21 x22 x23 x24 x30 x31 x32 x33 x34
    have fin := HH.out _ ((H50.right.right.right.right).alloc (.cells #[.int .i64 e2, .int .i64 p2, .int .i64 c2, .int .i64 f2, .int .i64 n2] 23)) (J50.alloc (.cells #[.int .i64 e2, .int .i64 p2, .int .i64 c2, .int .i64 f2, .int .i64 n2] 23))
    clear HH H50 J50
    go_wp2_with fail
    exact fin
  · have H22 : Sat (pts w13.heap.size (.cells #[.int .i64 e, .int .i64 p, .int .i64 c, .int .i64 f, .int .i64 n] 23 (0, 0)) * (pts B1 (.cells #[.int .i64 e2, .int .i64 p2, .int .i64 c2, .int .i64 f2, .int .i64 n2] 23 (0, 0)) * (pts B0 (.cells #[.int .i64 e, .int .i64 p, .int .i64 c, .int .i64 f, .int .i64 n] 23 (0, 0)) * F))) (((((w21.setCell ⟨w13.heap.size, 0, none⟩ (.int .i64 e)).setCell ⟨w13.heap.size, 1, none⟩ (.int .i64 p)).setCell ⟨w13.heap.size, 2, none⟩ (.int .i64 c)).setCell ⟨w13.heap.size, 3, none⟩ (.int .i64 f)).setCell ⟨w13.heap.size, 4, none⟩ (.int .i64 n)) := (Sat.cell (Sat.cell (Sat.cell (Sat.cell (Sat.cell H21 0 (.int .i64 e)) 1 (.int .i64 p)) 2 (.int .i64 c)) 3 (.int .i64 f)) 4 (.int .i64 n))
    have J22 := ((((((JD1.trans I21).setCell ⟨w13.heap.size, 0, none⟩ (.int .i64 e)).setCell ⟨w13.heap.size, 1, none⟩ (.int .i64 p)).setCell ⟨w13.heap.size, 2, none⟩ (.int .i64 c)).setCell ⟨w13.heap.size, 3, none⟩ (.int .i64 f)).setCell ⟨w13.heap.size, 4, none⟩ (.int .i64 n))
    clear HD0 JD0 HD1 JD1 H21 I21 lQ fQ0 xQ0 fQ1 xQ1 fQ2 xQ2 fQ3 xQ3 fQ4 xQ4 H13 J13
    go_wp2_with fail
    generalize (((((w21.setCell ⟨w13.heap.size, 0, none⟩ (.int .i64 e)).setCell ⟨w13.heap.size, 1, none⟩ (.int .i64 p)).setCell ⟨w13.heap.size, 2, none⟩ (.int .i64 c)).setCell ⟨w13.heap.size, 3, none⟩ (.int .i64 f)).setCell ⟨w13.heap.size, 4, none⟩ (.int .i64 n)) = v9 at *
    generalize w13.heap.size = B9 at *
    refine dec_some hv.with.with.with H22 _ S1.out D1.out ?_
    intro w40 H40 I40
    have J40 := J22.trans I40
    clear I40 H22 J22
    have H41 := H40.new (.cells #[.int .i64 e, .int .i64 p, .int .i64 c, .int .i64 f, .int .i64 n] 23)
    have J41 := J40.alloc (.cells #[.int .i64 e, .int .i64 p, .int .i64 c, .int .i64 f, .int .i64 n] 23)
    clear H40 J40
    go_wp2_with fail
    generalize w40.alloc (.cells #[.int .i64 e, .int .i64 p, .int .i64 c, .int .i64 f, .int .i64 n] 23) = v10 at *
    generalize w40.heap.size = B10 at *
    refine dec_some hv.with.with.with.with H41 _ S2.out D2.out ?_
    intro w50 H50 I50
    have J50 := J41.trans I50
    clear I50 H41 J41
    have l0 := (H50.right.right.right).left.lt
    have x00 := Sat.read (H50.right.right.right).left.at 0
    have x01 := Sat.read (H50.right.right.right).left.at 1
    have x02 := Sat.read (H50.right.right.right).left.at 2
    have x03 := Sat.read (H50.right.right.right).left.at 3
    have x04 := Sat.read (H50.right.right.right).left.at 4
    have l1 := (H50.right.right).left.lt
    have x10 := Sat.read (H50.right.right).left.at 0
    have x11 := Sat.read (H50.right.right).left.at 1
    have x12 := Sat.read (H50.right.right).left.at 2
    have x13 := Sat.read (H50.right.right).left.at 3
    have x14 := Sat.read (H50.right.right).left.at 4
    have l2 := (H50.right).left.lt
    have x20 := Sat.read (H50.right).left.at 0
    have x21 := Sat.read (H50.right).left.at 1
    have x22 := Sat.read (H50.right).left.at 2
    have x23 := Sat.read (H50.right).left.at 3
    have x24 := Sat.read (H50.right).left.at 4
    have l3 := (H50).left.lt
    have x30 := Sat.read (H50).left.at 0
    have x31 := Sat.read (H50).left.at 1
    have x32 := Sat.read (H50).left.at 2
    have x33 := Sat.read (H50).left.at 3
    have x34 := Sat.read (H50).left.at 4
    simp only [List.getElem?_toArray, List.getElem?_cons_zero, List.getElem?_cons_succ] at x00 x01 x02 x03 x04 x10 x11 x12 x13 x14 x20 x21 x22 x23 x24 x30 x31 x32 x33 x34
    have fin := HH.out _ ((H50.right.right.right.right).alloc (.cells #[.int .i64 e2, .int .i64 p2, .int .i64 c2, .int .i64 f2, .int .i64 n2] 23)) (J50.alloc (.cells #[.int .i64 e2, .int .i64 p2, .int .i64 c2, .int .i64 f2, .int .i64 n2] 23))
    clear HH H50 J50
    go_wp2_with fail
    exact fin

set_option maxRecDepth 100000 in
set_option maxHeartbeats 4000000 in
theorem torn_mw (hv : Hv F) (hg : Hid (Rt.good ⟨e, p, c, f, n⟩ = true)) (hk : Hid (Rt.good ⟨e2, p2, c2, f2, n2⟩ = true)) (hc : e ≠ e2) {nn : Int} (hn : min (max cut 0) 256 = nn) (z0 : (nn == 0) = false) (z1 : (nn == 256) = false) {t u : ByteArray} (T : Hid (t = tx (Rt.bytes ⟨e, p, c, f, n⟩))) (U : Hid (u = tx (Rt.bytes ⟨e2, p2, c2, f2, n2⟩))) {z : ByteArray} (ZZ : Hid (z = u.extract 0 nn.toNat ++ t.extract nn.toNat t.size)) (ZD : Hid (Rt.dec z = some ⟨e2, p2, c2, f2, n2⟩)) (H : Sat F w) (h : ∀ w', Sat F w' → Io w w' → R (.returned (.bool true)) w') :
    Calls Tryd.prog 5 #[.agg #[.int .i64 e, .int .i64 p, .int .i64 c, .int .i64 f, .int .i64 n], .agg #[.int .i64 e2, .int .i64 p2, .int .i64 c2, .int .i64 f2, .int .i64 n2], .int .i64 cut] w R := by
  have H0 := ((H.new (.cells #[.int .i64 e, .int .i64 p, .int .i64 c, .int .i64 f, .int .i64 n] 23)).new (.cells #[.int .i64 e2, .int .i64 p2, .int .i64 c2, .int .i64 f2, .int .i64 n2] 23))
  have J0 := (((Io.refl w).alloc (.cells #[.int .i64 e, .int .i64 p, .int .i64 c, .int .i64 f, .int .i64 n] 23)).alloc (.cells #[.int .i64 e2, .int .i64 p2, .int .i64 c2, .int .i64 f2, .int .i64 n2] 23))
  rw [show (w.alloc (.cells #[.int .i64 e, .int .i64 p, .int .i64 c, .int .i64 f, .int .i64 n] 23)).heap.size = w.heap.size + 1 from by simp] at H0
  have HH := Lib.hid h
  clear h
  have g2 : (e == e2) = false := by rw [beq_eq_false_iff_ne]; exact hc
  have g3 : (e2 == e) = false := by rw [beq_eq_false_iff_ne]; exact fun x => hc x.symm
  clear hc
  have nn0 : 0 ≤ nn := by omega
  have nn1 : nn ≤ 256 := by omega
  have D1 := Lib.hid (dec_of hg T)
  have D2 := Lib.hid (dec_of hk U)
  have S1 := Lib.hid (small_of T)
  have S2 := Lib.hid (small_of U)
  have st := size_of T
  have su := size_of U
  have ht1 : ((t.size : Int) != 256) = false := by rw [bne_eq_false_iff_eq]; omega
  have hu1 : ((u.size : Int) != 256) = false := by rw [bne_eq_false_iff_eq]; omega
  have hu2 : nn ≤ (u.size : Int) := by omega
  have ht2 : nn ≤ (t.size : Int) := by omega
  have hu3 : nn.toNat ≤ u.size := by omega
  have ht3 : nn.toNat ≤ t.size := by omega
  have hadd : ∀ W, (Op.stringOp .add (u.extract 0 nn.toNat) (t.extract nn.toNat t.size)).run Tryd.prog W = .ok (.string z) W := fun W => by
    rw [run_string_add_sum W _ _ (by rw [ByteArray.size_extract, ByteArray.size_extract]; omega), ZZ.out]
  have ZS : Hid (z.size ≤ 1000000) := Lib.hid (by rw [ZZ.out, ByteArray.size_append, ByteArray.size_extract, ByteArray.size_extract]; omega)
  have ht9 : (t.size : Int) ≤ 256 := by omega
  have hu9 : (u.size : Int) ≤ 256 := by omega
  clear st su
  go_enter Tryd.func5, Tryd.ntmps5
  go_wp2_with fail
  generalize ((w.alloc (.cells #[.int .i64 e, .int .i64 p, .int .i64 c, .int .i64 f, .int .i64 n] 23)).alloc (.cells #[.int .i64 e2, .int .i64 p2, .int .i64 c2, .int .i64 f2, .int .i64 n2] 23)) = v0 at *
  generalize w.heap.size + 1 = B1 at *
  generalize w.heap.size = B0 at *
  refine works_any hv.with.with H0 ?_
  intro w11 H11 I11
  have J11 := (J0.trans I11)
  clear I11 H0 J0
  have l0 := (H11.right).left.lt
  have x00 := Sat.read (H11.right).left.at 0
  have x01 := Sat.read (H11.right).left.at 1
  have x02 := Sat.read (H11.right).left.at 2
  have x03 := Sat.read (H11.right).left.at 3
  have x04 := Sat.read (H11.right).left.at 4
  have l1 := (H11).left.lt
  have x10 := Sat.read (H11).left.at 0
  have x11 := Sat.read (H11).left.at 1
  have x12 := Sat.read (H11).left.at 2
  have x13 := Sat.read (H11).left.at 3
  have x14 := Sat.read (H11).left.at 4
  simp only [List.getElem?_toArray, List.getElem?_cons_zero, List.getElem?_cons_succ] at x00 x01 x02 x03 x04 x10 x11 x12 x13 x14
  go_wp2_with fail
  clear l0 l1 x00 x01 x02 x03 x04 x10 x11 x12 x13 x14
  refine enc_yes hg T hv.with.with H11 ?_
  intro w12 H12 I12
  have J12 := (J11.trans I12)
  clear I12 H11 J11
  have l0 := (H12.right).left.lt
  have x00 := Sat.read (H12.right).left.at 0
  have x01 := Sat.read (H12.right).left.at 1
  have x02 := Sat.read (H12.right).left.at 2
  have x03 := Sat.read (H12.right).left.at 3
  have x04 := Sat.read (H12.right).left.at 4
  have l1 := (H12).left.lt
  have x10 := Sat.read (H12).left.at 0
  have x11 := Sat.read (H12).left.at 1
  have x12 := Sat.read (H12).left.at 2
  have x13 := Sat.read (H12).left.at 3
  have x14 := Sat.read (H12).left.at 4
  simp only [List.getElem?_toArray, List.getElem?_cons_zero, List.getElem?_cons_succ] at x00 x01 x02 x03 x04 x10 x11 x12 x13 x14
  go_wp2_with fail
  clear l0 l1 x00 x01 x02 x03 x04 x10 x11 x12 x13 x14
  refine enc_yes hk U hv.with.with H12 ?_
  intro w13 H13 I13
  have J13 := (J12.trans I13)
  clear I13 H12 J12
  have l0 := (H13.right).left.lt
  have x00 := Sat.read (H13.right).left.at 0
  have x01 := Sat.read (H13.right).left.at 1
  have x02 := Sat.read (H13.right).left.at 2
  have x03 := Sat.read (H13.right).left.at 3
  have x04 := Sat.read (H13.right).left.at 4
  have l1 := (H13).left.lt
  have x10 := Sat.read (H13).left.at 0
  have x11 := Sat.read (H13).left.at 1
  have x12 := Sat.read (H13).left.at 2
  have x13 := Sat.read (H13).left.at 3
  have x14 := Sat.read (H13).left.at 4
  simp only [List.getElem?_toArray, List.getElem?_cons_zero, List.getElem?_cons_succ] at x00 x01 x02 x03 x04 x10 x11 x12 x13 x14
  go_wp2_with fail
  clear l0 l1 x00 x01 x02 x03 x04 x10 x11 x12 x13 x14
  have HD0 := H13.drew
  have JD0 := J13.drew
  have HD1 := (H13.new (.cells #[.int .i64 0, .int .i64 0, .int .i64 0, .int .i64 0, .int .i64 0] 23)).drew
  have JD1 := (J13.alloc (.cells #[.int .i64 0, .int .i64 0, .int .i64 0, .int .i64 0, .int .i64 0] 23)).drew
  go_region_held3 (fun _ => True) (exact True.intro) (first | (go_at_call 12; with_reducible refine dec_some hv.with.with HD0 z ZS.out ZD.out ?_; intro w20 H20 I20) | (go_at_call 12; with_reducible refine dec_some hv.with.with.with HD1 z ZS.out ZD.out ?_; intro w21 H21 I21; have lQ := H21.left.lt; have fQ0 := Sat.free H21.left.at 0; have xQ0 := Sat.read H21.left.at 0; have fQ1 := Sat.free H21.left.at 1; have xQ1 := Sat.read H21.left.at 1; have fQ2 := Sat.free H21.left.at 2; have xQ2 := Sat.read H21.left.at 2; have fQ3 := Sat.free H21.left.at 3; have xQ3 := Sat.read H21.left.at 3; have fQ4 := Sat.free H21.left.at 4; have xQ4 := Sat.read H21.left.at 4))
  · have H22 := H20.new (.cells #[.int .i64 e2, .int .i64 p2, .int .i64 c2, .int .i64 f2, .int .i64 n2] 23)
    have J22 := (JD0.trans I20).alloc (.cells #[.int .i64 e2, .int .i64 p2, .int .i64 c2, .int .i64 f2, .int .i64 n2] 23)
    clear HD0 JD0 HD1 JD1 H20 I20 H13 J13
    go_wp2_with fail
    generalize w20.alloc (.cells #[.int .i64 e2, .int .i64 p2, .int .i64 c2, .int .i64 f2, .int .i64 n2] 23) = v9 at *
    generalize w20.heap.size = B9 at *
    refine dec_some hv.with.with.with H22 _ S1.out D1.out ?_
    intro w40 H40 I40
    have J40 := J22.trans I40
    clear I40 H22 J22
    have H41 := H40.new (.cells #[.int .i64 e, .int .i64 p, .int .i64 c, .int .i64 f, .int .i64 n] 23)
    have J41 := J40.alloc (.cells #[.int .i64 e, .int .i64 p, .int .i64 c, .int .i64 f, .int .i64 n] 23)
    clear H40 J40
    go_wp2_with fail
    generalize w40.alloc (.cells #[.int .i64 e, .int .i64 p, .int .i64 c, .int .i64 f, .int .i64 n] 23) = v10 at *
    generalize w40.heap.size = B10 at *
    refine dec_some hv.with.with.with.with H41 _ S2.out D2.out ?_
    intro w50 H50 I50
    have J50 := J41.trans I50
    clear I50 H41 J41
    have l0 := (H50.right.right.right).left.lt
    have x00 := Sat.read (H50.right.right.right).left.at 0
    have x01 := Sat.read (H50.right.right.right).left.at 1
    have x02 := Sat.read (H50.right.right.right).left.at 2
    have x03 := Sat.read (H50.right.right.right).left.at 3
    have x04 := Sat.read (H50.right.right.right).left.at 4
    have l1 := (H50.right.right).left.lt
    have x10 := Sat.read (H50.right.right).left.at 0
    have x11 := Sat.read (H50.right.right).left.at 1
    have x12 := Sat.read (H50.right.right).left.at 2
    have x13 := Sat.read (H50.right.right).left.at 3
    have x14 := Sat.read (H50.right.right).left.at 4
    have l2 := (H50.right).left.lt
    have x20 := Sat.read (H50.right).left.at 0
    have x21 := Sat.read (H50.right).left.at 1
    have x22 := Sat.read (H50.right).left.at 2
    have x23 := Sat.read (H50.right).left.at 3
    have x24 := Sat.read (H50.right).left.at 4
    have l3 := (H50).left.lt
    have x30 := Sat.read (H50).left.at 0
    have x31 := Sat.read (H50).left.at 1
    have x32 := Sat.read (H50).left.at 2
    have x33 := Sat.read (H50).left.at 3
    have x34 := Sat.read (H50).left.at 4
    simp only [List.getElem?_toArray, List.getElem?_cons_zero, List.getElem?_cons_succ] at x00 x01 x02 x03 x04 x10 x11 x12 x13 x14 x20 x21 x22 x23 x24 x30 x31 x32 x33 x34
    have fin := HH.out _ ((H50.right.right.right.right).alloc (.cells #[.int .i64 e2, .int .i64 p2, .int .i64 c2, .int .i64 f2, .int .i64 n2] 23)) (J50.alloc (.cells #[.int .i64 e2, .int .i64 p2, .int .i64 c2, .int .i64 f2, .int .i64 n2] 23))
    clear HH H50 J50
    go_wp2_with fail
    exact fin
  · have H22 : Sat (pts w13.heap.size (.cells #[.int .i64 e2, .int .i64 p2, .int .i64 c2, .int .i64 f2, .int .i64 n2] 23 (0, 0)) * (pts B1 (.cells #[.int .i64 e2, .int .i64 p2, .int .i64 c2, .int .i64 f2, .int .i64 n2] 23 (0, 0)) * (pts B0 (.cells #[.int .i64 e, .int .i64 p, .int .i64 c, .int .i64 f, .int .i64 n] 23 (0, 0)) * F))) (((((w21.setCell ⟨w13.heap.size, 0, none⟩ (.int .i64 e2)).setCell ⟨w13.heap.size, 1, none⟩ (.int .i64 p2)).setCell ⟨w13.heap.size, 2, none⟩ (.int .i64 c2)).setCell ⟨w13.heap.size, 3, none⟩ (.int .i64 f2)).setCell ⟨w13.heap.size, 4, none⟩ (.int .i64 n2)) := (Sat.cell (Sat.cell (Sat.cell (Sat.cell (Sat.cell H21 0 (.int .i64 e2)) 1 (.int .i64 p2)) 2 (.int .i64 c2)) 3 (.int .i64 f2)) 4 (.int .i64 n2))
    have J22 := ((((((JD1.trans I21).setCell ⟨w13.heap.size, 0, none⟩ (.int .i64 e2)).setCell ⟨w13.heap.size, 1, none⟩ (.int .i64 p2)).setCell ⟨w13.heap.size, 2, none⟩ (.int .i64 c2)).setCell ⟨w13.heap.size, 3, none⟩ (.int .i64 f2)).setCell ⟨w13.heap.size, 4, none⟩ (.int .i64 n2))
    clear HD0 JD0 HD1 JD1 H21 I21 lQ fQ0 xQ0 fQ1 xQ1 fQ2 xQ2 fQ3 xQ3 fQ4 xQ4 H13 J13
    go_wp2_with fail
    generalize (((((w21.setCell ⟨w13.heap.size, 0, none⟩ (.int .i64 e2)).setCell ⟨w13.heap.size, 1, none⟩ (.int .i64 p2)).setCell ⟨w13.heap.size, 2, none⟩ (.int .i64 c2)).setCell ⟨w13.heap.size, 3, none⟩ (.int .i64 f2)).setCell ⟨w13.heap.size, 4, none⟩ (.int .i64 n2)) = v9 at *
    generalize w13.heap.size = B9 at *
    refine dec_some hv.with.with.with H22 _ S1.out D1.out ?_
    intro w40 H40 I40
    have J40 := J22.trans I40
    clear I40 H22 J22
    have H41 := H40.new (.cells #[.int .i64 e, .int .i64 p, .int .i64 c, .int .i64 f, .int .i64 n] 23)
    have J41 := J40.alloc (.cells #[.int .i64 e, .int .i64 p, .int .i64 c, .int .i64 f, .int .i64 n] 23)
    clear H40 J40
    go_wp2_with fail
    generalize w40.alloc (.cells #[.int .i64 e, .int .i64 p, .int .i64 c, .int .i64 f, .int .i64 n] 23) = v10 at *
    generalize w40.heap.size = B10 at *
    refine dec_some hv.with.with.with.with H41 _ S2.out D2.out ?_
    intro w50 H50 I50
    have J50 := J41.trans I50
    clear I50 H41 J41
    have l0 := (H50.right.right.right).left.lt
    have x00 := Sat.read (H50.right.right.right).left.at 0
    have x01 := Sat.read (H50.right.right.right).left.at 1
    have x02 := Sat.read (H50.right.right.right).left.at 2
    have x03 := Sat.read (H50.right.right.right).left.at 3
    have x04 := Sat.read (H50.right.right.right).left.at 4
    have l1 := (H50.right.right).left.lt
    have x10 := Sat.read (H50.right.right).left.at 0
    have x11 := Sat.read (H50.right.right).left.at 1
    have x12 := Sat.read (H50.right.right).left.at 2
    have x13 := Sat.read (H50.right.right).left.at 3
    have x14 := Sat.read (H50.right.right).left.at 4
    have l2 := (H50.right).left.lt
    have x20 := Sat.read (H50.right).left.at 0
    have x21 := Sat.read (H50.right).left.at 1
    have x22 := Sat.read (H50.right).left.at 2
    have x23 := Sat.read (H50.right).left.at 3
    have x24 := Sat.read (H50.right).left.at 4
    have l3 := (H50).left.lt
    have x30 := Sat.read (H50).left.at 0
    have x31 := Sat.read (H50).left.at 1
    have x32 := Sat.read (H50).left.at 2
    have x33 := Sat.read (H50).left.at 3
    have x34 := Sat.read (H50).left.at 4
    simp only [List.getElem?_toArray, List.getElem?_cons_zero, List.getElem?_cons_succ] at x00 x01 x02 x03 x04 x10 x11 x12 x13 x14 x20 x21 x22 x23 x24 x30 x31 x32 x33 x34
    have fin := HH.out _ ((H50.right.right.right.right).alloc (.cells #[.int .i64 e2, .int .i64 p2, .int .i64 c2, .int .i64 f2, .int .i64 n2] 23)) (J50.alloc (.cells #[.int .i64 e2, .int .i64 p2, .int .i64 c2, .int .i64 f2, .int .i64 n2] 23))
    clear HH H50 J50
    go_wp2_with fail
    exact fin


theorem torn_str {t u : ByteArray} {n : Nat} (h : t.size = 256) : u.extract 0 n ++ t.extract n t.size = tx (tornL t.data.toList u.data.toList n) := by
  unfold tornL
  rw [← tx_append]
  congr 1
  · apply ByteArray.ext
    apply Array.ext'
    simp only [Rt.ext_list, List.drop_zero, tx_list]
  · apply ByteArray.ext
    apply Array.ext'
    simp only [Rt.ext_list, tx_list]
    rw [show t.data.toList.take t.size = t.data.toList from List.take_of_length_le (Nat.le_refl _)]

theorem torn_walk (hv : Hv F) (old now : Rt) (cut : Int) (H : Sat F w) (h : ∀ w', Sat F w' → Io w w' → R (.returned (.bool true)) w') :
    Calls Tryd.prog 5 #[old.val, now.val, .int .i64 cut] w R := by
  obtain ⟨e, p, c, f, n⟩ := old
  obtain ⟨e2, p2, c2, f2, n2⟩ := now
  cases hg : Rt.good ⟨e, p, c, f, n⟩ with
  | false => exact torn_a hv (Lib.hid hg) H h
  | true =>
    cases hk : Rt.good ⟨e2, p2, c2, f2, n2⟩ with
    | false => exact torn_b hv (Lib.hid hg) (Lib.hid hk) H h
    | true =>
      by_cases hc : e = e2
      · exact torn_e hv (Lib.hid hg) (Lib.hid hk) hc H h
      · obtain ⟨nn, hn⟩ : ∃ nn, min (max cut 0) 256 = nn := ⟨_, rfl⟩
        obtain ⟨t, T⟩ : ∃ t, Hid (t = tx (Rt.bytes ⟨e, p, c, f, n⟩)) := ⟨_, Lib.hid rfl⟩
        obtain ⟨u, U⟩ : ∃ t, Hid (t = tx (Rt.bytes ⟨e2, p2, c2, f2, n2⟩)) := ⟨_, Lib.hid rfl⟩
        obtain ⟨z, ZZ⟩ : ∃ z, Hid (z = u.extract 0 nn.toNat ++ t.extract nn.toNat t.size) := ⟨_, Lib.hid rfl⟩
        have ez : z = tx (tornL (Rt.bytes ⟨e, p, c, f, n⟩) (Rt.bytes ⟨e2, p2, c2, f2, n2⟩) nn.toNat) := by
          rw [ZZ.out, torn_str (size_of T), T.out, U.out, tx_list, tx_list]
        by_cases h0 : nn = 0
        · have e0 : z = t := by rw [ez, h0, T.out]; exact congrArg tx (torn_none _ _)
          exact torn_z hv (Lib.hid hg) (Lib.hid hk) hc hn (by rw [h0]; rfl) (by rw [h0]; rfl) T U ZZ (Lib.hid (by rw [e0]; exact dec_of (Lib.hid hg) T)) H h
        · by_cases h1 : nn = 256
          · have e0 : z = u := by rw [ez, h1, U.out]; exact congrArg tx (torn_all (Rt.bytes_length _) (Rt.bytes_length _))
            exact torn_f hv (Lib.hid hg) (Lib.hid hk) hc hn (by rw [h1]; rfl) (by rw [h1]; rfl) T U ZZ (Lib.hid (by rw [e0]; exact dec_of (Lib.hid hk) U)) H h
          · have b0 : (nn == 0) = false := by rw [beq_eq_false_iff_ne]; exact h0
            have b1 : (nn == 256) = false := by rw [beq_eq_false_iff_ne]; exact h1
            cases hd : Rt.dec z with
            | none => exact torn_mn hv (Lib.hid hg) (Lib.hid hk) hc hn b0 b1 T U ZZ (Lib.hid hd) H h
            | some x =>
              obtain ⟨hx, hz⟩ := Rt.dec_iff.1 hd
              rcases torn_root hg hk hx hc nn.toNat (tx_inj (hz.symm.trans ez)) (by omega) with rfl | rfl
              · exact torn_mo hv (Lib.hid hg) (Lib.hid hk) hc hn b0 b1 T U ZZ (Lib.hid hd) H h
              · exact torn_mw hv (Lib.hid hg) (Lib.hid hk) hc hn b0 b1 T U ZZ (Lib.hid hd) H h
end
end Go.Proofs.YtghpfepmkngfdaaDoor
