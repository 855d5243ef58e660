/-
  The statements RootEncodes and RootPicks, walked: they answer true. It proves the walks alone; the rows are closed elsewhere.
-/
import Derived.Test.YtghpfepmkngfdaaDoorRtC
namespace Go.Proofs.YtghpfepmkngfdaaDoor
open Go.RowKit
set_option linter.unusedSimpArgs false
set_option linter.unusedVariables false

section
variable {F : Asn} {w : World} {R : Ending → World → Prop} {s : ByteArray} {e p c f n : Int}

set_option maxRecDepth 100000 in
set_option maxHeartbeats 4000000 in
theorem encodes_yy (hv : Hv F) (hm : Rt.mach ⟨e, p, c, f, n⟩) (hs : s.size ≤ 1000) (hg : Hid (Rt.good ⟨e, p, c, f, n⟩ = true)) {xe xp xc xf xn : Int} (ed : Rt.dec s = some ⟨xe, xp, xc, xf, xn⟩) (H : Sat F w) (h : ∀ w', Sat F w' → Io w w' → R (.returned (.bool true)) w') :
    Calls Tryd.prog 3 #[.agg #[.int .i64 e, .int .i64 p, .int .i64 c, .int .i64 f, .int .i64 n], .string s] w R := by
  have H0 := (H.new (.cells #[.int .i64 e, .int .i64 p, .int .i64 c, .int .i64 f, .int .i64 n] 23))
  have J0 := ((Io.refl w).alloc (.cells #[.int .i64 e, .int .i64 p, .int .i64 c, .int .i64 f, .int .i64 n] 23))
  have HH := Lib.hid h
  clear h
  have hs' : (s.size : Int) ≤ 1000 := by omega
  have ED := Lib.hid ed
  have HS : Hid (s.size ≤ 1000000) := Lib.hid (by omega)
  clear ed hs
  obtain ⟨t, T⟩ : ∃ t, Hid (t = tx (Rt.bytes ⟨e, p, c, f, n⟩)) := ⟨_, Lib.hid rfl⟩
  have htt := str_eq t
  go_enter Tryd.func3, Tryd.ntmps3
  go_wp2_with fail
  generalize (w.alloc (.cells #[.int .i64 e, .int .i64 p, .int .i64 c, .int .i64 f, .int .i64 n] 23)) = v0 at *
  generalize w.heap.size = B0 at *
  refine works_any hv.with H0 ?_
  intro w11 H11 I11
  have J11 := (J0.trans I11)
  clear I11 H0 J0
  have l0 := (H11).left.lt
  have x00 := Sat.read (H11).left.at 0
  have x01 := Sat.read (H11).left.at 1
  have x02 := Sat.read (H11).left.at 2
  have x03 := Sat.read (H11).left.at 3
  have x04 := Sat.read (H11).left.at 4
  simp only [List.getElem?_toArray, List.getElem?_cons_zero, List.getElem?_cons_succ] at x00 x01 x02 x03 x04
  go_wp2_with fail
  clear l0 x00 x01 x02 x03 x04
  refine enc_yes hg T hv.with H11 ?_
  intro w12 H12 I12
  have J12 := (J11.trans I12)
  clear I12 H11 J11
  have l0 := (H12).left.lt
  have x00 := Sat.read (H12).left.at 0
  have x01 := Sat.read (H12).left.at 1
  have x02 := Sat.read (H12).left.at 2
  have x03 := Sat.read (H12).left.at 3
  have x04 := Sat.read (H12).left.at 4
  simp only [List.getElem?_toArray, List.getElem?_cons_zero, List.getElem?_cons_succ] at x00 x01 x02 x03 x04
  go_wp2_with fail
  clear l0 x00 x01 x02 x03 x04
  refine renc_yes hm hg T H12 ?_
  intro w13 H13 I13
  have J13 := (J12.trans I13)
  clear I13 H12 J12
  have l0 := (H13).left.lt
  have x00 := Sat.read (H13).left.at 0
  have x01 := Sat.read (H13).left.at 1
  have x02 := Sat.read (H13).left.at 2
  have x03 := Sat.read (H13).left.at 3
  have x04 := Sat.read (H13).left.at 4
  simp only [List.getElem?_toArray, List.getElem?_cons_zero, List.getElem?_cons_succ] at x00 x01 x02 x03 x04
  go_wp2_with fail
  clear l0 x00 x01 x02 x03 x04
  refine dec_some hv.with H13 s HS.out ED.out ?_
  intro w14 H14 I14
  have J14 := (J13.trans I14)
  clear I14 H13 J13
  have H34 := H14.new (.cells #[.int .i64 xe, .int .i64 xp, .int .i64 xc, .int .i64 xf, .int .i64 xn] 23)
  have J34 := J14.alloc (.cells #[.int .i64 xe, .int .i64 xp, .int .i64 xc, .int .i64 xf, .int .i64 xn] 23)
  clear H14 J14
  have l0 := (H34).left.lt
  have x00 := Sat.read (H34).left.at 0
  have x01 := Sat.read (H34).left.at 1
  have x02 := Sat.read (H34).left.at 2
  have x03 := Sat.read (H34).left.at 3
  have x04 := Sat.read (H34).left.at 4
  simp only [List.getElem?_toArray, List.getElem?_cons_zero, List.getElem?_cons_succ] at x00 x01 x02 x03 x04
  go_wp2_with fail
  clear l0 x00 x01 x02 x03 x04
  generalize w14.alloc (.cells #[.int .i64 xe, .int .i64 xp, .int .i64 xc, .int .i64 xf, .int .i64 xn] 23) = v1 at *
  generalize w14.heap.size = B1 at *
  refine rdec_some H34 s HS.out ED.out ?_
  intro w15 H15 I15
  have J15 := (J34.trans I15)
  clear I15 H34 J34
  have H35 := H15.new (.cells #[.int .i64 xe, .int .i64 xp, .int .i64 xc, .int .i64 xf, .int .i64 xn] 23)
  have J35 := J15.alloc (.cells #[.int .i64 xe, .int .i64 xp, .int .i64 xc, .int .i64 xf, .int .i64 xn] 23)
  clear H15 J15
  have l0 := (H35.right).left.lt
  have x00 := Sat.read (H35.right).left.at 0
  have x01 := Sat.read (H35.right).left.at 1
  have x02 := Sat.read (H35.right).left.at 2
  have x03 := Sat.read (H35.right).left.at 3
  have x04 := Sat.read (H35.right).left.at 4
  have l1 := (H35).left.lt
  have x10 := Sat.read (H35).left.at 0
  have x11 := Sat.read (H35).left.at 1
  have x12 := Sat.read (H35).left.at 2
  have x13 := Sat.read (H35).left.at 3
  have x14 := Sat.read (H35).left.at 4
  simp only [List.getElem?_toArray, List.getElem?_cons_zero, List.getElem?_cons_succ] at x00 x01 x02 x03 x04 x10 x11 x12 x13 x14
  go_wp2_with fail
  clear l0 l1 x00 x01 x02 x03 x04 x10 x11 x12 x13 x14
  generalize w15.alloc (.cells #[.int .i64 xe, .int .i64 xp, .int .i64 xc, .int .i64 xf, .int .i64 xn] 23) = v2 at *
  generalize w15.heap.size = B2 at *
  refine dec_some hv.with.with.with H35 t (small_of T) (dec_of hg T) ?_
  intro w16 H16 I16
  have J16 := (J35.trans I16)
  clear I16 H35 J35
  have l0 := (H16.right.right).left.lt
  have x00 := Sat.read (H16.right.right).left.at 0
  have x01 := Sat.read (H16.right.right).left.at 1
  have x02 := Sat.read (H16.right.right).left.at 2
  have x03 := Sat.read (H16.right.right).left.at 3
  have x04 := Sat.read (H16.right.right).left.at 4
  have l1 := (H16.right).left.lt
  have x10 := Sat.read (H16.right).left.at 0
  have x11 := Sat.read (H16.right).left.at 1
  have x12 := Sat.read (H16.right).left.at 2
  have x13 := Sat.read (H16.right).left.at 3
  have x14 := Sat.read (H16.right).left.at 4
  have l2 := (H16).left.lt
  have x20 := Sat.read (H16).left.at 0
  have x21 := Sat.read (H16).left.at 1
  have x22 := Sat.read (H16).left.at 2
  have x23 := Sat.read (H16).left.at 3
  have x24 := Sat.read (H16).left.at 4
  simp only [List.getElem?_toArray, List.getElem?_cons_zero, List.getElem?_cons_succ] at x00 x01 x02 x03 x04 x10 x11 x12 x13 x14 x20 x21 x22 x23 x24
  have fin := HH.out _ ((H16.right.right.right).alloc (.cells #[.int .i64 e, .int .i64 p, .int .i64 c, .int .i64 f, .int .i64 n] 23)) (J16.alloc (.cells #[.int .i64 e, .int .i64 p, .int .i64 c, .int .i64 f, .int .i64 n] 23))
  clear HH H16 J16
  go_wp2_with fail
  exact fin

set_option maxRecDepth 100000 in
set_option maxHeartbeats 4000000 in
theorem encodes_yn (hv : Hv F) (hm : Rt.mach ⟨e, p, c, f, n⟩) (hs : s.size ≤ 1000) (hg : Hid (Rt.good ⟨e, p, c, f, n⟩ = true)) (ed : Rt.dec s = none) (H : Sat F w) (h : ∀ w', Sat F w' → Io w w' → R (.returned (.bool true)) w') :
    Calls Tryd.prog 3 #[.agg #[.int .i64 e, .int .i64 p, .int .i64 c, .int .i64 f, .int .i64 n], .string s] w R := by
  have H0 := (H.new (.cells #[.int .i64 e, .int .i64 p, .int .i64 c, .int .i64 f, .int .i64 n] 23))
  have J0 := ((Io.refl w).alloc (.cells #[.int .i64 e, .int .i64 p, .int .i64 c, .int .i64 f, .int .i64 n] 23))
  have HH := Lib.hid h
  clear h
  have hs' : (s.size : Int) ≤ 1000 := by omega
  have ED := Lib.hid ed
  have HS : Hid (s.size ≤ 1000000) := Lib.hid (by omega)
  clear ed hs
  obtain ⟨t, T⟩ : ∃ t, Hid (t = tx (Rt.bytes ⟨e, p, c, f, n⟩)) := ⟨_, Lib.hid rfl⟩
  have htt := str_eq t
  go_enter Tryd.func3, Tryd.ntmps3
  go_wp2_with fail
  generalize (w.alloc (.cells #[.int .i64 e, .int .i64 p, .int .i64 c, .int .i64 f, .int .i64 n] 23)) = v0 at *
  generalize w.heap.size = B0 at *
  refine works_any hv.with H0 ?_
  intro w11 H11 I11
  have J11 := (J0.trans I11)
  clear I11 H0 J0
  have l0 := (H11).left.lt
  have x00 := Sat.read (H11).left.at 0
  have x01 := Sat.read (H11).left.at 1
  have x02 := Sat.read (H11).left.at 2
  have x03 := Sat.read (H11).left.at 3
  have x04 := Sat.read (H11).left.at 4
  simp only [List.getElem?_toArray, List.getElem?_cons_zero, List.getElem?_cons_succ] at x00 x01 x02 x03 x04
  go_wp2_with fail
  clear l0 x00 x01 x02 x03 x04
  refine enc_yes hg T hv.with H11 ?_
  intro w12 H12 I12
  have J12 := (J11.trans I12)
  clear I12 H11 J11
  have l0 := (H12).left.lt
  have x00 := Sat.read (H12).left.at 0
  have x01 := Sat.read (H12).left.at 1
  have x02 := Sat.read (H12).left.at 2
  have x03 := Sat.read (H12).left.at 3
  have x04 := Sat.read (H12).left.at 4
  simp only [List.getElem?_toArray, List.getElem?_cons_zero, List.getElem?_cons_succ] at x00 x01 x02 x03 x04
  go_wp2_with fail
  clear l0 x00 x01 x02 x03 x04
  refine renc_yes hm hg T H12 ?_
  intro w13 H13 I13
  have J13 := (J12.trans I13)
  clear I13 H12 J12
  have l0 := (H13).left.lt
  have x00 := Sat.read (H13).left.at 0
  have x01 := Sat.read (H13).left.at 1
  have x02 := Sat.read (H13).left.at 2
  have x03 := Sat.read (H13).left.at 3
  have x04 := Sat.read (H13).left.at 4
  simp only [List.getElem?_toArray, List.getElem?_cons_zero, List.getElem?_cons_succ] at x00 x01 x02 x03 x04
  go_wp2_with fail
  clear l0 x00 x01 x02 x03 x04
  refine dec_none hv.with H13 s HS.out ED.out ?_
  intro w14 H14 I14
  have J14 := (J13.trans I14)
  clear I14 H13 J13
  have H34 := H14.new (.cells #[.int .i64 0, .int .i64 0, .int .i64 0, .int .i64 0, .int .i64 0] 23)
  have J34 := J14.alloc (.cells #[.int .i64 0, .int .i64 0, .int .i64 0, .int .i64 0, .int .i64 0] 23)
  clear H14 J14
  have l0 := (H34).left.lt
  have x00 := Sat.read (H34).left.at 0
  have x01 := Sat.read (H34).left.at 1
  have x02 := Sat.read (H34).left.at 2
  have x03 := Sat.read (H34).left.at 3
  have x04 := Sat.read (H34).left.at 4
  simp only [List.getElem?_toArray, List.getElem?_cons_zero, List.getElem?_cons_succ] at x00 x01 x02 x03 x04
  go_wp2_with fail
  clear l0 x00 x01 x02 x03 x04
  generalize w14.alloc (.cells #[.int .i64 0, .int .i64 0, .int .i64 0, .int .i64 0, .int .i64 0] 23) = v1 at *
  generalize w14.heap.size = B1 at *
  refine rdec_none H34 s HS.out ED.out ?_
  intro w15 H15 I15
  have J15 := (J34.trans I15)
  clear I15 H34 J34
  have H35 := H15.new (.cells #[.int .i64 0, .int .i64 0, .int .i64 0, .int .i64 0, .int .i64 0] 23)
  have J35 := J15.alloc (.cells #[.int .i64 0, .int .i64 0, .int .i64 0, .int .i64 0, .int .i64 0] 23)
  clear H15 J15
  have l0 := (H35.right).left.lt
  have x00 := Sat.read (H35.right).left.at 0
  have x01 := Sat.read (H35.right).left.at 1
  have x02 := Sat.read (H35.right).left.at 2
  have x03 := Sat.read (H35.right).left.at 3
  have x04 := Sat.read (H35.right).left.at 4
  have l1 := (H35).left.lt
  have x10 := Sat.read (H35).left.at 0
  have x11 := Sat.read (H35).left.at 1
  have x12 := Sat.read (H35).left.at 2
  have x13 := Sat.read (H35).left.at 3
  have x14 := Sat.read (H35).left.at 4
  simp only [List.getElem?_toArray, List.getElem?_cons_zero, List.getElem?_cons_succ] at x00 x01 x02 x03 x04 x10 x11 x12 x13 x14
  go_wp2_with fail
  clear l0 l1 x00 x01 x02 x03 x04 x10 x11 x12 x13 x14
  generalize w15.alloc (.cells #[.int .i64 0, .int .i64 0, .int .i64 0, .int .i64 0, .int .i64 0] 23) = v2 at *
  generalize w15.heap.size = B2 at *
  refine dec_some hv.with.with.with H35 t (small_of T) (dec_of hg T) ?_
  intro w16 H16 I16
  have J16 := (J35.trans I16)
  clear I16 H35 J35
  have l0 := (H16.right.right).left.lt
  have x00 := Sat.read (H16.right.right).left.at 0
  have x01 := Sat.read (H16.right.right).left.at 1
  have x02 := Sat.read (H16.right.right).left.at 2
  have x03 := Sat.read (H16.right.right).left.at 3
  have x04 := Sat.read (H16.right.right).left.at 4
  have l1 := (H16.right).left.lt
  have x10 := Sat.read (H16.right).left.at 0
  have x11 := Sat.read (H16.right).left.at 1
  have x12 := Sat.read (H16.right).left.at 2
  have x13 := Sat.read (H16.right).left.at 3
  have x14 := Sat.read (H16.right).left.at 4
  have l2 := (H16).left.lt
  have x20 := Sat.read (H16).left.at 0
  have x21 := Sat.read (H16).left.at 1
  have x22 := Sat.read (H16).left.at 2
  have x23 := Sat.read (H16).left.at 3
  have x24 := Sat.read (H16).left.at 4
  simp only [List.getElem?_toArray, List.getElem?_cons_zero, List.getElem?_cons_succ] at x00 x01 x02 x03 x04 x10 x11 x12 x13 x14 x20 x21 x22 x23 x24
  have fin := HH.out _ ((H16.right.right.right).alloc (.cells #[.int .i64 e, .int .i64 p, .int .i64 c, .int .i64 f, .int .i64 n] 23)) (J16.alloc (.cells #[.int .i64 e, .int .i64 p, .int .i64 c, .int .i64 f, .int .i64 n] 23))
  clear HH H16 J16
  go_wp2_with fail
  exact fin

set_option maxRecDepth 100000 in
set_option maxHeartbeats 4000000 in
theorem encodes_ny (hv : Hv F) (hm : Rt.mach ⟨e, p, c, f, n⟩) (hs : s.size ≤ 1000) (hg : Hid (Rt.good ⟨e, p, c, f, n⟩ = false)) {xe xp xc xf xn : Int} (ed : Rt.dec s = some ⟨xe, xp, xc, xf, xn⟩) (H : Sat F w) (h : ∀ w', Sat F w' → Io w w' → R (.returned (.bool true)) w') :
    Calls Tryd.prog 3 #[.agg #[.int .i64 e, .int .i64 p, .int .i64 c, .int .i64 f, .int .i64 n], .string s] w R := by
  have H0 := (H.new (.cells #[.int .i64 e, .int .i64 p, .int .i64 c, .int .i64 f, .int .i64 n] 23))
  have J0 := ((Io.refl w).alloc (.cells #[.int .i64 e, .int .i64 p, .int .i64 c, .int .i64 f, .int .i64 n] 23))
  have HH := Lib.hid h
  clear h
  have hs' : (s.size : Int) ≤ 1000 := by omega
  have ED := Lib.hid ed
  have HS : Hid (s.size ≤ 1000000) := Lib.hid (by omega)
  clear ed hs
  go_enter Tryd.func3, Tryd.ntmps3
  go_wp2_with fail
  generalize (w.alloc (.cells #[.int .i64 e, .int .i64 p, .int .i64 c, .int .i64 f, .int .i64 n] 23)) = v0 at *
  generalize w.heap.size = B0 at *
  refine works_any hv.with H0 ?_
  intro w11 H11 I11
  have J11 := (J0.trans I11)
  clear I11 H0 J0
  have l0 := (H11).left.lt
  have x00 := Sat.read (H11).left.at 0
  have x01 := Sat.read (H11).left.at 1
  have x02 := Sat.read (H11).left.at 2
  have x03 := Sat.read (H11).left.at 3
  have x04 := Sat.read (H11).left.at 4
  simp only [List.getElem?_toArray, List.getElem?_cons_zero, List.getElem?_cons_succ] at x00 x01 x02 x03 x04
  go_wp2_with fail
  clear l0 x00 x01 x02 x03 x04
  refine enc_no hg hv.with H11 ?_
  intro w12 H12 I12
  have J12 := (J11.trans I12)
  clear I12 H11 J11
  have l0 := (H12).left.lt
  have x00 := Sat.read (H12).left.at 0
  have x01 := Sat.read (H12).left.at 1
  have x02 := Sat.read (H12).left.at 2
  have x03 := Sat.read (H12).left.at 3
  have x04 := Sat.read (H12).left.at 4
  simp only [List.getElem?_toArray, List.getElem?_cons_zero, List.getElem?_cons_succ] at x00 x01 x02 x03 x04
  go_wp2_with fail
  clear l0 x00 x01 x02 x03 x04
  refine renc_no hm hg H12 ?_
  intro w13 H13 I13
  have J13 := (J12.trans I13)
  clear I13 H12 J12
  have l0 := (H13).left.lt
  have x00 := Sat.read (H13).left.at 0
  have x01 := Sat.read (H13).left.at 1
  have x02 := Sat.read (H13).left.at 2
  have x03 := Sat.read (H13).left.at 3
  have x04 := Sat.read (H13).left.at 4
  simp only [List.getElem?_toArray, List.getElem?_cons_zero, List.getElem?_cons_succ] at x00 x01 x02 x03 x04
  go_wp2_with fail
  clear l0 x00 x01 x02 x03 x04
  refine dec_some hv.with H13 s HS.out ED.out ?_
  intro w14 H14 I14
  have J14 := (J13.trans I14)
  clear I14 H13 J13
  have H34 := H14.new (.cells #[.int .i64 xe, .int .i64 xp, .int .i64 xc, .int .i64 xf, .int .i64 xn] 23)
  have J34 := J14.alloc (.cells #[.int .i64 xe, .int .i64 xp, .int .i64 xc, .int .i64 xf, .int .i64 xn] 23)
  clear H14 J14
  have l0 := (H34).left.lt
  have x00 := Sat.read (H34).left.at 0
  have x01 := Sat.read (H34).left.at 1
  have x02 := Sat.read (H34).left.at 2
  have x03 := Sat.read (H34).left.at 3
  have x04 := Sat.read (H34).left.at 4
  simp only [List.getElem?_toArray, List.getElem?_cons_zero, List.getElem?_cons_succ] at x00 x01 x02 x03 x04
  go_wp2_with fail
  clear l0 x00 x01 x02 x03 x04
  generalize w14.alloc (.cells #[.int .i64 xe, .int .i64 xp, .int .i64 xc, .int .i64 xf, .int .i64 xn] 23) = v1 at *
  generalize w14.heap.size = B1 at *
  refine rdec_some H34 s HS.out ED.out ?_
  intro w15 H15 I15
  have J15 := (J34.trans I15)
  clear I15 H34 J34
  have H35 := H15.new (.cells #[.int .i64 xe, .int .i64 xp, .int .i64 xc, .int .i64 xf, .int .i64 xn] 23)
  have J35 := J15.alloc (.cells #[.int .i64 xe, .int .i64 xp, .int .i64 xc, .int .i64 xf, .int .i64 xn] 23)
  clear H15 J15
  have l0 := (H35.right).left.lt
  have x00 := Sat.read (H35.right).left.at 0
  have x01 := Sat.read (H35.right).left.at 1
  have x02 := Sat.read (H35.right).left.at 2
  have x03 := Sat.read (H35.right).left.at 3
  have x04 := Sat.read (H35.right).left.at 4
  have l1 := (H35).left.lt
  have x10 := Sat.read (H35).left.at 0
  have x11 := Sat.read (H35).left.at 1
  have x12 := Sat.read (H35).left.at 2
  have x13 := Sat.read (H35).left.at 3
  have x14 := Sat.read (H35).left.at 4
  simp only [List.getElem?_toArray, List.getElem?_cons_zero, List.getElem?_cons_succ] at x00 x01 x02 x03 x04 x10 x11 x12 x13 x14
  go_wp2_with fail
  clear l0 l1 x00 x01 x02 x03 x04 x10 x11 x12 x13 x14
  generalize w15.alloc (.cells #[.int .i64 xe, .int .i64 xp, .int .i64 xc, .int .i64 xf, .int .i64 xn] 23) = v2 at *
  generalize w15.heap.size = B2 at *
  refine dec_none hv.with.with.with H35 ⟨#[]⟩ (by decide) dec_empty ?_
  intro w16 H16 I16
  have J16 := (J35.trans I16)
  clear I16 H35 J35
  have l0 := (H16.right.right).left.lt
  have x00 := Sat.read (H16.right.right).left.at 0
  have x01 := Sat.read (H16.right.right).left.at 1
  have x02 := Sat.read (H16.right.right).left.at 2
  have x03 := Sat.read (H16.right.right).left.at 3
  have x04 := Sat.read (H16.right.right).left.at 4
  have l1 := (H16.right).left.lt
  have x10 := Sat.read (H16.right).left.at 0
  have x11 := Sat.read (H16.right).left.at 1
  have x12 := Sat.read (H16.right).left.at 2
  have x13 := Sat.read (H16.right).left.at 3
  have x14 := Sat.read (H16.right).left.at 4
  have l2 := (H16).left.lt
  have x20 := Sat.read (H16).left.at 0
  have x21 := Sat.read (H16).left.at 1
  have x22 := Sat.read (H16).left.at 2
  have x23 := Sat.read (H16).left.at 3
  have x24 := Sat.read (H16).left.at 4
  simp only [List.getElem?_toArray, List.getElem?_cons_zero, List.getElem?_cons_succ] at x00 x01 x02 x03 x04 x10 x11 x12 x13 x14 x20 x21 x22 x23 x24
  have fin := HH.out _ ((H16.right.right.right).alloc (.cells #[.int .i64 0, .int .i64 0, .int .i64 0, .int .i64 0, .int .i64 0] 23)) (J16.alloc (.cells #[.int .i64 0, .int .i64 0, .int .i64 0, .int .i64 0, .int .i64 0] 23))
  clear HH H16 J16
  go_wp2_with fail
  exact fin

set_option maxRecDepth 100000 in
set_option maxHeartbeats 4000000 in
theorem encodes_nn (hv : Hv F) (hm : Rt.mach ⟨e, p, c, f, n⟩) (hs : s.size ≤ 1000) (hg : Hid (Rt.good ⟨e, p, c, f, n⟩ = false)) (ed : Rt.dec s = none) (H : Sat F w) (h : ∀ w', Sat F w' → Io w w' → R (.returned (.bool true)) w') :
    Calls Tryd.prog 3 #[.agg #[.int .i64 e, .int .i64 p, .int .i64 c, .int .i64 f, .int .i64 n], .string s] w R := by
  have H0 := (H.new (.cells #[.int .i64 e, .int .i64 p, .int .i64 c, .int .i64 f, .int .i64 n] 23))
  have J0 := ((Io.refl w).alloc (.cells #[.int .i64 e, .int .i64 p, .int .i64 c, .int .i64 f, .int .i64 n] 23))
  have HH := Lib.hid h
  clear h
  have hs' : (s.size : Int) ≤ 1000 := by omega
  have ED := Lib.hid ed
  have HS : Hid (s.size ≤ 1000000) := Lib.hid (by omega)
  clear ed hs
  go_enter Tryd.func3, Tryd.ntmps3
  go_wp2_with fail
  generalize (w.alloc (.cells #[.int .i64 e, .int .i64 p, .int .i64 c, .int .i64 f, .int .i64 n] 23)) = v0 at *
  generalize w.heap.size = B0 at *
  refine works_any hv.with H0 ?_
  intro w11 H11 I11
  have J11 := (J0.trans I11)
  clear I11 H0 J0
  have l0 := (H11).left.lt
  have x00 := Sat.read (H11).left.at 0
  have x01 := Sat.read (H11).left.at 1
  have x02 := Sat.read (H11).left.at 2
  have x03 := Sat.read (H11).left.at 3
  have x04 := Sat.read (H11).left.at 4
  simp only [List.getElem?_toArray, List.getElem?_cons_zero, List.getElem?_cons_succ] at x00 x01 x02 x03 x04
  go_wp2_with fail
  clear l0 x00 x01 x02 x03 x04
  refine enc_no hg hv.with H11 ?_
  intro w12 H12 I12
  have J12 := (J11.trans I12)
  clear I12 H11 J11
  have l0 := (H12).left.lt
  have x00 := Sat.read (H12).left.at 0
  have x01 := Sat.read (H12).left.at 1
  have x02 := Sat.read (H12).left.at 2
  have x03 := Sat.read (H12).left.at 3
  have x04 := Sat.read (H12).left.at 4
  simp only [List.getElem?_toArray, List.getElem?_cons_zero, List.getElem?_cons_succ] at x00 x01 x02 x03 x04
  go_wp2_with fail
  clear l0 x00 x01 x02 x03 x04
  refine renc_no hm hg H12 ?_
  intro w13 H13 I13
  have J13 := (J12.trans I13)
  clear I13 H12 J12
  have l0 := (H13).left.lt
  have x00 := Sat.read (H13).left.at 0
  have x01 := Sat.read (H13).left.at 1
  have x02 := Sat.read (H13).left.at 2
  have x03 := Sat.read (H13).left.at 3
  have x04 := Sat.read (H13).left.at 4
  simp only [List.getElem?_toArray, List.getElem?_cons_zero, List.getElem?_cons_succ] at x00 x01 x02 x03 x04
  go_wp2_with fail
  clear l0 x00 x01 x02 x03 x04
  refine dec_none hv.with H13 s HS.out ED.out ?_
  intro w14 H14 I14
  have J14 := (J13.trans I14)
  clear I14 H13 J13
  have H34 := H14.new (.cells #[.int .i64 0, .int .i64 0, .int .i64 0, .int .i64 0, .int .i64 0] 23)
  have J34 := J14.alloc (.cells #[.int .i64 0, .int .i64 0, .int .i64 0, .int .i64 0, .int .i64 0] 23)
  clear H14 J14
  have l0 := (H34).left.lt
  have x00 := Sat.read (H34).left.at 0
  have x01 := Sat.read (H34).left.at 1
  have x02 := Sat.read (H34).left.at 2
  have x03 := Sat.read (H34).left.at 3
  have x04 := Sat.read (H34).left.at 4
  simp only [List.getElem?_toArray, List.getElem?_cons_zero, List.getElem?_cons_succ] at x00 x01 x02 x03 x04
  go_wp2_with fail
  clear l0 x00 x01 x02 x03 x04
  generalize w14.alloc (.cells #[.int .i64 0, .int .i64 0, .int .i64 0, .int .i64 0, .int .i64 0] 23) = v1 at *
  generalize w14.heap.size = B1 at *
  refine rdec_none H34 s HS.out ED.out ?_
  intro w15 H15 I15
  have J15 := (J34.trans I15)
  clear I15 H34 J34
  have H35 := H15.new (.cells #[.int .i64 0, .int .i64 0, .int .i64 0, .int .i64 0, .int .i64 0] 23)
  have J35 := J15.alloc (.cells #[.int .i64 0, .int .i64 0, .int .i64 0, .int .i64 0, .int .i64 0] 23)
  clear H15 J15
  have l0 := (H35.right).left.lt
  have x00 := Sat.read (H35.right).left.at 0
  have x01 := Sat.read (H35.right).left.at 1
  have x02 := Sat.read (H35.right).left.at 2
  have x03 := Sat.read (H35.right).left.at 3
  have x04 := Sat.read (H35.right).left.at 4
  have l1 := (H35).left.lt
  have x10 := Sat.read (H35).left.at 0
  have x11 := Sat.read (H35).left.at 1
  have x12 := Sat.read (H35).left.at 2
  have x13 := Sat.read (H35).left.at 3
  have x14 := Sat.read (H35).left.at 4
  simp only [List.getElem?_toArray, List.getElem?_cons_zero, List.getElem?_cons_succ] at x00 x01 x02 x03 x04 x10 x11 x12 x13 x14
  go_wp2_with fail
  clear l0 l1 x00 x01 x02 x03 x04 x10 x11 x12 x13 x14
  generalize w15.alloc (.cells #[.int .i64 0, .int .i64 0, .int .i64 0, .int .i64 0, .int .i64 0] 23) = v2 at *
  generalize w15.heap.size = B2 at *
  refine dec_none hv.with.with.with H35 ⟨#[]⟩ (by decide) dec_empty ?_
  intro w16 H16 I16
  have J16 := (J35.trans I16)
  clear I16 H35 J35
  have l0 := (H16.right.right).left.lt
  have x00 := Sat.read (H16.right.right).left.at 0
  have x01 := Sat.read (H16.right.right).left.at 1
  have x02 := Sat.read (H16.right.right).left.at 2
  have x03 := Sat.read (H16.right.right).left.at 3
  have x04 := Sat.read (H16.right.right).left.at 4
  have l1 := (H16.right).left.lt
  have x10 := Sat.read (H16.right).left.at 0
  have x11 := Sat.read (H16.right).left.at 1
  have x12 := Sat.read (H16.right).left.at 2
  have x13 := Sat.read (H16.right).left.at 3
  have x14 := Sat.read (H16.right).left.at 4
  have l2 := (H16).left.lt
  have x20 := Sat.read (H16).left.at 0
  have x21 := Sat.read (H16).left.at 1
  have x22 := Sat.read (H16).left.at 2
  have x23 := Sat.read (H16).left.at 3
  have x24 := Sat.read (H16).left.at 4
  simp only [List.getElem?_toArray, List.getElem?_cons_zero, List.getElem?_cons_succ] at x00 x01 x02 x03 x04 x10 x11 x12 x13 x14 x20 x21 x22 x23 x24
  have fin := HH.out _ ((H16.right.right.right).alloc (.cells #[.int .i64 0, .int .i64 0, .int .i64 0, .int .i64 0, .int .i64 0] 23)) (J16.alloc (.cells #[.int .i64 0, .int .i64 0, .int .i64 0, .int .i64 0, .int .i64 0] 23))
  clear HH H16 J16
  go_wp2_with fail
  exact fin

set_option maxRecDepth 100000 in
set_option maxHeartbeats 4000000 in
theorem encodes_long (hv : Hv F) (hs : 1000 < s.size) (hm : s.size ≤ 9223372036854775807) (H : Sat F w) (h : ∀ w', Sat F w' → Io w w' → R (.returned (.bool true)) w') :
    Calls Tryd.prog 3 #[.agg #[.int .i64 e, .int .i64 p, .int .i64 c, .int .i64 f, .int .i64 n], .string s] w R := by
  have H0 := (H.new (.cells #[.int .i64 e, .int .i64 p, .int .i64 c, .int .i64 f, .int .i64 n] 23))
  have J0 := ((Io.refl w).alloc (.cells #[.int .i64 e, .int .i64 p, .int .i64 c, .int .i64 f, .int .i64 n] 23))
  have HH := Lib.hid h
  clear h
  have hs' : 1000 < (s.size : Int) := by omega
  have hm' : (s.size : Int) ≤ 9223372036854775807 := by omega
  clear hs hm
  go_enter Tryd.func3, Tryd.ntmps3
  go_wp2_with fail
  generalize (w.alloc (.cells #[.int .i64 e, .int .i64 p, .int .i64 c, .int .i64 f, .int .i64 n] 23)) = v0 at *
  generalize w.heap.size = B0 at *
  refine works_any hv.with H0 ?_
  intro w11 H11 I11
  have J11 := (J0.trans I11)
  clear I11 H0 J0
  have l0 := (H11).left.lt
  have x00 := Sat.read (H11).left.at 0
  have x01 := Sat.read (H11).left.at 1
  have x02 := Sat.read (H11).left.at 2
  have x03 := Sat.read (H11).left.at 3
  have x04 := Sat.read (H11).left.at 4
  simp only [List.getElem?_toArray, List.getElem?_cons_zero, List.getElem?_cons_succ] at x00 x01 x02 x03 x04
  have fin := HH.out _ H11.right J11
  clear HH H11 J11
  go_wp2_with fail
  exact fin

theorem encodes_walk (hv : Hv F) (r : Rt) (hm : r.mach) (s : ByteArray) (hs : s.size ≤ 9223372036854775807) (H : Sat F w) (h : ∀ w', Sat F w' → Io w w' → R (.returned (.bool true)) w') :
    Calls Tryd.prog 3 #[r.val, .string s] w R := by
  obtain ⟨e, p, c, f, n⟩ := r
  by_cases hl : s.size ≤ 1000
  · cases hg : Rt.good ⟨e, p, c, f, n⟩ with
    | true =>
      cases ed : Rt.dec s with
      | some x => obtain ⟨xe, xp, xc, xf, xn⟩ := x; exact encodes_yy hv hm hl (Lib.hid hg) ed H h
      | none => exact encodes_yn hv hm hl (Lib.hid hg) ed H h
    | false =>
      cases ed : Rt.dec s with
      | some x => obtain ⟨xe, xp, xc, xf, xn⟩ := x; exact encodes_ny hv hm hl (Lib.hid hg) ed H h
      | none => exact encodes_nn hv hm hl (Lib.hid hg) ed H h
  · exact encodes_long hv (by omega) hs H h

theorem pick_some {a b : ByteArray} (hv : Hv F) (H : Sat F w) (ha : a.size ≤ 1000000) (hb : b.size ≤ 1000000) (hp : Rt.pick a b = some ⟨e, p, c, f, n⟩) (h : ∀ w', Sat F w' → Io w w' → R (.returned (.tuple #[.agg #[.int .i64 e, .int .i64 p, .int .i64 c, .int .i64 f, .int .i64 n], .int .i64 0])) w') :
    Calls Tryd.prog 14 #[.string a, .string b] w R := by
  refine pick_any hv H a b ha hb fun w' H' I' => ?_
  unfold pickV
  rw [hp]
  exact h w' H' I'
theorem pick_none {a b : ByteArray} (hv : Hv F) (H : Sat F w) (ha : a.size ≤ 1000000) (hb : b.size ≤ 1000000) (hp : Rt.pick a b = none) (h : ∀ w', Sat F w' → Io w w' → R (.returned (.tuple #[.agg #[.int .i64 0, .int .i64 0, .int .i64 0, .int .i64 0, .int .i64 0], .int .i64 70])) w') :
    Calls Tryd.prog 14 #[.string a, .string b] w R := by
  refine pick_any hv H a b ha hb fun w' H' I' => ?_
  unfold pickV
  rw [hp]
  exact h w' H' I'
theorem rpick_some {a b : ByteArray} (H : Sat F w) (ha : a.size ≤ 1000000) (hb : b.size ≤ 1000000) (hp : Rt.pick a b = some ⟨e, p, c, f, n⟩) (h : ∀ w', Sat F w' → Io w w' → R (.returned (.tuple #[.agg #[.int .i64 e, .int .i64 p, .int .i64 c, .int .i64 f, .int .i64 n], .int .i64 0])) w') :
    Calls Tryd.prog 15 #[.string a, .string b] w R := by
  refine rpick_any H a b ha hb fun w' H' I' => ?_
  unfold pickV
  rw [hp]
  exact h w' H' I'
theorem rpick_none {a b : ByteArray} (H : Sat F w) (ha : a.size ≤ 1000000) (hb : b.size ≤ 1000000) (hp : Rt.pick a b = none) (h : ∀ w', Sat F w' → Io w w' → R (.returned (.tuple #[.agg #[.int .i64 0, .int .i64 0, .int .i64 0, .int .i64 0, .int .i64 0], .int .i64 70])) w') :
    Calls Tryd.prog 15 #[.string a, .string b] w R := by
  refine rpick_any H a b ha hb fun w' H' I' => ?_
  unfold pickV
  rw [hp]
  exact h w' H' I'

set_option maxRecDepth 100000 in
set_option maxHeartbeats 4000000 in
theorem picks_y {a b : ByteArray} (hv : Hv F) (ha : a.size ≤ 1000) (hb : b.size ≤ 1000) (hp : Rt.pick a b = some ⟨e, p, c, f, n⟩) (H : Sat F w) (h : ∀ w', Sat F w' → Io w w' → R (.returned (.bool true)) w') :
    Calls Tryd.prog 4 #[.string a, .string b] w R := by
  have HH := Lib.hid h
  clear h
  have hs' : (a.size : Int) ≤ 1000 := by omega
  have ht' : (b.size : Int) ≤ 1000 := by omega
  have ED := Lib.hid hp
  have HA : Hid (a.size ≤ 1000000) := Lib.hid (by omega)
  have HB : Hid (b.size ≤ 1000000) := Lib.hid (by omega)
  clear hp ha hb
  go_enter Tryd.func4, Tryd.ntmps4
  go_wp2_with fail
  refine works_any hv H ?_
  intro w11 H11 I11
  have J11 := I11
  clear I11 H
  go_wp2_with fail
  refine pick_some hv H11 HA.out HB.out ED.out ?_
  intro w12 H12 I12
  have J12 := (J11.trans I12)
  clear I12 H11 J11
  have H32 := H12.new (.cells #[.int .i64 e, .int .i64 p, .int .i64 c, .int .i64 f, .int .i64 n] 23)
  have J32 := J12.alloc (.cells #[.int .i64 e, .int .i64 p, .int .i64 c, .int .i64 f, .int .i64 n] 23)
  clear H12 J12
  go_wp2_with fail
  generalize w12.alloc (.cells #[.int .i64 e, .int .i64 p, .int .i64 c, .int .i64 f, .int .i64 n] 23) = v0 at *
  generalize w12.heap.size = B0 at *
  refine rpick_some H32 HA.out HB.out ED.out ?_
  intro w13 H13 I13
  have J13 := (J32.trans I13)
  clear I13 H32 J32
  have l0 := (H13).left.lt
  have x00 := Sat.read (H13).left.at 0
  have x01 := Sat.read (H13).left.at 1
  have x02 := Sat.read (H13).left.at 2
  have x03 := Sat.read (H13).left.at 3
  have x04 := Sat.read (H13).left.at 4
  simp only [List.getElem?_toArray, List.getElem?_cons_zero, List.getElem?_cons_succ] at x00 x01 x02 x03 x04
  have fin := HH.out _ ((H13.right).alloc (.cells #[.int .i64 e, .int .i64 p, .int .i64 c, .int .i64 f, .int .i64 n] 23)) (J13.alloc (.cells #[.int .i64 e, .int .i64 p, .int .i64 c, .int .i64 f, .int .i64 n] 23))
  clear HH H13 J13
  go_wp2_with fail
  exact fin

set_option maxRecDepth 100000 in
set_option maxHeartbeats 4000000 in
theorem picks_n {a b : ByteArray} (hv : Hv F) (ha : a.size ≤ 1000) (hb : b.size ≤ 1000) (hp : Rt.pick a b = none) (H : Sat F w) (h : ∀ w', Sat F w' → Io w w' → R (.returned (.bool true)) w') :
    Calls Tryd.prog 4 #[.string a, .string b] w R := by
  have HH := Lib.hid h
  clear h
  have hs' : (a.size : Int) ≤ 1000 := by omega
  have ht' : (b.size : Int) ≤ 1000 := by omega
  have ED := Lib.hid hp
  have HA : Hid (a.size ≤ 1000000) := Lib.hid (by omega)
  have HB : Hid (b.size ≤ 1000000) := Lib.hid (by omega)
  clear hp ha hb
  go_enter Tryd.func4, Tryd.ntmps4
  go_wp2_with fail
  refine works_any hv H ?_
  intro w11 H11 I11
  have J11 := I11
  clear I11 H
  go_wp2_with fail
  refine pick_none hv H11 HA.out HB.out ED.out ?_
  intro w12 H12 I12
  have J12 := (J11.trans I12)
  clear I12 H11 J11
  have H32 := H12.new (.cells #[.int .i64 0, .int .i64 0, .int .i64 0, .int .i64 0, .int .i64 0] 23)
  have J32 := J12.alloc (.cells #[.int .i64 0, .int .i64 0, .int .i64 0, .int .i64 0, .int .i64 0] 23)
  clear H12 J12
  go_wp2_with fail
  generalize w12.alloc (.cells #[.int .i64 0, .int .i64 0, .int .i64 0, .int .i64 0, .int .i64 0] 23) = v0 at *
  generalize w12.heap.size = B0 at *
  refine rpick_none H32 HA.out HB.out ED.out ?_
  intro w13 H13 I13
  have J13 := (J32.trans I13)
  clear I13 H32 J32
  have l0 := (H13).left.lt
  have x00 := Sat.read (H13).left.at 0
  have x01 := Sat.read (H13).left.at 1
  have x02 := Sat.read (H13).left.at 2
  have x03 := Sat.read (H13).left.at 3
  have x04 := Sat.read (H13).left.at 4
  simp only [List.getElem?_toArray, List.getElem?_cons_zero, List.getElem?_cons_succ] at x00 x01 x02 x03 x04
  have fin := HH.out _ ((H13.right).alloc (.cells #[.int .i64 0, .int .i64 0, .int .i64 0, .int .i64 0, .int .i64 0] 23)) (J13.alloc (.cells #[.int .i64 0, .int .i64 0, .int .i64 0, .int .i64 0, .int .i64 0] 23))
  clear HH H13 J13
  go_wp2_with fail
  exact fin

set_option maxRecDepth 100000 in
set_option maxHeartbeats 4000000 in
theorem picks_longa (hv : Hv F) {a b : ByteArray} (ha : 1000 < a.size) (hm : a.size ≤ 9223372036854775807) (H : Sat F w) (h : ∀ w', Sat F w' → Io w w' → R (.returned (.bool true)) w') :
    Calls Tryd.prog 4 #[.string a, .string b] w R := by
  have HH := Lib.hid h
  clear h
  have hs' : 1000 < (a.size : Int) := by omega
  have hm' : (a.size : Int) ≤ 9223372036854775807 := by omega
  have hd : decide ((a.size : Int) > 1000) = true := by simpa using hs'
  clear ha hm
  go_enter Tryd.func4, Tryd.ntmps4
  go_wp2_with fail
  refine works_any hv H ?_
  intro w11 H11 I11
  have J11 := I11
  clear I11 H
  have fin := HH.out _ H11 J11
  clear HH H11 J11
  go_wp2_with fail
  exact fin

set_option maxRecDepth 100000 in
set_option maxHeartbeats 4000000 in
theorem picks_longb (hv : Hv F) {a b : ByteArray} (ha : a.size ≤ 1000) (hb : 1000 < b.size) (hm : b.size ≤ 9223372036854775807) (H : Sat F w) (h : ∀ w', Sat F w' → Io w w' → R (.returned (.bool true)) w') :
    Calls Tryd.prog 4 #[.string a, .string b] w R := by
  have HH := Lib.hid h
  clear h
  have hs' : (a.size : Int) ≤ 1000 := by omega
  have ht' : 1000 < (b.size : Int) := by omega
  have hm' : (b.size : Int) ≤ 9223372036854775807 := by omega
  have hd : decide ((a.size : Int) > 1000) = false := by simpa using hs'
  have hd2 : decide ((b.size : Int) > 1000) = true := by simpa using ht'
  clear ha hb hm
  go_enter Tryd.func4, Tryd.ntmps4
  go_wp2_with fail
  refine works_any hv H ?_
  intro w11 H11 I11
  have J11 := I11
  clear I11 H
  have fin := HH.out _ H11 J11
  clear HH H11 J11
  go_wp2_with fail
  exact fin

theorem picks_walk (hv : Hv F) (a b : ByteArray) (hma : a.size ≤ 9223372036854775807) (hmb : b.size ≤ 9223372036854775807) (H : Sat F w) (h : ∀ w', Sat F w' → Io w w' → R (.returned (.bool true)) w') :
    Calls Tryd.prog 4 #[.string a, .string b] w R := by
  by_cases ha : a.size ≤ 1000
  · by_cases hb : b.size ≤ 1000
    · cases hp : Rt.pick a b with
      | some x => obtain ⟨e, p, c, f, n⟩ := x; exact picks_y hv ha hb hp H h
      | none => exact picks_n hv ha hb hp H h
    · exact picks_longb hv ha (by omega) hmb H h
  · exact picks_longa hv (by omega) hma H h
end
end Go.Proofs.YtghpfepmkngfdaaDoor
