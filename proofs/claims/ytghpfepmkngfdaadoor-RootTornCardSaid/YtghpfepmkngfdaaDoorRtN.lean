/-
  The statement RootNewer, walked: it answers true. It proves the walk alone; the row is closed elsewhere.
-/
import Derived.Test.YtghpfepmkngfdaaDoorRtL
namespace Go.Proofs.YtghpfepmkngfdaaDoor
open Go.RowKit
set_option linter.unusedSimpArgs false
set_option linter.unusedVariables false

section
variable {F : Asn} {w : World} {R : Ending → World → Prop} {s : ByteArray} {e p c f n e2 p2 c2 f2 n2 : Int}

/-- Encode, whatever the root. -/
theorem enc_gen (hv : Hv F) (H : Sat F w) (h : ∀ w', Sat F w' → Io w w' → R (.returned (.tuple #[.string (Rt.encS ⟨e, p, c, f, n⟩), .int .i64 (Rt.encE ⟨e, p, c, f, n⟩)])) w') :
    Calls Tryd.prog 10 #[.agg #[.int .i64 e, .int .i64 p, .int .i64 c, .int .i64 f, .int .i64 n]] w R := enc_any (r := ⟨e, p, c, f, n⟩) hv H h
/-- Decode, whatever the bytes. -/
theorem dec_gen {xe xp xc xf xn : Int} {b : Bool} (hv : Hv F) (H : Sat F w) (hs : s.size ≤ 1000000) (h1 : (Rt.dec s).getD Rt.zero = ⟨xe, xp, xc, xf, xn⟩) (h2 : (Rt.dec s).isSome = b)
    (h : ∀ w', Sat F w' → Io w w' → R (.returned (.tuple #[.agg #[.int .i64 xe, .int .i64 xp, .int .i64 xc, .int .i64 xf, .int .i64 xn], .bool b])) w') :
    Calls Tryd.prog 12 #[.string s] w R := by
  refine dec_any hv H s hs fun w' H' I' => ?_
  unfold decV
  rw [h1, h2]
  exact h w' H' I'
theorem pick_is {a b : ByteArray} {x : Option Rt} (h : Rt.pick a b = x) : Rt.pick a b = x := h

set_option maxRecDepth 100000 in
set_option maxHeartbeats 4000000 in
theorem newer_a (hv : Hv F) (hs : s.size ≤ 1000) (hg : Hid (Rt.good ⟨e, p, c, f, n⟩ = false)) {xe xp xc xf xn : Int} {b : Bool} (h1 : Hid ((Rt.dec s).getD Rt.zero = ⟨xe, xp, xc, xf, xn⟩)) (h2 : Hid ((Rt.dec s).isSome = b)) (H : Sat F w) (h : ∀ w', Sat F w' → Io w w' → R (.returned (.bool true)) w') :
    Calls Tryd.prog 6 #[.agg #[.int .i64 e, .int .i64 p, .int .i64 c, .int .i64 f, .int .i64 n], .agg #[.int .i64 e2, .int .i64 p2, .int .i64 c2, .int .i64 f2, .int .i64 n2], .string s] w R := by
  have H0 := ((H.new (.cells #[.int .i64 e, .int .i64 p, .int .i64 c, .int .i64 f, .int .i64 n] 23)).new (.cells #[.int .i64 e2, .int .i64 p2, .int .i64 c2, .int .i64 f2, .int .i64 n2] 23))
  have J0 := (((Io.refl w).alloc (.cells #[.int .i64 e, .int .i64 p, .int .i64 c, .int .i64 f, .int .i64 n] 23)).alloc (.cells #[.int .i64 e2, .int .i64 p2, .int .i64 c2, .int .i64 f2, .int .i64 n2] 23))
  rw [show (w.alloc (.cells #[.int .i64 e, .int .i64 p, .int .i64 c, .int .i64 f, .int .i64 n] 23)).heap.size = w.heap.size + 1 from by simp] at H0
  have HH := Lib.hid h
  clear h
  have hs' : (s.size : Int) ≤ 1000 := by omega
  have HS : Hid (s.size ≤ 1000000) := Lib.hid (by omega)
  clear hs
  go_enter Tryd.func6, Tryd.ntmps6
  go_wp2_with fail
  generalize ((w.alloc (.cells #[.int .i64 e, .int .i64 p, .int .i64 c, .int .i64 f, .int .i64 n] 23)).alloc (.cells #[.int .i64 e2, .int .i64 p2, .int .i64 c2, .int .i64 f2, .int .i64 n2] 23)) = v0 at *
  generalize w.heap.size + 1 = B1 at *
  generalize w.heap.size = B0 at *
  refine works_any hv.with.with H0 ?_
  intro w11 H11 I11
  have J11 := (J0.trans I11)
  clear I11 H0 J0
  have l0 := (H11.right).left.lt
  have x00 := Sat.read (H11.right).left.at 0
  have x01 := Sat.read (H11.right).left.at 1
  have x02 := Sat.read (H11.right).left.at 2
  have x03 := Sat.read (H11.right).left.at 3
  have x04 := Sat.read (H11.right).left.at 4
  have l1 := (H11).left.lt
  have x10 := Sat.read (H11).left.at 0
  have x11 := Sat.read (H11).left.at 1
  have x12 := Sat.read (H11).left.at 2
  have x13 := Sat.read (H11).left.at 3
  have x14 := Sat.read (H11).left.at 4
  simp only [List.getElem?_toArray, List.getElem?_cons_zero, List.getElem?_cons_succ] at x00 x01 x02 x03 x04 x10 x11 x12 x13 x14
  go_wp2_with fail
  clear l0 l1 x00 x01 x02 x03 x04 x10 x11 x12 x13 x14
  refine enc_no hg hv.with.with H11 ?_
  intro w12 H12 I12
  have J12 := (J11.trans I12)
  clear I12 H11 J11
  have l0 := (H12.right).left.lt
  have x00 := Sat.read (H12.right).left.at 0
  have x01 := Sat.read (H12.right).left.at 1
  have x02 := Sat.read (H12.right).left.at 2
  have x03 := Sat.read (H12.right).left.at 3
  have x04 := Sat.read (H12.right).left.at 4
  have l1 := (H12).left.lt
  have x10 := Sat.read (H12).left.at 0
  have x11 := Sat.read (H12).left.at 1
  have x12 := Sat.read (H12).left.at 2
  have x13 := Sat.read (H12).left.at 3
  have x14 := Sat.read (H12).left.at 4
  simp only [List.getElem?_toArray, List.getElem?_cons_zero, List.getElem?_cons_succ] at x00 x01 x02 x03 x04 x10 x11 x12 x13 x14
  go_wp2_with fail
  clear l0 l1 x00 x01 x02 x03 x04 x10 x11 x12 x13 x14
  refine enc_gen hv.with.with H12 ?_
  intro w13 H13 I13
  have J13 := (J12.trans I13)
  clear I13 H12 J12
  generalize Rt.encE ⟨e2, p2, c2, f2, n2⟩ = eb at *
  generalize Rt.encS ⟨e2, p2, c2, f2, n2⟩ = sb at *
  have l0 := (H13.right).left.lt
  have x00 := Sat.read (H13.right).left.at 0
  have x01 := Sat.read (H13.right).left.at 1
  have x02 := Sat.read (H13.right).left.at 2
  have x03 := Sat.read (H13.right).left.at 3
  have x04 := Sat.read (H13.right).left.at 4
  have l1 := (H13).left.lt
  have x10 := Sat.read (H13).left.at 0
  have x11 := Sat.read (H13).left.at 1
  have x12 := Sat.read (H13).left.at 2
  have x13 := Sat.read (H13).left.at 3
  have x14 := Sat.read (H13).left.at 4
  simp only [List.getElem?_toArray, List.getElem?_cons_zero, List.getElem?_cons_succ] at x00 x01 x02 x03 x04 x10 x11 x12 x13 x14
  go_wp2_with fail
  clear l0 l1 x00 x01 x02 x03 x04 x10 x11 x12 x13 x14
  refine dec_gen hv.with.with H13 HS.out h1.out h2.out ?_
  intro w14 H14 I14
  have J14 := (J13.trans I14)
  clear I14 H13 J13
  have l0 := (H14.right).left.lt
  have x00 := Sat.read (H14.right).left.at 0
  have x01 := Sat.read (H14.right).left.at 1
  have x02 := Sat.read (H14.right).left.at 2
  have x03 := Sat.read (H14.right).left.at 3
  have x04 := Sat.read (H14.right).left.at 4
  have l1 := (H14).left.lt
  have x10 := Sat.read (H14).left.at 0
  have x11 := Sat.read (H14).left.at 1
  have x12 := Sat.read (H14).left.at 2
  have x13 := Sat.read (H14).left.at 3
  have x14 := Sat.read (H14).left.at 4
  simp only [List.getElem?_toArray, List.getElem?_cons_zero, List.getElem?_cons_succ] at x00 x01 x02 x03 x04 x10 x11 x12 x13 x14
  have fin := HH.out _ ((H14.right.right).alloc (.cells #[.int .i64 xe, .int .i64 xp, .int .i64 xc, .int .i64 xf, .int .i64 xn] 23)) (J14.alloc (.cells #[.int .i64 xe, .int .i64 xp, .int .i64 xc, .int .i64 xf, .int .i64 xn] 23))
  clear HH H14 J14
  go_wp2_with fail
  exact fin

set_option maxRecDepth 100000 in
set_option maxHeartbeats 4000000 in
theorem newer_b (hv : Hv F) (hs : s.size ≤ 1000) (hg : Hid (Rt.good ⟨e, p, c, f, n⟩ = true)) (hk : Hid (Rt.good ⟨e2, p2, c2, f2, n2⟩ = false)) {xe xp xc xf xn : Int} {b : Bool} (h1 : Hid ((Rt.dec s).getD Rt.zero = ⟨xe, xp, xc, xf, xn⟩)) (h2 : Hid ((Rt.dec s).isSome = b)) (H : Sat F w) (h : ∀ w', Sat F w' → Io w w' → R (.returned (.bool true)) w') :
    Calls Tryd.prog 6 #[.agg #[.int .i64 e, .int .i64 p, .int .i64 c, .int .i64 f, .int .i64 n], .agg #[.int .i64 e2, .int .i64 p2, .int .i64 c2, .int .i64 f2, .int .i64 n2], .string s] w R := by
  have H0 := ((H.new (.cells #[.int .i64 e, .int .i64 p, .int .i64 c, .int .i64 f, .int .i64 n] 23)).new (.cells #[.int .i64 e2, .int .i64 p2, .int .i64 c2, .int .i64 f2, .int .i64 n2] 23))
  have J0 := (((Io.refl w).alloc (.cells #[.int .i64 e, .int .i64 p, .int .i64 c, .int .i64 f, .int .i64 n] 23)).alloc (.cells #[.int .i64 e2, .int .i64 p2, .int .i64 c2, .int .i64 f2, .int .i64 n2] 23))
  rw [show (w.alloc (.cells #[.int .i64 e, .int .i64 p, .int .i64 c, .int .i64 f, .int .i64 n] 23)).heap.size = w.heap.size + 1 from by simp] at H0
  have HH := Lib.hid h
  clear h
  have hs' : (s.size : Int) ≤ 1000 := by omega
  have HS : Hid (s.size ≤ 1000000) := Lib.hid (by omega)
  clear hs
  obtain ⟨t, T⟩ : ∃ t, Hid (t = tx (Rt.bytes ⟨e, p, c, f, n⟩)) := ⟨_, Lib.hid rfl⟩
  go_enter Tryd.func6, Tryd.ntmps6
  go_wp2_with fail
  generalize ((w.alloc (.cells #[.int .i64 e, .int .i64 p, .int .i64 c, .int .i64 f, .int .i64 n] 23)).alloc (.cells #[.int .i64 e2, .int .i64 p2, .int .i64 c2, .int .i64 f2, .int .i64 n2] 23)) = v0 at *
  generalize w.heap.size + 1 = B1 at *
  generalize w.heap.size = B0 at *
  refine works_any hv.with.with H0 ?_
  intro w11 H11 I11
  have J11 := (J0.trans I11)
  clear I11 H0 J0
  have l0 := (H11.right).left.lt
  have x00 := Sat.read (H11.right).left.at 0
  have x01 := Sat.read (H11.right).left.at 1
  have x02 := Sat.read (H11.right).left.at 2
  have x03 := Sat.read (H11.right).left.at 3
  have x04 := Sat.read (H11.right).left.at 4
  have l1 := (H11).left.lt
  have x10 := Sat.read (H11).left.at 0
  have x11 := Sat.read (H11).left.at 1
  have x12 := Sat.read (H11).left.at 2
  have x13 := Sat.read (H11).left.at 3
  have x14 := Sat.read (H11).left.at 4
  simp only [List.getElem?_toArray, List.getElem?_cons_zero, List.getElem?_cons_succ] at x00 x01 x02 x03 x04 x10 x11 x12 x13 x14
  go_wp2_with fail
  clear l0 l1 x00 x01 x02 x03 x04 x10 x11 x12 x13 x14
  refine enc_yes hg T hv.with.with H11 ?_
  intro w12 H12 I12
  have J12 := (J11.trans I12)
  clear I12 H11 J11
  have l0 := (H12.right).left.lt
  have x00 := Sat.read (H12.right).left.at 0
  have x01 := Sat.read (H12.right).left.at 1
  have x02 := Sat.read (H12.right).left.at 2
  have x03 := Sat.read (H12.right).left.at 3
  have x04 := Sat.read (H12.right).left.at 4
  have l1 := (H12).left.lt
  have x10 := Sat.read (H12).left.at 0
  have x11 := Sat.read (H12).left.at 1
  have x12 := Sat.read (H12).left.at 2
  have x13 := Sat.read (H12).left.at 3
  have x14 := Sat.read (H12).left.at 4
  simp only [List.getElem?_toArray, List.getElem?_cons_zero, List.getElem?_cons_succ] at x00 x01 x02 x03 x04 x10 x11 x12 x13 x14
  go_wp2_with fail
  clear l0 l1 x00 x01 x02 x03 x04 x10 x11 x12 x13 x14
  refine enc_no hk hv.with.with H12 ?_
  intro w13 H13 I13
  have J13 := (J12.trans I13)
  clear I13 H12 J12
  have l0 := (H13.right).left.lt
  have x00 := Sat.read (H13.right).left.at 0
  have x01 := Sat.read (H13.right).left.at 1
  have x02 := Sat.read (H13.right).left.at 2
  have x03 := Sat.read (H13.right).left.at 3
  have x04 := Sat.read (H13.right).left.at 4
  have l1 := (H13).left.lt
  have x10 := Sat.read (H13).left.at 0
  have x11 := Sat.read (H13).left.at 1
  have x12 := Sat.read (H13).left.at 2
  have x13 := Sat.read (H13).left.at 3
  have x14 := Sat.read (H13).left.at 4
  simp only [List.getElem?_toArray, List.getElem?_cons_zero, List.getElem?_cons_succ] at x00 x01 x02 x03 x04 x10 x11 x12 x13 x14
  go_wp2_with fail
  clear l0 l1 x00 x01 x02 x03 x04 x10 x11 x12 x13 x14
  refine dec_gen hv.with.with H13 HS.out h1.out h2.out ?_
  intro w14 H14 I14
  have J14 := (J13.trans I14)
  clear I14 H13 J13
  have l0 := (H14.right).left.lt
  have x00 := Sat.read (H14.right).left.at 0
  have x01 := Sat.read (H14.right).left.at 1
  have x02 := Sat.read (H14.right).left.at 2
  have x03 := Sat.read (H14.right).left.at 3
  have x04 := Sat.read (H14.right).left.at 4
  have l1 := (H14).left.lt
  have x10 := Sat.read (H14).left.at 0
  have x11 := Sat.read (H14).left.at 1
  have x12 := Sat.read (H14).left.at 2
  have x13 := Sat.read (H14).left.at 3
  have x14 := Sat.read (H14).left.at 4
  simp only [List.getElem?_toArray, List.getElem?_cons_zero, List.getElem?_cons_succ] at x00 x01 x02 x03 x04 x10 x11 x12 x13 x14
  have fin := HH.out _ ((H14.right.right).alloc (.cells #[.int .i64 xe, .int .i64 xp, .int .i64 xc, .int .i64 xf, .int .i64 xn] 23)) (J14.alloc (.cells #[.int .i64 xe, .int .i64 xp, .int .i64 xc, .int .i64 xf, .int .i64 xn] 23))
  clear HH H14 J14
  go_wp2_with fail
  exact fin

set_option maxRecDepth 100000 in
set_option maxHeartbeats 4000000 in
theorem newer_s (hv : Hv F) (hs : s.size ≤ 1000) (hg : Hid (Rt.good ⟨e, p, c, f, n⟩ = true)) (hk : Hid (Rt.good ⟨e2, p2, c2, f2, n2⟩ = true)) {xe xp xc xf xn : Int} (h1 : Hid ((Rt.dec s).getD Rt.zero = ⟨xe, xp, xc, xf, xn⟩)) (h2 : Hid ((Rt.dec s).isSome = true)) (H : Sat F w) (h : ∀ w', Sat F w' → Io w w' → R (.returned (.bool true)) w') :
    Calls Tryd.prog 6 #[.agg #[.int .i64 e, .int .i64 p, .int .i64 c, .int .i64 f, .int .i64 n], .agg #[.int .i64 e2, .int .i64 p2, .int .i64 c2, .int .i64 f2, .int .i64 n2], .string s] w R := by
  have H0 := ((H.new (.cells #[.int .i64 e, .int .i64 p, .int .i64 c, .int .i64 f, .int .i64 n] 23)).new (.cells #[.int .i64 e2, .int .i64 p2, .int .i64 c2, .int .i64 f2, .int .i64 n2] 23))
  have J0 := (((Io.refl w).alloc (.cells #[.int .i64 e, .int .i64 p, .int .i64 c, .int .i64 f, .int .i64 n] 23)).alloc (.cells #[.int .i64 e2, .int .i64 p2, .int .i64 c2, .int .i64 f2, .int .i64 n2] 23))
  rw [show (w.alloc (.cells #[.int .i64 e, .int .i64 p, .int .i64 c, .int .i64 f, .int .i64 n] 23)).heap.size = w.heap.size + 1 from by simp] at H0
  have HH := Lib.hid h
  clear h
  have hs' : (s.size : Int) ≤ 1000 := by omega
  have HS : Hid (s.size ≤ 1000000) := Lib.hid (by omega)
  clear hs
  obtain ⟨t, T⟩ : ∃ t, Hid (t = tx (Rt.bytes ⟨e, p, c, f, n⟩)) := ⟨_, Lib.hid rfl⟩
  obtain ⟨u, U⟩ : ∃ t, Hid (t = tx (Rt.bytes ⟨e2, p2, c2, f2, n2⟩)) := ⟨_, Lib.hid rfl⟩
  go_enter Tryd.func6, Tryd.ntmps6
  go_wp2_with fail
  generalize ((w.alloc (.cells #[.int .i64 e, .int .i64 p, .int .i64 c, .int .i64 f, .int .i64 n] 23)).alloc (.cells #[.int .i64 e2, .int .i64 p2, .int .i64 c2, .int .i64 f2, .int .i64 n2] 23)) = v0 at *
  generalize w.heap.size + 1 = B1 at *
  generalize w.heap.size = B0 at *
  refine works_any hv.with.with H0 ?_
  intro w11 H11 I11
  have J11 := (J0.trans I11)
  clear I11 H0 J0
  have l0 := (H11.right).left.lt
  have x00 := Sat.read (H11.right).left.at 0
  have x01 := Sat.read (H11.right).left.at 1
  have x02 := Sat.read (H11.right).left.at 2
  have x03 := Sat.read (H11.right).left.at 3
  have x04 := Sat.read (H11.right).left.at 4
  have l1 := (H11).left.lt
  have x10 := Sat.read (H11).left.at 0
  have x11 := Sat.read (H11).left.at 1
  have x12 := Sat.read (H11).left.at 2
  have x13 := Sat.read (H11).left.at 3
  have x14 := Sat.read (H11).left.at 4
  simp only [List.getElem?_toArray, List.getElem?_cons_zero, List.getElem?_cons_succ] at x00 x01 x02 x03 x04 x10 x11 x12 x13 x14
  go_wp2_with fail
  clear l0 l1 x00 x01 x02 x03 x04 x10 x11 x12 x13 x14
  refine enc_yes hg T hv.with.with H11 ?_
  intro w12 H12 I12
  have J12 := (J11.trans I12)
  clear I12 H11 J11
  have l0 := (H12.right).left.lt
  have x00 := Sat.read (H12.right).left.at 0
  have x01 := Sat.read (H12.right).left.at 1
  have x02 := Sat.read (H12.right).left.at 2
  have x03 := Sat.read (H12.right).left.at 3
  have x04 := Sat.read (H12.right).left.at 4
  have l1 := (H12).left.lt
  have x10 := Sat.read (H12).left.at 0
  have x11 := Sat.read (H12).left.at 1
  have x12 := Sat.read (H12).left.at 2
  have x13 := Sat.read (H12).left.at 3
  have x14 := Sat.read (H12).left.at 4
  simp only [List.getElem?_toArray, List.getElem?_cons_zero, List.getElem?_cons_succ] at x00 x01 x02 x03 x04 x10 x11 x12 x13 x14
  go_wp2_with fail
  clear l0 l1 x00 x01 x02 x03 x04 x10 x11 x12 x13 x14
  refine enc_yes hk U hv.with.with H12 ?_
  intro w13 H13 I13
  have J13 := (J12.trans I13)
  clear I13 H12 J12
  have l0 := (H13.right).left.lt
  have x00 := Sat.read (H13.right).left.at 0
  have x01 := Sat.read (H13.right).left.at 1
  have x02 := Sat.read (H13.right).left.at 2
  have x03 := Sat.read (H13.right).left.at 3
  have x04 := Sat.read (H13.right).left.at 4
  have l1 := (H13).left.lt
  have x10 := Sat.read (H13).left.at 0
  have x11 := Sat.read (H13).left.at 1
  have x12 := Sat.read (H13).left.at 2
  have x13 := Sat.read (H13).left.at 3
  have x14 := Sat.read (H13).left.at 4
  simp only [List.getElem?_toArray, List.getElem?_cons_zero, List.getElem?_cons_succ] at x00 x01 x02 x03 x04 x10 x11 x12 x13 x14
  go_wp2_with fail
  clear l0 l1 x00 x01 x02 x03 x04 x10 x11 x12 x13 x14
  refine dec_gen hv.with.with H13 HS.out h1.out h2.out ?_
  intro w14 H14 I14
  have J14 := (J13.trans I14)
  clear I14 H13 J13
  have l0 := (H14.right).left.lt
  have x00 := Sat.read (H14.right).left.at 0
  have x01 := Sat.read (H14.right).left.at 1
  have x02 := Sat.read (H14.right).left.at 2
  have x03 := Sat.read (H14.right).left.at 3
  have x04 := Sat.read (H14.right).left.at 4
  have l1 := (H14).left.lt
  have x10 := Sat.read (H14).left.at 0
  have x11 := Sat.read (H14).left.at 1
  have x12 := Sat.read (H14).left.at 2
  have x13 := Sat.read (H14).left.at 3
  have x14 := Sat.read (H14).left.at 4
  simp only [List.getElem?_toArray, List.getElem?_cons_zero, List.getElem?_cons_succ] at x00 x01 x02 x03 x04 x10 x11 x12 x13 x14
  have fin := HH.out _ ((H14.right.right).alloc (.cells #[.int .i64 xe, .int .i64 xp, .int .i64 xc, .int .i64 xf, .int .i64 xn] 23)) (J14.alloc (.cells #[.int .i64 xe, .int .i64 xp, .int .i64 xc, .int .i64 xf, .int .i64 xn] 23))
  clear HH H14 J14
  go_wp2_with fail
  exact fin

set_option maxRecDepth 100000 in
set_option maxHeartbeats 4000000 in
theorem newer_lt (hv : Hv F) (hs : s.size ≤ 1000) (hg : Hid (Rt.good ⟨e, p, c, f, n⟩ = true)) (hk : Hid (Rt.good ⟨e2, p2, c2, f2, n2⟩ = true)) (ed : Hid (Rt.dec s = none)) (hc : e < e2) (H : Sat F w) (h : ∀ w', Sat F w' → Io w w' → R (.returned (.bool true)) w') :
    Calls Tryd.prog 6 #[.agg #[.int .i64 e, .int .i64 p, .int .i64 c, .int .i64 f, .int .i64 n], .agg #[.int .i64 e2, .int .i64 p2, .int .i64 c2, .int .i64 f2, .int .i64 n2], .string s] w R := by
  have H0 := ((H.new (.cells #[.int .i64 e, .int .i64 p, .int .i64 c, .int .i64 f, .int .i64 n] 23)).new (.cells #[.int .i64 e2, .int .i64 p2, .int .i64 c2, .int .i64 f2, .int .i64 n2] 23))
  have J0 := (((Io.refl w).alloc (.cells #[.int .i64 e, .int .i64 p, .int .i64 c, .int .i64 f, .int .i64 n] 23)).alloc (.cells #[.int .i64 e2, .int .i64 p2, .int .i64 c2, .int .i64 f2, .int .i64 n2] 23))
  rw [show (w.alloc (.cells #[.int .i64 e, .int .i64 p, .int .i64 c, .int .i64 f, .int .i64 n] 23)).heap.size = w.heap.size + 1 from by simp] at H0
  have HH := Lib.hid h
  clear h
  have hs' : (s.size : Int) ≤ 1000 := by omega
  have HS : Hid (s.size ≤ 1000000) := Lib.hid (by omega)
  clear hs
  obtain ⟨t, T⟩ : ∃ t, Hid (t = tx (Rt.bytes ⟨e, p, c, f, n⟩)) := ⟨_, Lib.hid rfl⟩
  obtain ⟨u, U⟩ : ∃ t, Hid (t = tx (Rt.bytes ⟨e2, p2, c2, f2, n2⟩)) := ⟨_, Lib.hid rfl⟩
  have D1 := Lib.hid (dec_of hg T)
  have D2 := Lib.hid (dec_of hk U)
  have S1 := Lib.hid (small_of T)
  have S2 := Lib.hid (small_of U)
  have g1 : decide (e2 > e) = true := by simpa using hc
  have g2 : (e == e2) = false := by rw [beq_eq_false_iff_ne]; omega
  have HC := Lib.hid hc
  have g0 := hc
  clear hc
  go_enter Tryd.func6, Tryd.ntmps6
  go_wp2_with fail
  generalize ((w.alloc (.cells #[.int .i64 e, .int .i64 p, .int .i64 c, .int .i64 f, .int .i64 n] 23)).alloc (.cells #[.int .i64 e2, .int .i64 p2, .int .i64 c2, .int .i64 f2, .int .i64 n2] 23)) = v0 at *
  generalize w.heap.size + 1 = B1 at *
  generalize w.heap.size = B0 at *
  refine works_any hv.with.with H0 ?_
  intro w11 H11 I11
  have J11 := (J0.trans I11)
  clear I11 H0 J0
  have l0 := (H11.right).left.lt
  have x00 := Sat.read (H11.right).left.at 0
  have x01 := Sat.read (H11.right).left.at 1
  have x02 := Sat.read (H11.right).left.at 2
  have x03 := Sat.read (H11.right).left.at 3
  have x04 := Sat.read (H11.right).left.at 4
  have l1 := (H11).left.lt
  have x10 := Sat.read (H11).left.at 0
  have x11 := Sat.read (H11).left.at 1
  have x12 := Sat.read (H11).left.at 2
  have x13 := Sat.read (H11).left.at 3
  have x14 := Sat.read (H11).left.at 4
  simp only [List.getElem?_toArray, List.getElem?_cons_zero, List.getElem?_cons_succ] at x00 x01 x02 x03 x04 x10 x11 x12 x13 x14
  go_wp2_with fail
  clear l0 l1 x00 x01 x02 x03 x04 x10 x11 x12 x13 x14
  refine enc_yes hg T hv.with.with H11 ?_
  intro w12 H12 I12
  have J12 := (J11.trans I12)
  clear I12 H11 J11
  have l0 := (H12.right).left.lt
  have x00 := Sat.read (H12.right).left.at 0
  have x01 := Sat.read (H12.right).left.at 1
  have x02 := Sat.read (H12.right).left.at 2
  have x03 := Sat.read (H12.right).left.at 3
  have x04 := Sat.read (H12.right).left.at 4
  have l1 := (H12).left.lt
  have x10 := Sat.read (H12).left.at 0
  have x11 := Sat.read (H12).left.at 1
  have x12 := Sat.read (H12).left.at 2
  have x13 := Sat.read (H12).left.at 3
  have x14 := Sat.read (H12).left.at 4
  simp only [List.getElem?_toArray, List.getElem?_cons_zero, List.getElem?_cons_succ] at x00 x01 x02 x03 x04 x10 x11 x12 x13 x14
  go_wp2_with fail
  clear l0 l1 x00 x01 x02 x03 x04 x10 x11 x12 x13 x14
  refine enc_yes hk U hv.with.with H12 ?_
  intro w13 H13 I13
  have J13 := (J12.trans I13)
  clear I13 H12 J12
  have l0 := (H13.right).left.lt
  have x00 := Sat.read (H13.right).left.at 0
  have x01 := Sat.read (H13.right).left.at 1
  have x02 := Sat.read (H13.right).left.at 2
  have x03 := Sat.read (H13.right).left.at 3
  have x04 := Sat.read (H13.right).left.at 4
  have l1 := (H13).left.lt
  have x10 := Sat.read (H13).left.at 0
  have x11 := Sat.read (H13).left.at 1
  have x12 := Sat.read (H13).left.at 2
  have x13 := Sat.read (H13).left.at 3
  have x14 := Sat.read (H13).left.at 4
  simp only [List.getElem?_toArray, List.getElem?_cons_zero, List.getElem?_cons_succ] at x00 x01 x02 x03 x04 x10 x11 x12 x13 x14
  go_wp2_with fail
  clear l0 l1 x00 x01 x02 x03 x04 x10 x11 x12 x13 x14
  refine dec_none hv.with.with H13 s HS.out ed.out ?_
  intro w14 H14 I14
  have J14 := (J13.trans I14)
  clear I14 H13 J13
  have H34 := H14.new (.cells #[.int .i64 0, .int .i64 0, .int .i64 0, .int .i64 0, .int .i64 0] 23)
  have J34 := J14.alloc (.cells #[.int .i64 0, .int .i64 0, .int .i64 0, .int .i64 0, .int .i64 0] 23)
  clear H14 J14
  have l0 := (H34.right).left.lt
  have x00 := Sat.read (H34.right).left.at 0
  have x01 := Sat.read (H34.right).left.at 1
  have x02 := Sat.read (H34.right).left.at 2
  have x03 := Sat.read (H34.right).left.at 3
  have x04 := Sat.read (H34.right).left.at 4
  have l1 := (H34).left.lt
  have x10 := Sat.read (H34).left.at 0
  have x11 := Sat.read (H34).left.at 1
  have x12 := Sat.read (H34).left.at 2
  have x13 := Sat.read (H34).left.at 3
  have x14 := Sat.read (H34).left.at 4
  simp only [List.getElem?_toArray, List.getElem?_cons_zero, List.getElem?_cons_succ] at x00 x01 x02 x03 x04 x10 x11 x12 x13 x14
  go_wp2_with fail
  clear l0 l1 x00 x01 x02 x03 x04 x10 x11 x12 x13 x14
  generalize w14.alloc (.cells #[.int .i64 0, .int .i64 0, .int .i64 0, .int .i64 0, .int .i64 0] 23) = v2 at *
  generalize w14.heap.size = B2 at *
  refine pick_yx hv.with.with.with H34 _ _ S1.out S2.out D1.out D2.out HC.out ?_
  intro w15 H15 I15
  have J15 := (J34.trans I15)
  clear I15 H34 J34
  have H35 := H15.new (.cells #[.int .i64 e2, .int .i64 p2, .int .i64 c2, .int .i64 f2, .int .i64 n2] 23)
  have J35 := J15.alloc (.cells #[.int .i64 e2, .int .i64 p2, .int .i64 c2, .int .i64 f2, .int .i64 n2] 23)
  clear H15 J15
  have l0 := (H35.right.right).left.lt
  have x00 := Sat.read (H35.right.right).left.at 0
  have x01 := Sat.read (H35.right.right).left.at 1
  have x02 := Sat.read (H35.right.right).left.at 2
  have x03 := Sat.read (H35.right.right).left.at 3
  have x04 := Sat.read (H35.right.right).left.at 4
  have l1 := (H35.right).left.lt
  have x10 := Sat.read (H35.right).left.at 0
  have x11 := Sat.read (H35.right).left.at 1
  have x12 := Sat.read (H35.right).left.at 2
  have x13 := Sat.read (H35.right).left.at 3
  have x14 := Sat.read (H35.right).left.at 4
  have l2 := (H35).left.lt
  have x20 := Sat.read (H35).left.at 0
  have x21 := Sat.read (H35).left.at 1
  have x22 := Sat.read (H35).left.at 2
  have x23 := Sat.read (H35).left.at 3
  have x24 := Sat.read (H35).left.at 4
  simp only [List.getElem?_toArray, List.getElem?_cons_zero, List.getElem?_cons_succ] at x00 x01 x02 x03 x04 x10 x11 x12 x13 x14 x20 x21 x22 x23 x24
  go_wp2_with fail
  clear l0 l1 l2 x00 x01 x02 x03 x04 x10 x11 x12 x13 x14 x20 x21 x22 x23 x24
  generalize w15.alloc (.cells #[.int .i64 e2, .int .i64 p2, .int .i64 c2, .int .i64 f2, .int .i64 n2] 23) = v3 at *
  generalize w15.heap.size = B3 at *
  refine pick_xy hv.with.with.with.with H35 _ _ S2.out S1.out D2.out D1.out (Int.le_of_lt HC.out) ?_
  intro w16 H16 I16
  have J16 := (J35.trans I16)
  clear I16 H35 J35
  have H36 := H16.new (.cells #[.int .i64 e2, .int .i64 p2, .int .i64 c2, .int .i64 f2, .int .i64 n2] 23)
  have J36 := J16.alloc (.cells #[.int .i64 e2, .int .i64 p2, .int .i64 c2, .int .i64 f2, .int .i64 n2] 23)
  clear H16 J16
  have l0 := (H36.right.right.right).left.lt
  have x00 := Sat.read (H36.right.right.right).left.at 0
  have x01 := Sat.read (H36.right.right.right).left.at 1
  have x02 := Sat.read (H36.right.right.right).left.at 2
  have x03 := Sat.read (H36.right.right.right).left.at 3
  have x04 := Sat.read (H36.right.right.right).left.at 4
  have l1 := (H36.right.right).left.lt
  have x10 := Sat.read (H36.right.right).left.at 0
  have x11 := Sat.read (H36.right.right).left.at 1
  have x12 := Sat.read (H36.right.right).left.at 2
  have x13 := Sat.read (H36.right.right).left.at 3
  have x14 := Sat.read (H36.right.right).left.at 4
  have l2 := (H36.right).left.lt
  have x20 := Sat.read (H36.right).left.at 0
  have x21 := Sat.read (H36.right).left.at 1
  have x22 := Sat.read (H36.right).left.at 2
  have x23 := Sat.read (H36.right).left.at 3
  have x24 := Sat.read (H36.right).left.at 4
  have l3 := (H36).left.lt
  have x30 := Sat.read (H36).left.at 0
  have x31 := Sat.read (H36).left.at 1
  have x32 := Sat.read (H36).left.at 2
  have x33 := Sat.read (H36).left.at 3
  have x34 := Sat.read (H36).left.at 4
  simp only [List.getElem?_toArray, List.getElem?_cons_zero, List.getElem?_cons_succ] at x00 x01 x02 x03 x04 x10 x11 x12 x13 x14 x20 x21 x22 x23 x24 x30 x31 x32 x33 x34
  go_wp2_with fail
  clear l0 l1 l2 l3 x00 x01 x02 x03 x04 x10 x11 x12 x13 x14 x20 x21 x22 x23 x24 x30 x31 x32 x33 x34
  generalize w16.alloc (.cells #[.int .i64 e2, .int .i64 p2, .int .i64 c2, .int .i64 f2, .int .i64 n2] 23) = v4 at *
  generalize w16.heap.size = B4 at *
  refine pick_xn hv.with.with.with.with.with H36 _ _ S1.out HS.out D1.out ed.out ?_
  intro w17 H17 I17
  have J17 := (J36.trans I17)
  clear I17 H36 J36
  have H37 := H17.new (.cells #[.int .i64 e, .int .i64 p, .int .i64 c, .int .i64 f, .int .i64 n] 23)
  have J37 := J17.alloc (.cells #[.int .i64 e, .int .i64 p, .int .i64 c, .int .i64 f, .int .i64 n] 23)
  clear H17 J17
  have l0 := (H37.right.right.right.right).left.lt
  have x00 := Sat.read (H37.right.right.right.right).left.at 0
  have x01 := Sat.read (H37.right.right.right.right).left.at 1
  have x02 := Sat.read (H37.right.right.right.right).left.at 2
  have x03 := Sat.read (H37.right.right.right.right).left.at 3
  have x04 := Sat.read (H37.right.right.right.right).left.at 4
  have l1 := (H37.right.right.right).left.lt
  have x10 := Sat.read (H37.right.right.right).left.at 0
  have x11 := Sat.read (H37.right.right.right).left.at 1
  have x12 := Sat.read (H37.right.right.right).left.at 2
  have x13 := Sat.read (H37.right.right.right).left.at 3
  have x14 := Sat.read (H37.right.right.right).left.at 4
  have l2 := (H37.right.right).left.lt
  have x20 := Sat.read (H37.right.right).left.at 0
  have x21 := Sat.read (H37.right.right).left.at 1
  have x22 := Sat.read (H37.right.right).left.at 2
  have x23 := Sat.read (H37.right.right).left.at 3
  have x24 := Sat.read (H37.right.right).left.at 4
  have l3 := (H37.right).left.lt
  have x30 := Sat.read (H37.right).left.at 0
  have x31 := Sat.read (H37.right).left.at 1
  have x32 := Sat.read (H37.right).left.at 2
  have x33 := Sat.read (H37.right).left.at 3
  have x34 := Sat.read (H37.right).left.at 4
  have l4 := (H37).left.lt
  have x40 := Sat.read (H37).left.at 0
  have x41 := Sat.read (H37).left.at 1
  have x42 := Sat.read (H37).left.at 2
  have x43 := Sat.read (H37).left.at 3
  have x44 := Sat.read (H37).left.at 4
  simp only [List.getElem?_toArray, List.getElem?_cons_zero, List.getElem?_cons_succ] at x00 x01 x02 x03 x04 x10 x11 x12 x13 x14 x20 x21 x22 x23 x24 x30 x31 x32 x33 x34 x40 x41 x42 x43 x44
  go_wp2_with fail
  clear l0 l1 l2 l3 l4 x00 x01 x02 x03 x04 x10 x11 x12 x13 x14 x20 x21 x22 x23 x24 x30 x31 x32 x33 x34 x40 x41 x42 x43 x44
  generalize w17.alloc (.cells #[.int .i64 e, .int .i64 p, .int .i64 c, .int .i64 f, .int .i64 n] 23) = v5 at *
  generalize w17.heap.size = B5 at *
  refine pick_ny hv.with.with.with.with.with.with H37 _ _ HS.out S1.out ed.out D1.out ?_
  intro w18 H18 I18
  have J18 := (J37.trans I18)
  clear I18 H37 J37
  have H38 := H18.new (.cells #[.int .i64 e, .int .i64 p, .int .i64 c, .int .i64 f, .int .i64 n] 23)
  have J38 := J18.alloc (.cells #[.int .i64 e, .int .i64 p, .int .i64 c, .int .i64 f, .int .i64 n] 23)
  clear H18 J18
  have l0 := (H38.right.right.right.right.right).left.lt
  have x00 := Sat.read (H38.right.right.right.right.right).left.at 0
  have x01 := Sat.read (H38.right.right.right.right.right).left.at 1
  have x02 := Sat.read (H38.right.right.right.right.right).left.at 2
  have x03 := Sat.read (H38.right.right.right.right.right).left.at 3
  have x04 := Sat.read (H38.right.right.right.right.right).left.at 4
  have l1 := (H38.right.right.right.right).left.lt
  have x10 := Sat.read (H38.right.right.right.right).left.at 0
  have x11 := Sat.read (H38.right.right.right.right).left.at 1
  have x12 := Sat.read (H38.right.right.right.right).left.at 2
  have x13 := Sat.read (H38.right.right.right.right).left.at 3
  have x14 := Sat.read (H38.right.right.right.right).left.at 4
  have l2 := (H38.right.right.right).left.lt
  have x20 := Sat.read (H38.right.right.right).left.at 0
  have x21 := Sat.read (H38.right.right.right).left.at 1
  have x22 := Sat.read (H38.right.right.right).left.at 2
  have x23 := Sat.read (H38.right.right.right).left.at 3
  have x24 := Sat.read (H38.right.right.right).left.at 4
  have l3 := (H38.right.right).left.lt
  have x30 := Sat.read (H38.right.right).left.at 0
  have x31 := Sat.read (H38.right.right).left.at 1
  have x32 := Sat.read (H38.right.right).left.at 2
  have x33 := Sat.read (H38.right.right).left.at 3
  have x34 := Sat.read (H38.right.right).left.at 4
  have l4 := (H38.right).left.lt
  have x40 := Sat.read (H38.right).left.at 0
  have x41 := Sat.read (H38.right).left.at 1
  have x42 := Sat.read (H38.right).left.at 2
  have x43 := Sat.read (H38.right).left.at 3
  have x44 := Sat.read (H38.right).left.at 4
  have l5 := (H38).left.lt
  have x50 := Sat.read (H38).left.at 0
  have x51 := Sat.read (H38).left.at 1
  have x52 := Sat.read (H38).left.at 2
  have x53 := Sat.read (H38).left.at 3
  have x54 := Sat.read (H38).left.at 4
  simp only [List.getElem?_toArray, List.getElem?_cons_zero, List.getElem?_cons_succ] at x00 x01 x02 x03 x04 x10 x11 x12 x13 x14 x20 x21 x22 x23 x24 x30 x31 x32 x33 x34 x40 x41 x42 x43 x44 x50 x51 x52 x53 x54
  go_wp2_with fail
  clear l0 l1 l2 l3 l4 l5 x00 x01 x02 x03 x04 x10 x11 x12 x13 x14 x20 x21 x22 x23 x24 x30 x31 x32 x33 x34 x40 x41 x42 x43 x44 x50 x51 x52 x53 x54
  generalize w18.alloc (.cells #[.int .i64 e, .int .i64 p, .int .i64 c, .int .i64 f, .int .i64 n] 23) = v6 at *
  generalize w18.heap.size = B6 at *
  refine pick_nn hv.with.with.with.with.with.with.with H38 _ _ HS.out HS.out ed.out ed.out ?_
  intro w19 H19 I19
  have J19 := (J38.trans I19)
  clear I19 H38 J38
  have l0 := (H19.right.right.right.right.right.right).left.lt
  have x00 := Sat.read (H19.right.right.right.right.right.right).left.at 0
  have x01 := Sat.read (H19.right.right.right.right.right.right).left.at 1
  have x02 := Sat.read (H19.right.right.right.right.right.right).left.at 2
  have x03 := Sat.read (H19.right.right.right.right.right.right).left.at 3
  have x04 := Sat.read (H19.right.right.right.right.right.right).left.at 4
  have l1 := (H19.right.right.right.right.right).left.lt
  have x10 := Sat.read (H19.right.right.right.right.right).left.at 0
  have x11 := Sat.read (H19.right.right.right.right.right).left.at 1
  have x12 := Sat.read (H19.right.right.right.right.right).left.at 2
  have x13 := Sat.read (H19.right.right.right.right.right).left.at 3
  have x14 := Sat.read (H19.right.right.right.right.right).left.at 4
  have l2 := (H19.right.right.right.right).left.lt
  have x20 := Sat.read (H19.right.right.right.right).left.at 0
  have x21 := Sat.read (H19.right.right.right.right).left.at 1
  have x22 := Sat.read (H19.right.right.right.right).left.at 2
  have x23 := Sat.read (H19.right.right.right.right).left.at 3
  have x24 := Sat.read (H19.right.right.right.right).left.at 4
  have l3 := (H19.right.right.right).left.lt
  have x30 := Sat.read (H19.right.right.right).left.at 0
  have x31 := Sat.read (H19.right.right.right).left.at 1
  have x32 := Sat.read (H19.right.right.right).left.at 2
  have x33 := Sat.read (H19.right.right.right).left.at 3
  have x34 := Sat.read (H19.right.right.right).left.at 4
  have l4 := (H19.right.right).left.lt
  have x40 := Sat.read (H19.right.right).left.at 0
  have x41 := Sat.read (H19.right.right).left.at 1
  have x42 := Sat.read (H19.right.right).left.at 2
  have x43 := Sat.read (H19.right.right).left.at 3
  have x44 := Sat.read (H19.right.right).left.at 4
  have l5 := (H19.right).left.lt
  have x50 := Sat.read (H19.right).left.at 0
  have x51 := Sat.read (H19.right).left.at 1
  have x52 := Sat.read (H19.right).left.at 2
  have x53 := Sat.read (H19.right).left.at 3
  have x54 := Sat.read (H19.right).left.at 4
  have l6 := (H19).left.lt
  have x60 := Sat.read (H19).left.at 0
  have x61 := Sat.read (H19).left.at 1
  have x62 := Sat.read (H19).left.at 2
  have x63 := Sat.read (H19).left.at 3
  have x64 := Sat.read (H19).left.at 4
  simp only [List.getElem?_toArray, List.getElem?_cons_zero, List.getElem?_cons_succ] at x00 x01 x02 x03 x04 x10 x11 x12 x13 x14 x20 x21 x22 x23 x24 x30 x31 x32 x33 x34 x40 x41 x42 x43 x44 x50 x51 x52 x53 x54 x60 x61 x62 x63 x64
  have fin := HH.out _ (((H19.right.right.right.right.right.right.right).alloc (.cells #[.int .i64 0, .int .i64 0, .int .i64 0, .int .i64 0, .int .i64 0] 23)).alloc (.cells #[.int .i64 e2, .int .i64 p2, .int .i64 c2, .int .i64 f2, .int .i64 n2] 23)) ((J19.alloc (.cells #[.int .i64 0, .int .i64 0, .int .i64 0, .int .i64 0, .int .i64 0] 23)).alloc (.cells #[.int .i64 e2, .int .i64 p2, .int .i64 c2, .int .i64 f2, .int .i64 n2] 23))
  clear HH H19 J19
  go_wp2_with fail
  exact fin

set_option maxRecDepth 100000 in
set_option maxHeartbeats 4000000 in
theorem newer_gt (hv : Hv F) (hs : s.size ≤ 1000) (hg : Hid (Rt.good ⟨e, p, c, f, n⟩ = true)) (hk : Hid (Rt.good ⟨e2, p2, c2, f2, n2⟩ = true)) (ed : Hid (Rt.dec s = none)) (hc : e2 < e) (H : Sat F w) (h : ∀ w', Sat F w' → Io w w' → R (.returned (.bool true)) w') :
    Calls Tryd.prog 6 #[.agg #[.int .i64 e, .int .i64 p, .int .i64 c, .int .i64 f, .int .i64 n], .agg #[.int .i64 e2, .int .i64 p2, .int .i64 c2, .int .i64 f2, .int .i64 n2], .string s] w R := by
  have H0 := ((H.new (.cells #[.int .i64 e, .int .i64 p, .int .i64 c, .int .i64 f, .int .i64 n] 23)).new (.cells #[.int .i64 e2, .int .i64 p2, .int .i64 c2, .int .i64 f2, .int .i64 n2] 23))
  have J0 := (((Io.refl w).alloc (.cells #[.int .i64 e, .int .i64 p, .int .i64 c, .int .i64 f, .int .i64 n] 23)).alloc (.cells #[.int .i64 e2, .int .i64 p2, .int .i64 c2, .int .i64 f2, .int .i64 n2] 23))
  rw [show (w.alloc (.cells #[.int .i64 e, .int .i64 p, .int .i64 c, .int .i64 f, .int .i64 n] 23)).heap.size = w.heap.size + 1 from by simp] at H0
  have HH := Lib.hid h
  clear h
  have hs' : (s.size : Int) ≤ 1000 := by omega
  have HS : Hid (s.size ≤ 1000000) := Lib.hid (by omega)
  clear hs
  obtain ⟨t, T⟩ : ∃ t, Hid (t = tx (Rt.bytes ⟨e, p, c, f, n⟩)) := ⟨_, Lib.hid rfl⟩
  obtain ⟨u, U⟩ : ∃ t, Hid (t = tx (Rt.bytes ⟨e2, p2, c2, f2, n2⟩)) := ⟨_, Lib.hid rfl⟩
  have D1 := Lib.hid (dec_of hg T)
  have D2 := Lib.hid (dec_of hk U)
  have S1 := Lib.hid (small_of T)
  have S2 := Lib.hid (small_of U)
  have g1 : decide (e2 > e) = false := by simp; omega
  have g2 : (e == e2) = false := by rw [beq_eq_false_iff_ne]; omega
  have HC := Lib.hid hc
  have g0 := hc
  clear hc
  go_enter Tryd.func6, Tryd.ntmps6
  go_wp2_with fail
  generalize ((w.alloc (.cells #[.int .i64 e, .int .i64 p, .int .i64 c, .int .i64 f, .int .i64 n] 23)).alloc (.cells #[.int .i64 e2, .int .i64 p2, .int .i64 c2, .int .i64 f2, .int .i64 n2] 23)) = v0 at *
  generalize w.heap.size + 1 = B1 at *
  generalize w.heap.size = B0 at *
  refine works_any hv.with.with H0 ?_
  intro w11 H11 I11
  have J11 := (J0.trans I11)
  clear I11 H0 J0
  have l0 := (H11.right).left.lt
  have x00 := Sat.read (H11.right).left.at 0
  have x01 := Sat.read (H11.right).left.at 1
  have x02 := Sat.read (H11.right).left.at 2
  have x03 := Sat.read (H11.right).left.at 3
  have x04 := Sat.read (H11.right).left.at 4
  have l1 := (H11).left.lt
  have x10 := Sat.read (H11).left.at 0
  have x11 := Sat.read (H11).left.at 1
  have x12 := Sat.read (H11).left.at 2
  have x13 := Sat.read (H11).left.at 3
  have x14 := Sat.read (H11).left.at 4
  simp only [List.getElem?_toArray, List.getElem?_cons_zero, List.getElem?_cons_succ] at x00 x01 x02 x03 x04 x10 x11 x12 x13 x14
  go_wp2_with fail
  clear l0 l1 x00 x01 x02 x03 x04 x10 x11 x12 x13 x14
  refine enc_yes hg T hv.with.with H11 ?_
  intro w12 H12 I12
  have J12 := (J11.trans I12)
  clear I12 H11 J11
  have l0 := (H12.right).left.lt
  have x00 := Sat.read (H12.right).left.at 0
  have x01 := Sat.read (H12.right).left.at 1
  have x02 := Sat.read (H12.right).left.at 2
  have x03 := Sat.read (H12.right).left.at 3
  have x04 := Sat.read (H12.right).left.at 4
  have l1 := (H12).left.lt
  have x10 := Sat.read (H12).left.at 0
  have x11 := Sat.read (H12).left.at 1
  have x12 := Sat.read (H12).left.at 2
  have x13 := Sat.read (H12).left.at 3
  have x14 := Sat.read (H12).left.at 4
  simp only [List.getElem?_toArray, List.getElem?_cons_zero, List.getElem?_cons_succ] at x00 x01 x02 x03 x04 x10 x11 x12 x13 x14
  go_wp2_with fail
  clear l0 l1 x00 x01 x02 x03 x04 x10 x11 x12 x13 x14
  refine enc_yes hk U hv.with.with H12 ?_
  intro w13 H13 I13
  have J13 := (J12.trans I13)
  clear I13 H12 J12
  have l0 := (H13.right).left.lt
  have x00 := Sat.read (H13.right).left.at 0
  have x01 := Sat.read (H13.right).left.at 1
  have x02 := Sat.read (H13.right).left.at 2
  have x03 := Sat.read (H13.right).left.at 3
  have x04 := Sat.read (H13.right).left.at 4
  have l1 := (H13).left.lt
  have x10 := Sat.read (H13).left.at 0
  have x11 := Sat.read (H13).left.at 1
  have x12 := Sat.read (H13).left.at 2
  have x13 := Sat.read (H13).left.at 3
  have x14 := Sat.read (H13).left.at 4
  simp only [List.getElem?_toArray, List.getElem?_cons_zero, List.getElem?_cons_succ] at x00 x01 x02 x03 x04 x10 x11 x12 x13 x14
  go_wp2_with fail
  clear l0 l1 x00 x01 x02 x03 x04 x10 x11 x12 x13 x14
  refine dec_none hv.with.with H13 s HS.out ed.out ?_
  intro w14 H14 I14
  have J14 := (J13.trans I14)
  clear I14 H13 J13
  have H34 := H14.new (.cells #[.int .i64 0, .int .i64 0, .int .i64 0, .int .i64 0, .int .i64 0] 23)
  have J34 := J14.alloc (.cells #[.int .i64 0, .int .i64 0, .int .i64 0, .int .i64 0, .int .i64 0] 23)
  clear H14 J14
  have l0 := (H34.right).left.lt
  have x00 := Sat.read (H34.right).left.at 0
  have x01 := Sat.read (H34.right).left.at 1
  have x02 := Sat.read (H34.right).left.at 2
  have x03 := Sat.read (H34.right).left.at 3
  have x04 := Sat.read (H34.right).left.at 4
  have l1 := (H34).left.lt
  have x10 := Sat.read (H34).left.at 0
  have x11 := Sat.read (H34).left.at 1
  have x12 := Sat.read (H34).left.at 2
  have x13 := Sat.read (H34).left.at 3
  have x14 := Sat.read (H34).left.at 4
  simp only [List.getElem?_toArray, List.getElem?_cons_zero, List.getElem?_cons_succ] at x00 x01 x02 x03 x04 x10 x11 x12 x13 x14
  go_wp2_with fail
  clear l0 l1 x00 x01 x02 x03 x04 x10 x11 x12 x13 x14
  generalize w14.alloc (.cells #[.int .i64 0, .int .i64 0, .int .i64 0, .int .i64 0, .int .i64 0] 23) = v2 at *
  generalize w14.heap.size = B2 at *
  refine pick_xy hv.with.with.with H34 _ _ S1.out S2.out D1.out D2.out (Int.le_of_lt HC.out) ?_
  intro w15 H15 I15
  have J15 := (J34.trans I15)
  clear I15 H34 J34
  have H35 := H15.new (.cells #[.int .i64 e, .int .i64 p, .int .i64 c, .int .i64 f, .int .i64 n] 23)
  have J35 := J15.alloc (.cells #[.int .i64 e, .int .i64 p, .int .i64 c, .int .i64 f, .int .i64 n] 23)
  clear H15 J15
  have l0 := (H35.right.right).left.lt
  have x00 := Sat.read (H35.right.right).left.at 0
  have x01 := Sat.read (H35.right.right).left.at 1
  have x02 := Sat.read (H35.right.right).left.at 2
  have x03 := Sat.read (H35.right.right).left.at 3
  have x04 := Sat.read (H35.right.right).left.at 4
  have l1 := (H35.right).left.lt
  have x10 := Sat.read (H35.right).left.at 0
  have x11 := Sat.read (H35.right).left.at 1
  have x12 := Sat.read (H35.right).left.at 2
  have x13 := Sat.read (H35.right).left.at 3
  have x14 := Sat.read (H35.right).left.at 4
  have l2 := (H35).left.lt
  have x20 := Sat.read (H35).left.at 0
  have x21 := Sat.read (H35).left.at 1
  have x22 := Sat.read (H35).left.at 2
  have x23 := Sat.read (H35).left.at 3
  have x24 := Sat.read (H35).left.at 4
  simp only [List.getElem?_toArray, List.getElem?_cons_zero, List.getElem?_cons_succ] at x00 x01 x02 x03 x04 x10 x11 x12 x13 x14 x20 x21 x22 x23 x24
  go_wp2_with fail
  clear l0 l1 l2 x00 x01 x02 x03 x04 x10 x11 x12 x13 x14 x20 x21 x22 x23 x24
  generalize w15.alloc (.cells #[.int .i64 e, .int .i64 p, .int .i64 c, .int .i64 f, .int .i64 n] 23) = v3 at *
  generalize w15.heap.size = B3 at *
  refine pick_yx hv.with.with.with.with H35 _ _ S2.out S1.out D2.out D1.out HC.out ?_
  intro w16 H16 I16
  have J16 := (J35.trans I16)
  clear I16 H35 J35
  have H36 := H16.new (.cells #[.int .i64 e, .int .i64 p, .int .i64 c, .int .i64 f, .int .i64 n] 23)
  have J36 := J16.alloc (.cells #[.int .i64 e, .int .i64 p, .int .i64 c, .int .i64 f, .int .i64 n] 23)
  clear H16 J16
  have l0 := (H36.right.right.right).left.lt
  have x00 := Sat.read (H36.right.right.right).left.at 0
  have x01 := Sat.read (H36.right.right.right).left.at 1
  have x02 := Sat.read (H36.right.right.right).left.at 2
  have x03 := Sat.read (H36.right.right.right).left.at 3
  have x04 := Sat.read (H36.right.right.right).left.at 4
  have l1 := (H36.right.right).left.lt
  have x10 := Sat.read (H36.right.right).left.at 0
  have x11 := Sat.read (H36.right.right).left.at 1
  have x12 := Sat.read (H36.right.right).left.at 2
  have x13 := Sat.read (H36.right.right).left.at 3
  have x14 := Sat.read (H36.right.right).left.at 4
  have l2 := (H36.right).left.lt
  have x20 := Sat.read (H36.right).left.at 0
  have x21 := Sat.read (H36.right).left.at 1
  have x22 := Sat.read (H36.right).left.at 2
  have x23 := Sat.read (H36.right).left.at 3
  have x24 := Sat.read (H36.right).left.at 4
  have l3 := (H36).left.lt
  have x30 := Sat.read (H36).left.at 0
  have x31 := Sat.read (H36).left.at 1
  have x32 := Sat.read (H36).left.at 2
  have x33 := Sat.read (H36).left.at 3
  have x34 := Sat.read (H36).left.at 4
  simp only [List.getElem?_toArray, List.getElem?_cons_zero, List.getElem?_cons_succ] at x00 x01 x02 x03 x04 x10 x11 x12 x13 x14 x20 x21 x22 x23 x24 x30 x31 x32 x33 x34
  go_wp2_with fail
  clear l0 l1 l2 l3 x00 x01 x02 x03 x04 x10 x11 x12 x13 x14 x20 x21 x22 x23 x24 x30 x31 x32 x33 x34
  generalize w16.alloc (.cells #[.int .i64 e, .int .i64 p, .int .i64 c, .int .i64 f, .int .i64 n] 23) = v4 at *
  generalize w16.heap.size = B4 at *
  refine pick_xn hv.with.with.with.with.with H36 _ _ S1.out HS.out D1.out ed.out ?_
  intro w17 H17 I17
  have J17 := (J36.trans I17)
  clear I17 H36 J36
  have H37 := H17.new (.cells #[.int .i64 e, .int .i64 p, .int .i64 c, .int .i64 f, .int .i64 n] 23)
  have J37 := J17.alloc (.cells #[.int .i64 e, .int .i64 p, .int .i64 c, .int .i64 f, .int .i64 n] 23)
  clear H17 J17
  have l0 := (H37.right.right.right.right).left.lt
  have x00 := Sat.read (H37.right.right.right.right).left.at 0
  have x01 := Sat.read (H37.right.right.right.right).left.at 1
  have x02 := Sat.read (H37.right.right.right.right).left.at 2
  have x03 := Sat.read (H37.right.right.right.right).left.at 3
  have x04 := Sat.read (H37.right.right.right.right).left.at 4
  have l1 := (H37.right.right.right).left.lt
  have x10 := Sat.read (H37.right.right.right).left.at 0
  have x11 := Sat.read (H37.right.right.right).left.at 1
  have x12 := Sat.read (H37.right.right.right).left.at 2
  have x13 := Sat.read (H37.right.right.right).left.at 3
  have x14 := Sat.read (H37.right.right.right).left.at 4
  have l2 := (H37.right.right).left.lt
  have x20 := Sat.read (H37.right.right).left.at 0
  have x21 := Sat.read (H37.right.right).left.at 1
  have x22 := Sat.read (H37.right.right).left.at 2
  have x23 := Sat.read (H37.right.right).left.at 3
  have x24 := Sat.read (H37.right.right).left.at 4
  have l3 := (H37.right).left.lt
  have x30 := Sat.read (H37.right).left.at 0
  have x31 := Sat.read (H37.right).left.at 1
  have x32 := Sat.read (H37.right).left.at 2
  have x33 := Sat.read (H37.right).left.at 3
  have x34 := Sat.read (H37.right).left.at 4
  have l4 := (H37).left.lt
  have x40 := Sat.read (H37).left.at 0
  have x41 := Sat.read (H37).left.at 1
  have x42 := Sat.read (H37).left.at 2
  have x43 := Sat.read (H37).left.at 3
  have x44 := Sat.read (H37).left.at 4
  simp only [List.getElem?_toArray, List.getElem?_cons_zero, List.getElem?_cons_succ] at x00 x01 x02 x03 x04 x10 x11 x12 x13 x14 x20 x21 x22 x23 x24 x30 x31 x32 x33 x34 x40 x41 x42 x43 x44
  go_wp2_with fail
  clear l0 l1 l2 l3 l4 x00 x01 x02 x03 x04 x10 x11 x12 x13 x14 x20 x21 x22 x23 x24 x30 x31 x32 x33 x34 x40 x41 x42 x43 x44
  generalize w17.alloc (.cells #[.int .i64 e, .int .i64 p, .int .i64 c, .int .i64 f, .int .i64 n] 23) = v5 at *
  generalize w17.heap.size = B5 at *
  refine pick_ny hv.with.with.with.with.with.with H37 _ _ HS.out S1.out ed.out D1.out ?_
  intro w18 H18 I18
  have J18 := (J37.trans I18)
  clear I18 H37 J37
  have H38 := H18.new (.cells #[.int .i64 e, .int .i64 p, .int .i64 c, .int .i64 f, .int .i64 n] 23)
  have J38 := J18.alloc (.cells #[.int .i64 e, .int .i64 p, .int .i64 c, .int .i64 f, .int .i64 n] 23)
  clear H18 J18
  have l0 := (H38.right.right.right.right.right).left.lt
  have x00 := Sat.read (H38.right.right.right.right.right).left.at 0
  have x01 := Sat.read (H38.right.right.right.right.right).left.at 1
  have x02 := Sat.read (H38.right.right.right.right.right).left.at 2
  have x03 := Sat.read (H38.right.right.right.right.right).left.at 3
  have x04 := Sat.read (H38.right.right.right.right.right).left.at 4
  have l1 := (H38.right.right.right.right).left.lt
  have x10 := Sat.read (H38.right.right.right.right).left.at 0
  have x11 := Sat.read (H38.right.right.right.right).left.at 1
  have x12 := Sat.read (H38.right.right.right.right).left.at 2
  have x13 := Sat.read (H38.right.right.right.right).left.at 3
  have x14 := Sat.read (H38.right.right.right.right).left.at 4
  have l2 := (H38.right.right.right).left.lt
  have x20 := Sat.read (H38.right.right.right).left.at 0
  have x21 := Sat.read (H38.right.right.right).left.at 1
  have x22 := Sat.read (H38.right.right.right).left.at 2
  have x23 := Sat.read (H38.right.right.right).left.at 3
  have x24 := Sat.read (H38.right.right.right).left.at 4
  have l3 := (H38.right.right).left.lt
  have x30 := Sat.read (H38.right.right).left.at 0
  have x31 := Sat.read (H38.right.right).left.at 1
  have x32 := Sat.read (H38.right.right).left.at 2
  have x33 := Sat.read (H38.right.right).left.at 3
  have x34 := Sat.read (H38.right.right).left.at 4
  have l4 := (H38.right).left.lt
  have x40 := Sat.read (H38.right).left.at 0
  have x41 := Sat.read (H38.right).left.at 1
  have x42 := Sat.read (H38.right).left.at 2
  have x43 := Sat.read (H38.right).left.at 3
  have x44 := Sat.read (H38.right).left.at 4
  have l5 := (H38).left.lt
  have x50 := Sat.read (H38).left.at 0
  have x51 := Sat.read (H38).left.at 1
  have x52 := Sat.read (H38).left.at 2
  have x53 := Sat.read (H38).left.at 3
  have x54 := Sat.read (H38).left.at 4
  simp only [List.getElem?_toArray, List.getElem?_cons_zero, List.getElem?_cons_succ] at x00 x01 x02 x03 x04 x10 x11 x12 x13 x14 x20 x21 x22 x23 x24 x30 x31 x32 x33 x34 x40 x41 x42 x43 x44 x50 x51 x52 x53 x54
  go_wp2_with fail
  clear l0 l1 l2 l3 l4 l5 x00 x01 x02 x03 x04 x10 x11 x12 x13 x14 x20 x21 x22 x23 x24 x30 x31 x32 x33 x34 x40 x41 x42 x43 x44 x50 x51 x52 x53 x54
  generalize w18.alloc (.cells #[.int .i64 e, .int .i64 p, .int .i64 c, .int .i64 f, .int .i64 n] 23) = v6 at *
  generalize w18.heap.size = B6 at *
  refine pick_nn hv.with.with.with.with.with.with.with H38 _ _ HS.out HS.out ed.out ed.out ?_
  intro w19 H19 I19
  have J19 := (J38.trans I19)
  clear I19 H38 J38
  have l0 := (H19.right.right.right.right.right.right).left.lt
  have x00 := Sat.read (H19.right.right.right.right.right.right).left.at 0
  have x01 := Sat.read (H19.right.right.right.right.right.right).left.at 1
  have x02 := Sat.read (H19.right.right.right.right.right.right).left.at 2
  have x03 := Sat.read (H19.right.right.right.right.right.right).left.at 3
  have x04 := Sat.read (H19.right.right.right.right.right.right).left.at 4
  have l1 := (H19.right.right.right.right.right).left.lt
  have x10 := Sat.read (H19.right.right.right.right.right).left.at 0
  have x11 := Sat.read (H19.right.right.right.right.right).left.at 1
  have x12 := Sat.read (H19.right.right.right.right.right).left.at 2
  have x13 := Sat.read (H19.right.right.right.right.right).left.at 3
  have x14 := Sat.read (H19.right.right.right.right.right).left.at 4
  have l2 := (H19.right.right.right.right).left.lt
  have x20 := Sat.read (H19.right.right.right.right).left.at 0
  have x21 := Sat.read (H19.right.right.right.right).left.at 1
  have x22 := Sat.read (H19.right.right.right.right).left.at 2
  have x23 := Sat.read (H19.right.right.right.right).left.at 3
  have x24 := Sat.read (H19.right.right.right.right).left.at 4
  have l3 := (H19.right.right.right).left.lt
  have x30 := Sat.read (H19.right.right.right).left.at 0
  have x31 := Sat.read (H19.right.right.right).left.at 1
  have x32 := Sat.read (H19.right.right.right).left.at 2
  have x33 := Sat.read (H19.right.right.right).left.at 3
  have x34 := Sat.read (H19.right.right.right).left.at 4
  have l4 := (H19.right.right).left.lt
  have x40 := Sat.read (H19.right.right).left.at 0
  have x41 := Sat.read (H19.right.right).left.at 1
  have x42 := Sat.read (H19.right.right).left.at 2
  have x43 := Sat.read (H19.right.right).left.at 3
  have x44 := Sat.read (H19.right.right).left.at 4
  have l5 := (H19.right).left.lt
  have x50 := Sat.read (H19.right).left.at 0
  have x51 := Sat.read (H19.right).left.at 1
  have x52 := Sat.read (H19.right).left.at 2
  have x53 := Sat.read (H19.right).left.at 3
  have x54 := Sat.read (H19.right).left.at 4
  have l6 := (H19).left.lt
  have x60 := Sat.read (H19).left.at 0
  have x61 := Sat.read (H19).left.at 1
  have x62 := Sat.read (H19).left.at 2
  have x63 := Sat.read (H19).left.at 3
  have x64 := Sat.read (H19).left.at 4
  simp only [List.getElem?_toArray, List.getElem?_cons_zero, List.getElem?_cons_succ] at x00 x01 x02 x03 x04 x10 x11 x12 x13 x14 x20 x21 x22 x23 x24 x30 x31 x32 x33 x34 x40 x41 x42 x43 x44 x50 x51 x52 x53 x54 x60 x61 x62 x63 x64
  have fin := HH.out _ (((H19.right.right.right.right.right.right.right).alloc (.cells #[.int .i64 0, .int .i64 0, .int .i64 0, .int .i64 0, .int .i64 0] 23)).alloc (.cells #[.int .i64 e, .int .i64 p, .int .i64 c, .int .i64 f, .int .i64 n] 23)) ((J19.alloc (.cells #[.int .i64 0, .int .i64 0, .int .i64 0, .int .i64 0, .int .i64 0] 23)).alloc (.cells #[.int .i64 e, .int .i64 p, .int .i64 c, .int .i64 f, .int .i64 n] 23))
  clear HH H19 J19
  go_wp2_with fail
  exact fin

set_option maxRecDepth 100000 in
set_option maxHeartbeats 4000000 in
theorem newer_eq (hv : Hv F) (hs : s.size ≤ 1000) (hg : Hid (Rt.good ⟨e, p, c, f, n⟩ = true)) (hk : Hid (Rt.good ⟨e2, p2, c2, f2, n2⟩ = true)) (ed : Hid (Rt.dec s = none)) (hc : e = e2) (H : Sat F w) (h : ∀ w', Sat F w' → Io w w' → R (.returned (.bool true)) w') :
    Calls Tryd.prog 6 #[.agg #[.int .i64 e, .int .i64 p, .int .i64 c, .int .i64 f, .int .i64 n], .agg #[.int .i64 e2, .int .i64 p2, .int .i64 c2, .int .i64 f2, .int .i64 n2], .string s] w R := by
  have H0 := ((H.new (.cells #[.int .i64 e, .int .i64 p, .int .i64 c, .int .i64 f, .int .i64 n] 23)).new (.cells #[.int .i64 e2, .int .i64 p2, .int .i64 c2, .int .i64 f2, .int .i64 n2] 23))
  have J0 := (((Io.refl w).alloc (.cells #[.int .i64 e, .int .i64 p, .int .i64 c, .int .i64 f, .int .i64 n] 23)).alloc (.cells #[.int .i64 e2, .int .i64 p2, .int .i64 c2, .int .i64 f2, .int .i64 n2] 23))
  rw [show (w.alloc (.cells #[.int .i64 e, .int .i64 p, .int .i64 c, .int .i64 f, .int .i64 n] 23)).heap.size = w.heap.size + 1 from by simp] at H0
  have HH := Lib.hid h
  clear h
  have hs' : (s.size : Int) ≤ 1000 := by omega
  have HS : Hid (s.size ≤ 1000000) := Lib.hid (by omega)
  clear hs
  obtain ⟨t, T⟩ : ∃ t, Hid (t = tx (Rt.bytes ⟨e, p, c, f, n⟩)) := ⟨_, Lib.hid rfl⟩
  obtain ⟨u, U⟩ : ∃ t, Hid (t = tx (Rt.bytes ⟨e2, p2, c2, f2, n2⟩)) := ⟨_, Lib.hid rfl⟩
  have D1 := Lib.hid (dec_of hg T)
  have D2 := Lib.hid (dec_of hk U)
  have S1 := Lib.hid (small_of T)
  have S2 := Lib.hid (small_of U)
  have g1 : decide (e2 > e) = false := by simp; omega
  have g2 : (e == e2) = true := by rw [beq_iff_eq]; exact hc
  have HC := Lib.hid hc
  clear hc
  go_enter Tryd.func6, Tryd.ntmps6
  go_wp2_with fail
  generalize ((w.alloc (.cells #[.int .i64 e, .int .i64 p, .int .i64 c, .int .i64 f, .int .i64 n] 23)).alloc (.cells #[.int .i64 e2, .int .i64 p2, .int .i64 c2, .int .i64 f2, .int .i64 n2] 23)) = v0 at *
  generalize w.heap.size + 1 = B1 at *
  generalize w.heap.size = B0 at *
  refine works_any hv.with.with H0 ?_
  intro w11 H11 I11
  have J11 := (J0.trans I11)
  clear I11 H0 J0
  have l0 := (H11.right).left.lt
  have x00 := Sat.read (H11.right).left.at 0
  have x01 := Sat.read (H11.right).left.at 1
  have x02 := Sat.read (H11.right).left.at 2
  have x03 := Sat.read (H11.right).left.at 3
  have x04 := Sat.read (H11.right).left.at 4
  have l1 := (H11).left.lt
  have x10 := Sat.read (H11).left.at 0
  have x11 := Sat.read (H11).left.at 1
  have x12 := Sat.read (H11).left.at 2
  have x13 := Sat.read (H11).left.at 3
  have x14 := Sat.read (H11).left.at 4
  simp only [List.getElem?_toArray, List.getElem?_cons_zero, List.getElem?_cons_succ] at x00 x01 x02 x03 x04 x10 x11 x12 x13 x14
  go_wp2_with fail
  clear l0 l1 x00 x01 x02 x03 x04 x10 x11 x12 x13 x14
  refine enc_yes hg T hv.with.with H11 ?_
  intro w12 H12 I12
  have J12 := (J11.trans I12)
  clear I12 H11 J11
  have l0 := (H12.right).left.lt
  have x00 := Sat.read (H12.right).left.at 0
  have x01 := Sat.read (H12.right).left.at 1
  have x02 := Sat.read (H12.right).left.at 2
  have x03 := Sat.read (H12.right).left.at 3
  have x04 := Sat.read (H12.right).left.at 4
  have l1 := (H12).left.lt
  have x10 := Sat.read (H12).left.at 0
  have x11 := Sat.read (H12).left.at 1
  have x12 := Sat.read (H12).left.at 2
  have x13 := Sat.read (H12).left.at 3
  have x14 := Sat.read (H12).left.at 4
  simp only [List.getElem?_toArray, List.getElem?_cons_zero, List.getElem?_cons_succ] at x00 x01 x02 x03 x04 x10 x11 x12 x13 x14
  go_wp2_with fail
  clear l0 l1 x00 x01 x02 x03 x04 x10 x11 x12 x13 x14
  refine enc_yes hk U hv.with.with H12 ?_
  intro w13 H13 I13
  have J13 := (J12.trans I13)
  clear I13 H12 J12
  have l0 := (H13.right).left.lt
  have x00 := Sat.read (H13.right).left.at 0
  have x01 := Sat.read (H13.right).left.at 1
  have x02 := Sat.read (H13.right).left.at 2
  have x03 := Sat.read (H13.right).left.at 3
  have x04 := Sat.read (H13.right).left.at 4
  have l1 := (H13).left.lt
  have x10 := Sat.read (H13).left.at 0
  have x11 := Sat.read (H13).left.at 1
  have x12 := Sat.read (H13).left.at 2
  have x13 := Sat.read (H13).left.at 3
  have x14 := Sat.read (H13).left.at 4
  simp only [List.getElem?_toArray, List.getElem?_cons_zero, List.getElem?_cons_succ] at x00 x01 x02 x03 x04 x10 x11 x12 x13 x14
  go_wp2_with fail
  clear l0 l1 x00 x01 x02 x03 x04 x10 x11 x12 x13 x14
  refine dec_none hv.with.with H13 s HS.out ed.out ?_
  intro w14 H14 I14
  have J14 := (J13.trans I14)
  clear I14 H13 J13
  have H34 := H14.new (.cells #[.int .i64 0, .int .i64 0, .int .i64 0, .int .i64 0, .int .i64 0] 23)
  have J34 := J14.alloc (.cells #[.int .i64 0, .int .i64 0, .int .i64 0, .int .i64 0, .int .i64 0] 23)
  clear H14 J14
  have l0 := (H34.right).left.lt
  have x00 := Sat.read (H34.right).left.at 0
  have x01 := Sat.read (H34.right).left.at 1
  have x02 := Sat.read (H34.right).left.at 2
  have x03 := Sat.read (H34.right).left.at 3
  have x04 := Sat.read (H34.right).left.at 4
  have l1 := (H34).left.lt
  have x10 := Sat.read (H34).left.at 0
  have x11 := Sat.read (H34).left.at 1
  have x12 := Sat.read (H34).left.at 2
  have x13 := Sat.read (H34).left.at 3
  have x14 := Sat.read (H34).left.at 4
  simp only [List.getElem?_toArray, List.getElem?_cons_zero, List.getElem?_cons_succ] at x00 x01 x02 x03 x04 x10 x11 x12 x13 x14
  go_wp2_with fail
  clear l0 l1 x00 x01 x02 x03 x04 x10 x11 x12 x13 x14
  generalize w14.alloc (.cells #[.int .i64 0, .int .i64 0, .int .i64 0, .int .i64 0, .int .i64 0] 23) = v2 at *
  generalize w14.heap.size = B2 at *
  refine pick_xy hv.with.with.with H34 _ _ S1.out S2.out D1.out D2.out (Int.le_of_eq HC.out.symm) ?_
  intro w15 H15 I15
  have J15 := (J34.trans I15)
  clear I15 H34 J34
  have H35 := H15.new (.cells #[.int .i64 e, .int .i64 p, .int .i64 c, .int .i64 f, .int .i64 n] 23)
  have J35 := J15.alloc (.cells #[.int .i64 e, .int .i64 p, .int .i64 c, .int .i64 f, .int .i64 n] 23)
  clear H15 J15
  have l0 := (H35.right.right).left.lt
  have x00 := Sat.read (H35.right.right).left.at 0
  have x01 := Sat.read (H35.right.right).left.at 1
  have x02 := Sat.read (H35.right.right).left.at 2
  have x03 := Sat.read (H35.right.right).left.at 3
  have x04 := Sat.read (H35.right.right).left.at 4
  have l1 := (H35.right).left.lt
  have x10 := Sat.read (H35.right).left.at 0
  have x11 := Sat.read (H35.right).left.at 1
  have x12 := Sat.read (H35.right).left.at 2
  have x13 := Sat.read (H35.right).left.at 3
  have x14 := Sat.read (H35.right).left.at 4
  have l2 := (H35).left.lt
  have x20 := Sat.read (H35).left.at 0
  have x21 := Sat.read (H35).left.at 1
  have x22 := Sat.read (H35).left.at 2
  have x23 := Sat.read (H35).left.at 3
  have x24 := Sat.read (H35).left.at 4
  simp only [List.getElem?_toArray, List.getElem?_cons_zero, List.getElem?_cons_succ] at x00 x01 x02 x03 x04 x10 x11 x12 x13 x14 x20 x21 x22 x23 x24
  go_wp2_with fail
  clear l0 l1 l2 x00 x01 x02 x03 x04 x10 x11 x12 x13 x14 x20 x21 x22 x23 x24
  generalize w15.alloc (.cells #[.int .i64 e, .int .i64 p, .int .i64 c, .int .i64 f, .int .i64 n] 23) = v3 at *
  generalize w15.heap.size = B3 at *
  refine pick_xy hv.with.with.with.with H35 _ _ S2.out S1.out D2.out D1.out (Int.le_of_eq HC.out) ?_
  intro w16 H16 I16
  have J16 := (J35.trans I16)
  clear I16 H35 J35
  have H36 := H16.new (.cells #[.int .i64 e2, .int .i64 p2, .int .i64 c2, .int .i64 f2, .int .i64 n2] 23)
  have J36 := J16.alloc (.cells #[.int .i64 e2, .int .i64 p2, .int .i64 c2, .int .i64 f2, .int .i64 n2] 23)
  clear H16 J16
  have l0 := (H36.right.right.right).left.lt
  have x00 := Sat.read (H36.right.right.right).left.at 0
  have x01 := Sat.read (H36.right.right.right).left.at 1
  have x02 := Sat.read (H36.right.right.right).left.at 2
  have x03 := Sat.read (H36.right.right.right).left.at 3
  have x04 := Sat.read (H36.right.right.right).left.at 4
  have l1 := (H36.right.right).left.lt
  have x10 := Sat.read (H36.right.right).left.at 0
  have x11 := Sat.read (H36.right.right).left.at 1
  have x12 := Sat.read (H36.right.right).left.at 2
  have x13 := Sat.read (H36.right.right).left.at 3
  have x14 := Sat.read (H36.right.right).left.at 4
  have l2 := (H36.right).left.lt
  have x20 := Sat.read (H36.right).left.at 0
  have x21 := Sat.read (H36.right).left.at 1
  have x22 := Sat.read (H36.right).left.at 2
  have x23 := Sat.read (H36.right).left.at 3
  have x24 := Sat.read (H36.right).left.at 4
  have l3 := (H36).left.lt
  have x30 := Sat.read (H36).left.at 0
  have x31 := Sat.read (H36).left.at 1
  have x32 := Sat.read (H36).left.at 2
  have x33 := Sat.read (H36).left.at 3
  have x34 := Sat.read (H36).left.at 4
  simp only [List.getElem?_toArray, List.getElem?_cons_zero, List.getElem?_cons_succ] at x00 x01 x02 x03 x04 x10 x11 x12 x13 x14 x20 x21 x22 x23 x24 x30 x31 x32 x33 x34
  go_wp2_with fail
  clear l0 l1 l2 l3 x00 x01 x02 x03 x04 x10 x11 x12 x13 x14 x20 x21 x22 x23 x24 x30 x31 x32 x33 x34
  generalize w16.alloc (.cells #[.int .i64 e2, .int .i64 p2, .int .i64 c2, .int .i64 f2, .int .i64 n2] 23) = v4 at *
  generalize w16.heap.size = B4 at *
  refine pick_xn hv.with.with.with.with.with H36 _ _ S1.out HS.out D1.out ed.out ?_
  intro w17 H17 I17
  have J17 := (J36.trans I17)
  clear I17 H36 J36
  have H37 := H17.new (.cells #[.int .i64 e, .int .i64 p, .int .i64 c, .int .i64 f, .int .i64 n] 23)
  have J37 := J17.alloc (.cells #[.int .i64 e, .int .i64 p, .int .i64 c, .int .i64 f, .int .i64 n] 23)
  clear H17 J17
  have l0 := (H37.right.right.right.right).left.lt
  have x00 := Sat.read (H37.right.right.right.right).left.at 0
  have x01 := Sat.read (H37.right.right.right.right).left.at 1
  have x02 := Sat.read (H37.right.right.right.right).left.at 2
  have x03 := Sat.read (H37.right.right.right.right).left.at 3
  have x04 := Sat.read (H37.right.right.right.right).left.at 4
  have l1 := (H37.right.right.right).left.lt
  have x10 := Sat.read (H37.right.right.right).left.at 0
  have x11 := Sat.read (H37.right.right.right).left.at 1
  have x12 := Sat.read (H37.right.right.right).left.at 2
  have x13 := Sat.read (H37.right.right.right).left.at 3
  have x14 := Sat.read (H37.right.right.right).left.at 4
  have l2 := (H37.right.right).left.lt
  have x20 := Sat.read (H37.right.right).left.at 0
  have x21 := Sat.read (H37.right.right).left.at 1
  have x22 := Sat.read (H37.right.right).left.at 2
  have x23 := Sat.read (H37.right.right).left.at 3
  have x24 := Sat.read (H37.right.right).left.at 4
  have l3 := (H37.right).left.lt
  have x30 := Sat.read (H37.right).left.at 0
  have x31 := Sat.read (H37.right).left.at 1
  have x32 := Sat.read (H37.right).left.at 2
  have x33 := Sat.read (H37.right).left.at 3
  have x34 := Sat.read (H37.right).left.at 4
  have l4 := (H37).left.lt
  have x40 := Sat.read (H37).left.at 0
  have x41 := Sat.read (H37).left.at 1
  have x42 := Sat.read (H37).left.at 2
  have x43 := Sat.read (H37).left.at 3
  have x44 := Sat.read (H37).left.at 4
  simp only [List.getElem?_toArray, List.getElem?_cons_zero, List.getElem?_cons_succ] at x00 x01 x02 x03 x04 x10 x11 x12 x13 x14 x20 x21 x22 x23 x24 x30 x31 x32 x33 x34 x40 x41 x42 x43 x44
  go_wp2_with fail
  clear l0 l1 l2 l3 l4 x00 x01 x02 x03 x04 x10 x11 x12 x13 x14 x20 x21 x22 x23 x24 x30 x31 x32 x33 x34 x40 x41 x42 x43 x44
  generalize w17.alloc (.cells #[.int .i64 e, .int .i64 p, .int .i64 c, .int .i64 f, .int .i64 n] 23) = v5 at *
  generalize w17.heap.size = B5 at *
  refine pick_ny hv.with.with.with.with.with.with H37 _ _ HS.out S1.out ed.out D1.out ?_
  intro w18 H18 I18
  have J18 := (J37.trans I18)
  clear I18 H37 J37
  have H38 := H18.new (.cells #[.int .i64 e, .int .i64 p, .int .i64 c, .int .i64 f, .int .i64 n] 23)
  have J38 := J18.alloc (.cells #[.int .i64 e, .int .i64 p, .int .i64 c, .int .i64 f, .int .i64 n] 23)
  clear H18 J18
  have l0 := (H38.right.right.right.right.right).left.lt
  have x00 := Sat.read (H38.right.right.right.right.right).left.at 0
  have x01 := Sat.read (H38.right.right.right.right.right).left.at 1
  have x02 := Sat.read (H38.right.right.right.right.right).left.at 2
  have x03 := Sat.read (H38.right.right.right.right.right).left.at 3
  have x04 := Sat.read (H38.right.right.right.right.right).left.at 4
  have l1 := (H38.right.right.right.right).left.lt
  have x10 := Sat.read (H38.right.right.right.right).left.at 0
  have x11 := Sat.read (H38.right.right.right.right).left.at 1
  have x12 := Sat.read (H38.right.right.right.right).left.at 2
  have x13 := Sat.read (H38.right.right.right.right).left.at 3
  have x14 := Sat.read (H38.right.right.right.right).left.at 4
  have l2 := (H38.right.right.right).left.lt
  have x20 := Sat.read (H38.right.right.right).left.at 0
  have x21 := Sat.read (H38.right.right.right).left.at 1
  have x22 := Sat.read (H38.right.right.right).left.at 2
  have x23 := Sat.read (H38.right.right.right).left.at 3
  have x24 := Sat.read (H38.right.right.right).left.at 4
  have l3 := (H38.right.right).left.lt
  have x30 := Sat.read (H38.right.right).left.at 0
  have x31 := Sat.read (H38.right.right).left.at 1
  have x32 := Sat.read (H38.right.right).left.at 2
  have x33 := Sat.read (H38.right.right).left.at 3
  have x34 := Sat.read (H38.right.right).left.at 4
  have l4 := (H38.right).left.lt
  have x40 := Sat.read (H38.right).left.at 0
  have x41 := Sat.read (H38.right).left.at 1
  have x42 := Sat.read (H38.right).left.at 2
  have x43 := Sat.read (H38.right).left.at 3
  have x44 := Sat.read (H38.right).left.at 4
  have l5 := (H38).left.lt
  have x50 := Sat.read (H38).left.at 0
  have x51 := Sat.read (H38).left.at 1
  have x52 := Sat.read (H38).left.at 2
  have x53 := Sat.read (H38).left.at 3
  have x54 := Sat.read (H38).left.at 4
  simp only [List.getElem?_toArray, List.getElem?_cons_zero, List.getElem?_cons_succ] at x00 x01 x02 x03 x04 x10 x11 x12 x13 x14 x20 x21 x22 x23 x24 x30 x31 x32 x33 x34 x40 x41 x42 x43 x44 x50 x51 x52 x53 x54
  go_wp2_with fail
  clear l0 l1 l2 l3 l4 l5 x00 x01 x02 x03 x04 x10 x11 x12 x13 x14 x20 x21 x22 x23 x24 x30 x31 x32 x33 x34 x40 x41 x42 x43 x44 x50 x51 x52 x53 x54
  generalize w18.alloc (.cells #[.int .i64 e, .int .i64 p, .int .i64 c, .int .i64 f, .int .i64 n] 23) = v6 at *
  generalize w18.heap.size = B6 at *
  refine pick_nn hv.with.with.with.with.with.with.with H38 _ _ HS.out HS.out ed.out ed.out ?_
  intro w19 H19 I19
  have J19 := (J38.trans I19)
  clear I19 H38 J38
  have l0 := (H19.right.right.right.right.right.right).left.lt
  have x00 := Sat.read (H19.right.right.right.right.right.right).left.at 0
  have x01 := Sat.read (H19.right.right.right.right.right.right).left.at 1
  have x02 := Sat.read (H19.right.right.right.right.right.right).left.at 2
  have x03 := Sat.read (H19.right.right.right.right.right.right).left.at 3
  have x04 := Sat.read (H19.right.right.right.right.right.right).left.at 4
  have l1 := (H19.right.right.right.right.right).left.lt
  have x10 := Sat.read (H19.right.right.right.right.right).left.at 0
  have x11 := Sat.read (H19.right.right.right.right.right).left.at 1
  have x12 := Sat.read (H19.right.right.right.right.right).left.at 2
  have x13 := Sat.read (H19.right.right.right.right.right).left.at 3
  have x14 := Sat.read (H19.right.right.right.right.right).left.at 4
  have l2 := (H19.right.right.right.right).left.lt
  have x20 := Sat.read (H19.right.right.right.right).left.at 0
  have x21 := Sat.read (H19.right.right.right.right).left.at 1
  have x22 := Sat.read (H19.right.right.right.right).left.at 2
  have x23 := Sat.read (H19.right.right.right.right).left.at 3
  have x24 := Sat.read (H19.right.right.right.right).left.at 4
  have l3 := (H19.right.right.right).left.lt
  have x30 := Sat.read (H19.right.right.right).left.at 0
  have x31 := Sat.read (H19.right.right.right).left.at 1
  have x32 := Sat.read (H19.right.right.right).left.at 2
  have x33 := Sat.read (H19.right.right.right).left.at 3
  have x34 := Sat.read (H19.right.right.right).left.at 4
  have l4 := (H19.right.right).left.lt
  have x40 := Sat.read (H19.right.right).left.at 0
  have x41 := Sat.read (H19.right.right).left.at 1
  have x42 := Sat.read (H19.right.right).left.at 2
  have x43 := Sat.read (H19.right.right).left.at 3
  have x44 := Sat.read (H19.right.right).left.at 4
  have l5 := (H19.right).left.lt
  have x50 := Sat.read (H19.right).left.at 0
  have x51 := Sat.read (H19.right).left.at 1
  have x52 := Sat.read (H19.right).left.at 2
  have x53 := Sat.read (H19.right).left.at 3
  have x54 := Sat.read (H19.right).left.at 4
  have l6 := (H19).left.lt
  have x60 := Sat.read (H19).left.at 0
  have x61 := Sat.read (H19).left.at 1
  have x62 := Sat.read (H19).left.at 2
  have x63 := Sat.read (H19).left.at 3
  have x64 := Sat.read (H19).left.at 4
  simp only [List.getElem?_toArray, List.getElem?_cons_zero, List.getElem?_cons_succ] at x00 x01 x02 x03 x04 x10 x11 x12 x13 x14 x20 x21 x22 x23 x24 x30 x31 x32 x33 x34 x40 x41 x42 x43 x44 x50 x51 x52 x53 x54 x60 x61 x62 x63 x64
  have fin := HH.out _ (((H19.right.right.right.right.right.right.right).alloc (.cells #[.int .i64 0, .int .i64 0, .int .i64 0, .int .i64 0, .int .i64 0] 23)).alloc (.cells #[.int .i64 e, .int .i64 p, .int .i64 c, .int .i64 f, .int .i64 n] 23)) ((J19.alloc (.cells #[.int .i64 0, .int .i64 0, .int .i64 0, .int .i64 0, .int .i64 0] 23)).alloc (.cells #[.int .i64 e, .int .i64 p, .int .i64 c, .int .i64 f, .int .i64 n] 23))
  clear HH H19 J19
  go_wp2_with fail
  exact fin

set_option maxRecDepth 100000 in
set_option maxHeartbeats 4000000 in
theorem newer_long (hv : Hv F) (hs : 1000 < s.size) (hm : s.size ≤ 9223372036854775807) (H : Sat F w) (h : ∀ w', Sat F w' → Io w w' → R (.returned (.bool true)) w') :
    Calls Tryd.prog 6 #[.agg #[.int .i64 e, .int .i64 p, .int .i64 c, .int .i64 f, .int .i64 n], .agg #[.int .i64 e2, .int .i64 p2, .int .i64 c2, .int .i64 f2, .int .i64 n2], .string s] w R := by
  have H0 := ((H.new (.cells #[.int .i64 e, .int .i64 p, .int .i64 c, .int .i64 f, .int .i64 n] 23)).new (.cells #[.int .i64 e2, .int .i64 p2, .int .i64 c2, .int .i64 f2, .int .i64 n2] 23))
  have J0 := (((Io.refl w).alloc (.cells #[.int .i64 e, .int .i64 p, .int .i64 c, .int .i64 f, .int .i64 n] 23)).alloc (.cells #[.int .i64 e2, .int .i64 p2, .int .i64 c2, .int .i64 f2, .int .i64 n2] 23))
  rw [show (w.alloc (.cells #[.int .i64 e, .int .i64 p, .int .i64 c, .int .i64 f, .int .i64 n] 23)).heap.size = w.heap.size + 1 from by simp] at H0
  have HH := Lib.hid h
  clear h
  have hs' : 1000 < (s.size : Int) := by omega
  have hm' : (s.size : Int) ≤ 9223372036854775807 := by omega
  clear hs hm
  go_enter Tryd.func6, Tryd.ntmps6
  go_wp2_with fail
  generalize ((w.alloc (.cells #[.int .i64 e, .int .i64 p, .int .i64 c, .int .i64 f, .int .i64 n] 23)).alloc (.cells #[.int .i64 e2, .int .i64 p2, .int .i64 c2, .int .i64 f2, .int .i64 n2] 23)) = v0 at *
  generalize w.heap.size + 1 = B1 at *
  generalize w.heap.size = B0 at *
  refine works_any hv.with.with H0 ?_
  intro w11 H11 I11
  have J11 := (J0.trans I11)
  clear I11 H0 J0
  have l0 := (H11.right).left.lt
  have x00 := Sat.read (H11.right).left.at 0
  have x01 := Sat.read (H11.right).left.at 1
  have x02 := Sat.read (H11.right).left.at 2
  have x03 := Sat.read (H11.right).left.at 3
  have x04 := Sat.read (H11.right).left.at 4
  have l1 := (H11).left.lt
  have x10 := Sat.read (H11).left.at 0
  have x11 := Sat.read (H11).left.at 1
  have x12 := Sat.read (H11).left.at 2
  have x13 := Sat.read (H11).left.at 3
  have x14 := Sat.read (H11).left.at 4
  simp only [List.getElem?_toArray, List.getElem?_cons_zero, List.getElem?_cons_succ] at x00 x01 x02 x03 x04 x10 x11 x12 x13 x14
  have fin := HH.out _ H11.right.right J11
  clear HH H11 J11
  go_wp2_with fail
  exact fin

theorem newer_walk (hv : Hv F) (a b : Rt) (s : ByteArray) (hs : s.size ≤ 9223372036854775807) (H : Sat F w) (h : ∀ w', Sat F w' → Io w w' → R (.returned (.bool true)) w') :
    Calls Tryd.prog 6 #[a.val, b.val, .string s] w R := by
  obtain ⟨e, p, c, f, n⟩ := a
  obtain ⟨e2, p2, c2, f2, n2⟩ := b
  by_cases hl : s.size ≤ 1000
  · obtain ⟨xe, xp, xc, xf, xn, hx⟩ : ∃ xe xp xc xf xn, (Rt.dec s).getD Rt.zero = ⟨xe, xp, xc, xf, xn⟩ := ⟨_, _, _, _, _, rfl⟩
    cases hg : Rt.good ⟨e, p, c, f, n⟩ with
    | false => exact newer_a hv hl (Lib.hid hg) (Lib.hid hx) (Lib.hid rfl) H h
    | true =>
      cases hk : Rt.good ⟨e2, p2, c2, f2, n2⟩ with
      | false => exact newer_b hv hl (Lib.hid hg) (Lib.hid hk) (Lib.hid hx) (Lib.hid rfl) H h
      | true =>
        cases ed : Rt.dec s with
        | some x => exact newer_s hv hl (Lib.hid hg) (Lib.hid hk) (Lib.hid hx) (Lib.hid (by rw [ed]; rfl)) H h
        | none =>
          rcases Int.lt_trichotomy e e2 with hc | hc | hc
          · exact newer_lt hv hl (Lib.hid hg) (Lib.hid hk) (Lib.hid ed) hc H h
          · exact newer_eq hv hl (Lib.hid hg) (Lib.hid hk) (Lib.hid ed) hc H h
          · exact newer_gt hv hl (Lib.hid hg) (Lib.hid hk) (Lib.hid ed) hc H h
  · exact newer_long hv (by omega) hs H h
end
end Go.Proofs.YtghpfepmkngfdaaDoor
