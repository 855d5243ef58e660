/-
  Roots and their bytes: what Pick does, by its walk. It proves no statement by itself.
-/
import Derived.Test.YtghpfepmkngfdaaDoorRtD
namespace Go.Proofs.YtghpfepmkngfdaaDoor
open Go.RowKit
set_option linter.unusedSimpArgs false
set_option linter.unusedVariables false

/-- What Pick answers. -/
def pickV (a b : ByteArray) : Value := .tuple #[((Rt.pick a b).getD Rt.zero).val, .int .i64 (if (Rt.pick a b).isSome then 0 else 70)]

section
variable {F : Asn} {w : World} {R : Ending → World → Prop}

theorem dec_some (hv : Hv F) (H : Sat F w) (s : ByteArray) (hs : s.size ≤ 1000000) {e p c f n : Int} (hd : Rt.dec s = some ⟨e, p, c, f, n⟩) (h : ∀ w', Sat F w' → Io w w' → R (.returned (.tuple #[.agg #[.int .i64 e, .int .i64 p, .int .i64 c, .int .i64 f, .int .i64 n], .bool true])) w') :
    Calls Tryd.prog 12 #[.string s] w R := by
  refine dec_any hv H s hs fun w' H' I' => ?_
  unfold decV
  rw [hd]
  exact h w' H' I'
theorem dec_none (hv : Hv F) (H : Sat F w) (s : ByteArray) (hs : s.size ≤ 1000000) (hd : Rt.dec s = none) (h : ∀ w', Sat F w' → Io w w' → R (.returned (.tuple #[.agg #[.int .i64 0, .int .i64 0, .int .i64 0, .int .i64 0, .int .i64 0], .bool false])) w') :
    Calls Tryd.prog 12 #[.string s] w R := by
  refine dec_any hv H s hs fun w' H' I' => ?_
  unfold decV
  rw [hd]
  exact h w' H' I'

set_option maxRecDepth 100000 in
set_option maxHeartbeats 2000000 in
theorem pick_xn (hv : Hv F) (H : Sat F w) (a b : ByteArray) (ha : a.size ≤ 1000000) (hb : b.size ≤ 1000000) {xe xp xc xf xn : Int} (ea : Rt.dec a = some ⟨xe, xp, xc, xf, xn⟩) (eb : Rt.dec b = none) (h : ∀ w', Sat F w' → Io w w' → R (.returned (.tuple #[.agg #[.int .i64 xe, .int .i64 xp, .int .i64 xc, .int .i64 xf, .int .i64 xn], .int .i64 0])) w') :
    Calls Tryd.prog 14 #[.string a, .string b] w R := by
  have HH := Lib.hid h
  clear h
  have HA := H.new (.cells #[.int .i64 0, .int .i64 0, .int .i64 0, .int .i64 0, .int .i64 0] 23)
  have IA := (Io.refl w).alloc (.cells #[.int .i64 0, .int .i64 0, .int .i64 0, .int .i64 0, .int .i64 0] 23)
  go_enter Tryd.func14, Tryd.ntmps14
  go_wp2_with fail
  generalize w.alloc (.cells #[.int .i64 0, .int .i64 0, .int .i64 0, .int .i64 0, .int .i64 0] 23) = v0 at *
  generalize w.heap.size = A at *
  refine dec_some hv.with HA a ha ea ?_
  intro w1 H1 I1
  have H2 := H1.new (.cells #[.int .i64 xe, .int .i64 xp, .int .i64 xc, .int .i64 xf, .int .i64 xn] 23)
  have I2 := (IA.trans I1).alloc (.cells #[.int .i64 xe, .int .i64 xp, .int .i64 xc, .int .i64 xf, .int .i64 xn] 23)
  clear HA IA H H1 I1
  go_wp2_with fail
  generalize w1.alloc (.cells #[.int .i64 xe, .int .i64 xp, .int .i64 xc, .int .i64 xf, .int .i64 xn] 23) = v1 at *
  generalize w1.heap.size = B at *
  refine dec_none hv.with.with H2 b hb eb ?_
  intro w2 H3 I3
  have HA : Sat (pts A (.cells #[.int .i64 0, .int .i64 0, .int .i64 0, .int .i64 0, .int .i64 0] 23 (0, 0)) * (pts B (.cells #[.int .i64 xe, .int .i64 xp, .int .i64 xc, .int .i64 xf, .int .i64 xn] 23 (0, 0)) * F)) w2 := H3.of_eq (by ac_rfl)
  have lA := Sat.lt HA.left
  have lB := Sat.lt HA.right.left
  have a0 := Sat.read HA.left.at 0
  have a1 := Sat.read HA.left.at 1
  have a2 := Sat.read HA.left.at 2
  have a3 := Sat.read HA.left.at 3
  have a4 := Sat.read HA.left.at 4
  have fz := fun j => Sat.free HA.left.at j
  have f0 := fz 0
  have f1 := fz 1
  have f2 := fz 2
  have f3 := fz 3
  have f4 := fz 4
  have b0 := Sat.read HA.right.left.at 0
  have b1 := Sat.read HA.right.left.at 1
  have b2 := Sat.read HA.right.left.at 2
  have b3 := Sat.read HA.right.left.at 3
  have b4 := Sat.read HA.right.left.at 4
  have nab := (HA.of_eq (star_assoc _ _ _).symm).left.ne
  simp only [List.getElem?_toArray, List.getElem?_cons_zero, List.getElem?_cons_succ] at a0 a1 a2 a3 a4 b0 b1 b2 b3 b4
  have HF : Sat (pts A (.cells #[.int .i64 xe, .int .i64 xp, .int .i64 xc, .int .i64 xf, .int .i64 xn] 23 (0, 0)) * (pts B (.cells #[.int .i64 xe, .int .i64 xp, .int .i64 xc, .int .i64 xf, .int .i64 xn] 23 (0, 0)) * F)) ((((((w2.setCell ⟨A, 0, none⟩ (.int .i64 xe)).setCell ⟨A, 1, none⟩ (.int .i64 xp)).setCell ⟨A, 2, none⟩ (.int .i64 xc)).setCell ⟨A, 3, none⟩ (.int .i64 xf)).setCell ⟨A, 4, none⟩ (.int .i64 xn)).alloc (.cells #[.int .i64 0, .int .i64 0, .int .i64 0, .int .i64 0, .int .i64 0] 23)) := (Sat.alloc (Sat.cell (Sat.cell (Sat.cell (Sat.cell (Sat.cell HA 0 (.int .i64 xe)) 1 (.int .i64 xp)) 2 (.int .i64 xc)) 3 (.int .i64 xf)) 4 (.int .i64 xn)) (.cells #[.int .i64 0, .int .i64 0, .int .i64 0, .int .i64 0, .int .i64 0] 23))
  have fin := HH.out _ HF.right.right (((((((I2.trans I3).setCell ⟨A, 0, none⟩ (.int .i64 xe)).setCell ⟨A, 1, none⟩ (.int .i64 xp)).setCell ⟨A, 2, none⟩ (.int .i64 xc)).setCell ⟨A, 3, none⟩ (.int .i64 xf)).setCell ⟨A, 4, none⟩ (.int .i64 xn)).alloc (.cells #[.int .i64 0, .int .i64 0, .int .i64 0, .int .i64 0, .int .i64 0] 23))
  have d0 := Sat.read HF.left.at 0
  have d1 := Sat.read HF.left.at 1
  have d2 := Sat.read HF.left.at 2
  have d3 := Sat.read HF.left.at 3
  have d4 := Sat.read HF.left.at 4
  simp only [List.getElem?_toArray, List.getElem?_cons_zero, List.getElem?_cons_succ] at d0 d1 d2 d3 d4
  clear HH fz HA H3 H2 I2 I3
  go_wp2_with fail
  generalize ((((((w2.setCell ⟨A, 0, none⟩ (.int .i64 xe)).setCell ⟨A, 1, none⟩ (.int .i64 xp)).setCell ⟨A, 2, none⟩ (.int .i64 xc)).setCell ⟨A, 3, none⟩ (.int .i64 xf)).setCell ⟨A, 4, none⟩ (.int .i64 xn)).alloc (.cells #[.int .i64 0, .int .i64 0, .int .i64 0, .int .i64 0, .int .i64 0] 23)) = W at *
  exact bodyPost_ret (v := .tuple #[.agg #[.int .i64 xe, .int .i64 xp, .int .i64 xc, .int .i64 xf, .int .i64 xn], .int .i64 0]) (by simp [results, Tryd.results14, go_sem, d0, d1, d2, d3, d4]) rfl fin

set_option maxRecDepth 100000 in
set_option maxHeartbeats 2000000 in
theorem pick_xy (hv : Hv F) (H : Sat F w) (a b : ByteArray) (ha : a.size ≤ 1000000) (hb : b.size ≤ 1000000) {xe xp xc xf xn : Int} (ea : Rt.dec a = some ⟨xe, xp, xc, xf, xn⟩) {ye yp yc yf yn : Int} (eb : Rt.dec b = some ⟨ye, yp, yc, yf, yn⟩) (hle : ye ≤ xe) (h : ∀ w', Sat F w' → Io w w' → R (.returned (.tuple #[.agg #[.int .i64 xe, .int .i64 xp, .int .i64 xc, .int .i64 xf, .int .i64 xn], .int .i64 0])) w') :
    Calls Tryd.prog 14 #[.string a, .string b] w R := by
  have HH := Lib.hid h
  clear h
  have hle' : decide (xe ≥ ye) = true := by simpa using hle
  have HA := H.new (.cells #[.int .i64 0, .int .i64 0, .int .i64 0, .int .i64 0, .int .i64 0] 23)
  have IA := (Io.refl w).alloc (.cells #[.int .i64 0, .int .i64 0, .int .i64 0, .int .i64 0, .int .i64 0] 23)
  go_enter Tryd.func14, Tryd.ntmps14
  go_wp2_with fail
  generalize w.alloc (.cells #[.int .i64 0, .int .i64 0, .int .i64 0, .int .i64 0, .int .i64 0] 23) = v0 at *
  generalize w.heap.size = A at *
  refine dec_some hv.with HA a ha ea ?_
  intro w1 H1 I1
  have H2 := H1.new (.cells #[.int .i64 xe, .int .i64 xp, .int .i64 xc, .int .i64 xf, .int .i64 xn] 23)
  have I2 := (IA.trans I1).alloc (.cells #[.int .i64 xe, .int .i64 xp, .int .i64 xc, .int .i64 xf, .int .i64 xn] 23)
  clear HA IA H H1 I1
  go_wp2_with fail
  generalize w1.alloc (.cells #[.int .i64 xe, .int .i64 xp, .int .i64 xc, .int .i64 xf, .int .i64 xn] 23) = v1 at *
  generalize w1.heap.size = B at *
  refine dec_some hv.with.with H2 b hb eb ?_
  intro w2 H3 I3
  have HA : Sat (pts A (.cells #[.int .i64 0, .int .i64 0, .int .i64 0, .int .i64 0, .int .i64 0] 23 (0, 0)) * (pts B (.cells #[.int .i64 xe, .int .i64 xp, .int .i64 xc, .int .i64 xf, .int .i64 xn] 23 (0, 0)) * F)) w2 := H3.of_eq (by ac_rfl)
  have lA := Sat.lt HA.left
  have lB := Sat.lt HA.right.left
  have a0 := Sat.read HA.left.at 0
  have a1 := Sat.read HA.left.at 1
  have a2 := Sat.read HA.left.at 2
  have a3 := Sat.read HA.left.at 3
  have a4 := Sat.read HA.left.at 4
  have fz := fun j => Sat.free HA.left.at j
  have f0 := fz 0
  have f1 := fz 1
  have f2 := fz 2
  have f3 := fz 3
  have f4 := fz 4
  have b0 := Sat.read HA.right.left.at 0
  have b1 := Sat.read HA.right.left.at 1
  have b2 := Sat.read HA.right.left.at 2
  have b3 := Sat.read HA.right.left.at 3
  have b4 := Sat.read HA.right.left.at 4
  have nab := (HA.of_eq (star_assoc _ _ _).symm).left.ne
  simp only [List.getElem?_toArray, List.getElem?_cons_zero, List.getElem?_cons_succ] at a0 a1 a2 a3 a4 b0 b1 b2 b3 b4
  have HF : Sat (pts A (.cells #[.int .i64 xe, .int .i64 xp, .int .i64 xc, .int .i64 xf, .int .i64 xn] 23 (0, 0)) * (pts B (.cells #[.int .i64 xe, .int .i64 xp, .int .i64 xc, .int .i64 xf, .int .i64 xn] 23 (0, 0)) * F)) ((((((w2.setCell ⟨A, 0, none⟩ (.int .i64 xe)).setCell ⟨A, 1, none⟩ (.int .i64 xp)).setCell ⟨A, 2, none⟩ (.int .i64 xc)).setCell ⟨A, 3, none⟩ (.int .i64 xf)).setCell ⟨A, 4, none⟩ (.int .i64 xn)).alloc (.cells #[.int .i64 ye, .int .i64 yp, .int .i64 yc, .int .i64 yf, .int .i64 yn] 23)) := (Sat.alloc (Sat.cell (Sat.cell (Sat.cell (Sat.cell (Sat.cell HA 0 (.int .i64 xe)) 1 (.int .i64 xp)) 2 (.int .i64 xc)) 3 (.int .i64 xf)) 4 (.int .i64 xn)) (.cells #[.int .i64 ye, .int .i64 yp, .int .i64 yc, .int .i64 yf, .int .i64 yn] 23))
  have fin := HH.out _ HF.right.right (((((((I2.trans I3).setCell ⟨A, 0, none⟩ (.int .i64 xe)).setCell ⟨A, 1, none⟩ (.int .i64 xp)).setCell ⟨A, 2, none⟩ (.int .i64 xc)).setCell ⟨A, 3, none⟩ (.int .i64 xf)).setCell ⟨A, 4, none⟩ (.int .i64 xn)).alloc (.cells #[.int .i64 ye, .int .i64 yp, .int .i64 yc, .int .i64 yf, .int .i64 yn] 23))
  have d0 := Sat.read HF.left.at 0
  have d1 := Sat.read HF.left.at 1
  have d2 := Sat.read HF.left.at 2
  have d3 := Sat.read HF.left.at 3
  have d4 := Sat.read HF.left.at 4
  simp only [List.getElem?_toArray, List.getElem?_cons_zero, List.getElem?_cons_succ] at d0 d1 d2 d3 d4
  clear HH fz HA H3 H2 I2 I3
  go_wp2_with fail
  generalize ((((((w2.setCell ⟨A, 0, none⟩ (.int .i64 xe)).setCell ⟨A, 1, none⟩ (.int .i64 xp)).setCell ⟨A, 2, none⟩ (.int .i64 xc)).setCell ⟨A, 3, none⟩ (.int .i64 xf)).setCell ⟨A, 4, none⟩ (.int .i64 xn)).alloc (.cells #[.int .i64 ye, .int .i64 yp, .int .i64 yc, .int .i64 yf, .int .i64 yn] 23)) = W at *
  exact bodyPost_ret (v := .tuple #[.agg #[.int .i64 xe, .int .i64 xp, .int .i64 xc, .int .i64 xf, .int .i64 xn], .int .i64 0]) (by simp [results, Tryd.results14, go_sem, d0, d1, d2, d3, d4]) rfl fin

set_option maxRecDepth 100000 in
set_option maxHeartbeats 2000000 in
theorem pick_yx (hv : Hv F) (H : Sat F w) (a b : ByteArray) (ha : a.size ≤ 1000000) (hb : b.size ≤ 1000000) {xe xp xc xf xn : Int} (ea : Rt.dec a = some ⟨xe, xp, xc, xf, xn⟩) {ye yp yc yf yn : Int} (eb : Rt.dec b = some ⟨ye, yp, yc, yf, yn⟩) (hle : xe < ye) (h : ∀ w', Sat F w' → Io w w' → R (.returned (.tuple #[.agg #[.int .i64 ye, .int .i64 yp, .int .i64 yc, .int .i64 yf, .int .i64 yn], .int .i64 0])) w') :
    Calls Tryd.prog 14 #[.string a, .string b] w R := by
  have HH := Lib.hid h
  clear h
  have hle' : decide (xe ≥ ye) = false := by simpa using hle
  have HA := H.new (.cells #[.int .i64 0, .int .i64 0, .int .i64 0, .int .i64 0, .int .i64 0] 23)
  have IA := (Io.refl w).alloc (.cells #[.int .i64 0, .int .i64 0, .int .i64 0, .int .i64 0, .int .i64 0] 23)
  go_enter Tryd.func14, Tryd.ntmps14
  go_wp2_with fail
  generalize w.alloc (.cells #[.int .i64 0, .int .i64 0, .int .i64 0, .int .i64 0, .int .i64 0] 23) = v0 at *
  generalize w.heap.size = A at *
  refine dec_some hv.with HA a ha ea ?_
  intro w1 H1 I1
  have H2 := H1.new (.cells #[.int .i64 xe, .int .i64 xp, .int .i64 xc, .int .i64 xf, .int .i64 xn] 23)
  have I2 := (IA.trans I1).alloc (.cells #[.int .i64 xe, .int .i64 xp, .int .i64 xc, .int .i64 xf, .int .i64 xn] 23)
  clear HA IA H H1 I1
  go_wp2_with fail
  generalize w1.alloc (.cells #[.int .i64 xe, .int .i64 xp, .int .i64 xc, .int .i64 xf, .int .i64 xn] 23) = v1 at *
  generalize w1.heap.size = B at *
  refine dec_some hv.with.with H2 b hb eb ?_
  intro w2 H3 I3
  have HA : Sat (pts A (.cells #[.int .i64 0, .int .i64 0, .int .i64 0, .int .i64 0, .int .i64 0] 23 (0, 0)) * (pts B (.cells #[.int .i64 xe, .int .i64 xp, .int .i64 xc, .int .i64 xf, .int .i64 xn] 23 (0, 0)) * F)) w2 := H3.of_eq (by ac_rfl)
  have lA := Sat.lt HA.left
  have lB := Sat.lt HA.right.left
  have a0 := Sat.read HA.left.at 0
  have a1 := Sat.read HA.left.at 1
  have a2 := Sat.read HA.left.at 2
  have a3 := Sat.read HA.left.at 3
  have a4 := Sat.read HA.left.at 4
  have fz := fun j => Sat.free HA.left.at j
  have f0 := fz 0
  have f1 := fz 1
  have f2 := fz 2
  have f3 := fz 3
  have f4 := fz 4
  have b0 := Sat.read HA.right.left.at 0
  have b1 := Sat.read HA.right.left.at 1
  have b2 := Sat.read HA.right.left.at 2
  have b3 := Sat.read HA.right.left.at 3
  have b4 := Sat.read HA.right.left.at 4
  have nab := (HA.of_eq (star_assoc _ _ _).symm).left.ne
  simp only [List.getElem?_toArray, List.getElem?_cons_zero, List.getElem?_cons_succ] at a0 a1 a2 a3 a4 b0 b1 b2 b3 b4
  have HF : Sat (pts A (.cells #[.int .i64 ye, .int .i64 yp, .int .i64 yc, .int .i64 yf, .int .i64 yn] 23 (0, 0)) * (pts B (.cells #[.int .i64 xe, .int .i64 xp, .int .i64 xc, .int .i64 xf, .int .i64 xn] 23 (0, 0)) * F)) ((((((w2.setCell ⟨A, 0, none⟩ (.int .i64 ye)).setCell ⟨A, 1, none⟩ (.int .i64 yp)).setCell ⟨A, 2, none⟩ (.int .i64 yc)).setCell ⟨A, 3, none⟩ (.int .i64 yf)).setCell ⟨A, 4, none⟩ (.int .i64 yn)).alloc (.cells #[.int .i64 ye, .int .i64 yp, .int .i64 yc, .int .i64 yf, .int .i64 yn] 23)) := (Sat.alloc (Sat.cell (Sat.cell (Sat.cell (Sat.cell (Sat.cell HA 0 (.int .i64 ye)) 1 (.int .i64 yp)) 2 (.int .i64 yc)) 3 (.int .i64 yf)) 4 (.int .i64 yn)) (.cells #[.int .i64 ye, .int .i64 yp, .int .i64 yc, .int .i64 yf, .int .i64 yn] 23))
  have fin := HH.out _ HF.right.right (((((((I2.trans I3).setCell ⟨A, 0, none⟩ (.int .i64 ye)).setCell ⟨A, 1, none⟩ (.int .i64 yp)).setCell ⟨A, 2, none⟩ (.int .i64 yc)).setCell ⟨A, 3, none⟩ (.int .i64 yf)).setCell ⟨A, 4, none⟩ (.int .i64 yn)).alloc (.cells #[.int .i64 ye, .int .i64 yp, .int .i64 yc, .int .i64 yf, .int .i64 yn] 23))
  have d0 := Sat.read HF.left.at 0
  have d1 := Sat.read HF.left.at 1
  have d2 := Sat.read HF.left.at 2
  have d3 := Sat.read HF.left.at 3
  have d4 := Sat.read HF.left.at 4
  simp only [List.getElem?_toArray, List.getElem?_cons_zero, List.getElem?_cons_succ] at d0 d1 d2 d3 d4
  clear HH fz HA H3 H2 I2 I3
  go_wp2_with fail
  generalize ((((((w2.setCell ⟨A, 0, none⟩ (.int .i64 ye)).setCell ⟨A, 1, none⟩ (.int .i64 yp)).setCell ⟨A, 2, none⟩ (.int .i64 yc)).setCell ⟨A, 3, none⟩ (.int .i64 yf)).setCell ⟨A, 4, none⟩ (.int .i64 yn)).alloc (.cells #[.int .i64 ye, .int .i64 yp, .int .i64 yc, .int .i64 yf, .int .i64 yn] 23)) = W at *
  exact bodyPost_ret (v := .tuple #[.agg #[.int .i64 ye, .int .i64 yp, .int .i64 yc, .int .i64 yf, .int .i64 yn], .int .i64 0]) (by simp [results, Tryd.results14, go_sem, d0, d1, d2, d3, d4]) rfl fin

set_option maxRecDepth 100000 in
set_option maxHeartbeats 2000000 in
theorem pick_ny (hv : Hv F) (H : Sat F w) (a b : ByteArray) (ha : a.size ≤ 1000000) (hb : b.size ≤ 1000000) (ea : Rt.dec a = none) {ye yp yc yf yn : Int} (eb : Rt.dec b = some ⟨ye, yp, yc, yf, yn⟩) (h : ∀ w', Sat F w' → Io w w' → R (.returned (.tuple #[.agg #[.int .i64 ye, .int .i64 yp, .int .i64 yc, .int .i64 yf, .int .i64 yn], .int .i64 0])) w') :
    Calls Tryd.prog 14 #[.string a, .string b] w R := by
  have HH := Lib.hid h
  clear h
  have HA := H.new (.cells #[.int .i64 0, .int .i64 0, .int .i64 0, .int .i64 0, .int .i64 0] 23)
  have IA := (Io.refl w).alloc (.cells #[.int .i64 0, .int .i64 0, .int .i64 0, .int .i64 0, .int .i64 0] 23)
  go_enter Tryd.func14, Tryd.ntmps14
  go_wp2_with fail
  generalize w.alloc (.cells #[.int .i64 0, .int .i64 0, .int .i64 0, .int .i64 0, .int .i64 0] 23) = v0 at *
  generalize w.heap.size = A at *
  refine dec_none hv.with HA a ha ea ?_
  intro w1 H1 I1
  have H2 := H1.new (.cells #[.int .i64 0, .int .i64 0, .int .i64 0, .int .i64 0, .int .i64 0] 23)
  have I2 := (IA.trans I1).alloc (.cells #[.int .i64 0, .int .i64 0, .int .i64 0, .int .i64 0, .int .i64 0] 23)
  clear HA IA H H1 I1
  go_wp2_with fail
  generalize w1.alloc (.cells #[.int .i64 0, .int .i64 0, .int .i64 0, .int .i64 0, .int .i64 0] 23) = v1 at *
  generalize w1.heap.size = B at *
  refine dec_some hv.with.with H2 b hb eb ?_
  intro w2 H3 I3
  have HA : Sat (pts A (.cells #[.int .i64 0, .int .i64 0, .int .i64 0, .int .i64 0, .int .i64 0] 23 (0, 0)) * (pts B (.cells #[.int .i64 0, .int .i64 0, .int .i64 0, .int .i64 0, .int .i64 0] 23 (0, 0)) * F)) w2 := H3.of_eq (by ac_rfl)
  have lA := Sat.lt HA.left
  have lB := Sat.lt HA.right.left
  have a0 := Sat.read HA.left.at 0
  have a1 := Sat.read HA.left.at 1
  have a2 := Sat.read HA.left.at 2
  have a3 := Sat.read HA.left.at 3
  have a4 := Sat.read HA.left.at 4
  have fz := fun j => Sat.free HA.left.at j
  have f0 := fz 0
  have f1 := fz 1
  have f2 := fz 2
  have f3 := fz 3
  have f4 := fz 4
  have b0 := Sat.read HA.right.left.at 0
  have b1 := Sat.read HA.right.left.at 1
  have b2 := Sat.read HA.right.left.at 2
  have b3 := Sat.read HA.right.left.at 3
  have b4 := Sat.read HA.right.left.at 4
  have nab := (HA.of_eq (star_assoc _ _ _).symm).left.ne
  simp only [List.getElem?_toArray, List.getElem?_cons_zero, List.getElem?_cons_succ] at a0 a1 a2 a3 a4 b0 b1 b2 b3 b4
  have HF : Sat (pts A (.cells #[.int .i64 ye, .int .i64 yp, .int .i64 yc, .int .i64 yf, .int .i64 yn] 23 (0, 0)) * (pts B (.cells #[.int .i64 0, .int .i64 0, .int .i64 0, .int .i64 0, .int .i64 0] 23 (0, 0)) * F)) ((((((w2.setCell ⟨A, 0, none⟩ (.int .i64 ye)).setCell ⟨A, 1, none⟩ (.int .i64 yp)).setCell ⟨A, 2, none⟩ (.int .i64 yc)).setCell ⟨A, 3, none⟩ (.int .i64 yf)).setCell ⟨A, 4, none⟩ (.int .i64 yn)).alloc (.cells #[.int .i64 ye, .int .i64 yp, .int .i64 yc, .int .i64 yf, .int .i64 yn] 23)) := (Sat.alloc (Sat.cell (Sat.cell (Sat.cell (Sat.cell (Sat.cell HA 0 (.int .i64 ye)) 1 (.int .i64 yp)) 2 (.int .i64 yc)) 3 (.int .i64 yf)) 4 (.int .i64 yn)) (.cells #[.int .i64 ye, .int .i64 yp, .int .i64 yc, .int .i64 yf, .int .i64 yn] 23))
  have fin := HH.out _ HF.right.right (((((((I2.trans I3).setCell ⟨A, 0, none⟩ (.int .i64 ye)).setCell ⟨A, 1, none⟩ (.int .i64 yp)).setCell ⟨A, 2, none⟩ (.int .i64 yc)).setCell ⟨A, 3, none⟩ (.int .i64 yf)).setCell ⟨A, 4, none⟩ (.int .i64 yn)).alloc (.cells #[.int .i64 ye, .int .i64 yp, .int .i64 yc, .int .i64 yf, .int .i64 yn] 23))
  have d0 := Sat.read HF.left.at 0
  have d1 := Sat.read HF.left.at 1
  have d2 := Sat.read HF.left.at 2
  have d3 := Sat.read HF.left.at 3
  have d4 := Sat.read HF.left.at 4
  simp only [List.getElem?_toArray, List.getElem?_cons_zero, List.getElem?_cons_succ] at d0 d1 d2 d3 d4
  clear HH fz HA H3 H2 I2 I3
  go_wp2_with fail
  generalize ((((((w2.setCell ⟨A, 0, none⟩ (.int .i64 ye)).setCell ⟨A, 1, none⟩ (.int .i64 yp)).setCell ⟨A, 2, none⟩ (.int .i64 yc)).setCell ⟨A, 3, none⟩ (.int .i64 yf)).setCell ⟨A, 4, none⟩ (.int .i64 yn)).alloc (.cells #[.int .i64 ye, .int .i64 yp, .int .i64 yc, .int .i64 yf, .int .i64 yn] 23)) = W at *
  exact bodyPost_ret (v := .tuple #[.agg #[.int .i64 ye, .int .i64 yp, .int .i64 yc, .int .i64 yf, .int .i64 yn], .int .i64 0]) (by simp [results, Tryd.results14, go_sem, d0, d1, d2, d3, d4]) rfl fin

set_option maxRecDepth 100000 in
set_option maxHeartbeats 2000000 in
theorem pick_nn (hv : Hv F) (H : Sat F w) (a b : ByteArray) (ha : a.size ≤ 1000000) (hb : b.size ≤ 1000000) (ea : Rt.dec a = none) (eb : Rt.dec b = none) (h : ∀ w', Sat F w' → Io w w' → R (.returned (.tuple #[.agg #[.int .i64 0, .int .i64 0, .int .i64 0, .int .i64 0, .int .i64 0], .int .i64 70])) w') :
    Calls Tryd.prog 14 #[.string a, .string b] w R := by
  have HH := Lib.hid h
  clear h
  have HA := H.new (.cells #[.int .i64 0, .int .i64 0, .int .i64 0, .int .i64 0, .int .i64 0] 23)
  have IA := (Io.refl w).alloc (.cells #[.int .i64 0, .int .i64 0, .int .i64 0, .int .i64 0, .int .i64 0] 23)
  go_enter Tryd.func14, Tryd.ntmps14
  go_wp2_with fail
  generalize w.alloc (.cells #[.int .i64 0, .int .i64 0, .int .i64 0, .int .i64 0, .int .i64 0] 23) = v0 at *
  generalize w.heap.size = A at *
  refine dec_none hv.with HA a ha ea ?_
  intro w1 H1 I1
  have H2 := H1.new (.cells #[.int .i64 0, .int .i64 0, .int .i64 0, .int .i64 0, .int .i64 0] 23)
  have I2 := (IA.trans I1).alloc (.cells #[.int .i64 0, .int .i64 0, .int .i64 0, .int .i64 0, .int .i64 0] 23)
  clear HA IA H H1 I1
  go_wp2_with fail
  generalize w1.alloc (.cells #[.int .i64 0, .int .i64 0, .int .i64 0, .int .i64 0, .int .i64 0] 23) = v1 at *
  generalize w1.heap.size = B at *
  refine dec_none hv.with.with H2 b hb eb ?_
  intro w2 H3 I3
  have HA : Sat (pts A (.cells #[.int .i64 0, .int .i64 0, .int .i64 0, .int .i64 0, .int .i64 0] 23 (0, 0)) * (pts B (.cells #[.int .i64 0, .int .i64 0, .int .i64 0, .int .i64 0, .int .i64 0] 23 (0, 0)) * F)) w2 := H3.of_eq (by ac_rfl)
  have lA := Sat.lt HA.left
  have lB := Sat.lt HA.right.left
  have a0 := Sat.read HA.left.at 0
  have a1 := Sat.read HA.left.at 1
  have a2 := Sat.read HA.left.at 2
  have a3 := Sat.read HA.left.at 3
  have a4 := Sat.read HA.left.at 4
  have fz := fun j => Sat.free HA.left.at j
  have f0 := fz 0
  have f1 := fz 1
  have f2 := fz 2
  have f3 := fz 3
  have f4 := fz 4
  have b0 := Sat.read HA.right.left.at 0
  have b1 := Sat.read HA.right.left.at 1
  have b2 := Sat.read HA.right.left.at 2
  have b3 := Sat.read HA.right.left.at 3
  have b4 := Sat.read HA.right.left.at 4
  have nab := (HA.of_eq (star_assoc _ _ _).symm).left.ne
  simp only [List.getElem?_toArray, List.getElem?_cons_zero, List.getElem?_cons_succ] at a0 a1 a2 a3 a4 b0 b1 b2 b3 b4
  have HF : Sat (pts A (.cells #[.int .i64 0, .int .i64 0, .int .i64 0, .int .i64 0, .int .i64 0] 23 (0, 0)) * (pts B (.cells #[.int .i64 0, .int .i64 0, .int .i64 0, .int .i64 0, .int .i64 0] 23 (0, 0)) * F)) ((((((w2.setCell ⟨A, 0, none⟩ (.int .i64 0)).setCell ⟨A, 1, none⟩ (.int .i64 0)).setCell ⟨A, 2, none⟩ (.int .i64 0)).setCell ⟨A, 3, none⟩ (.int .i64 0)).setCell ⟨A, 4, none⟩ (.int .i64 0)).alloc (.cells #[.int .i64 0, .int .i64 0, .int .i64 0, .int .i64 0, .int .i64 0] 23)) := (Sat.alloc (Sat.cell (Sat.cell (Sat.cell (Sat.cell (Sat.cell HA 0 (.int .i64 0)) 1 (.int .i64 0)) 2 (.int .i64 0)) 3 (.int .i64 0)) 4 (.int .i64 0)) (.cells #[.int .i64 0, .int .i64 0, .int .i64 0, .int .i64 0, .int .i64 0] 23))
  have fin := HH.out _ HF.right.right (((((((I2.trans I3).setCell ⟨A, 0, none⟩ (.int .i64 0)).setCell ⟨A, 1, none⟩ (.int .i64 0)).setCell ⟨A, 2, none⟩ (.int .i64 0)).setCell ⟨A, 3, none⟩ (.int .i64 0)).setCell ⟨A, 4, none⟩ (.int .i64 0)).alloc (.cells #[.int .i64 0, .int .i64 0, .int .i64 0, .int .i64 0, .int .i64 0] 23))
  have d0 := Sat.read HF.left.at 0
  have d1 := Sat.read HF.left.at 1
  have d2 := Sat.read HF.left.at 2
  have d3 := Sat.read HF.left.at 3
  have d4 := Sat.read HF.left.at 4
  simp only [List.getElem?_toArray, List.getElem?_cons_zero, List.getElem?_cons_succ] at d0 d1 d2 d3 d4
  clear HH fz HA H3 H2 I2 I3
  go_wp2_with fail
  generalize ((((((w2.setCell ⟨A, 0, none⟩ (.int .i64 0)).setCell ⟨A, 1, none⟩ (.int .i64 0)).setCell ⟨A, 2, none⟩ (.int .i64 0)).setCell ⟨A, 3, none⟩ (.int .i64 0)).setCell ⟨A, 4, none⟩ (.int .i64 0)).alloc (.cells #[.int .i64 0, .int .i64 0, .int .i64 0, .int .i64 0, .int .i64 0] 23)) = W at *
  exact bodyPost_ret (v := .tuple #[.agg #[.int .i64 0, .int .i64 0, .int .i64 0, .int .i64 0, .int .i64 0], .int .i64 70]) (by simp [results, Tryd.results14, go_sem, d0, d1, d2, d3, d4]) rfl fin

theorem pick_any (hv : Hv F) (H : Sat F w) (a b : ByteArray) (ha : a.size ≤ 1000000) (hb : b.size ≤ 1000000) (h : ∀ w', Sat F w' → Io w w' → R (.returned (pickV a b)) w') :
    Calls Tryd.prog 14 #[.string a, .string b] w R := by
  unfold pickV Rt.pick at h
  cases ea : Rt.dec a with
  | none =>
    cases eb : Rt.dec b with
    | none =>
      rw [ea, eb] at h
      exact pick_nn hv H a b ha hb ea eb h
    | some y =>
      obtain ⟨ye, yp, yc, yf, yn⟩ := y
      rw [ea, eb] at h
      exact pick_ny hv H a b ha hb ea eb h
  | some x =>
    obtain ⟨xe, xp, xc, xf, xn⟩ := x
    cases eb : Rt.dec b with
    | none =>
      rw [ea, eb] at h
      exact pick_xn hv H a b ha hb ea eb h
    | some y =>
      obtain ⟨ye, yp, yc, yf, yn⟩ := y
      rw [ea, eb] at h
      by_cases hle : ye ≤ xe
      · simp only [hle, if_true] at h
        exact pick_xy hv H a b ha hb ea eb hle h
      · simp only [hle, if_false] at h
        exact pick_yx hv H a b ha hb ea eb (by omega) h
end
end Go.Proofs.YtghpfepmkngfdaaDoor
