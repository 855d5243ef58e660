/-
  The statement RootNone, walked: it answers true. It proves the walk alone; the row is closed elsewhere.
-/
import Derived.Test.YtghpfepmkngfdaaDoorRtSt
import Derived.Test.YtghpfepmkngfdaaDoorRtT
namespace Go.Proofs.YtghpfepmkngfdaaDoor
open Go.RowKit
set_option linter.unusedSimpArgs false
set_option linter.unusedVariables false

theorem dec_zeros : Rt.dec (rp 256 0) = none := by
  cases hd : Rt.dec (rp 256 0) with
  | none => rfl
  | some r =>
    obtain ⟨hg, hs⟩ := Rt.dec_iff.1 hd
    have e1 : r.bytes = List.replicate 256 0 := (tx_inj (show tx (List.replicate 256 0) = tx r.bytes from hs)).symm
    have e2 := bytes_first r
    rw [e1] at e2
    have e3 := congrArg un e2
    rw [un_be, Nat.mod_eq_of_lt (good_e hg).2] at e3
    have e4 : un ((List.replicate 256 (0 : UInt8)).take 4) = 0 := by decide
    rw [e4] at e3
    have e5 := (good_e hg).1
    have e6 := (Rt.good_parts hg).1
    omega
theorem new_atE (k : Nat) (i : Nat) : (Dk.new k).atE (i : Int) = if i < k then 0 else 40 := by
  unfold Dk.atE
  rw [if_neg (by simp [Dk.new])]
  by_cases h : i < k
  · rw [if_pos ⟨by omega, by simp [Dk.new]; omega⟩, if_pos h]
  · rw [if_neg (by simp [Dk.new]; omega), if_neg h]
theorem new_readS (k : Nat) (i : Nat) (h : i < k) : (Dk.new k).readS (i : Int) = rp 256 0 := by
  unfold Dk.readS
  rw [new_atE, if_pos h, if_pos rfl]
  simp [Dk.now, Dk.new, Dk.last, List.getD, h]
theorem pick_zeros : Rt.pick (rp 256 0) (rp 256 0) = none := by unfold Rt.pick; rw [dec_zeros]

section
variable {F : Asn} {w : World} {R : Ending → World → Prop} {e p c f n m : Int}

set_option maxRecDepth 100000 in
set_option maxHeartbeats 4000000 in
theorem none_0y (hv : Hv F) (hk : min (max m 0) 4 = 0) (hg : Hid (Rt.good ⟨e, p, c, f, n⟩ = true)) (H : Sat F w) (h : ∀ w', Sat F w' → Io w w' → R (.returned (.bool true)) w') :
    Calls Tryd.prog 7 #[.int .i64 m, .agg #[.int .i64 e, .int .i64 p, .int .i64 c, .int .i64 f, .int .i64 n]] w R := by
  have HH := Lib.hid h
  clear h
  have hcl : min (max m 0) 4 = 0 := hk
  clear hk
  obtain ⟨s, S⟩ : ∃ t, Hid (t = tx (Rt.bytes ⟨e, p, c, f, n⟩)) := ⟨_, Lib.hid rfl⟩
  have H0 := H.new (.cells #[.int .i64 e, .int .i64 p, .int .i64 c, .int .i64 f, .int .i64 n] 23)
  have J0 := (Io.refl w).alloc (.cells #[.int .i64 e, .int .i64 p, .int .i64 c, .int .i64 f, .int .i64 n] 23)
  go_enter Tryd.func7, Tryd.ntmps7
  go_wp2_with fail
  generalize w.alloc (.cells #[.int .i64 e, .int .i64 p, .int .i64 c, .int .i64 f, .int .i64 n] 23) = v0 at *
  generalize w.heap.size = B0 at *
  refine works_any hv.with H0 ?_
  intro w1 H1 I1
  have J1 := J0.trans I1
  clear J0 I1 H0 H
  go_wp2_with fail
  refine new_any 0 (by omega) (by omega) H1 ?_
  rw [show (min (max 0 0) 16384 : Int).toNat = 0 from rfl]
  intro pp w2 H2 I2
  have J2 := J1.trans I2
  clear J1 I2 H1
  go_wp2_with fail
  refine pf_new H2 ?_
  intro q w3 H3 I3
  have J3 := J2.trans I3
  clear J2 I3 H2
  go_wp2_with fail
  refine load_e0 hv.with H3 (Dk.new_ok 0 (by omega)) (by simp [Dk.new]) (new_atE 0 0) (by decide) ?_
  intro w4 H4' I4
  have H4 := H4'.alloc (.cells #[.int .i64 0, .int .i64 0, .int .i64 0, .int .i64 0, .int .i64 0] 23)
  have J4 := (J3.trans I4).alloc (.cells #[.int .i64 0, .int .i64 0, .int .i64 0, .int .i64 0, .int .i64 0] 23)
  clear J3 I4 H3 H4'
  generalize (Dk.new 0).read 0 = dd at *
  go_wp2_with fail
  refine load_nil H4 ?_
  intro w5 H5' I5
  have H5 := H5'.alloc (.cells #[.int .i64 0, .int .i64 0, .int .i64 0, .int .i64 0, .int .i64 0] 23)
  have J5 := (J4.trans I5).alloc (.cells #[.int .i64 0, .int .i64 0, .int .i64 0, .int .i64 0, .int .i64 0] 23)
  clear J4 I5 H4
  have HB : Sat (pts B0 (.cells #[.int .i64 e, .int .i64 p, .int .i64 c, .int .i64 f, .int .i64 n] 23 (0, 0)) * (IsPf q pp dd * F)) (w5.alloc (.cells #[.int .i64 0, .int .i64 0, .int .i64 0, .int .i64 0, .int .i64 0] 23)) := H5.of_eq (by ac_rfl)
  have HB5 : Sat (pts B0 (.cells #[.int .i64 e, .int .i64 p, .int .i64 c, .int .i64 f, .int .i64 n] 23 (0, 0)) * (IsPf q pp dd * F)) w5 := H5'.of_eq (by ac_rfl)
  have lb := HB5.left.lt
  have x0 := Sat.read HB5.left.at 0
  have x1 := Sat.read HB5.left.at 1
  have x2 := Sat.read HB5.left.at 2
  have x3 := Sat.read HB5.left.at 3
  have x4 := Sat.read HB5.left.at 4
  simp only [List.getElem?_toArray, List.getElem?_cons_zero, List.getElem?_cons_succ] at x0 x1 x2 x3 x4
  go_wp2_with fail
  refine store_nil hg S hv.with.with HB ?_
  intro w6 H6 I6
  have fin := HH.out _ H6.right.right (J5.trans I6)
  clear HH H6 HB HB5 H5' H5 J5 I6
  go_wp2_with fail
  exact fin

set_option maxRecDepth 100000 in
set_option maxHeartbeats 4000000 in
theorem none_0n (hv : Hv F) (hk : min (max m 0) 4 = 0) (hg : Hid (Rt.good ⟨e, p, c, f, n⟩ = false)) (H : Sat F w) (h : ∀ w', Sat F w' → Io w w' → R (.returned (.bool true)) w') :
    Calls Tryd.prog 7 #[.int .i64 m, .agg #[.int .i64 e, .int .i64 p, .int .i64 c, .int .i64 f, .int .i64 n]] w R := by
  have HH := Lib.hid h
  clear h
  have hcl : min (max m 0) 4 = 0 := hk
  clear hk
  have H0 := H.new (.cells #[.int .i64 e, .int .i64 p, .int .i64 c, .int .i64 f, .int .i64 n] 23)
  have J0 := (Io.refl w).alloc (.cells #[.int .i64 e, .int .i64 p, .int .i64 c, .int .i64 f, .int .i64 n] 23)
  go_enter Tryd.func7, Tryd.ntmps7
  go_wp2_with fail
  generalize w.alloc (.cells #[.int .i64 e, .int .i64 p, .int .i64 c, .int .i64 f, .int .i64 n] 23) = v0 at *
  generalize w.heap.size = B0 at *
  refine works_any hv.with H0 ?_
  intro w1 H1 I1
  have J1 := J0.trans I1
  clear J0 I1 H0 H
  go_wp2_with fail
  refine new_any 0 (by omega) (by omega) H1 ?_
  rw [show (min (max 0 0) 16384 : Int).toNat = 0 from rfl]
  intro pp w2 H2 I2
  have J2 := J1.trans I2
  clear J1 I2 H1
  go_wp2_with fail
  refine pf_new H2 ?_
  intro q w3 H3 I3
  have J3 := J2.trans I3
  clear J2 I3 H2
  go_wp2_with fail
  refine load_e0 hv.with H3 (Dk.new_ok 0 (by omega)) (by simp [Dk.new]) (new_atE 0 0) (by decide) ?_
  intro w4 H4' I4
  have H4 := H4'.alloc (.cells #[.int .i64 0, .int .i64 0, .int .i64 0, .int .i64 0, .int .i64 0] 23)
  have J4 := (J3.trans I4).alloc (.cells #[.int .i64 0, .int .i64 0, .int .i64 0, .int .i64 0, .int .i64 0] 23)
  clear J3 I4 H3 H4'
  generalize (Dk.new 0).read 0 = dd at *
  go_wp2_with fail
  refine load_nil H4 ?_
  intro w5 H5' I5
  have H5 := H5'.alloc (.cells #[.int .i64 0, .int .i64 0, .int .i64 0, .int .i64 0, .int .i64 0] 23)
  have J5 := (J4.trans I5).alloc (.cells #[.int .i64 0, .int .i64 0, .int .i64 0, .int .i64 0, .int .i64 0] 23)
  clear J4 I5 H4
  have HB : Sat (pts B0 (.cells #[.int .i64 e, .int .i64 p, .int .i64 c, .int .i64 f, .int .i64 n] 23 (0, 0)) * (IsPf q pp dd * F)) (w5.alloc (.cells #[.int .i64 0, .int .i64 0, .int .i64 0, .int .i64 0, .int .i64 0] 23)) := H5.of_eq (by ac_rfl)
  have HB5 : Sat (pts B0 (.cells #[.int .i64 e, .int .i64 p, .int .i64 c, .int .i64 f, .int .i64 n] 23 (0, 0)) * (IsPf q pp dd * F)) w5 := H5'.of_eq (by ac_rfl)
  have lb := HB5.left.lt
  have x0 := Sat.read HB5.left.at 0
  have x1 := Sat.read HB5.left.at 1
  have x2 := Sat.read HB5.left.at 2
  have x3 := Sat.read HB5.left.at 3
  have x4 := Sat.read HB5.left.at 4
  simp only [List.getElem?_toArray, List.getElem?_cons_zero, List.getElem?_cons_succ] at x0 x1 x2 x3 x4
  go_wp2_with fail
  refine store_bad hg hv.with.with _ HB ?_
  intro w6 H6 I6
  have fin := HH.out _ H6.right.right (J5.trans I6)
  clear HH H6 HB HB5 H5' H5 J5 I6
  go_wp2_with fail
  exact fin

set_option maxRecDepth 100000 in
set_option maxHeartbeats 4000000 in
theorem none_1y (hv : Hv F) (hk : min (max m 0) 4 = 1) (hg : Hid (Rt.good ⟨e, p, c, f, n⟩ = true)) (H : Sat F w) (h : ∀ w', Sat F w' → Io w w' → R (.returned (.bool true)) w') :
    Calls Tryd.prog 7 #[.int .i64 m, .agg #[.int .i64 e, .int .i64 p, .int .i64 c, .int .i64 f, .int .i64 n]] w R := by
  have HH := Lib.hid h
  clear h
  have hcl : min (max m 0) 4 = 1 := hk
  clear hk
  obtain ⟨s, S⟩ : ∃ t, Hid (t = tx (Rt.bytes ⟨e, p, c, f, n⟩)) := ⟨_, Lib.hid rfl⟩
  have H0 := H.new (.cells #[.int .i64 e, .int .i64 p, .int .i64 c, .int .i64 f, .int .i64 n] 23)
  have J0 := (Io.refl w).alloc (.cells #[.int .i64 e, .int .i64 p, .int .i64 c, .int .i64 f, .int .i64 n] 23)
  go_enter Tryd.func7, Tryd.ntmps7
  go_wp2_with fail
  generalize w.alloc (.cells #[.int .i64 e, .int .i64 p, .int .i64 c, .int .i64 f, .int .i64 n] 23) = v0 at *
  generalize w.heap.size = B0 at *
  refine works_any hv.with H0 ?_
  intro w1 H1 I1
  have J1 := J0.trans I1
  clear J0 I1 H0 H
  go_wp2_with fail
  refine new_any 1 (by omega) (by omega) H1 ?_
  rw [show (min (max 1 0) 16384 : Int).toNat = 1 from rfl]
  intro pp w2 H2 I2
  have J2 := J1.trans I2
  clear J1 I2 H1
  go_wp2_with fail
  refine pf_new H2 ?_
  intro q w3 H3 I3
  have J3 := J2.trans I3
  clear J2 I3 H2
  go_wp2_with fail
  refine load_e1 hv.with H3 (Dk.new_ok 1 (by omega)) (by simp [Dk.new]) (new_atE 1 0) (new_atE 1 1) (by decide) ?_
  intro w4 H4' I4
  have H4 := H4'.alloc (.cells #[.int .i64 0, .int .i64 0, .int .i64 0, .int .i64 0, .int .i64 0] 23)
  have J4 := (J3.trans I4).alloc (.cells #[.int .i64 0, .int .i64 0, .int .i64 0, .int .i64 0, .int .i64 0] 23)
  clear J3 I4 H3 H4'
  generalize ((Dk.new 1).read 0).read 1 = dd at *
  go_wp2_with fail
  refine load_nil H4 ?_
  intro w5 H5' I5
  have H5 := H5'.alloc (.cells #[.int .i64 0, .int .i64 0, .int .i64 0, .int .i64 0, .int .i64 0] 23)
  have J5 := (J4.trans I5).alloc (.cells #[.int .i64 0, .int .i64 0, .int .i64 0, .int .i64 0, .int .i64 0] 23)
  clear J4 I5 H4
  have HB : Sat (pts B0 (.cells #[.int .i64 e, .int .i64 p, .int .i64 c, .int .i64 f, .int .i64 n] 23 (0, 0)) * (IsPf q pp dd * F)) (w5.alloc (.cells #[.int .i64 0, .int .i64 0, .int .i64 0, .int .i64 0, .int .i64 0] 23)) := H5.of_eq (by ac_rfl)
  have HB5 : Sat (pts B0 (.cells #[.int .i64 e, .int .i64 p, .int .i64 c, .int .i64 f, .int .i64 n] 23 (0, 0)) * (IsPf q pp dd * F)) w5 := H5'.of_eq (by ac_rfl)
  have lb := HB5.left.lt
  have x0 := Sat.read HB5.left.at 0
  have x1 := Sat.read HB5.left.at 1
  have x2 := Sat.read HB5.left.at 2
  have x3 := Sat.read HB5.left.at 3
  have x4 := Sat.read HB5.left.at 4
  simp only [List.getElem?_toArray, List.getElem?_cons_zero, List.getElem?_cons_succ] at x0 x1 x2 x3 x4
  go_wp2_with fail
  refine store_nil hg S hv.with.with HB ?_
  intro w6 H6 I6
  have fin := HH.out _ H6.right.right (J5.trans I6)
  clear HH H6 HB HB5 H5' H5 J5 I6
  go_wp2_with fail
  exact fin

set_option maxRecDepth 100000 in
set_option maxHeartbeats 4000000 in
theorem none_1n (hv : Hv F) (hk : min (max m 0) 4 = 1) (hg : Hid (Rt.good ⟨e, p, c, f, n⟩ = false)) (H : Sat F w) (h : ∀ w', Sat F w' → Io w w' → R (.returned (.bool true)) w') :
    Calls Tryd.prog 7 #[.int .i64 m, .agg #[.int .i64 e, .int .i64 p, .int .i64 c, .int .i64 f, .int .i64 n]] w R := by
  have HH := Lib.hid h
  clear h
  have hcl : min (max m 0) 4 = 1 := hk
  clear hk
  have H0 := H.new (.cells #[.int .i64 e, .int .i64 p, .int .i64 c, .int .i64 f, .int .i64 n] 23)
  have J0 := (Io.refl w).alloc (.cells #[.int .i64 e, .int .i64 p, .int .i64 c, .int .i64 f, .int .i64 n] 23)
  go_enter Tryd.func7, Tryd.ntmps7
  go_wp2_with fail
  generalize w.alloc (.cells #[.int .i64 e, .int .i64 p, .int .i64 c, .int .i64 f, .int .i64 n] 23) = v0 at *
  generalize w.heap.size = B0 at *
  refine works_any hv.with H0 ?_
  intro w1 H1 I1
  have J1 := J0.trans I1
  clear J0 I1 H0 H
  go_wp2_with fail
  refine new_any 1 (by omega) (by omega) H1 ?_
  rw [show (min (max 1 0) 16384 : Int).toNat = 1 from rfl]
  intro pp w2 H2 I2
  have J2 := J1.trans I2
  clear J1 I2 H1
  go_wp2_with fail
  refine pf_new H2 ?_
  intro q w3 H3 I3
  have J3 := J2.trans I3
  clear J2 I3 H2
  go_wp2_with fail
  refine load_e1 hv.with H3 (Dk.new_ok 1 (by omega)) (by simp [Dk.new]) (new_atE 1 0) (new_atE 1 1) (by decide) ?_
  intro w4 H4' I4
  have H4 := H4'.alloc (.cells #[.int .i64 0, .int .i64 0, .int .i64 0, .int .i64 0, .int .i64 0] 23)
  have J4 := (J3.trans I4).alloc (.cells #[.int .i64 0, .int .i64 0, .int .i64 0, .int .i64 0, .int .i64 0] 23)
  clear J3 I4 H3 H4'
  generalize ((Dk.new 1).read 0).read 1 = dd at *
  go_wp2_with fail
  refine load_nil H4 ?_
  intro w5 H5' I5
  have H5 := H5'.alloc (.cells #[.int .i64 0, .int .i64 0, .int .i64 0, .int .i64 0, .int .i64 0] 23)
  have J5 := (J4.trans I5).alloc (.cells #[.int .i64 0, .int .i64 0, .int .i64 0, .int .i64 0, .int .i64 0] 23)
  clear J4 I5 H4
  have HB : Sat (pts B0 (.cells #[.int .i64 e, .int .i64 p, .int .i64 c, .int .i64 f, .int .i64 n] 23 (0, 0)) * (IsPf q pp dd * F)) (w5.alloc (.cells #[.int .i64 0, .int .i64 0, .int .i64 0, .int .i64 0, .int .i64 0] 23)) := H5.of_eq (by ac_rfl)
  have HB5 : Sat (pts B0 (.cells #[.int .i64 e, .int .i64 p, .int .i64 c, .int .i64 f, .int .i64 n] 23 (0, 0)) * (IsPf q pp dd * F)) w5 := H5'.of_eq (by ac_rfl)
  have lb := HB5.left.lt
  have x0 := Sat.read HB5.left.at 0
  have x1 := Sat.read HB5.left.at 1
  have x2 := Sat.read HB5.left.at 2
  have x3 := Sat.read HB5.left.at 3
  have x4 := Sat.read HB5.left.at 4
  simp only [List.getElem?_toArray, List.getElem?_cons_zero, List.getElem?_cons_succ] at x0 x1 x2 x3 x4
  go_wp2_with fail
  refine store_bad hg hv.with.with _ HB ?_
  intro w6 H6 I6
  have fin := HH.out _ H6.right.right (J5.trans I6)
  clear HH H6 HB HB5 H5' H5 J5 I6
  go_wp2_with fail
  exact fin

set_option maxRecDepth 100000 in
set_option maxHeartbeats 4000000 in
theorem none_2y (hv : Hv F) (hk : min (max m 0) 4 = 2) (hg : Hid (Rt.good ⟨e, p, c, f, n⟩ = true)) (H : Sat F w) (h : ∀ w', Sat F w' → Io w w' → R (.returned (.bool true)) w') :
    Calls Tryd.prog 7 #[.int .i64 m, .agg #[.int .i64 e, .int .i64 p, .int .i64 c, .int .i64 f, .int .i64 n]] w R := by
  have HH := Lib.hid h
  clear h
  have hcl : min (max m 0) 4 = 2 := hk
  clear hk
  obtain ⟨s, S⟩ : ∃ t, Hid (t = tx (Rt.bytes ⟨e, p, c, f, n⟩)) := ⟨_, Lib.hid rfl⟩
  have H0 := H.new (.cells #[.int .i64 e, .int .i64 p, .int .i64 c, .int .i64 f, .int .i64 n] 23)
  have J0 := (Io.refl w).alloc (.cells #[.int .i64 e, .int .i64 p, .int .i64 c, .int .i64 f, .int .i64 n] 23)
  go_enter Tryd.func7, Tryd.ntmps7
  go_wp2_with fail
  generalize w.alloc (.cells #[.int .i64 e, .int .i64 p, .int .i64 c, .int .i64 f, .int .i64 n] 23) = v0 at *
  generalize w.heap.size = B0 at *
  refine works_any hv.with H0 ?_
  intro w1 H1 I1
  have J1 := J0.trans I1
  clear J0 I1 H0 H
  go_wp2_with fail
  refine new_any 2 (by omega) (by omega) H1 ?_
  rw [show (min (max 2 0) 16384 : Int).toNat = 2 from rfl]
  intro pp w2 H2 I2
  have J2 := J1.trans I2
  clear J1 I2 H1
  go_wp2_with fail
  refine pf_new H2 ?_
  intro q w3 H3 I3
  have J3 := J2.trans I3
  clear J2 I3 H2
  go_wp2_with fail
  refine load_none hv.with H3 (Dk.new_ok 2 (by omega)) (by simp [Dk.new]) (new_atE 2 0) (new_atE 2 1) (by rw [show (0 : Int) = ((0 : Nat) : Int) from rfl, show (1 : Int) = ((1 : Nat) : Int) from rfl, new_readS 2 0 (by omega), new_readS 2 1 (by omega)]; exact pick_zeros) ?_
  intro w4 H4' I4
  have H4 := H4'.alloc (.cells #[.int .i64 0, .int .i64 0, .int .i64 0, .int .i64 0, .int .i64 0] 23)
  have J4 := (J3.trans I4).alloc (.cells #[.int .i64 0, .int .i64 0, .int .i64 0, .int .i64 0, .int .i64 0] 23)
  clear J3 I4 H3 H4'
  generalize ((Dk.new 2).read 0).read 1 = dd at *
  go_wp2_with fail
  refine load_nil H4 ?_
  intro w5 H5' I5
  have H5 := H5'.alloc (.cells #[.int .i64 0, .int .i64 0, .int .i64 0, .int .i64 0, .int .i64 0] 23)
  have J5 := (J4.trans I5).alloc (.cells #[.int .i64 0, .int .i64 0, .int .i64 0, .int .i64 0, .int .i64 0] 23)
  clear J4 I5 H4
  have HB : Sat (pts B0 (.cells #[.int .i64 e, .int .i64 p, .int .i64 c, .int .i64 f, .int .i64 n] 23 (0, 0)) * (IsPf q pp dd * F)) (w5.alloc (.cells #[.int .i64 0, .int .i64 0, .int .i64 0, .int .i64 0, .int .i64 0] 23)) := H5.of_eq (by ac_rfl)
  have HB5 : Sat (pts B0 (.cells #[.int .i64 e, .int .i64 p, .int .i64 c, .int .i64 f, .int .i64 n] 23 (0, 0)) * (IsPf q pp dd * F)) w5 := H5'.of_eq (by ac_rfl)
  have lb := HB5.left.lt
  have x0 := Sat.read HB5.left.at 0
  have x1 := Sat.read HB5.left.at 1
  have x2 := Sat.read HB5.left.at 2
  have x3 := Sat.read HB5.left.at 3
  have x4 := Sat.read HB5.left.at 4
  simp only [List.getElem?_toArray, List.getElem?_cons_zero, List.getElem?_cons_succ] at x0 x1 x2 x3 x4
  go_wp2_with fail
  refine store_nil hg S hv.with.with HB ?_
  intro w6 H6 I6
  have fin := HH.out _ H6.right.right (J5.trans I6)
  clear HH H6 HB HB5 H5' H5 J5 I6
  go_wp2_with fail
  exact fin

set_option maxRecDepth 100000 in
set_option maxHeartbeats 4000000 in
theorem none_2n (hv : Hv F) (hk : min (max m 0) 4 = 2) (hg : Hid (Rt.good ⟨e, p, c, f, n⟩ = false)) (H : Sat F w) (h : ∀ w', Sat F w' → Io w w' → R (.returned (.bool true)) w') :
    Calls Tryd.prog 7 #[.int .i64 m, .agg #[.int .i64 e, .int .i64 p, .int .i64 c, .int .i64 f, .int .i64 n]] w R := by
  have HH := Lib.hid h
  clear h
  have hcl : min (max m 0) 4 = 2 := hk
  clear hk
  have H0 := H.new (.cells #[.int .i64 e, .int .i64 p, .int .i64 c, .int .i64 f, .int .i64 n] 23)
  have J0 := (Io.refl w).alloc (.cells #[.int .i64 e, .int .i64 p, .int .i64 c, .int .i64 f, .int .i64 n] 23)
  go_enter Tryd.func7, Tryd.ntmps7
  go_wp2_with fail
  generalize w.alloc (.cells #[.int .i64 e, .int .i64 p, .int .i64 c, .int .i64 f, .int .i64 n] 23) = v0 at *
  generalize w.heap.size = B0 at *
  refine works_any hv.with H0 ?_
  intro w1 H1 I1
  have J1 := J0.trans I1
  clear J0 I1 H0 H
  go_wp2_with fail
  refine new_any 2 (by omega) (by omega) H1 ?_
  rw [show (min (max 2 0) 16384 : Int).toNat = 2 from rfl]
  intro pp w2 H2 I2
  have J2 := J1.trans I2
  clear J1 I2 H1
  go_wp2_with fail
  refine pf_new H2 ?_
  intro q w3 H3 I3
  have J3 := J2.trans I3
  clear J2 I3 H2
  go_wp2_with fail
  refine load_none hv.with H3 (Dk.new_ok 2 (by omega)) (by simp [Dk.new]) (new_atE 2 0) (new_atE 2 1) (by rw [show (0 : Int) = ((0 : Nat) : Int) from rfl, show (1 : Int) = ((1 : Nat) : Int) from rfl, new_readS 2 0 (by omega), new_readS 2 1 (by omega)]; exact pick_zeros) ?_
  intro w4 H4' I4
  have H4 := H4'.alloc (.cells #[.int .i64 0, .int .i64 0, .int .i64 0, .int .i64 0, .int .i64 0] 23)
  have J4 := (J3.trans I4).alloc (.cells #[.int .i64 0, .int .i64 0, .int .i64 0, .int .i64 0, .int .i64 0] 23)
  clear J3 I4 H3 H4'
  generalize ((Dk.new 2).read 0).read 1 = dd at *
  go_wp2_with fail
  refine load_nil H4 ?_
  intro w5 H5' I5
  have H5 := H5'.alloc (.cells #[.int .i64 0, .int .i64 0, .int .i64 0, .int .i64 0, .int .i64 0] 23)
  have J5 := (J4.trans I5).alloc (.cells #[.int .i64 0, .int .i64 0, .int .i64 0, .int .i64 0, .int .i64 0] 23)
  clear J4 I5 H4
  have HB : Sat (pts B0 (.cells #[.int .i64 e, .int .i64 p, .int .i64 c, .int .i64 f, .int .i64 n] 23 (0, 0)) * (IsPf q pp dd * F)) (w5.alloc (.cells #[.int .i64 0, .int .i64 0, .int .i64 0, .int .i64 0, .int .i64 0] 23)) := H5.of_eq (by ac_rfl)
  have HB5 : Sat (pts B0 (.cells #[.int .i64 e, .int .i64 p, .int .i64 c, .int .i64 f, .int .i64 n] 23 (0, 0)) * (IsPf q pp dd * F)) w5 := H5'.of_eq (by ac_rfl)
  have lb := HB5.left.lt
  have x0 := Sat.read HB5.left.at 0
  have x1 := Sat.read HB5.left.at 1
  have x2 := Sat.read HB5.left.at 2
  have x3 := Sat.read HB5.left.at 3
  have x4 := Sat.read HB5.left.at 4
  simp only [List.getElem?_toArray, List.getElem?_cons_zero, List.getElem?_cons_succ] at x0 x1 x2 x3 x4
  go_wp2_with fail
  refine store_bad hg hv.with.with _ HB ?_
  intro w6 H6 I6
  have fin := HH.out _ H6.right.right (J5.trans I6)
  clear HH H6 HB HB5 H5' H5 J5 I6
  go_wp2_with fail
  exact fin

set_option maxRecDepth 100000 in
set_option maxHeartbeats 4000000 in
theorem none_3y (hv : Hv F) (hk : min (max m 0) 4 = 3) (hg : Hid (Rt.good ⟨e, p, c, f, n⟩ = true)) (H : Sat F w) (h : ∀ w', Sat F w' → Io w w' → R (.returned (.bool true)) w') :
    Calls Tryd.prog 7 #[.int .i64 m, .agg #[.int .i64 e, .int .i64 p, .int .i64 c, .int .i64 f, .int .i64 n]] w R := by
  have HH := Lib.hid h
  clear h
  have hcl : min (max m 0) 4 = 3 := hk
  clear hk
  obtain ⟨s, S⟩ : ∃ t, Hid (t = tx (Rt.bytes ⟨e, p, c, f, n⟩)) := ⟨_, Lib.hid rfl⟩
  have H0 := H.new (.cells #[.int .i64 e, .int .i64 p, .int .i64 c, .int .i64 f, .int .i64 n] 23)
  have J0 := (Io.refl w).alloc (.cells #[.int .i64 e, .int .i64 p, .int .i64 c, .int .i64 f, .int .i64 n] 23)
  go_enter Tryd.func7, Tryd.ntmps7
  go_wp2_with fail
  generalize w.alloc (.cells #[.int .i64 e, .int .i64 p, .int .i64 c, .int .i64 f, .int .i64 n] 23) = v0 at *
  generalize w.heap.size = B0 at *
  refine works_any hv.with H0 ?_
  intro w1 H1 I1
  have J1 := J0.trans I1
  clear J0 I1 H0 H
  go_wp2_with fail
  refine new_any 3 (by omega) (by omega) H1 ?_
  rw [show (min (max 3 0) 16384 : Int).toNat = 3 from rfl]
  intro pp w2 H2 I2
  have J2 := J1.trans I2
  clear J1 I2 H1
  go_wp2_with fail
  refine pf_new H2 ?_
  intro q w3 H3 I3
  have J3 := J2.trans I3
  clear J2 I3 H2
  go_wp2_with fail
  refine load_none hv.with H3 (Dk.new_ok 3 (by omega)) (by simp [Dk.new]) (new_atE 3 0) (new_atE 3 1) (by rw [show (0 : Int) = ((0 : Nat) : Int) from rfl, show (1 : Int) = ((1 : Nat) : Int) from rfl, new_readS 3 0 (by omega), new_readS 3 1 (by omega)]; exact pick_zeros) ?_
  intro w4 H4' I4
  have H4 := H4'.alloc (.cells #[.int .i64 0, .int .i64 0, .int .i64 0, .int .i64 0, .int .i64 0] 23)
  have J4 := (J3.trans I4).alloc (.cells #[.int .i64 0, .int .i64 0, .int .i64 0, .int .i64 0, .int .i64 0] 23)
  clear J3 I4 H3 H4'
  generalize ((Dk.new 3).read 0).read 1 = dd at *
  go_wp2_with fail
  refine load_nil H4 ?_
  intro w5 H5' I5
  have H5 := H5'.alloc (.cells #[.int .i64 0, .int .i64 0, .int .i64 0, .int .i64 0, .int .i64 0] 23)
  have J5 := (J4.trans I5).alloc (.cells #[.int .i64 0, .int .i64 0, .int .i64 0, .int .i64 0, .int .i64 0] 23)
  clear J4 I5 H4
  have HB : Sat (pts B0 (.cells #[.int .i64 e, .int .i64 p, .int .i64 c, .int .i64 f, .int .i64 n] 23 (0, 0)) * (IsPf q pp dd * F)) (w5.alloc (.cells #[.int .i64 0, .int .i64 0, .int .i64 0, .int .i64 0, .int .i64 0] 23)) := H5.of_eq (by ac_rfl)
  have HB5 : Sat (pts B0 (.cells #[.int .i64 e, .int .i64 p, .int .i64 c, .int .i64 f, .int .i64 n] 23 (0, 0)) * (IsPf q pp dd * F)) w5 := H5'.of_eq (by ac_rfl)
  have lb := HB5.left.lt
  have x0 := Sat.read HB5.left.at 0
  have x1 := Sat.read HB5.left.at 1
  have x2 := Sat.read HB5.left.at 2
  have x3 := Sat.read HB5.left.at 3
  have x4 := Sat.read HB5.left.at 4
  simp only [List.getElem?_toArray, List.getElem?_cons_zero, List.getElem?_cons_succ] at x0 x1 x2 x3 x4
  go_wp2_with fail
  refine store_nil hg S hv.with.with HB ?_
  intro w6 H6 I6
  have fin := HH.out _ H6.right.right (J5.trans I6)
  clear HH H6 HB HB5 H5' H5 J5 I6
  go_wp2_with fail
  exact fin

set_option maxRecDepth 100000 in
set_option maxHeartbeats 4000000 in
theorem none_3n (hv : Hv F) (hk : min (max m 0) 4 = 3) (hg : Hid (Rt.good ⟨e, p, c, f, n⟩ = false)) (H : Sat F w) (h : ∀ w', Sat F w' → Io w w' → R (.returned (.bool true)) w') :
    Calls Tryd.prog 7 #[.int .i64 m, .agg #[.int .i64 e, .int .i64 p, .int .i64 c, .int .i64 f, .int .i64 n]] w R := by
  have HH := Lib.hid h
  clear h
  have hcl : min (max m 0) 4 = 3 := hk
  clear hk
  have H0 := H.new (.cells #[.int .i64 e, .int .i64 p, .int .i64 c, .int .i64 f, .int .i64 n] 23)
  have J0 := (Io.refl w).alloc (.cells #[.int .i64 e, .int .i64 p, .int .i64 c, .int .i64 f, .int .i64 n] 23)
  go_enter Tryd.func7, Tryd.ntmps7
  go_wp2_with fail
  generalize w.alloc (.cells #[.int .i64 e, .int .i64 p, .int .i64 c, .int .i64 f, .int .i64 n] 23) = v0 at *
  generalize w.heap.size = B0 at *
  refine works_any hv.with H0 ?_
  intro w1 H1 I1
  have J1 := J0.trans I1
  clear J0 I1 H0 H
  go_wp2_with fail
  refine new_any 3 (by omega) (by omega) H1 ?_
  rw [show (min (max 3 0) 16384 : Int).toNat = 3 from rfl]
  intro pp w2 H2 I2
  have J2 := J1.trans I2
  clear J1 I2 H1
  go_wp2_with fail
  refine pf_new H2 ?_
  intro q w3 H3 I3
  have J3 := J2.trans I3
  clear J2 I3 H2
  go_wp2_with fail
  refine load_none hv.with H3 (Dk.new_ok 3 (by omega)) (by simp [Dk.new]) (new_atE 3 0) (new_atE 3 1) (by rw [show (0 : Int) = ((0 : Nat) : Int) from rfl, show (1 : Int) = ((1 : Nat) : Int) from rfl, new_readS 3 0 (by omega), new_readS 3 1 (by omega)]; exact pick_zeros) ?_
  intro w4 H4' I4
  have H4 := H4'.alloc (.cells #[.int .i64 0, .int .i64 0, .int .i64 0, .int .i64 0, .int .i64 0] 23)
  have J4 := (J3.trans I4).alloc (.cells #[.int .i64 0, .int .i64 0, .int .i64 0, .int .i64 0, .int .i64 0] 23)
  clear J3 I4 H3 H4'
  generalize ((Dk.new 3).read 0).read 1 = dd at *
  go_wp2_with fail
  refine load_nil H4 ?_
  intro w5 H5' I5
  have H5 := H5'.alloc (.cells #[.int .i64 0, .int .i64 0, .int .i64 0, .int .i64 0, .int .i64 0] 23)
  have J5 := (J4.trans I5).alloc (.cells #[.int .i64 0, .int .i64 0, .int .i64 0, .int .i64 0, .int .i64 0] 23)
  clear J4 I5 H4
  have HB : Sat (pts B0 (.cells #[.int .i64 e, .int .i64 p, .int .i64 c, .int .i64 f, .int .i64 n] 23 (0, 0)) * (IsPf q pp dd * F)) (w5.alloc (.cells #[.int .i64 0, .int .i64 0, .int .i64 0, .int .i64 0, .int .i64 0] 23)) := H5.of_eq (by ac_rfl)
  have HB5 : Sat (pts B0 (.cells #[.int .i64 e, .int .i64 p, .int .i64 c, .int .i64 f, .int .i64 n] 23 (0, 0)) * (IsPf q pp dd * F)) w5 := H5'.of_eq (by ac_rfl)
  have lb := HB5.left.lt
  have x0 := Sat.read HB5.left.at 0
  have x1 := Sat.read HB5.left.at 1
  have x2 := Sat.read HB5.left.at 2
  have x3 := Sat.read HB5.left.at 3
  have x4 := Sat.read HB5.left.at 4
  simp only [List.getElem?_toArray, List.getElem?_cons_zero, List.getElem?_cons_succ] at x0 x1 x2 x3 x4
  go_wp2_with fail
  refine store_bad hg hv.with.with _ HB ?_
  intro w6 H6 I6
  have fin := HH.out _ H6.right.right (J5.trans I6)
  clear HH H6 HB HB5 H5' H5 J5 I6
  go_wp2_with fail
  exact fin

set_option maxRecDepth 100000 in
set_option maxHeartbeats 4000000 in
theorem none_4y (hv : Hv F) (hk : min (max m 0) 4 = 4) (hg : Hid (Rt.good ⟨e, p, c, f, n⟩ = true)) (H : Sat F w) (h : ∀ w', Sat F w' → Io w w' → R (.returned (.bool true)) w') :
    Calls Tryd.prog 7 #[.int .i64 m, .agg #[.int .i64 e, .int .i64 p, .int .i64 c, .int .i64 f, .int .i64 n]] w R := by
  have HH := Lib.hid h
  clear h
  have hcl : min (max m 0) 4 = 4 := hk
  clear hk
  obtain ⟨s, S⟩ : ∃ t, Hid (t = tx (Rt.bytes ⟨e, p, c, f, n⟩)) := ⟨_, Lib.hid rfl⟩
  have H0 := H.new (.cells #[.int .i64 e, .int .i64 p, .int .i64 c, .int .i64 f, .int .i64 n] 23)
  have J0 := (Io.refl w).alloc (.cells #[.int .i64 e, .int .i64 p, .int .i64 c, .int .i64 f, .int .i64 n] 23)
  go_enter Tryd.func7, Tryd.ntmps7
  go_wp2_with fail
  generalize w.alloc (.cells #[.int .i64 e, .int .i64 p, .int .i64 c, .int .i64 f, .int .i64 n] 23) = v0 at *
  generalize w.heap.size = B0 at *
  refine works_any hv.with H0 ?_
  intro w1 H1 I1
  have J1 := J0.trans I1
  clear J0 I1 H0 H
  go_wp2_with fail
  refine new_any 4 (by omega) (by omega) H1 ?_
  rw [show (min (max 4 0) 16384 : Int).toNat = 4 from rfl]
  intro pp w2 H2 I2
  have J2 := J1.trans I2
  clear J1 I2 H1
  go_wp2_with fail
  refine pf_new H2 ?_
  intro q w3 H3 I3
  have J3 := J2.trans I3
  clear J2 I3 H2
  go_wp2_with fail
  refine load_none hv.with H3 (Dk.new_ok 4 (by omega)) (by simp [Dk.new]) (new_atE 4 0) (new_atE 4 1) (by rw [show (0 : Int) = ((0 : Nat) : Int) from rfl, show (1 : Int) = ((1 : Nat) : Int) from rfl, new_readS 4 0 (by omega), new_readS 4 1 (by omega)]; exact pick_zeros) ?_
  intro w4 H4' I4
  have H4 := H4'.alloc (.cells #[.int .i64 0, .int .i64 0, .int .i64 0, .int .i64 0, .int .i64 0] 23)
  have J4 := (J3.trans I4).alloc (.cells #[.int .i64 0, .int .i64 0, .int .i64 0, .int .i64 0, .int .i64 0] 23)
  clear J3 I4 H3 H4'
  generalize ((Dk.new 4).read 0).read 1 = dd at *
  go_wp2_with fail
  refine load_nil H4 ?_
  intro w5 H5' I5
  have H5 := H5'.alloc (.cells #[.int .i64 0, .int .i64 0, .int .i64 0, .int .i64 0, .int .i64 0] 23)
  have J5 := (J4.trans I5).alloc (.cells #[.int .i64 0, .int .i64 0, .int .i64 0, .int .i64 0, .int .i64 0] 23)
  clear J4 I5 H4
  have HB : Sat (pts B0 (.cells #[.int .i64 e, .int .i64 p, .int .i64 c, .int .i64 f, .int .i64 n] 23 (0, 0)) * (IsPf q pp dd * F)) (w5.alloc (.cells #[.int .i64 0, .int .i64 0, .int .i64 0, .int .i64 0, .int .i64 0] 23)) := H5.of_eq (by ac_rfl)
  have HB5 : Sat (pts B0 (.cells #[.int .i64 e, .int .i64 p, .int .i64 c, .int .i64 f, .int .i64 n] 23 (0, 0)) * (IsPf q pp dd * F)) w5 := H5'.of_eq (by ac_rfl)
  have lb := HB5.left.lt
  have x0 := Sat.read HB5.left.at 0
  have x1 := Sat.read HB5.left.at 1
  have x2 := Sat.read HB5.left.at 2
  have x3 := Sat.read HB5.left.at 3
  have x4 := Sat.read HB5.left.at 4
  simp only [List.getElem?_toArray, List.getElem?_cons_zero, List.getElem?_cons_succ] at x0 x1 x2 x3 x4
  go_wp2_with fail
  refine store_nil hg S hv.with.with HB ?_
  intro w6 H6 I6
  have fin := HH.out _ H6.right.right (J5.trans I6)
  clear HH H6 HB HB5 H5' H5 J5 I6
  go_wp2_with fail
  exact fin

set_option maxRecDepth 100000 in
set_option maxHeartbeats 4000000 in
theorem none_4n (hv : Hv F) (hk : min (max m 0) 4 = 4) (hg : Hid (Rt.good ⟨e, p, c, f, n⟩ = false)) (H : Sat F w) (h : ∀ w', Sat F w' → Io w w' → R (.returned (.bool true)) w') :
    Calls Tryd.prog 7 #[.int .i64 m, .agg #[.int .i64 e, .int .i64 p, .int .i64 c, .int .i64 f, .int .i64 n]] w R := by
  have HH := Lib.hid h
  clear h
  have hcl : min (max m 0) 4 = 4 := hk
  clear hk
  have H0 := H.new (.cells #[.int .i64 e, .int .i64 p, .int .i64 c, .int .i64 f, .int .i64 n] 23)
  have J0 := (Io.refl w).alloc (.cells #[.int .i64 e, .int .i64 p, .int .i64 c, .int .i64 f, .int .i64 n] 23)
  go_enter Tryd.func7, Tryd.ntmps7
  go_wp2_with fail
  generalize w.alloc (.cells #[.int .i64 e, .int .i64 p, .int .i64 c, .int .i64 f, .int .i64 n] 23) = v0 at *
  generalize w.heap.size = B0 at *
  refine works_any hv.with H0 ?_
  intro w1 H1 I1
  have J1 := J0.trans I1
  clear J0 I1 H0 H
  go_wp2_with fail
  refine new_any 4 (by omega) (by omega) H1 ?_
  rw [show (min (max 4 0) 16384 : Int).toNat = 4 from rfl]
  intro pp w2 H2 I2
  have J2 := J1.trans I2
  clear J1 I2 H1
  go_wp2_with fail
  refine pf_new H2 ?_
  intro q w3 H3 I3
  have J3 := J2.trans I3
  clear J2 I3 H2
  go_wp2_with fail
  refine load_none hv.with H3 (Dk.new_ok 4 (by omega)) (by simp [Dk.new]) (new_atE 4 0) (new_atE 4 1) (by rw [show (0 : Int) = ((0 : Nat) : Int) from rfl, show (1 : Int) = ((1 : Nat) : Int) from rfl, new_readS 4 0 (by omega), new_readS 4 1 (by omega)]; exact pick_zeros) ?_
  intro w4 H4' I4
  have H4 := H4'.alloc (.cells #[.int .i64 0, .int .i64 0, .int .i64 0, .int .i64 0, .int .i64 0] 23)
  have J4 := (J3.trans I4).alloc (.cells #[.int .i64 0, .int .i64 0, .int .i64 0, .int .i64 0, .int .i64 0] 23)
  clear J3 I4 H3 H4'
  generalize ((Dk.new 4).read 0).read 1 = dd at *
  go_wp2_with fail
  refine load_nil H4 ?_
  intro w5 H5' I5
  have H5 := H5'.alloc (.cells #[.int .i64 0, .int .i64 0, .int .i64 0, .int .i64 0, .int .i64 0] 23)
  have J5 := (J4.trans I5).alloc (.cells #[.int .i64 0, .int .i64 0, .int .i64 0, .int .i64 0, .int .i64 0] 23)
  clear J4 I5 H4
  have HB : Sat (pts B0 (.cells #[.int .i64 e, .int .i64 p, .int .i64 c, .int .i64 f, .int .i64 n] 23 (0, 0)) * (IsPf q pp dd * F)) (w5.alloc (.cells #[.int .i64 0, .int .i64 0, .int .i64 0, .int .i64 0, .int .i64 0] 23)) := H5.of_eq (by ac_rfl)
  have HB5 : Sat (pts B0 (.cells #[.int .i64 e, .int .i64 p, .int .i64 c, .int .i64 f, .int .i64 n] 23 (0, 0)) * (IsPf q pp dd * F)) w5 := H5'.of_eq (by ac_rfl)
  have lb := HB5.left.lt
  have x0 := Sat.read HB5.left.at 0
  have x1 := Sat.read HB5.left.at 1
  have x2 := Sat.read HB5.left.at 2
  have x3 := Sat.read HB5.left.at 3
  have x4 := Sat.read HB5.left.at 4
  simp only [List.getElem?_toArray, List.getElem?_cons_zero, List.getElem?_cons_succ] at x0 x1 x2 x3 x4
  go_wp2_with fail
  refine store_bad hg hv.with.with _ HB ?_
  intro w6 H6 I6
  have fin := HH.out _ H6.right.right (J5.trans I6)
  clear HH H6 HB HB5 H5' H5 J5 I6
  go_wp2_with fail
  exact fin

theorem none_walk (hv : Hv F) (m : Int) (r : Rt) (H : Sat F w) (h : ∀ w', Sat F w' → Io w w' → R (.returned (.bool true)) w') :
    Calls Tryd.prog 7 #[.int .i64 m, r.val] w R := by
  obtain ⟨e, p, c, f, n⟩ := r
  have hk : min (max m 0) 4 = 0 ∨ min (max m 0) 4 = 1 ∨ min (max m 0) 4 = 2 ∨ min (max m 0) 4 = 3 ∨ min (max m 0) 4 = 4 := by omega
  cases hg : Rt.good ⟨e, p, c, f, n⟩ with
  | true =>
    rcases hk with hk | hk | hk | hk | hk
    · exact none_0y hv hk (Lib.hid hg) H h
    · exact none_1y hv hk (Lib.hid hg) H h
    · exact none_2y hv hk (Lib.hid hg) H h
    · exact none_3y hv hk (Lib.hid hg) H h
    · exact none_4y hv hk (Lib.hid hg) H h
  | false =>
    rcases hk with hk | hk | hk | hk | hk
    · exact none_0n hv hk (Lib.hid hg) H h
    · exact none_1n hv hk (Lib.hid hg) H h
    · exact none_2n hv hk (Lib.hid hg) H h
    · exact none_3n hv hk (Lib.hid hg) H h
    · exact none_4n hv hk (Lib.hid hg) H h
end
end Go.Proofs.YtghpfepmkngfdaaDoor
