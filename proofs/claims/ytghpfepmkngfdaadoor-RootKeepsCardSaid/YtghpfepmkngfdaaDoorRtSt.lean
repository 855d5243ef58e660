/-
  Roots of files: what Store does, and what is done on no file, by their walks. It proves no statement by itself.
-/
import Derived.Test.YtghpfepmkngfdaaDoorRtLd
namespace Go.Proofs.YtghpfepmkngfdaaDoor
open Go.RowKit
set_option linter.unusedSimpArgs false
set_option linter.unusedVariables false

section
variable {q pp : Nat} {d : Dk} {F : Asn} {w : World} {R : Ending → World → Prop} {s : ByteArray} {e p c f n : Int}

theorem put_at (H : Sat (IsPf q pp d * F) w) (ok : d.Ok) (hr : d.writes ≤ 4000000000000000000) (hp : d.pend.length ≤ 1000000) (i : Int) (hi0 : 0 ≤ i) (hi : i < 2) (hs : s.size ≤ 1000000)
    (h : ∀ w', Sat (IsPf q pp (d.write i s) * F) w' → Io w w' → R (.returned (.int .i64 (d.writeE i s))) w') :
    Calls Tryd.prog 35 #[.pointer (some ⟨q, 0, none⟩), .int .i64 i, .string s] w R := by
  refine pf_put H ok hr hp i s hs ?_
  have e : ¬ (i < 0 ∨ 2 ≤ i) := by omega
  unfold Dk.putR Dk.putE
  simp only [e, if_false]
  exact h

theorem store_bad (hg : Hid (Rt.good ⟨e, p, c, f, n⟩ = false)) (hv : Hv F) (v : Value) (H : Sat F w) (h : ∀ w', Sat F w' → Io w w' → R (.returned (.int .i64 1)) w') :
    Calls Tryd.prog 19 #[v, .agg #[.int .i64 e, .int .i64 p, .int .i64 c, .int .i64 f, .int .i64 n]] w R := by
  have H0 := H.new (.cells #[.int .i64 e, .int .i64 p, .int .i64 c, .int .i64 f, .int .i64 n] 23)
  have I0 := (Io.refl w).alloc (.cells #[.int .i64 e, .int .i64 p, .int .i64 c, .int .i64 f, .int .i64 n] 23)
  go_enter Tryd.func19, Tryd.ntmps19
  go_wp2_with fail
  refine enc_no hg hv.with H0 ?_
  intro w1 H1 I1
  have fin := h w1 H1.right (I0.trans I1)
  clear h H0 I0 H1
  go_wp2_with fail
  exact fin

theorem mod_two (hg : Hid (Rt.good ⟨e, p, c, f, n⟩ = true)) : 0 ≤ e ∧ 0 ≤ e % 2 ∧ e % 2 < 2 := by
  have := (Rt.of_fits (Rt.good_parts hg.out).2.1).1
  simp only at this
  omega

set_option maxRecDepth 100000 in
set_option maxHeartbeats 2000000 in
theorem store_nil (hg : Hid (Rt.good ⟨e, p, c, f, n⟩ = true)) (es : Hid (s = tx (Rt.bytes ⟨e, p, c, f, n⟩))) (hv : Hv F) (H : Sat F w) (h : ∀ w', Sat F w' → Io w w' → R (.returned (.int .i64 40)) w') :
    Calls Tryd.prog 19 #[.pointer none, .agg #[.int .i64 e, .int .i64 p, .int .i64 c, .int .i64 f, .int .i64 n]] w R := by
  have H0 := H.new (.cells #[.int .i64 e, .int .i64 p, .int .i64 c, .int .i64 f, .int .i64 n] 23)
  have I0 := (Io.refl w).alloc (.cells #[.int .i64 e, .int .i64 p, .int .i64 c, .int .i64 f, .int .i64 n] 23)
  have hm := mod_two hg
  obtain ⟨e0, e1, e2⟩ := hm
  have HH := Lib.hid h
  clear h
  go_enter Tryd.func19, Tryd.ntmps19
  go_wp2_with fail
  generalize w.alloc (.cells #[.int .i64 e, .int .i64 p, .int .i64 c, .int .i64 f, .int .i64 n] 23) = v0 at *
  generalize w.heap.size = A at *
  refine enc_yes hg es hv.with H0 ?_
  intro w1 H1 I1
  have J1 := I0.trans I1
  clear I0 I1 H0 H
  go_wp2_with fail
  refine file_none H1 ?_
  intro q pp w2 H2 I2
  have J2 := J1.trans I2
  have HQ : Sat (pts A (.cells #[.int .i64 e, .int .i64 p, .int .i64 c, .int .i64 f, .int .i64 n] 23 (0, 0)) * (IsPf q pp (Dk.new 0) * F)) w2 := H2.of_eq (by ac_rfl)
  have la := HQ.left.lt
  have x0 := Sat.read HQ.left.at 0
  simp only [List.getElem?_toArray, List.getElem?_cons_zero, List.getElem?_cons_succ] at x0
  have ew : (Dk.new 0).writeE (e % 2) s = 40 := by
    have : (Dk.new 0).atE (e % 2) = 40 := by
      unfold Dk.atE
      have h1 : ¬ (0 ≤ e % 2 ∧ e % 2 < (((Dk.new 0).sure.length : Nat) : Int)) := by simp [Dk.new]
      rw [if_neg (by simp [Dk.new]), if_neg h1]
    simp [Dk.writeE, this]
  clear J1 H1 I2
  go_wp2_with fail
  refine put_at H2 (Dk.new_ok 0 (by omega)) (by simp [Dk.new]) (by simp [Dk.new]) (e % 2) e1 e2 (small_of es) ?_
  rw [ew]
  intro w3 H3 I3
  have fin := HH.out w3 (H3.of_eq (show _ = (IsPf q pp ((Dk.new 0).write (e % 2) s) * pts A (.cells #[.int .i64 e, .int .i64 p, .int .i64 c, .int .i64 f, .int .i64 n] 23 (0, 0))) * F from by ac_rfl)).right (J2.trans I3)
  clear HH H3 H2 HQ I3 J2 ew
  go_wp2_with fail
  exact fin

set_option maxRecDepth 100000 in
set_option maxHeartbeats 2000000 in
theorem store_err (hg : Hid (Rt.good ⟨e, p, c, f, n⟩ = true)) (es : Hid (s = tx (Rt.bytes ⟨e, p, c, f, n⟩))) (hv : Hv F) (H : Sat (IsPf q pp d * F) w) (ok : d.Ok) (hr : d.writes ≤ 4000000000000000000) (hp : d.pend.length ≤ 900000) {E : Int} (he : d.writeE (e % 2) s = E) (hE : E ≠ 0) (h : ∀ w', Sat (IsPf q pp (d.write (e % 2) s) * F) w' → Io w w' → R (.returned (.int .i64 E)) w') :
    Calls Tryd.prog 19 #[.pointer (some ⟨q, 0, none⟩), .agg #[.int .i64 e, .int .i64 p, .int .i64 c, .int .i64 f, .int .i64 n]] w R := by
  have H0 := H.new (.cells #[.int .i64 e, .int .i64 p, .int .i64 c, .int .i64 f, .int .i64 n] 23)
  have I0 := (Io.refl w).alloc (.cells #[.int .i64 e, .int .i64 p, .int .i64 c, .int .i64 f, .int .i64 n] 23)
  have hm := mod_two hg
  obtain ⟨e0, e1, e2⟩ := hm
  have HH := Lib.hid h
  have hvv : ∀ {A1 A2 : Asn}, Hv (A1 * (A2 * F)) := hv.with.with
  clear h
  have ok' := Lib.hid ok
  have hr' := Lib.hid hr
  have hp' := Lib.hid hp
  have he' := Lib.hid he
  clear ok hr hp he
  have hE2 : (E != 0) = true := by rw [bne_iff_ne]; exact hE
  clear hE
  go_enter Tryd.func19, Tryd.ntmps19
  go_wp2_with fail
  generalize w.alloc (.cells #[.int .i64 e, .int .i64 p, .int .i64 c, .int .i64 f, .int .i64 n] 23) = v0 at *
  generalize w.heap.size = A at *
  refine enc_yes hg es (hvv) H0 ?_
  intro w1 H1 I1
  have J1 := I0.trans I1
  clear I0 I1 H0 H
  go_wp2_with fail
  refine file_some ?_
  have la := H1.left.lt
  have x0 := Sat.read H1.left.at 0
  simp only [List.getElem?_toArray, List.getElem?_cons_zero, List.getElem?_cons_succ] at x0
  have H2 : Sat (IsPf q pp d * (pts A (.cells #[.int .i64 e, .int .i64 p, .int .i64 c, .int .i64 f, .int .i64 n] 23 (0, 0)) * F)) w1 := H1.of_eq (by ac_rfl)
  clear H1
  go_wp2_with fail
  refine put_at H2 ok'.out hr'.out (by have := hp'.out; omega) (e % 2) e1 e2 (small_of es) ?_
  rw [he'.out]
  intro w3 H3 I3
  have J3 := J1.trans I3
  clear J1 I3 H2
  have fin := HH.out w3 (H3.of_eq (show _ = pts A (.cells #[.int .i64 e, .int .i64 p, .int .i64 c, .int .i64 f, .int .i64 n] 23 (0, 0)) * (IsPf q pp (d.write (e % 2) s) * F) from by ac_rfl)).right J3
  clear HH H3 J3
  go_wp2_with fail
  exact fin

set_option maxRecDepth 100000 in
set_option maxHeartbeats 2000000 in
theorem store_ok (hg : Hid (Rt.good ⟨e, p, c, f, n⟩ = true)) (es : Hid (s = tx (Rt.bytes ⟨e, p, c, f, n⟩))) (hv : Hv F) (H : Sat (IsPf q pp d * F) w) (ok : d.Ok) (hr : d.writes ≤ 4000000000000000000) (hp : d.pend.length ≤ 900000) (he : d.writeE (e % 2) s = 0) (h : ∀ w', Sat (IsPf q pp (d.write (e % 2) s).sync * F) w' → Io w w' → R (.returned (.int .i64 (d.write (e % 2) s).syncE)) w') :
    Calls Tryd.prog 19 #[.pointer (some ⟨q, 0, none⟩), .agg #[.int .i64 e, .int .i64 p, .int .i64 c, .int .i64 f, .int .i64 n]] w R := by
  have H0 := H.new (.cells #[.int .i64 e, .int .i64 p, .int .i64 c, .int .i64 f, .int .i64 n] 23)
  have I0 := (Io.refl w).alloc (.cells #[.int .i64 e, .int .i64 p, .int .i64 c, .int .i64 f, .int .i64 n] 23)
  have hm := mod_two hg
  obtain ⟨e0, e1, e2⟩ := hm
  have HH := Lib.hid h
  have hvv : ∀ {A1 A2 : Asn}, Hv (A1 * (A2 * F)) := hv.with.with
  clear h
  have ok' := Lib.hid ok
  have hr' := Lib.hid hr
  have hp' := Lib.hid hp
  have he' := Lib.hid he
  clear ok hr hp he
  go_enter Tryd.func19, Tryd.ntmps19
  go_wp2_with fail
  generalize w.alloc (.cells #[.int .i64 e, .int .i64 p, .int .i64 c, .int .i64 f, .int .i64 n] 23) = v0 at *
  generalize w.heap.size = A at *
  refine enc_yes hg es (hvv) H0 ?_
  intro w1 H1 I1
  have J1 := I0.trans I1
  clear I0 I1 H0 H
  go_wp2_with fail
  refine file_some ?_
  have la := H1.left.lt
  have x0 := Sat.read H1.left.at 0
  simp only [List.getElem?_toArray, List.getElem?_cons_zero, List.getElem?_cons_succ] at x0
  have H2 : Sat (IsPf q pp d * (pts A (.cells #[.int .i64 e, .int .i64 p, .int .i64 c, .int .i64 f, .int .i64 n] 23 (0, 0)) * F)) w1 := H1.of_eq (by ac_rfl)
  clear H1
  go_wp2_with fail
  refine put_at H2 ok'.out hr'.out (by have := hp'.out; omega) (e % 2) e1 e2 (small_of es) ?_
  rw [he'.out]
  intro w3 H3 I3
  have J3 := J1.trans I3
  clear J1 I3 H2
  obtain ⟨lq, c0⟩ := pf_cells H3
  have okw := Lib.hid (Dk.write_ok' ok'.out (e % 2) s)
  have hpw : Hid ((d.write (e % 2) s).pend.length ≤ 900001) := Lib.hid (by
    have := hp'.out
    unfold Dk.write
    split
    · omega
    · split
      · omega
      · simp only [List.length_append, List.length_cons, List.length_nil]; omega)
  go_wp2_with fail
  refine sync_any (pf_disk H3) okw.out (by have := hpw.out; omega) ?_
  intro w4 H4 I4
  have fin := HH.out w4 ((pf_back H4).of_eq (show _ = pts A (.cells #[.int .i64 e, .int .i64 p, .int .i64 c, .int .i64 f, .int .i64 n] 23 (0, 0)) * (IsPf q pp (d.write (e % 2) s).sync * F) from by ac_rfl)).right (J3.trans I4)
  clear HH H3 H4 J3 I4
  go_wp2_with fail
  exact fin

set_option maxRecDepth 100000 in
set_option maxHeartbeats 2000000 in
theorem load_nil (H : Sat F w) (h : ∀ w', Sat F w' → Io w w' → R (.returned (.tuple #[.agg #[.int .i64 0, .int .i64 0, .int .i64 0, .int .i64 0, .int .i64 0], .int .i64 40])) w') :
    Calls Tryd.prog 18 #[.pointer none] w R := by
  have HH := Lib.hid h
  clear h
  have HA := H.new (.cells #[.int .i64 0, .int .i64 0, .int .i64 0, .int .i64 0, .int .i64 0] 23)
  have HB := HA.new (.cells #[.string ⟨#[]⟩, .string ⟨#[]⟩] 74)
  have IB := ((Io.refl w).alloc (.cells #[.int .i64 0, .int .i64 0, .int .i64 0, .int .i64 0, .int .i64 0] 23)).alloc (.cells #[.string ⟨#[]⟩, .string ⟨#[]⟩] 74)
  rw [show (w.alloc (.cells #[.int .i64 0, .int .i64 0, .int .i64 0, .int .i64 0, .int .i64 0] 23)).heap.size = w.heap.size + 1 from by simp] at HB
  clear HA H
  go_enter Tryd.func18, Tryd.ntmps18
  go_wp2_with fail
  generalize (w.alloc (.cells #[.int .i64 0, .int .i64 0, .int .i64 0, .int .i64 0, .int .i64 0] 23)).alloc (.cells #[.string ⟨#[]⟩, .string ⟨#[]⟩] 74) = v0 at *
  generalize w.heap.size + 1 = B at *
  generalize w.heap.size = A at *
  refine wp_loop_rounds 3 ?_
  rw [rounds_succ]
  go_wp2_with fail
  refine file_none HB ?_
  intro q pp v1 H1 I1
  go_wp2_with fail
  refine slot_at H1 (Dk.new_ok 0 (by omega)) (by simp [Dk.new]) 0 (by omega) (by omega) ?_
  have e0 : (Dk.new 0).atE 0 = 40 := by simp [Dk.new, Dk.atE]
  rw [e0]
  intro u0 T0 I0
  have J0 := (IB.trans I1).trans I0
  clear HB IB H1 I1 I0 e0
  generalize (Dk.new 0).readS 0 = s0 at *
  have HA : Sat (pts A (.cells #[.int .i64 0, .int .i64 0, .int .i64 0, .int .i64 0, .int .i64 0] 23 (0, 0)) * (IsPf q pp ((Dk.new 0).read 0) * (pts B (.cells #[.string ⟨#[]⟩, .string ⟨#[]⟩] 74 (0, 0)) * F))) u0 := T0.of_eq (by ac_rfl)
  have la := HA.left.lt
  have fa0 := Sat.free HA.left.at 0
  have xa0 := Sat.read HA.left.at 0
  have fa1 := Sat.free HA.left.at 1
  have xa1 := Sat.read HA.left.at 1
  have fa2 := Sat.free HA.left.at 2
  have xa2 := Sat.read HA.left.at 2
  have fa3 := Sat.free HA.left.at 3
  have xa3 := Sat.read HA.left.at 3
  have fa4 := Sat.free HA.left.at 4
  have xa4 := Sat.read HA.left.at 4
  simp only [List.getElem?_toArray, List.getElem?_cons_zero, List.getElem?_cons_succ] at xa0 xa1 xa2 xa3 xa4
  have HF : Sat (pts A (.cells #[(.int .i64 0), (.int .i64 0), (.int .i64 0), (.int .i64 0), (.int .i64 0)] 23 (0, 0)) * (IsPf q pp ((Dk.new 0).read 0) * (pts B (.cells #[.string ⟨#[]⟩, .string ⟨#[]⟩] 74 (0, 0)) * F))) (((((u0.setCell ⟨A, 0, none⟩ (.int .i64 0)).setCell ⟨A, 1, none⟩ (.int .i64 0)).setCell ⟨A, 2, none⟩ (.int .i64 0)).setCell ⟨A, 3, none⟩ (.int .i64 0)).setCell ⟨A, 4, none⟩ (.int .i64 0)) := (Sat.cell (Sat.cell (Sat.cell (Sat.cell (Sat.cell HA 0 (.int .i64 0)) 1 (.int .i64 0)) 2 (.int .i64 0)) 3 (.int .i64 0)) 4 (.int .i64 0))
  have fin := HH.out _ HF.right.right.right (((((J0.setCell ⟨A, 0, none⟩ (.int .i64 0)).setCell ⟨A, 1, none⟩ (.int .i64 0)).setCell ⟨A, 2, none⟩ (.int .i64 0)).setCell ⟨A, 3, none⟩ (.int .i64 0)).setCell ⟨A, 4, none⟩ (.int .i64 0))
  have d0 := Sat.read HF.left.at 0
  have d1 := Sat.read HF.left.at 1
  have d2 := Sat.read HF.left.at 2
  have d3 := Sat.read HF.left.at 3
  have d4 := Sat.read HF.left.at 4
  simp only [List.getElem?_toArray, List.getElem?_cons_zero, List.getElem?_cons_succ] at d0 d1 d2 d3 d4
  have lf := HF.left.lt
  clear HH HF HA
  go_wp2_with fail
  generalize (((((u0.setCell ⟨A, 0, none⟩ (.int .i64 0)).setCell ⟨A, 1, none⟩ (.int .i64 0)).setCell ⟨A, 2, none⟩ (.int .i64 0)).setCell ⟨A, 3, none⟩ (.int .i64 0)).setCell ⟨A, 4, none⟩ (.int .i64 0)) = W at *
  exact bodyPost_ret (v := .tuple #[.agg #[.int .i64 0, .int .i64 0, .int .i64 0, .int .i64 0, .int .i64 0], .int .i64 40]) (by simp [results, Tryd.results18, go_sem, d0, d1, d2, d3, d4]) rfl fin
end
end Go.Proofs.YtghpfepmkngfdaaDoor
