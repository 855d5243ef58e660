/-
  Roots of files: what Load does, by its walk. It proves no statement by itself.
-/
import Derived.Test.YtghpfepmkngfdaaDoorPf
import Derived.Test.YtghpfepmkngfdaaDoorRtL
namespace Go.Proofs.YtghpfepmkngfdaaDoor
open Go.RowKit
set_option linter.unusedSimpArgs false
set_option linter.unusedVariables false

theorem last_size {l : List (Int × ByteArray)} (h : ∀ p ∈ l, p.2.size = 256) (i : Int) (s : ByteArray) (hs : Dk.last i l = some s) : s.size = 256 := by
  induction l generalizing s with
  | nil => cases hs
  | cons p l ih =>
    unfold Dk.last at hs
    cases hx : Dk.last i l with
    | some t => rw [hx] at hs; simp only [Option.some.injEq] at hs; subst hs; exact ih (fun q hq => h q (List.mem_cons_of_mem _ hq)) _ hx
    | none =>
      rw [hx] at hs
      simp only at hs
      split at hs
      · simp only [Option.some.injEq] at hs; subst hs; exact h p (List.mem_cons_self ..)
      · cases hs
theorem readS_le {d : Dk} (ok : d.Ok) (i : Int) : (d.readS i).size ≤ 256 := by
  unfold Dk.readS
  split
  · rename_i he
    have hr := Dk.at_range he
    unfold Dk.now
    cases hl : Dk.last (i.toNat : Int) d.pend with
    | some s => simp only [Option.getD_some]; rw [last_size ok.txt _ _ hl]; omega
    | none => simp only [Option.getD_none]; rw [ok.sect _ (by omega)]; omega
  · simp

theorem atE_read (d : Dk) (j i : Int) : (d.read j).atE i = d.atE i := by unfold Dk.read; split <;> rfl
theorem now_read (d : Dk) (j : Int) (i : Nat) : (d.read j).now i = d.now i := by unfold Dk.read; split <;> rfl
theorem readS_read (d : Dk) (j i : Int) : (d.read j).readS i = d.readS i := by unfold Dk.readS; rw [atE_read, now_read]
theorem reads_read (d : Dk) (j : Int) : (d.read j).reads ≤ d.reads + 1 := by
  unfold Dk.read
  split
  · exact Int.le_refl _
  · omega

section
variable {q p : Nat} {d : Dk} {F : Asn} {w : World} {R : Ending → World → Prop}

/-- Slot i of a file, in short. -/
theorem slot_at (H : Sat (IsPf q p d * F) w) (ok : d.Ok) (hr : d.reads ≤ 3000000000000000000) (i : Int) (hi0 : 0 ≤ i) (hi : i < 2)
    (h : ∀ w', Sat (IsPf q p (d.read i) * F) w' → Io w w' → R (.returned (.tuple #[.string (d.readS i), .int .i64 (d.atE i)])) w') :
    Calls Tryd.prog 34 #[.pointer (some ⟨q, 0, none⟩), .int .i64 i] w R := by
  refine pf_slot H ok (by omega) i ?_
  have e : ¬ (i < 0 ∨ 2 ≤ i) := by omega
  unfold Dk.slotR Dk.slotS Dk.slotE
  simp only [e, if_false]
  exact h

set_option maxRecDepth 100000 in
set_option maxHeartbeats 4000000 in
theorem load_e0 (hv : Hv F) (H : Sat (IsPf q p d * F) w) (ok : d.Ok) (hr : d.reads ≤ 2000000000000000000) {E : Int} (h0 : d.atE 0 = E) (hE : E ≠ 0) (h : ∀ w', Sat (IsPf q p (d.read 0) * F) w' → Io w w' → R (.returned (.tuple #[.agg #[.int .i64 0, .int .i64 0, .int .i64 0, .int .i64 0, .int .i64 0], .int .i64 E])) w') :
    Calls Tryd.prog 18 #[.pointer (some ⟨q, 0, none⟩)] w R := by
  have HH := Lib.hid h
  clear h
  have HR := Lib.hid hr
  have OK := Lib.hid ok
  clear hr ok
  have hE2 : (E != 0) = true := by rw [bne_iff_ne]; exact hE
  have hE3 : (E == 0) = false := by rw [beq_eq_false_iff_ne]; exact hE
  clear hE
  have Kh0 := Lib.hid h0
  clear h0
  have HA := H.new (.cells #[.int .i64 0, .int .i64 0, .int .i64 0, .int .i64 0, .int .i64 0] 23)
  have HB := HA.new (.cells #[.string ⟨#[]⟩, .string ⟨#[]⟩] 74)
  have IB := ((Io.refl w).alloc (.cells #[.int .i64 0, .int .i64 0, .int .i64 0, .int .i64 0, .int .i64 0] 23)).alloc (.cells #[.string ⟨#[]⟩, .string ⟨#[]⟩] 74)
  rw [show (w.alloc (.cells #[.int .i64 0, .int .i64 0, .int .i64 0, .int .i64 0, .int .i64 0] 23)).heap.size = w.heap.size + 1 from by simp] at HB
  clear HA H
  go_enter Tryd.func18, Tryd.ntmps18
  go_wp2_with fail
  generalize (w.alloc (.cells #[.int .i64 0, .int .i64 0, .int .i64 0, .int .i64 0, .int .i64 0] 23)).alloc (.cells #[.string ⟨#[]⟩, .string ⟨#[]⟩] 74) = v0 at *
  generalize w.heap.size + 1 = B at *
  generalize w.heap.size = A at *
  refine wp_loop_rounds 3 ?_
  rw [rounds_succ]
  have G0 : Sat (IsPf q p (d) * (pts B (.cells #[.string ⟨#[]⟩, .string ⟨#[]⟩] 74 (0, 0)) * (pts A (.cells #[.int .i64 0, .int .i64 0, .int .i64 0, .int .i64 0, .int .i64 0] 23 (0, 0)) * F))) v0 := HB.of_eq (by ac_rfl)
  clear HB
  go_wp2_with fail
  refine file_some ?_
  go_wp2_with fail
  refine slot_at G0 OK.out (by have := HR.out; omega) 0 (by omega) (by omega) ?_
  intro u0 T0 I0
  have J0 := IB.trans I0
  clear I0 G0 IB
  rw [Kh0.out]
  generalize d.readS 0 = s0 at *
  have HA : Sat (pts A (.cells #[.int .i64 0, .int .i64 0, .int .i64 0, .int .i64 0, .int .i64 0] 23 (0, 0)) * (IsPf q p (d.read 0) * (pts B (.cells #[.string ⟨#[]⟩, .string ⟨#[]⟩] 74 (0, 0)) * F))) u0 := T0.of_eq (by ac_rfl)
  have la := HA.left.lt
  have fa0 := Sat.free HA.left.at 0
  have xa0 := Sat.read HA.left.at 0
  have fa1 := Sat.free HA.left.at 1
  have xa1 := Sat.read HA.left.at 1
  have fa2 := Sat.free HA.left.at 2
  have xa2 := Sat.read HA.left.at 2
  have fa3 := Sat.free HA.left.at 3
  have xa3 := Sat.read HA.left.at 3
  have fa4 := Sat.free HA.left.at 4
  have xa4 := Sat.read HA.left.at 4
  simp only [List.getElem?_toArray, List.getElem?_cons_zero, List.getElem?_cons_succ] at xa0 xa1 xa2 xa3 xa4
  have HF : Sat (pts A (.cells #[.int .i64 0, .int .i64 0, .int .i64 0, .int .i64 0, .int .i64 0] 23 (0, 0)) * (IsPf q p (d.read 0) * (pts B (.cells #[.string ⟨#[]⟩, .string ⟨#[]⟩] 74 (0, 0)) * F))) (((((u0.setCell ⟨A, 0, none⟩ (.int .i64 0)).setCell ⟨A, 1, none⟩ (.int .i64 0)).setCell ⟨A, 2, none⟩ (.int .i64 0)).setCell ⟨A, 3, none⟩ (.int .i64 0)).setCell ⟨A, 4, none⟩ (.int .i64 0)) := (Sat.cell (Sat.cell (Sat.cell (Sat.cell (Sat.cell HA 0 (.int .i64 0)) 1 (.int .i64 0)) 2 (.int .i64 0)) 3 (.int .i64 0)) 4 (.int .i64 0))
  have fin := HH.out _ ((HF.right.of_eq (show _ = pts B (.cells #[.string ⟨#[]⟩, .string ⟨#[]⟩] 74 (0, 0)) * (IsPf q p (d.read 0) * F) from by ac_rfl)).right) (((((J0.setCell ⟨A, 0, none⟩ (.int .i64 0)).setCell ⟨A, 1, none⟩ (.int .i64 0)).setCell ⟨A, 2, none⟩ (.int .i64 0)).setCell ⟨A, 3, none⟩ (.int .i64 0)).setCell ⟨A, 4, none⟩ (.int .i64 0))
  have d0 := Sat.read HF.left.at 0
  have d1 := Sat.read HF.left.at 1
  have d2 := Sat.read HF.left.at 2
  have d3 := Sat.read HF.left.at 3
  have d4 := Sat.read HF.left.at 4
  simp only [List.getElem?_toArray, List.getElem?_cons_zero, List.getElem?_cons_succ] at d0 d1 d2 d3 d4
  have lf := HF.left.lt
  clear HH HF HA
  go_wp2_with fail
  generalize (((((u0.setCell ⟨A, 0, none⟩ (.int .i64 0)).setCell ⟨A, 1, none⟩ (.int .i64 0)).setCell ⟨A, 2, none⟩ (.int .i64 0)).setCell ⟨A, 3, none⟩ (.int .i64 0)).setCell ⟨A, 4, none⟩ (.int .i64 0)) = W at *
  exact bodyPost_ret (v := .tuple #[.agg #[.int .i64 0, .int .i64 0, .int .i64 0, .int .i64 0, .int .i64 0], .int .i64 E]) (by simp [results, Tryd.results18, go_sem, d0, d1, d2, d3, d4]) rfl fin

set_option maxRecDepth 100000 in
set_option maxHeartbeats 4000000 in
theorem load_e1 (hv : Hv F) (H : Sat (IsPf q p d * F) w) (ok : d.Ok) (hr : d.reads ≤ 2000000000000000000) {E : Int} (h0 : d.atE 0 = 0) (h1 : d.atE 1 = E) (hE : E ≠ 0) (h : ∀ w', Sat (IsPf q p ((d.read 0).read 1) * F) w' → Io w w' → R (.returned (.tuple #[.agg #[.int .i64 0, .int .i64 0, .int .i64 0, .int .i64 0, .int .i64 0], .int .i64 E])) w') :
    Calls Tryd.prog 18 #[.pointer (some ⟨q, 0, none⟩)] w R := by
  have HH := Lib.hid h
  clear h
  have HR := Lib.hid hr
  have OK := Lib.hid ok
  clear hr ok
  obtain ⟨s0, S0⟩ : ∃ s, Hid (s = d.readS 0) := ⟨_, Lib.hid rfl⟩
  have hE2 : (E != 0) = true := by rw [bne_iff_ne]; exact hE
  have hE3 : (E == 0) = false := by rw [beq_eq_false_iff_ne]; exact hE
  clear hE
  have Kh0 := Lib.hid h0
  clear h0
  have Kh1 := Lib.hid h1
  clear h1
  have HA := H.new (.cells #[.int .i64 0, .int .i64 0, .int .i64 0, .int .i64 0, .int .i64 0] 23)
  have HB := HA.new (.cells #[.string ⟨#[]⟩, .string ⟨#[]⟩] 74)
  have IB := ((Io.refl w).alloc (.cells #[.int .i64 0, .int .i64 0, .int .i64 0, .int .i64 0, .int .i64 0] 23)).alloc (.cells #[.string ⟨#[]⟩, .string ⟨#[]⟩] 74)
  rw [show (w.alloc (.cells #[.int .i64 0, .int .i64 0, .int .i64 0, .int .i64 0, .int .i64 0] 23)).heap.size = w.heap.size + 1 from by simp] at HB
  clear HA H
  go_enter Tryd.func18, Tryd.ntmps18
  go_wp2_with fail
  generalize (w.alloc (.cells #[.int .i64 0, .int .i64 0, .int .i64 0, .int .i64 0, .int .i64 0] 23)).alloc (.cells #[.string ⟨#[]⟩, .string ⟨#[]⟩] 74) = v0 at *
  generalize w.heap.size + 1 = B at *
  generalize w.heap.size = A at *
  refine wp_loop_rounds 3 ?_
  rw [rounds_succ]
  have G0 : Sat (IsPf q p (d) * (pts B (.cells #[.string ⟨#[]⟩, .string ⟨#[]⟩] 74 (0, 0)) * (pts A (.cells #[.int .i64 0, .int .i64 0, .int .i64 0, .int .i64 0, .int .i64 0] 23 (0, 0)) * F))) v0 := HB.of_eq (by ac_rfl)
  clear HB
  go_wp2_with fail
  refine file_some ?_
  go_wp2_with fail
  refine slot_at G0 OK.out (by have := HR.out; omega) 0 (by omega) (by omega) ?_
  intro u0 T0 I0
  have J0 := IB.trans I0
  clear I0 G0 IB
  rw [Kh0.out, ← S0.out]
  have L0 : Sat (pts B (.cells #[.string ⟨#[]⟩, .string ⟨#[]⟩] 74 (0, 0)) * (IsPf q p (d.read 0) * (pts A (.cells #[.int .i64 0, .int .i64 0, .int .i64 0, .int .i64 0, .int .i64 0] 23 (0, 0)) * F))) u0 := T0.of_eq (by ac_rfl)
  have lb0 := L0.left.lt
  have fb0 := Sat.free L0.left.at 0
  have cb0 := Sat.read L0.left.at 0
  have M0 : Sat (pts B (.cells #[.string s0, .string ⟨#[]⟩] 74 (0, 0)) * (IsPf q p (d.read 0) * (pts A (.cells #[.int .i64 0, .int .i64 0, .int .i64 0, .int .i64 0, .int .i64 0] 23 (0, 0)) * F))) (u0.setCell ⟨B, 0, none⟩ (.string s0)) := Sat.cell L0 0 (.string s0)
  have N0 := J0.setCell ⟨B, 0, none⟩ (.string s0)
  clear L0 T0 J0
  go_wp2_with fail
  clear lb0 fb0 cb0
  generalize u0.setCell ⟨B, 0, none⟩ (.string s0) = v1 at *
  rw [rounds_succ]
  have G1 : Sat (IsPf q p (d.read 0) * (pts B (.cells #[.string s0, .string ⟨#[]⟩] 74 (0, 0)) * (pts A (.cells #[.int .i64 0, .int .i64 0, .int .i64 0, .int .i64 0, .int .i64 0] 23 (0, 0)) * F))) v1 := M0.of_eq (by ac_rfl)
  clear M0
  go_wp2_with fail
  refine file_some ?_
  go_wp2_with fail
  refine slot_at G1 (Dk.read_ok' OK.out 0) (by have := HR.out; have := reads_read d 0; omega) 1 (by omega) (by omega) ?_
  intro u1 T1 I1
  have J1 := N0.trans I1
  clear I1 G1 N0
  rw [atE_read, readS_read, Kh1.out]
  generalize d.readS 1 = s1 at *
  have HA : Sat (pts A (.cells #[.int .i64 0, .int .i64 0, .int .i64 0, .int .i64 0, .int .i64 0] 23 (0, 0)) * (IsPf q p ((d.read 0).read 1) * (pts B (.cells #[.string s0, .string ⟨#[]⟩] 74 (0, 0)) * F))) u1 := T1.of_eq (by ac_rfl)
  have la := HA.left.lt
  have fa0 := Sat.free HA.left.at 0
  have xa0 := Sat.read HA.left.at 0
  have fa1 := Sat.free HA.left.at 1
  have xa1 := Sat.read HA.left.at 1
  have fa2 := Sat.free HA.left.at 2
  have xa2 := Sat.read HA.left.at 2
  have fa3 := Sat.free HA.left.at 3
  have xa3 := Sat.read HA.left.at 3
  have fa4 := Sat.free HA.left.at 4
  have xa4 := Sat.read HA.left.at 4
  simp only [List.getElem?_toArray, List.getElem?_cons_zero, List.getElem?_cons_succ] at xa0 xa1 xa2 xa3 xa4
  have HF : Sat (pts A (.cells #[.int .i64 0, .int .i64 0, .int .i64 0, .int .i64 0, .int .i64 0] 23 (0, 0)) * (IsPf q p ((d.read 0).read 1) * (pts B (.cells #[.string s0, .string ⟨#[]⟩] 74 (0, 0)) * F))) (((((u1.setCell ⟨A, 0, none⟩ (.int .i64 0)).setCell ⟨A, 1, none⟩ (.int .i64 0)).setCell ⟨A, 2, none⟩ (.int .i64 0)).setCell ⟨A, 3, none⟩ (.int .i64 0)).setCell ⟨A, 4, none⟩ (.int .i64 0)) := (Sat.cell (Sat.cell (Sat.cell (Sat.cell (Sat.cell HA 0 (.int .i64 0)) 1 (.int .i64 0)) 2 (.int .i64 0)) 3 (.int .i64 0)) 4 (.int .i64 0))
  have fin := HH.out _ ((HF.right.of_eq (show _ = pts B (.cells #[.string s0, .string ⟨#[]⟩] 74 (0, 0)) * (IsPf q p ((d.read 0).read 1) * F) from by ac_rfl)).right) (((((J1.setCell ⟨A, 0, none⟩ (.int .i64 0)).setCell ⟨A, 1, none⟩ (.int .i64 0)).setCell ⟨A, 2, none⟩ (.int .i64 0)).setCell ⟨A, 3, none⟩ (.int .i64 0)).setCell ⟨A, 4, none⟩ (.int .i64 0))
  have d0 := Sat.read HF.left.at 0
  have d1 := Sat.read HF.left.at 1
  have d2 := Sat.read HF.left.at 2
  have d3 := Sat.read HF.left.at 3
  have d4 := Sat.read HF.left.at 4
  simp only [List.getElem?_toArray, List.getElem?_cons_zero, List.getElem?_cons_succ] at d0 d1 d2 d3 d4
  have lf := HF.left.lt
  clear HH HF HA
  go_wp2_with fail
  generalize (((((u1.setCell ⟨A, 0, none⟩ (.int .i64 0)).setCell ⟨A, 1, none⟩ (.int .i64 0)).setCell ⟨A, 2, none⟩ (.int .i64 0)).setCell ⟨A, 3, none⟩ (.int .i64 0)).setCell ⟨A, 4, none⟩ (.int .i64 0)) = W at *
  exact bodyPost_ret (v := .tuple #[.agg #[.int .i64 0, .int .i64 0, .int .i64 0, .int .i64 0, .int .i64 0], .int .i64 E]) (by simp [results, Tryd.results18, go_sem, d0, d1, d2, d3, d4]) rfl fin

set_option maxRecDepth 100000 in
set_option maxHeartbeats 4000000 in
theorem load_some (hv : Hv F) (H : Sat (IsPf q p d * F) w) (ok : d.Ok) (hr : d.reads ≤ 2000000000000000000) {xe xp xc xf xn : Int} (h0 : d.atE 0 = 0) (h1 : d.atE 1 = 0) (hp : Rt.pick (d.readS 0) (d.readS 1) = some ⟨xe, xp, xc, xf, xn⟩) (h : ∀ w', Sat (IsPf q p ((d.read 0).read 1) * F) w' → Io w w' → R (.returned (.tuple #[.agg #[.int .i64 xe, .int .i64 xp, .int .i64 xc, .int .i64 xf, .int .i64 xn], .int .i64 0])) w') :
    Calls Tryd.prog 18 #[.pointer (some ⟨q, 0, none⟩)] w R := by
  have HH := Lib.hid h
  clear h
  have hvv : ∀ {A1 A2 A3 : Asn}, Hv (A1 * (A2 * (A3 * F))) := hv.with.with.with
  have HR := Lib.hid hr
  have OK := Lib.hid ok
  clear hr ok
  obtain ⟨s0, S0⟩ : ∃ s, Hid (s = d.readS 0) := ⟨_, Lib.hid rfl⟩
  obtain ⟨s1, S1⟩ : ∃ s, Hid (s = d.readS 1) := ⟨_, Lib.hid rfl⟩
  have Z0 : Hid (s0.size ≤ 1000000) := Lib.hid (by rw [S0.out]; have := readS_le OK.out 0; omega)
  have Z1 : Hid (s1.size ≤ 1000000) := Lib.hid (by rw [S1.out]; have := readS_le OK.out 1; omega)
  rw [← S0.out, ← S1.out] at hp
  have HP := Lib.hid hp
  clear hp
  have Kh0 := Lib.hid h0
  clear h0
  have Kh1 := Lib.hid h1
  clear h1
  have HA := H.new (.cells #[.int .i64 0, .int .i64 0, .int .i64 0, .int .i64 0, .int .i64 0] 23)
  have HB := HA.new (.cells #[.string ⟨#[]⟩, .string ⟨#[]⟩] 74)
  have IB := ((Io.refl w).alloc (.cells #[.int .i64 0, .int .i64 0, .int .i64 0, .int .i64 0, .int .i64 0] 23)).alloc (.cells #[.string ⟨#[]⟩, .string ⟨#[]⟩] 74)
  rw [show (w.alloc (.cells #[.int .i64 0, .int .i64 0, .int .i64 0, .int .i64 0, .int .i64 0] 23)).heap.size = w.heap.size + 1 from by simp] at HB
  clear HA H
  go_enter Tryd.func18, Tryd.ntmps18
  go_wp2_with fail
  generalize (w.alloc (.cells #[.int .i64 0, .int .i64 0, .int .i64 0, .int .i64 0, .int .i64 0] 23)).alloc (.cells #[.string ⟨#[]⟩, .string ⟨#[]⟩] 74) = v0 at *
  generalize w.heap.size + 1 = B at *
  generalize w.heap.size = A at *
  refine wp_loop_rounds 3 ?_
  rw [rounds_succ]
  have G0 : Sat (IsPf q p (d) * (pts B (.cells #[.string ⟨#[]⟩, .string ⟨#[]⟩] 74 (0, 0)) * (pts A (.cells #[.int .i64 0, .int .i64 0, .int .i64 0, .int .i64 0, .int .i64 0] 23 (0, 0)) * F))) v0 := HB.of_eq (by ac_rfl)
  clear HB
  go_wp2_with fail
  refine file_some ?_
  go_wp2_with fail
  refine slot_at G0 OK.out (by have := HR.out; omega) 0 (by omega) (by omega) ?_
  intro u0 T0 I0
  have J0 := IB.trans I0
  clear I0 G0 IB
  rw [Kh0.out, ← S0.out]
  have L0 : Sat (pts B (.cells #[.string ⟨#[]⟩, .string ⟨#[]⟩] 74 (0, 0)) * (IsPf q p (d.read 0) * (pts A (.cells #[.int .i64 0, .int .i64 0, .int .i64 0, .int .i64 0, .int .i64 0] 23 (0, 0)) * F))) u0 := T0.of_eq (by ac_rfl)
  have lb0 := L0.left.lt
  have fb0 := Sat.free L0.left.at 0
  have cb0 := Sat.read L0.left.at 0
  have M0 : Sat (pts B (.cells #[.string s0, .string ⟨#[]⟩] 74 (0, 0)) * (IsPf q p (d.read 0) * (pts A (.cells #[.int .i64 0, .int .i64 0, .int .i64 0, .int .i64 0, .int .i64 0] 23 (0, 0)) * F))) (u0.setCell ⟨B, 0, none⟩ (.string s0)) := Sat.cell L0 0 (.string s0)
  have N0 := J0.setCell ⟨B, 0, none⟩ (.string s0)
  clear L0 T0 J0
  go_wp2_with fail
  clear lb0 fb0 cb0
  generalize u0.setCell ⟨B, 0, none⟩ (.string s0) = v1 at *
  rw [rounds_succ]
  have G1 : Sat (IsPf q p (d.read 0) * (pts B (.cells #[.string s0, .string ⟨#[]⟩] 74 (0, 0)) * (pts A (.cells #[.int .i64 0, .int .i64 0, .int .i64 0, .int .i64 0, .int .i64 0] 23 (0, 0)) * F))) v1 := M0.of_eq (by ac_rfl)
  clear M0
  go_wp2_with fail
  refine file_some ?_
  go_wp2_with fail
  refine slot_at G1 (Dk.read_ok' OK.out 0) (by have := HR.out; have := reads_read d 0; omega) 1 (by omega) (by omega) ?_
  intro u1 T1 I1
  have J1 := N0.trans I1
  clear I1 G1 N0
  rw [atE_read, readS_read, Kh1.out, ← S1.out]
  have L1 : Sat (pts B (.cells #[.string s0, .string ⟨#[]⟩] 74 (0, 0)) * (IsPf q p ((d.read 0).read 1) * (pts A (.cells #[.int .i64 0, .int .i64 0, .int .i64 0, .int .i64 0, .int .i64 0] 23 (0, 0)) * F))) u1 := T1.of_eq (by ac_rfl)
  have lb0 := L1.left.lt
  have fb0 := Sat.free L1.left.at 1
  have cb0 := Sat.read L1.left.at 1
  have M1 : Sat (pts B (.cells #[.string s0, .string s1] 74 (0, 0)) * (IsPf q p ((d.read 0).read 1) * (pts A (.cells #[.int .i64 0, .int .i64 0, .int .i64 0, .int .i64 0, .int .i64 0] 23 (0, 0)) * F))) (u1.setCell ⟨B, 1, none⟩ (.string s1)) := Sat.cell L1 1 (.string s1)
  have N1 := J1.setCell ⟨B, 1, none⟩ (.string s1)
  clear L1 T1 J1
  go_wp2_with fail
  clear lb0 fb0 cb0
  generalize u1.setCell ⟨B, 1, none⟩ (.string s1) = v2 at *
  rw [rounds_succ]
  have lb := M1.left.lt
  have cb0 := Sat.read M1.left.at 0
  have cb1 := Sat.read M1.left.at 1
  simp only [List.getElem?_toArray, List.getElem?_cons_zero, List.getElem?_cons_succ] at cb0 cb1
  go_wp2_with fail
  clear lb cb0 cb1
  refine pick_some hvv M1 Z0.out Z1.out HP.out ?_
  intro u2 T2 I2
  have J2 := N1.trans I2
  clear M1 N1 I2
  have HA : Sat (pts A (.cells #[.int .i64 0, .int .i64 0, .int .i64 0, .int .i64 0, .int .i64 0] 23 (0, 0)) * (IsPf q p ((d.read 0).read 1) * (pts B (.cells #[.string s0, .string s1] 74 (0, 0)) * F))) u2 := T2.of_eq (by ac_rfl)
  clear T2
  have la := HA.left.lt
  have fa0 := Sat.free HA.left.at 0
  have xa0 := Sat.read HA.left.at 0
  have fa1 := Sat.free HA.left.at 1
  have xa1 := Sat.read HA.left.at 1
  have fa2 := Sat.free HA.left.at 2
  have xa2 := Sat.read HA.left.at 2
  have fa3 := Sat.free HA.left.at 3
  have xa3 := Sat.read HA.left.at 3
  have fa4 := Sat.free HA.left.at 4
  have xa4 := Sat.read HA.left.at 4
  simp only [List.getElem?_toArray, List.getElem?_cons_zero, List.getElem?_cons_succ] at xa0 xa1 xa2 xa3 xa4
  have HF : Sat (pts A (.cells #[.int .i64 xe, .int .i64 xp, .int .i64 xc, .int .i64 xf, .int .i64 xn] 23 (0, 0)) * (IsPf q p ((d.read 0).read 1) * (pts B (.cells #[.string s0, .string s1] 74 (0, 0)) * F))) (((((u2.setCell ⟨A, 0, none⟩ (.int .i64 xe)).setCell ⟨A, 1, none⟩ (.int .i64 xp)).setCell ⟨A, 2, none⟩ (.int .i64 xc)).setCell ⟨A, 3, none⟩ (.int .i64 xf)).setCell ⟨A, 4, none⟩ (.int .i64 xn)) := (Sat.cell (Sat.cell (Sat.cell (Sat.cell (Sat.cell HA 0 (.int .i64 xe)) 1 (.int .i64 xp)) 2 (.int .i64 xc)) 3 (.int .i64 xf)) 4 (.int .i64 xn))
  have fin := HH.out _ ((HF.right.of_eq (show _ = pts B (.cells #[.string s0, .string s1] 74 (0, 0)) * (IsPf q p ((d.read 0).read 1) * F) from by ac_rfl)).right) (((((J2.setCell ⟨A, 0, none⟩ (.int .i64 xe)).setCell ⟨A, 1, none⟩ (.int .i64 xp)).setCell ⟨A, 2, none⟩ (.int .i64 xc)).setCell ⟨A, 3, none⟩ (.int .i64 xf)).setCell ⟨A, 4, none⟩ (.int .i64 xn))
  have d0 := Sat.read HF.left.at 0
  have d1 := Sat.read HF.left.at 1
  have d2 := Sat.read HF.left.at 2
  have d3 := Sat.read HF.left.at 3
  have d4 := Sat.read HF.left.at 4
  simp only [List.getElem?_toArray, List.getElem?_cons_zero, List.getElem?_cons_succ] at d0 d1 d2 d3 d4
  have lf := HF.left.lt
  clear HH HF HA
  go_wp2_with fail
  generalize (((((u2.setCell ⟨A, 0, none⟩ (.int .i64 xe)).setCell ⟨A, 1, none⟩ (.int .i64 xp)).setCell ⟨A, 2, none⟩ (.int .i64 xc)).setCell ⟨A, 3, none⟩ (.int .i64 xf)).setCell ⟨A, 4, none⟩ (.int .i64 xn)) = W at *
  exact bodyPost_ret (v := .tuple #[.agg #[.int .i64 xe, .int .i64 xp, .int .i64 xc, .int .i64 xf, .int .i64 xn], .int .i64 0]) (by simp [results, Tryd.results18, go_sem, d0, d1, d2, d3, d4]) rfl fin

set_option maxRecDepth 100000 in
set_option maxHeartbeats 4000000 in
theorem load_none (hv : Hv F) (H : Sat (IsPf q p d * F) w) (ok : d.Ok) (hr : d.reads ≤ 2000000000000000000) (h0 : d.atE 0 = 0) (h1 : d.atE 1 = 0) (hp : Rt.pick (d.readS 0) (d.readS 1) = none) (h : ∀ w', Sat (IsPf q p ((d.read 0).read 1) * F) w' → Io w w' → R (.returned (.tuple #[.agg #[.int .i64 0, .int .i64 0, .int .i64 0, .int .i64 0, .int .i64 0], .int .i64 70])) w') :
    Calls Tryd.prog 18 #[.pointer (some ⟨q, 0, none⟩)] w R := by
  have HH := Lib.hid h
  clear h
  have hvv : ∀ {A1 A2 A3 : Asn}, Hv (A1 * (A2 * (A3 * F))) := hv.with.with.with
  have HR := Lib.hid hr
  have OK := Lib.hid ok
  clear hr ok
  obtain ⟨s0, S0⟩ : ∃ s, Hid (s = d.readS 0) := ⟨_, Lib.hid rfl⟩
  obtain ⟨s1, S1⟩ : ∃ s, Hid (s = d.readS 1) := ⟨_, Lib.hid rfl⟩
  have Z0 : Hid (s0.size ≤ 1000000) := Lib.hid (by rw [S0.out]; have := readS_le OK.out 0; omega)
  have Z1 : Hid (s1.size ≤ 1000000) := Lib.hid (by rw [S1.out]; have := readS_le OK.out 1; omega)
  rw [← S0.out, ← S1.out] at hp
  have HP := Lib.hid hp
  clear hp
  have Kh0 := Lib.hid h0
  clear h0
  have Kh1 := Lib.hid h1
  clear h1
  have HA := H.new (.cells #[.int .i64 0, .int .i64 0, .int .i64 0, .int .i64 0, .int .i64 0] 23)
  have HB := HA.new (.cells #[.string ⟨#[]⟩, .string ⟨#[]⟩] 74)
  have IB := ((Io.refl w).alloc (.cells #[.int .i64 0, .int .i64 0, .int .i64 0, .int .i64 0, .int .i64 0] 23)).alloc (.cells #[.string ⟨#[]⟩, .string ⟨#[]⟩] 74)
  rw [show (w.alloc (.cells #[.int .i64 0, .int .i64 0, .int .i64 0, .int .i64 0, .int .i64 0] 23)).heap.size = w.heap.size + 1 from by simp] at HB
  clear HA H
  go_enter Tryd.func18, Tryd.ntmps18
  go_wp2_with fail
  generalize (w.alloc (.cells #[.int .i64 0, .int .i64 0, .int .i64 0, .int .i64 0, .int .i64 0] 23)).alloc (.cells #[.string ⟨#[]⟩, .string ⟨#[]⟩] 74) = v0 at *
  generalize w.heap.size + 1 = B at *
  generalize w.heap.size = A at *
  refine wp_loop_rounds 3 ?_
  rw [rounds_succ]
  have G0 : Sat (IsPf q p (d) * (pts B (.cells #[.string ⟨#[]⟩, .string ⟨#[]⟩] 74 (0, 0)) * (pts A (.cells #[.int .i64 0, .int .i64 0, .int .i64 0, .int .i64 0, .int .i64 0] 23 (0, 0)) * F))) v0 := HB.of_eq (by ac_rfl)
  clear HB
  go_wp2_with fail
  refine file_some ?_
  go_wp2_with fail
  refine slot_at G0 OK.out (by have := HR.out; omega) 0 (by omega) (by omega) ?_
  intro u0 T0 I0
  have J0 := IB.trans I0
  clear I0 G0 IB
  rw [Kh0.out, ← S0.out]
  have L0 : Sat (pts B (.cells #[.string ⟨#[]⟩, .string ⟨#[]⟩] 74 (0, 0)) * (IsPf q p (d.read 0) * (pts A (.cells #[.int .i64 0, .int .i64 0, .int .i64 0, .int .i64 0, .int .i64 0] 23 (0, 0)) * F))) u0 := T0.of_eq (by ac_rfl)
  have lb0 := L0.left.lt
  have fb0 := Sat.free L0.left.at 0
  have cb0 := Sat.read L0.left.at 0
  have M0 : Sat (pts B (.cells #[.string s0, .string ⟨#[]⟩] 74 (0, 0)) * (IsPf q p (d.read 0) * (pts A (.cells #[.int .i64 0, .int .i64 0, .int .i64 0, .int .i64 0, .int .i64 0] 23 (0, 0)) * F))) (u0.setCell ⟨B, 0, none⟩ (.string s0)) := Sat.cell L0 0 (.string s0)
  have N0 := J0.setCell ⟨B, 0, none⟩ (.string s0)
  clear L0 T0 J0
  go_wp2_with fail
  clear lb0 fb0 cb0
  generalize u0.setCell ⟨B, 0, none⟩ (.string s0) = v1 at *
  rw [rounds_succ]
  have G1 : Sat (IsPf q p (d.read 0) * (pts B (.cells #[.string s0, .string ⟨#[]⟩] 74 (0, 0)) * (pts A (.cells #[.int .i64 0, .int .i64 0, .int .i64 0, .int .i64 0, .int .i64 0] 23 (0, 0)) * F))) v1 := M0.of_eq (by ac_rfl)
  clear M0
  go_wp2_with fail
  refine file_some ?_
  go_wp2_with fail
  refine slot_at G1 (Dk.read_ok' OK.out 0) (by have := HR.out; have := reads_read d 0; omega) 1 (by omega) (by omega) ?_
  intro u1 T1 I1
  have J1 := N0.trans I1
  clear I1 G1 N0
  rw [atE_read, readS_read, Kh1.out, ← S1.out]
  have L1 : Sat (pts B (.cells #[.string s0, .string ⟨#[]⟩] 74 (0, 0)) * (IsPf q p ((d.read 0).read 1) * (pts A (.cells #[.int .i64 0, .int .i64 0, .int .i64 0, .int .i64 0, .int .i64 0] 23 (0, 0)) * F))) u1 := T1.of_eq (by ac_rfl)
  have lb0 := L1.left.lt
  have fb0 := Sat.free L1.left.at 1
  have cb0 := Sat.read L1.left.at 1
  have M1 : Sat (pts B (.cells #[.string s0, .string s1] 74 (0, 0)) * (IsPf q p ((d.read 0).read 1) * (pts A (.cells #[.int .i64 0, .int .i64 0, .int .i64 0, .int .i64 0, .int .i64 0] 23 (0, 0)) * F))) (u1.setCell ⟨B, 1, none⟩ (.string s1)) := Sat.cell L1 1 (.string s1)
  have N1 := J1.setCell ⟨B, 1, none⟩ (.string s1)
  clear L1 T1 J1
  go_wp2_with fail
  clear lb0 fb0 cb0
  generalize u1.setCell ⟨B, 1, none⟩ (.string s1) = v2 at *
  rw [rounds_succ]
  have lb := M1.left.lt
  have cb0 := Sat.read M1.left.at 0
  have cb1 := Sat.read M1.left.at 1
  simp only [List.getElem?_toArray, List.getElem?_cons_zero, List.getElem?_cons_succ] at cb0 cb1
  go_wp2_with fail
  clear lb cb0 cb1
  refine pick_none hvv M1 Z0.out Z1.out HP.out ?_
  intro u2 T2 I2
  have J2 := N1.trans I2
  clear M1 N1 I2
  have HA : Sat (pts A (.cells #[.int .i64 0, .int .i64 0, .int .i64 0, .int .i64 0, .int .i64 0] 23 (0, 0)) * (IsPf q p ((d.read 0).read 1) * (pts B (.cells #[.string s0, .string s1] 74 (0, 0)) * F))) u2 := T2.of_eq (by ac_rfl)
  clear T2
  have la := HA.left.lt
  have fa0 := Sat.free HA.left.at 0
  have xa0 := Sat.read HA.left.at 0
  have fa1 := Sat.free HA.left.at 1
  have xa1 := Sat.read HA.left.at 1
  have fa2 := Sat.free HA.left.at 2
  have xa2 := Sat.read HA.left.at 2
  have fa3 := Sat.free HA.left.at 3
  have xa3 := Sat.read HA.left.at 3
  have fa4 := Sat.free HA.left.at 4
  have xa4 := Sat.read HA.left.at 4
  simp only [List.getElem?_toArray, List.getElem?_cons_zero, List.getElem?_cons_succ] at xa0 xa1 xa2 xa3 xa4
  have HF : Sat (pts A (.cells #[.int .i64 0, .int .i64 0, .int .i64 0, .int .i64 0, .int .i64 0] 23 (0, 0)) * (IsPf q p ((d.read 0).read 1) * (pts B (.cells #[.string s0, .string s1] 74 (0, 0)) * F))) (((((u2.setCell ⟨A, 0, none⟩ (.int .i64 0)).setCell ⟨A, 1, none⟩ (.int .i64 0)).setCell ⟨A, 2, none⟩ (.int .i64 0)).setCell ⟨A, 3, none⟩ (.int .i64 0)).setCell ⟨A, 4, none⟩ (.int .i64 0)) := (Sat.cell (Sat.cell (Sat.cell (Sat.cell (Sat.cell HA 0 (.int .i64 0)) 1 (.int .i64 0)) 2 (.int .i64 0)) 3 (.int .i64 0)) 4 (.int .i64 0))
  have fin := HH.out _ ((HF.right.of_eq (show _ = pts B (.cells #[.string s0, .string s1] 74 (0, 0)) * (IsPf q p ((d.read 0).read 1) * F) from by ac_rfl)).right) (((((J2.setCell ⟨A, 0, none⟩ (.int .i64 0)).setCell ⟨A, 1, none⟩ (.int .i64 0)).setCell ⟨A, 2, none⟩ (.int .i64 0)).setCell ⟨A, 3, none⟩ (.int .i64 0)).setCell ⟨A, 4, none⟩ (.int .i64 0))
  have d0 := Sat.read HF.left.at 0
  have d1 := Sat.read HF.left.at 1
  have d2 := Sat.read HF.left.at 2
  have d3 := Sat.read HF.left.at 3
  have d4 := Sat.read HF.left.at 4
  simp only [List.getElem?_toArray, List.getElem?_cons_zero, List.getElem?_cons_succ] at d0 d1 d2 d3 d4
  have lf := HF.left.lt
  clear HH HF HA
  go_wp2_with fail
  generalize (((((u2.setCell ⟨A, 0, none⟩ (.int .i64 0)).setCell ⟨A, 1, none⟩ (.int .i64 0)).setCell ⟨A, 2, none⟩ (.int .i64 0)).setCell ⟨A, 3, none⟩ (.int .i64 0)).setCell ⟨A, 4, none⟩ (.int .i64 0)) = W at *
  exact bodyPost_ret (v := .tuple #[.agg #[.int .i64 0, .int .i64 0, .int .i64 0, .int .i64 0, .int .i64 0], .int .i64 70]) (by simp [results, Tryd.results18, go_sem, d0, d1, d2, d3, d4]) rfl fin

end
end Go.Proofs.YtghpfepmkngfdaaDoor
