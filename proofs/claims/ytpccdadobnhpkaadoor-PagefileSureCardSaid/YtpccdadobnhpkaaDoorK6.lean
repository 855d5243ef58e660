/-
  The statement PagefileKeeps, walked: it answers true. It proves the walk alone; the row is closed elsewhere.
-/
import Derived.Test.YtpccdadobnhpkaaDoorA6
namespace Go.Proofs.YtpccdadobnhpkaaDoor
open Go.RowKit
set_option linter.unusedSimpArgs false
set_option linter.unusedVariables false

theorem made_n {F : Asn} {w : World} (H : Sat F w) (n : Nat) (hn : n ≤ maxLen) (v : Value) (e : TypeId) : Sat (Row e 1 (.slice (some ⟨w.heap.size, 0, none⟩) n n) n (List.replicate n v) * F) (w.alloc (.cells (List.replicate n v).toArray e)) :=
  sat_row.2 ⟨by simp, .inr ⟨w.heap.size, n, _, rfl, Nat.le_refl _, hn, by simp, by simp, H.new _⟩⟩
/-- An act's cells. -/
def act6C (xk xi : Int) (xd : UInt8) (xs : ByteArray) : Array Value := #[.int .i64 xk, .int .i64 xi, .int .u8 (xd.toNat : Int), .string xs]
theorem act6_cells {ab : Nat} {xk xi : Int} {xd : UInt8} {xs : ByteArray} {F : Asn} {w : World} (H : Sat (pts ab (.cells (act6C xk xi xd xs) 34 (0, 0)) * F) w) :
    ab < w.heap.size ∧ w.cell? ⟨ab, 0, none⟩ = some (.int .i64 xk) ∧ w.cell? ⟨ab, 1, none⟩ = some (.int .i64 xi) ∧ w.cell? ⟨ab, 2, none⟩ = some (.int .u8 (xd.toNat : Int)) ∧ w.cell? ⟨ab, 3, none⟩ = some (.string xs) :=
  ⟨H.left.lt, Sat.read H.left.at 0, Sat.read H.left.at 1, Sat.read H.left.at 2, Sat.read H.left.at 3⟩
theorem slots_row {F : Asn} {w : World} {g : Nat} {Z : ByteArray} (H : Sat (pts g (.cells #[.string Z, .string Z] 9 (0, 0)) * F) w) : Sat (Row 9 1 (.slice (some ⟨g, 0, none⟩) 2 2) 2 (sv6 [Z, Z]) * F) w :=
  sat_row.2 ⟨rfl, .inr ⟨g, 2, _, rfl, Nat.le_refl _, by decide, rfl, rfl, H⟩⟩

theorem row_ne' {e : TypeId} {size g n c q : Nat} {xs : List Value} {o : Obj} {F : Asn} {w : World} (h : Sat (Row e size (.slice (some ⟨g, 0, none⟩) n c) n xs * (pts q o * F)) w) : g ≠ q := by
  obtain ⟨hl, ⟨h0, _⟩ | ⟨g', cap, cur, e1, e2, e3, e4, e5, h⟩⟩ := sat_row.1 h
  · cases h0
  · cases e1
    have h2 : Sat ((pts g (.cells cur e (0, 0)) * pts q o) * F) w := h.of_eq (by ac_rfl)
    exact h2.left.ne

section
variable {F : Asn} {w : World} {R : Ending → World → Prop}

set_option maxRecDepth 100000 in
set_option maxHeartbeats 8000000 in
theorem keeps_walk (hv : Hv F) {v : Value} {l : List Act6} (hl : ReadsA F v l) (H : Sat F w) (h : ∀ w', Sat F w' → Io w w' → R (.returned (.bool true)) w') :
    Calls Tryd.prog 3 #[v] w R := by
  have HH := Lib.hid h
  clear h
  obtain ⟨a, c, rfl, hmax⟩ := readsA_len hl
  have hmax' : (l.length : Int) ≤ 9223372036854775807 := by omega
  clear hmax
  by_cases g1 : 300 < (l.length : Int)
  · clear hl
    go_enter Tryd.func3, Tryd.ntmps3
    go_wp2_with fail
    refine works6 hv H ?_
    intro w1 H1 I1
    go_wp2_with fail
    all_goals exact HH.out w1 H1 I1
  have hlen : (l.length : Int) ≤ 300 := by omega
  clear g1 hmax'
  have AL := Lib.hid (fun k hk => readsA_at hl k hk)
  have NT := Lib.hid hl.ints
  clear hl
  go_enter Tryd.func3, Tryd.ntmps3
  go_wp2_with fail
  refine works6 hv H ?_
  intro w1 H1 I1
  go_wp2_with fail
  refine new_any 12 (by omega) (by omega) H1 ?_
  rw [show (min (max 12 0) 16384 : Int).toNat = 12 from rfl]
  intro p w2 H2 I2
  have J2 := I1.trans I2
  clear H H1 I1 I2
  go_wp2_with fail
  refine pf_new H2 ?_
  intro q w3 H3 I3
  have J3 := J2.trans I3
  clear H2 J2 I3
  have e1 : (Instr.makeSlice 28 (.int .i64 12) (.int .i64 12)).run Tryd.prog w3 = .ok (.slice (some ⟨w3.heap.size, 0, none⟩) 12 12) (w3.alloc (.cells (List.replicate 12 (Value.string ⟨#[]⟩)).toArray 9)) := by kernel_rfl
  obtain ⟨b1, m1, f1, K1, L1⟩ : ∃ b1 m1, (Instr.makeSlice 28 (.int .i64 12) (.int .i64 12)).run Tryd.prog w3 = .ok (.slice (some ⟨b1, 0, none⟩) 12 12) m1 ∧ Sat (Row 9 1 (.slice (some ⟨b1, 0, none⟩) 12 12) 12 (sv6 (List.replicate 12 ByteArray.empty)) * (IsPf q p (Dk.new 12) * F)) m1 ∧ Io w m1 :=
    ⟨_, _, e1, made_n H3 12 (by decide) (.string ⟨#[]⟩) 9, J3.alloc _⟩
  have e2 : (Instr.makeSlice 29 (.int .i64 12) (.int .i64 12)).run Tryd.prog m1 = .ok (.slice (some ⟨m1.heap.size, 0, none⟩) 12 12) (m1.alloc (.cells (List.replicate 12 (Value.int .u8 0)).toArray 32)) := by kernel_rfl
  obtain ⟨b2, m2, f2, K2, L2⟩ : ∃ b2 m2, (Instr.makeSlice 29 (.int .i64 12) (.int .i64 12)).run Tryd.prog m1 = .ok (.slice (some ⟨b2, 0, none⟩) 12 12) m2 ∧ Sat (Row 32 1 (.slice (some ⟨b2, 0, none⟩) 12 12) 12 (kv6 (List.replicate 12 0)) * (Row 9 1 (.slice (some ⟨b1, 0, none⟩) 12 12) 12 (sv6 (List.replicate 12 ByteArray.empty)) * (IsPf q p (Dk.new 12) * F))) m2 ∧ Io w m2 :=
    ⟨_, _, e2, made_n K1 12 (by decide) (.int .u8 0) 32, L1.alloc _⟩
  have e3 : (Instr.makeSlice 30 (.int .i64 12) (.int .i64 12)).run Tryd.prog m2 = .ok (.slice (some ⟨m2.heap.size, 0, none⟩) 12 12) (m2.alloc (.cells (List.replicate 12 (Value.bool false)).toArray 4)) := by kernel_rfl
  obtain ⟨b3, m3, f3, K3, L3⟩ : ∃ b3 m3, (Instr.makeSlice 30 (.int .i64 12) (.int .i64 12)).run Tryd.prog m2 = .ok (.slice (some ⟨b3, 0, none⟩) 12 12) m3 ∧ Sat (Row 4 1 (.slice (some ⟨b3, 0, none⟩) 12 12) 12 (tv6 (List.replicate 12 false)) * (Row 32 1 (.slice (some ⟨b2, 0, none⟩) 12 12) 12 (kv6 (List.replicate 12 0)) * (Row 9 1 (.slice (some ⟨b1, 0, none⟩) 12 12) 12 (sv6 (List.replicate 12 ByteArray.empty)) * (IsPf q p (Dk.new 12) * F)))) m3 ∧ Io w m3 :=
    ⟨_, _, e3, made_n K2 12 (by decide) (.bool false) 4, L2.alloc _⟩
  clear e1 e2 e3 K1 K2 L1 L2 H3 J3
  have PG := Lib.hid Pages.new
  have SL := Lib.hid Slots.new
  have UP := Lib.hid Dk.Up.new
  obtain ⟨D0, hD0⟩ : ∃ x, x = Dk.new 12 := ⟨_, rfl⟩
  obtain ⟨B0, hB0⟩ : ∃ x, Hid (x = List.replicate 12 ByteArray.empty) := ⟨_, Lib.hid rfl⟩
  obtain ⟨C0, hC0⟩ : ∃ x, Hid (x = List.replicate 12 (0 : UInt8)) := ⟨_, Lib.hid rfl⟩
  obtain ⟨T0, hT0⟩ : ∃ x, Hid (x = List.replicate 12 false) := ⟨_, Lib.hid rfl⟩
  rw [← hD0, ← hB0.out, ← hC0.out, ← hT0.out] at PG
  rw [← hD0, ← hB0.out, ← hC0.out, ← hT0.out] at K3
  rw [← hD0] at SL UP
  clear hD0
  go_wp2_with fail
  refine full_any ⟨#[]⟩ (by decide) ?_
  obtain ⟨Z, hZ⟩ : ∃ Z, Hid (Z = fullS ⟨#[]⟩) := ⟨_, Lib.hid rfl⟩
  rw [← hZ.out]
  go_wp2_with fail
  refine full_any ⟨#[]⟩ (by decide) ?_
  rw [← hZ.out]
  have SL2 : Hid (Slots D0 [Z, Z]) := Lib.hid (by rw [hZ.out]; exact SL.out)
  have K4 := slots_row (K3.new (.cells #[.string Z, .string Z] 9))
  have L4 := L3.alloc (.cells #[.string Z, .string Z] 9)
  clear f1 f2 f3 K3 L3 SL
  go_wp2_with fail
  generalize m3.alloc (.cells #[.string Z, .string Z] 9) = m4 at *
  generalize m3.heap.size = b4 at *
  have K5 : Sat (Row 9 1 (.slice (some ⟨b1, 0, none⟩) 12 12) 12 (sv6 B0) * (Row 32 1 (.slice (some ⟨b2, 0, none⟩) 12 12) 12 (kv6 C0) * (Row 4 1 (.slice (some ⟨b3, 0, none⟩) 12 12) 12 (tv6 T0) * (Row 9 1 (.slice (some ⟨b4, 0, none⟩) 2 2) 2 (sv6 [Z, Z]) * (IsPf q p D0 * F))))) m4 := K4.of_eq (by ac_rfl)
  clear K4
  go_loopw [9] (fun x wr => ∃ (k : Nat) (d : Dk) (bs : List ByteArray) (ks : List UInt8) (ts : List Bool) (ss : List ByteArray), k ≤ l.length ∧ x = .int .i64 (k : Int) ∧ d.Up k ∧ Pages d bs ks ts ∧ Slots d ss ∧ bs.length = 12 ∧ ks.length = 12 ∧ ts.length = 12 ∧ ss.length = 2 ∧ Sat (Row 9 1 (.slice (some ⟨b1, 0, none⟩) 12 12) 12 (sv6 bs) * (Row 32 1 (.slice (some ⟨b2, 0, none⟩) 12 12) 12 (kv6 ks) * (Row 4 1 (.slice (some ⟨b3, 0, none⟩) 12 12) 12 (tv6 ts) * (Row 9 1 (.slice (some ⟨b4, 0, none⟩) 2 2) 2 (sv6 ss) * (IsPf q p d * F))))) wr ∧ Io w wr) (fun x _ => l.length - (intOf x).toNat)
  case atStart => exact ⟨0, D0, B0, C0, T0, [Z, Z], by omega, rfl, UP.out, PG.out, SL2.out, by rw [hB0.out]; simp, by rw [hC0.out]; simp, by rw [hT0.out]; simp, rfl, K5, L4⟩
  case round =>
    obtain ⟨k, d, bs, ks, ts, ss, hk1, rfl, up, pg, sl, l1, l2, l3, l4, Hk, Ik⟩ := hrel
    clear K5 L4 PG SL2 UP hB0 hC0 hT0 hZ
    have UP := Lib.hid up
    have PG := Lib.hid pg
    have SL := Lib.hid sl
    have LB := Lib.hid l1
    have LK := Lib.hid l2
    have LT := Lib.hid l3
    have LS := Lib.hid l4
    clear up pg sl l1 l2 l3 l4
    by_cases hlt : k < l.length
    · have hlti : (k : Int) < (l.length : Int) := by omega
      obtain ⟨b, off, rfl, hc⟩ := AL.out k hlt
      have hnt := NT.out _ (List.getElem_mem hlt)
      obtain ⟨c0, c1, c2, c3⟩ := hc wr Hk.right.right.right.right.right
      clear hc
      generalize l[k].K = xk at *
      generalize l[k].I = xi at *
      generalize l[k].kd = xd at *
      generalize l[k].S = xs at *
      obtain ⟨⟨_, _⟩, ⟨ni0, ni1⟩, xs9⟩ := hnt
      have xs9' : (xs.size : Int) ≤ 9223372036854775807 := by omega
      have XS9 := Lib.hid xs9
      clear xs9
      have Ha : Sat (pts wr.heap.size (.cells (act6C xk xi xd xs) 34 (0, 0)) * (Row 9 1 (.slice (some ⟨b1, 0, none⟩) 12 12) 12 (sv6 bs) * (Row 32 1 (.slice (some ⟨b2, 0, none⟩) 12 12) 12 (kv6 ks) * (Row 4 1 (.slice (some ⟨b3, 0, none⟩) 12 12) 12 (tv6 ts) * (Row 9 1 (.slice (some ⟨b4, 0, none⟩) 2 2) 2 (sv6 ss) * (IsPf q p d * F)))))) (wr.alloc (.cells #[.int .i64 xk, .int .i64 xi, .int .u8 (xd.toNat : Int), .string xs] 34)) := Hk.new _
      have Ia : Io w (wr.alloc (.cells #[.int .i64 xk, .int .i64 xi, .int .u8 (xd.toNat : Int), .string xs] 34)) := Ik.alloc _
      by_cases big : 300 < (xs.size : Int)
      · have fin := HH.out _ Ha.right.right.right.right.right.right Ia
        clear HH Ha Ia Hk Ik
        go_wp2_with fail
        exact fin
      have xsm : (xs.size : Int) ≤ 300 := by omega
      have XS := Lib.hid (show xs.size ≤ 1000000 from by omega)
      clear big
      by_cases t3 : xk.tmod 3 = 0
      · have u3 : (xk.tmod 3 == 0) = true := by rw [beq_iff_eq]; exact t3
        clear t3
        go_wp2_with fail
        generalize wr.alloc (.cells #[.int .i64 xk, .int .i64 xi, .int .u8 (xd.toNat : Int), .string xs] 34) = wa at *
        generalize wr.heap.size = ab at *
        have Hd : Sat ((pts ab (.cells (act6C xk xi xd xs) 34 (0, 0))) * (IsPf q p d * (Row 9 1 (.slice (some ⟨b1, 0, none⟩) 12 12) 12 (sv6 bs) * (Row 32 1 (.slice (some ⟨b2, 0, none⟩) 12 12) 12 (kv6 ks) * (Row 4 1 (.slice (some ⟨b3, 0, none⟩) 12 12) 12 (tv6 ts) * (Row 9 1 (.slice (some ⟨b4, 0, none⟩) 2 2) 2 (sv6 ss) * F)))))) wa.drew := (Ha.of_eq (by ac_rfl)).drew
        obtain ⟨y0, y1, y2, y3, y4⟩ := act6_cells Hd
        have Hd2 := Hd.of_eq (show _ = IsPf q p d * ((pts ab (.cells (act6C xk xi xd xs) 34 (0, 0))) * (Row 9 1 (.slice (some ⟨b1, 0, none⟩) 12 12) 12 (sv6 bs) * (Row 32 1 (.slice (some ⟨b2, 0, none⟩) 12 12) 12 (kv6 ks) * (Row 4 1 (.slice (some ⟨b3, 0, none⟩) 12 12) 12 (tv6 ts) * (Row 9 1 (.slice (some ⟨b4, 0, none⟩) 2 2) 2 (sv6 ss) * F))))) from by ac_rfl)
        obtain ⟨S, eS⟩ : ∃ S, Hid (S = fullS xs) := ⟨_, Lib.hid rfl⟩
        have zS : Hid (S.size = 256) := Lib.hid (by rw [eS.out]; exact fullS_size xs)
        have FU : Hid (∀ (W : World) (Q : Ending → World → Prop), Q (.returned (.string S)) W → Calls Tryd.prog 10 #[.string xs] W Q) := Lib.hid (fun W Q hq => full_any xs XS.out (by rw [← eS.out]; exact hq))
        obtain ⟨s1, s2, s3⟩ := UP.out.putSlot xi S zS.out
        obtain ⟨v1, v2, v3⟩ := slot_step UP.out PG.out SL.out LS.out xi S zS.out
        have S1 := Lib.hid s1
        have V1 := Lib.hid v1
        have V2 := Lib.hid v2
        have V3 := Lib.hid v3
        have s2' := Lib.hid s2
        clear s1 s2 s3 v1 v2 v3 eS Ha
        by_cases inr : 0 ≤ xi ∧ xi < 2
        · have S2 : Hid (d.putE xi S = 0) := Lib.hid (by rw [s2'.out, if_pos inr])
          go_region_held3 (fun W => W.cell? ⟨ab, 1, none⟩ = some (.int .i64 xi) ∧ W.cell? ⟨ab, 3, none⟩ = some (.string xs)) (first | exact ⟨y2, y4⟩ | exact ⟨(act6_cells (H6.of_eq (show _ = (pts ab (.cells (act6C xk xi xd xs) 34 (0, 0))) * (IsPf q p (d.putR xi S) * (Row 9 1 (.slice (some ⟨b1, 0, none⟩) 12 12) 12 (sv6 bs) * (Row 32 1 (.slice (some ⟨b2, 0, none⟩) 12 12) 12 (kv6 ks) * (Row 4 1 (.slice (some ⟨b3, 0, none⟩) 12 12) 12 (tv6 ts) * (Row 9 1 (.slice (some ⟨b4, 0, none⟩) 2 2) 2 (sv6 ss) * F))))) from by ac_rfl))).2.2.1, (act6_cells (H6.of_eq (show _ = (pts ab (.cells (act6C xk xi xd xs) 34 (0, 0))) * (IsPf q p (d.putR xi S) * (Row 9 1 (.slice (some ⟨b1, 0, none⟩) 12 12) 12 (sv6 bs) * (Row 32 1 (.slice (some ⟨b2, 0, none⟩) 12 12) 12 (kv6 ks) * (Row 4 1 (.slice (some ⟨b3, 0, none⟩) 12 12) 12 (tv6 ts) * (Row 9 1 (.slice (some ⟨b4, 0, none⟩) 2 2) 2 (sv6 ss) * F))))) from by ac_rfl))).2.2.2.2⟩)
            (first | (go_at_call 10; with_reducible refine FU.out _ _ ?_) | (go_at_call 11; refine pf_put Hd2 UP.out.ok (by have := UP.out.writes; omega) (by have := UP.out.pend; omega) xi S (by have := zS.out; omega) ?_; rw [S2.out]; intro w6 H6 I6))
          clear y0 y1 y2 y3 y4
          have H7 : Sat ((pts ab (.cells (act6C xk xi xd xs) 34 (0, 0))) * (Row 9 1 (.slice (some ⟨b1, 0, none⟩) 12 12) 12 (sv6 bs) * (Row 32 1 (.slice (some ⟨b2, 0, none⟩) 12 12) 12 (kv6 ks) * (Row 4 1 (.slice (some ⟨b3, 0, none⟩) 12 12) 12 (tv6 ts) * (Row 9 1 (.slice (some ⟨b4, 0, none⟩) 2 2) 2 (sv6 ss) * (IsPf q p (d.putR xi S) * F)))))) w6 := H6.of_eq (by ac_rfl)
          have J7 := Ia.drew.trans I6
          clear H6 I6 Hd Hd2 Ia
          obtain ⟨y0, y1, y2, y3, y4⟩ := act6_cells H7
          have i0 : 0 ≤ xi := inr.1
          have i1 : xi < 2 := inr.2
          have V2' := Lib.hid (V2.out inr)
          have x0 : decide (xi ≥ 0) = true := by rw [decide_eq_true_eq]; exact i0
          have x1 : decide (xi < 2) = true := by rw [decide_eq_true_eq]; exact i1
          have ls2 : Hid ((ss.set xi.toNat S).length = 2) := Lib.hid (by rw [List.length_set]; exact LS.out)
          clear y0 y1 y2 y3 y4
          go_wp2_with fail
          have H8 := (H7.of_eq (show _ = Row 9 1 (.slice (some ⟨b4, 0, none⟩) 2 2) 2 (sv6 ss) * ((pts ab (.cells (act6C xk xi xd xs) 34 (0, 0))) * (Row 9 1 (.slice (some ⟨b1, 0, none⟩) 12 12) 12 (sv6 bs) * (Row 32 1 (.slice (some ⟨b2, 0, none⟩) 12 12) 12 (kv6 ks) * (Row 4 1 (.slice (some ⟨b3, 0, none⟩) 12 12) 12 (tv6 ts) * (IsPf q p (d.putR xi S) * F))))) from by ac_rfl)).drew
          obtain ⟨y0, y1, y2, y3, y4⟩ := act6_cells H8.right
          have cs := row_cell H8 xi.toNat _ (sv6_get ss xi.toNat (by rw [LS.out]; omega))
          obtain ⟨fs, ls⟩ := row_free H8 xi.toNat
          have H9 := row_set H8 xi.toNat (by omega) (.string S)
          rw [sv6_set] at H9
          obtain ⟨z0, z1, z2, z3, z4⟩ := act6_cells H9.right
          have J9 := (J7.setCell ⟨b4, xi.toNat, none⟩ (.string S)).drew
          have H9n := row_set (H7.of_eq (show _ = Row 9 1 (.slice (some ⟨b4, 0, none⟩) 2 2) 2 (sv6 ss) * ((pts ab (.cells (act6C xk xi xd xs) 34 (0, 0))) * (Row 9 1 (.slice (some ⟨b1, 0, none⟩) 12 12) 12 (sv6 bs) * (Row 32 1 (.slice (some ⟨b2, 0, none⟩) 12 12) 12 (kv6 ks) * (Row 4 1 (.slice (some ⟨b3, 0, none⟩) 12 12) 12 (tv6 ts) * (IsPf q p (d.putR xi S) * F))))) from by ac_rfl)) xi.toNat (by omega) (.string S)
          rw [sv6_set] at H9n
          have nb : ab ≠ b4 := by
            have := (H8.of_eq (show _ = (Row 9 1 (.slice (some ⟨b4, 0, none⟩) 2 2) 2 (sv6 ss) * ((pts ab (.cells (act6C xk xi xd xs) 34 (0, 0))) * (Row 9 1 (.slice (some ⟨b1, 0, none⟩) 12 12) 12 (sv6 bs) * (Row 32 1 (.slice (some ⟨b2, 0, none⟩) 12 12) 12 (kv6 ks) * (Row 4 1 (.slice (some ⟨b3, 0, none⟩) 12 12) 12 (tv6 ts) * (IsPf q p (d.putR xi S) * F)))))) from rfl))
            exact fun e => row_ne' this e.symm
          clear inr V3 H7 J7 H8
          generalize ss.getD xi.toNat ByteArray.empty = old at *
          go_region_held3 (fun W => W.cell? ⟨ab, 1, none⟩ = some (.int .i64 xi) ∧ W.cell? ⟨ab, 3, none⟩ = some (.string xs)) (first | exact ⟨y2, y4⟩ | exact ⟨z2, z4⟩) ((go_at_call 10; with_reducible refine FU.out _ _ ?_))
          have Hz : Sat ((pts ab (.cells (act6C xk xi xd xs) 34 (0, 0))) * (Row 9 1 (.slice (some ⟨b1, 0, none⟩) 12 12) 12 (sv6 bs) * (Row 32 1 (.slice (some ⟨b2, 0, none⟩) 12 12) 12 (kv6 ks) * (Row 4 1 (.slice (some ⟨b3, 0, none⟩) 12 12) 12 (tv6 ts) * (Row 9 1 (.slice (some ⟨b4, 0, none⟩) 2 2) 2 (sv6 (ss.set xi.toNat S)) * (IsPf q p (d.putR xi S) * F)))))) _ := (H9n.of_eq (by ac_rfl)).drew
          have Jz := J9
          clear y0 y1 y2 y3 y4 z0 z1 z2 z3 z4 cs fs ls H9 H9n J9 nb
          have UPz := Lib.hid (S1.out)
          have PGz := Lib.hid (V1.out)
          have SLz := Lib.hid (V2'.out)
          obtain ⟨y0, y1, y2, y3, y4⟩ := act6_cells Hz
          have Hy := Hz.right.right.right.right.right
          obtain ⟨lq, cq⟩ := pf_cells Hy
          generalize hdz : d.putR xi S = dz at *
          clear hdz
          by_cases t5 : xk.tmod 5 = 0
          · have u5 : (xk.tmod 5 == 0) = true := by rw [beq_iff_eq]; exact t5
            clear t5
            go_wp2_with fail
            refine sync_any (pf_disk (Hz.of_eq (show _ = IsPf q p dz * ((pts ab (.cells (act6C xk xi xd xs) 34 (0, 0))) * (Row 9 1 (.slice (some ⟨b1, 0, none⟩) 12 12) 12 (sv6 bs) * (Row 32 1 (.slice (some ⟨b2, 0, none⟩) 12 12) 12 (kv6 ks) * (Row 4 1 (.slice (some ⟨b3, 0, none⟩) 12 12) 12 (tv6 ts) * (Row 9 1 (.slice (some ⟨b4, 0, none⟩) 2 2) 2 (sv6 (ss.set xi.toNat S)) * F))))) from by ac_rfl))) UPz.out.ok (by have := UPz.out.pend; omega) ?_
            rw [UPz.out.sync.2.1]
            intro w8 H8 I8
            have H9 := (pf_back H8).of_eq (show _ = (pts ab (.cells (act6C xk xi xd xs) 34 (0, 0))) * (Row 9 1 (.slice (some ⟨b1, 0, none⟩) 12 12) 12 (sv6 bs) * (Row 32 1 (.slice (some ⟨b2, 0, none⟩) 12 12) 12 (kv6 ks) * (Row 4 1 (.slice (some ⟨b3, 0, none⟩) 12 12) 12 (tv6 ts) * (Row 9 1 (.slice (some ⟨b4, 0, none⟩) 2 2) 2 (sv6 (ss.set xi.toNat S)) * (IsPf q p dz.sync * F))))) from by ac_rfl)
            have up9 := Lib.hid UPz.out.sync.1
            have pg9 := Lib.hid (PGz.out.same UPz.out.sync.2.2)
            have sl9 := Lib.hid (SLz.out.same UPz.out.sync.2.2)
            generalize dz.sync = d9 at *
            clear H8 Hy Hz y0 y1 y2 y3 y4 lq cq UPz PGz SLz
            go_wp2_with fail
            go_roundw
            case rel => exact ⟨k + 1, d9, _, _, _, _, by omega, by go_num, up9.out, pg9.out, sl9.out, LB.out, LK.out, LT.out, ls2.out, H9.right, Jz.trans I8⟩
            case measure => simp [intOf]; omega
          · have u5 : (xk.tmod 5 == 0) = false := by rw [beq_eq_false_iff_ne]; exact t5
            clear t5
            go_wp2_with fail
            go_roundw
            case rel => exact ⟨k + 1, dz, _, _, _, _, by omega, by go_num, UPz.out, PGz.out, SLz.out, LB.out, LK.out, LT.out, ls2.out, Hz.right, Jz⟩
            case measure => simp [intOf]; omega
        · have S2 : Hid (d.putE xi S = 40) := Lib.hid (by rw [s2'.out, if_neg inr])
          go_region_held3 (fun W => W.cell? ⟨ab, 1, none⟩ = some (.int .i64 xi) ∧ W.cell? ⟨ab, 3, none⟩ = some (.string xs)) (first | exact ⟨y2, y4⟩ | exact ⟨(act6_cells (H6.of_eq (show _ = (pts ab (.cells (act6C xk xi xd xs) 34 (0, 0))) * (IsPf q p (d.putR xi S) * (Row 9 1 (.slice (some ⟨b1, 0, none⟩) 12 12) 12 (sv6 bs) * (Row 32 1 (.slice (some ⟨b2, 0, none⟩) 12 12) 12 (kv6 ks) * (Row 4 1 (.slice (some ⟨b3, 0, none⟩) 12 12) 12 (tv6 ts) * (Row 9 1 (.slice (some ⟨b4, 0, none⟩) 2 2) 2 (sv6 ss) * F))))) from by ac_rfl))).2.2.1, (act6_cells (H6.of_eq (show _ = (pts ab (.cells (act6C xk xi xd xs) 34 (0, 0))) * (IsPf q p (d.putR xi S) * (Row 9 1 (.slice (some ⟨b1, 0, none⟩) 12 12) 12 (sv6 bs) * (Row 32 1 (.slice (some ⟨b2, 0, none⟩) 12 12) 12 (kv6 ks) * (Row 4 1 (.slice (some ⟨b3, 0, none⟩) 12 12) 12 (tv6 ts) * (Row 9 1 (.slice (some ⟨b4, 0, none⟩) 2 2) 2 (sv6 ss) * F))))) from by ac_rfl))).2.2.2.2⟩)
            (first | (go_at_call 10; with_reducible refine FU.out _ _ ?_) | (go_at_call 11; refine pf_put Hd2 UP.out.ok (by have := UP.out.writes; omega) (by have := UP.out.pend; omega) xi S (by have := zS.out; omega) ?_; rw [S2.out]; intro w6 H6 I6))
          clear y0 y1 y2 y3 y4
          have H7 : Sat ((pts ab (.cells (act6C xk xi xd xs) 34 (0, 0))) * (Row 9 1 (.slice (some ⟨b1, 0, none⟩) 12 12) 12 (sv6 bs) * (Row 32 1 (.slice (some ⟨b2, 0, none⟩) 12 12) 12 (kv6 ks) * (Row 4 1 (.slice (some ⟨b3, 0, none⟩) 12 12) 12 (tv6 ts) * (Row 9 1 (.slice (some ⟨b4, 0, none⟩) 2 2) 2 (sv6 ss) * (IsPf q p (d.putR xi S) * F)))))) w6 := H6.of_eq (by ac_rfl)
          have J7 := Ia.drew.trans I6
          clear H6 I6 Hd Hd2 Ia
          obtain ⟨y0, y1, y2, y3, y4⟩ := act6_cells H7
          have V3' := Lib.hid (V3.out inr)
          clear inr V2
          have Hz := H7
          have Jz := J7
          clear y0 y1 y2 y3 y4 H7 J7
          have UPz := Lib.hid (S1.out)
          have PGz := Lib.hid (V1.out)
          have SLz := Lib.hid (V3'.out)
          obtain ⟨y0, y1, y2, y3, y4⟩ := act6_cells Hz
          have Hy := Hz.right.right.right.right.right
          obtain ⟨lq, cq⟩ := pf_cells Hy
          generalize hdz : d.putR xi S = dz at *
          clear hdz
          by_cases t5 : xk.tmod 5 = 0
          · have u5 : (xk.tmod 5 == 0) = true := by rw [beq_iff_eq]; exact t5
            clear t5
            go_wp2_with fail
            refine sync_any (pf_disk (Hz.of_eq (show _ = IsPf q p dz * ((pts ab (.cells (act6C xk xi xd xs) 34 (0, 0))) * (Row 9 1 (.slice (some ⟨b1, 0, none⟩) 12 12) 12 (sv6 bs) * (Row 32 1 (.slice (some ⟨b2, 0, none⟩) 12 12) 12 (kv6 ks) * (Row 4 1 (.slice (some ⟨b3, 0, none⟩) 12 12) 12 (tv6 ts) * (Row 9 1 (.slice (some ⟨b4, 0, none⟩) 2 2) 2 (sv6 ss) * F))))) from by ac_rfl))) UPz.out.ok (by have := UPz.out.pend; omega) ?_
            rw [UPz.out.sync.2.1]
            intro w8 H8 I8
            have H9 := (pf_back H8).of_eq (show _ = (pts ab (.cells (act6C xk xi xd xs) 34 (0, 0))) * (Row 9 1 (.slice (some ⟨b1, 0, none⟩) 12 12) 12 (sv6 bs) * (Row 32 1 (.slice (some ⟨b2, 0, none⟩) 12 12) 12 (kv6 ks) * (Row 4 1 (.slice (some ⟨b3, 0, none⟩) 12 12) 12 (tv6 ts) * (Row 9 1 (.slice (some ⟨b4, 0, none⟩) 2 2) 2 (sv6 ss) * (IsPf q p dz.sync * F))))) from by ac_rfl)
            have up9 := Lib.hid UPz.out.sync.1
            have pg9 := Lib.hid (PGz.out.same UPz.out.sync.2.2)
            have sl9 := Lib.hid (SLz.out.same UPz.out.sync.2.2)
            generalize dz.sync = d9 at *
            clear H8 Hy Hz y0 y1 y2 y3 y4 lq cq UPz PGz SLz
            go_wp2_with fail
            go_roundw
            case rel => exact ⟨k + 1, d9, _, _, _, _, by omega, by go_num, up9.out, pg9.out, sl9.out, LB.out, LK.out, LT.out, LS.out, H9.right, Jz.trans I8⟩
            case measure => simp [intOf]; omega
          · have u5 : (xk.tmod 5 == 0) = false := by rw [beq_eq_false_iff_ne]; exact t5
            clear t5
            go_wp2_with fail
            go_roundw
            case rel => exact ⟨k + 1, dz, _, _, _, _, by omega, by go_num, UPz.out, PGz.out, SLz.out, LB.out, LK.out, LT.out, LS.out, Hz.right, Jz⟩
            case measure => simp [intOf]; omega
      · have u3 : (xk.tmod 3 == 0) = false := by rw [beq_eq_false_iff_ne]; exact t3
        clear t3
        go_wp2_with fail
        generalize wr.alloc (.cells #[.int .i64 xk, .int .i64 xi, .int .u8 (xd.toNat : Int), .string xs] 34) = wa at *
        generalize wr.heap.size = ab at *
        have Hd : Sat (IsPf q p d * ((pts ab (.cells (act6C xk xi xd xs) 34 (0, 0))) * (Row 9 1 (.slice (some ⟨b1, 0, none⟩) 12 12) 12 (sv6 bs) * (Row 32 1 (.slice (some ⟨b2, 0, none⟩) 12 12) 12 (kv6 ks) * (Row 4 1 (.slice (some ⟨b3, 0, none⟩) 12 12) 12 (tv6 ts) * (Row 9 1 (.slice (some ⟨b4, 0, none⟩) 2 2) 2 (sv6 ss) * F)))))) wa := Ha.of_eq (by ac_rfl)
        obtain ⟨y0, y1, y2, y3, y4⟩ := act6_cells Ha
        obtain ⟨s1, s2, s3⟩ := UP.out.putPage xi xd xs
        obtain ⟨v1, v2, v3⟩ := page_step UP.out PG.out SL.out LB.out LK.out LT.out xi xd xs
        have S1 := Lib.hid s1
        have s2' := Lib.hid s2
        have V1 := Lib.hid v1
        have V2 := Lib.hid v2
        have V3 := Lib.hid v3
        clear s1 s2 s3 v1 v2 v3
        by_cases inr : 2 ≤ xi ∧ xi < 12 ∧ xs.size ≤ 240
        · have S2 : Hid (d.pfWE xi xd xs = 0) := Lib.hid (by rw [s2'.out, if_pos ⟨inr.1, inr.2.1⟩, if_pos inr.2.2])
          have V2' := Lib.hid (V2.out inr)
          have i0 : 2 ≤ xi := inr.1
          have i1 : xi < 12 := inr.2.1
          have i2 : (xs.size : Int) ≤ 240 := by omega
          have n0 : Hid (xi.toNat < 12) := Lib.hid (by omega)
          clear inr V2 V3 s2'
          go_wp2_with fail
          refine pf_write hv.with.with.with.with.with Hd UP.out.ok (by have := UP.out.writes; omega) (by have := UP.out.pend; omega) xi xd xs XS9.out ?_
          rw [S2.out]
          intro w6 H6 I6
          have H7 : Sat ((pts ab (.cells (act6C xk xi xd xs) 34 (0, 0))) * (Row 9 1 (.slice (some ⟨b1, 0, none⟩) 12 12) 12 (sv6 bs) * (Row 32 1 (.slice (some ⟨b2, 0, none⟩) 12 12) 12 (kv6 ks) * (Row 4 1 (.slice (some ⟨b3, 0, none⟩) 12 12) 12 (tv6 ts) * (Row 9 1 (.slice (some ⟨b4, 0, none⟩) 2 2) 2 (sv6 ss) * (IsPf q p (d.pfW xi xd xs) * F)))))) w6 := H6.of_eq (by ac_rfl)
          have J7 := Ia.trans I6
          clear H6 I6 Hd Ia y0 y1 y2 y3 y4
          obtain ⟨y0, y1, y2, y3, y4⟩ := act6_cells H7
          have K1 := H7.of_eq (show _ = Row 9 1 (.slice (some ⟨b1, 0, none⟩) 12 12) 12 (sv6 bs) * ((pts ab (.cells (act6C xk xi xd xs) 34 (0, 0))) * (Row 32 1 (.slice (some ⟨b2, 0, none⟩) 12 12) 12 (kv6 ks) * (Row 4 1 (.slice (some ⟨b3, 0, none⟩) 12 12) 12 (tv6 ts) * (Row 9 1 (.slice (some ⟨b4, 0, none⟩) 2 2) 2 (sv6 ss) * (IsPf q p (d.pfW xi xd xs) * F))))) from by ac_rfl)
          have c1s := row_cell K1 xi.toNat _ (sv6_get bs xi.toNat (by rw [LB.out]; exact n0.out))
          obtain ⟨f1, l1⟩ := row_free K1 xi.toNat
          have K2' := row_set K1 xi.toNat n0.out (.string xs)
          rw [sv6_set] at K2'
          have K2 := K2'.of_eq (show _ = Row 32 1 (.slice (some ⟨b2, 0, none⟩) 12 12) 12 (kv6 ks) * ((pts ab (.cells (act6C xk xi xd xs) 34 (0, 0))) * (Row 9 1 (.slice (some ⟨b1, 0, none⟩) 12 12) 12 (sv6 (bs.set xi.toNat xs)) * (Row 4 1 (.slice (some ⟨b3, 0, none⟩) 12 12) 12 (tv6 ts) * (Row 9 1 (.slice (some ⟨b4, 0, none⟩) 2 2) 2 (sv6 ss) * (IsPf q p (d.pfW xi xd xs) * F))))) from by ac_rfl)
          obtain ⟨x0, x1, x2, x3, x4⟩ := act6_cells K2.right
          have c2s := row_cell K2 xi.toNat _ (kv6_get ks xi.toNat (by rw [LK.out]; exact n0.out))
          obtain ⟨f2, l2⟩ := row_free K2 xi.toNat
          have K3' := row_set K2 xi.toNat n0.out (.int .u8 (xd.toNat : Int))
          rw [kv6_set] at K3'
          have K3 := K3'.of_eq (show _ = Row 4 1 (.slice (some ⟨b3, 0, none⟩) 12 12) 12 (tv6 ts) * ((pts ab (.cells (act6C xk xi xd xs) 34 (0, 0))) * (Row 9 1 (.slice (some ⟨b1, 0, none⟩) 12 12) 12 (sv6 (bs.set xi.toNat xs)) * (Row 32 1 (.slice (some ⟨b2, 0, none⟩) 12 12) 12 (kv6 (ks.set xi.toNat xd)) * (Row 9 1 (.slice (some ⟨b4, 0, none⟩) 2 2) 2 (sv6 ss) * (IsPf q p (d.pfW xi xd xs) * F))))) from by ac_rfl)
          obtain ⟨r0, r1, r2, r3, r4⟩ := act6_cells K3.right
          have c3s := row_cell K3 xi.toNat _ (tv6_get ts xi.toNat (by rw [LT.out]; exact n0.out))
          obtain ⟨f3, l3⟩ := row_free K3 xi.toNat
          have K4' := row_set K3 xi.toNat n0.out (.bool true)
          rw [tv6_set] at K4'
          have Hz : Sat ((pts ab (.cells (act6C xk xi xd xs) 34 (0, 0))) * (Row 9 1 (.slice (some ⟨b1, 0, none⟩) 12 12) 12 (sv6 (bs.set xi.toNat xs)) * (Row 32 1 (.slice (some ⟨b2, 0, none⟩) 12 12) 12 (kv6 (ks.set xi.toNat xd)) * (Row 4 1 (.slice (some ⟨b3, 0, none⟩) 12 12) 12 (tv6 (ts.set xi.toNat true)) * (Row 9 1 (.slice (some ⟨b4, 0, none⟩) 2 2) 2 (sv6 ss) * (IsPf q p (d.pfW xi xd xs) * F)))))) _ := K4'.of_eq (by ac_rfl)
          have Jz := ((J7.setCell ⟨b1, xi.toNat, none⟩ (.string xs)).setCell ⟨b2, xi.toNat, none⟩ (.int .u8 (xd.toNat : Int))).setCell ⟨b3, xi.toNat, none⟩ (.bool true)
          have nl1 : Hid ((bs.set xi.toNat xs).length = 12) := Lib.hid (by rw [List.length_set]; exact LB.out)
          have nl2 : Hid ((ks.set xi.toNat xd).length = 12) := Lib.hid (by rw [List.length_set]; exact LK.out)
          have nl3 : Hid ((ts.set xi.toNat true).length = 12) := Lib.hid (by rw [List.length_set]; exact LT.out)
          generalize bs.getD xi.toNat ByteArray.empty = o1 at *
          generalize ks.getD xi.toNat 0 = o2 at *
          generalize ts.getD xi.toNat false = o3 at *
          clear K1 K2' K2 K3' K3 K4' H7 J7
          obtain ⟨q0, q1, q2, q3, q4⟩ := act6_cells Hz
          have UPz := Lib.hid (S1.out)
          have PGz := Lib.hid (V2'.out)
          have SLz := Lib.hid (V1.out)
          have Hy := Hz.right.right.right.right.right
          obtain ⟨lq, cq⟩ := pf_cells Hy
          generalize hdz : d.pfW xi xd xs = dz at *
          clear hdz
          by_cases t5 : xk.tmod 5 = 0
          · have u5 : (xk.tmod 5 == 0) = true := by rw [beq_iff_eq]; exact t5
            clear t5
            go_wp2_with fail
            refine sync_any (pf_disk (Hz.of_eq (show _ = IsPf q p dz * ((pts ab (.cells (act6C xk xi xd xs) 34 (0, 0))) * (Row 9 1 (.slice (some ⟨b1, 0, none⟩) 12 12) 12 (sv6 (bs.set xi.toNat xs)) * (Row 32 1 (.slice (some ⟨b2, 0, none⟩) 12 12) 12 (kv6 (ks.set xi.toNat xd)) * (Row 4 1 (.slice (some ⟨b3, 0, none⟩) 12 12) 12 (tv6 (ts.set xi.toNat true)) * (Row 9 1 (.slice (some ⟨b4, 0, none⟩) 2 2) 2 (sv6 ss) * F))))) from by ac_rfl))) UPz.out.ok (by have := UPz.out.pend; omega) ?_
            rw [UPz.out.sync.2.1]
            intro w8 H8 I8
            have H9 := (pf_back H8).of_eq (show _ = (pts ab (.cells (act6C xk xi xd xs) 34 (0, 0))) * (Row 9 1 (.slice (some ⟨b1, 0, none⟩) 12 12) 12 (sv6 (bs.set xi.toNat xs)) * (Row 32 1 (.slice (some ⟨b2, 0, none⟩) 12 12) 12 (kv6 (ks.set xi.toNat xd)) * (Row 4 1 (.slice (some ⟨b3, 0, none⟩) 12 12) 12 (tv6 (ts.set xi.toNat true)) * (Row 9 1 (.slice (some ⟨b4, 0, none⟩) 2 2) 2 (sv6 ss) * (IsPf q p dz.sync * F))))) from by ac_rfl)
            have up9 := Lib.hid UPz.out.sync.1
            have pg9 := Lib.hid (PGz.out.same UPz.out.sync.2.2)
            have sl9 := Lib.hid (SLz.out.same UPz.out.sync.2.2)
            generalize dz.sync = d9 at *
            clear H8 Hy Hz lq cq UPz PGz SLz
            go_wp2_with fail
            go_roundw
            case rel => exact ⟨k + 1, d9, _, _, _, _, by omega, by go_num, up9.out, pg9.out, sl9.out, nl1.out, nl2.out, nl3.out, LS.out, H9.right, Jz.trans I8⟩
            case measure => simp [intOf]; omega
          · have u5 : (xk.tmod 5 == 0) = false := by rw [beq_eq_false_iff_ne]; exact t5
            clear t5
            go_wp2_with fail
            go_roundw
            case rel => exact ⟨k + 1, dz, _, _, _, _, by omega, by go_num, UPz.out, PGz.out, SLz.out, nl1.out, nl2.out, nl3.out, LS.out, Hz.right, Jz⟩
            case measure => simp [intOf]; omega
        · have hev : ∃ ev, d.pfWE xi xd xs = ev ∧ (ev == 0) = false := ⟨_, rfl, by rw [s2'.out]; split; rw [if_neg (by omega)]; rfl; rfl⟩
          obtain ⟨ev, hev, ev0⟩ := hev
          have S2 := Lib.hid hev
          have V3' := Lib.hid (V3.out inr)
          have way : xi < 2 ∨ (2 ≤ xi ∧ 12 ≤ xi) ∨ (2 ≤ xi ∧ xi < 12 ∧ 240 < (xs.size : Int)) := by omega
          clear inr V2 V3 s2' hev
          go_wp2_with fail
          refine pf_write hv.with.with.with.with.with Hd UP.out.ok (by have := UP.out.writes; omega) (by have := UP.out.pend; omega) xi xd xs XS9.out ?_
          rw [S2.out]
          intro w6 H6 I6
          have H7 : Sat ((pts ab (.cells (act6C xk xi xd xs) 34 (0, 0))) * (Row 9 1 (.slice (some ⟨b1, 0, none⟩) 12 12) 12 (sv6 bs) * (Row 32 1 (.slice (some ⟨b2, 0, none⟩) 12 12) 12 (kv6 ks) * (Row 4 1 (.slice (some ⟨b3, 0, none⟩) 12 12) 12 (tv6 ts) * (Row 9 1 (.slice (some ⟨b4, 0, none⟩) 2 2) 2 (sv6 ss) * (IsPf q p (d.pfW xi xd xs) * F)))))) w6 := H6.of_eq (by ac_rfl)
          have J7 := Ia.trans I6
          clear H6 I6 Hd Ia y0 y1 y2 y3 y4
          have Hz := H7
          have Jz := J7
          clear H7 J7
          rcases way with h3 | ⟨h3, h4⟩ | ⟨h3, h4, h5⟩
          · have UPz := Lib.hid (S1.out)
            have PGz := Lib.hid (V3'.out)
            have SLz := Lib.hid (V1.out)
            obtain ⟨y0, y1, y2, y3, y4⟩ := act6_cells Hz
            have Hy := Hz.right.right.right.right.right
            obtain ⟨lq, cq⟩ := pf_cells Hy
            generalize hdz : d.pfW xi xd xs = dz at *
            clear hdz
            by_cases t5 : xk.tmod 5 = 0
            · have u5 : (xk.tmod 5 == 0) = true := by rw [beq_iff_eq]; exact t5
              clear t5
              go_wp2_with fail
              refine sync_any (pf_disk (Hz.of_eq (show _ = IsPf q p dz * ((pts ab (.cells (act6C xk xi xd xs) 34 (0, 0))) * (Row 9 1 (.slice (some ⟨b1, 0, none⟩) 12 12) 12 (sv6 bs) * (Row 32 1 (.slice (some ⟨b2, 0, none⟩) 12 12) 12 (kv6 ks) * (Row 4 1 (.slice (some ⟨b3, 0, none⟩) 12 12) 12 (tv6 ts) * (Row 9 1 (.slice (some ⟨b4, 0, none⟩) 2 2) 2 (sv6 ss) * F))))) from by ac_rfl))) UPz.out.ok (by have := UPz.out.pend; omega) ?_
              rw [UPz.out.sync.2.1]
              intro w8 H8 I8
              have H9 := (pf_back H8).of_eq (show _ = (pts ab (.cells (act6C xk xi xd xs) 34 (0, 0))) * (Row 9 1 (.slice (some ⟨b1, 0, none⟩) 12 12) 12 (sv6 bs) * (Row 32 1 (.slice (some ⟨b2, 0, none⟩) 12 12) 12 (kv6 ks) * (Row 4 1 (.slice (some ⟨b3, 0, none⟩) 12 12) 12 (tv6 ts) * (Row 9 1 (.slice (some ⟨b4, 0, none⟩) 2 2) 2 (sv6 ss) * (IsPf q p dz.sync * F))))) from by ac_rfl)
              have up9 := Lib.hid UPz.out.sync.1
              have pg9 := Lib.hid (PGz.out.same UPz.out.sync.2.2)
              have sl9 := Lib.hid (SLz.out.same UPz.out.sync.2.2)
              generalize dz.sync = d9 at *
              clear H8 Hy Hz y0 y1 y2 y3 y4 lq cq UPz PGz SLz
              go_wp2_with fail
              go_roundw
              case rel => exact ⟨k + 1, d9, _, _, _, _, by omega, by go_num, up9.out, pg9.out, sl9.out, LB.out, LK.out, LT.out, LS.out, H9.right, Jz.trans I8⟩
              case measure => simp [intOf]; omega
            · have u5 : (xk.tmod 5 == 0) = false := by rw [beq_eq_false_iff_ne]; exact t5
              clear t5
              go_wp2_with fail
              go_roundw
              case rel => exact ⟨k + 1, dz, _, _, _, _, by omega, by go_num, UPz.out, PGz.out, SLz.out, LB.out, LK.out, LT.out, LS.out, Hz.right, Jz⟩
              case measure => simp [intOf]; omega
          · have UPz := Lib.hid (S1.out)
            have PGz := Lib.hid (V3'.out)
            have SLz := Lib.hid (V1.out)
            obtain ⟨y0, y1, y2, y3, y4⟩ := act6_cells Hz
            have Hy := Hz.right.right.right.right.right
            obtain ⟨lq, cq⟩ := pf_cells Hy
            generalize hdz : d.pfW xi xd xs = dz at *
            clear hdz
            by_cases t5 : xk.tmod 5 = 0
            · have u5 : (xk.tmod 5 == 0) = true := by rw [beq_iff_eq]; exact t5
              clear t5
              go_wp2_with fail
              refine sync_any (pf_disk (Hz.of_eq (show _ = IsPf q p dz * ((pts ab (.cells (act6C xk xi xd xs) 34 (0, 0))) * (Row 9 1 (.slice (some ⟨b1, 0, none⟩) 12 12) 12 (sv6 bs) * (Row 32 1 (.slice (some ⟨b2, 0, none⟩) 12 12) 12 (kv6 ks) * (Row 4 1 (.slice (some ⟨b3, 0, none⟩) 12 12) 12 (tv6 ts) * (Row 9 1 (.slice (some ⟨b4, 0, none⟩) 2 2) 2 (sv6 ss) * F))))) from by ac_rfl))) UPz.out.ok (by have := UPz.out.pend; omega) ?_
              rw [UPz.out.sync.2.1]
              intro w8 H8 I8
              have H9 := (pf_back H8).of_eq (show _ = (pts ab (.cells (act6C xk xi xd xs) 34 (0, 0))) * (Row 9 1 (.slice (some ⟨b1, 0, none⟩) 12 12) 12 (sv6 bs) * (Row 32 1 (.slice (some ⟨b2, 0, none⟩) 12 12) 12 (kv6 ks) * (Row 4 1 (.slice (some ⟨b3, 0, none⟩) 12 12) 12 (tv6 ts) * (Row 9 1 (.slice (some ⟨b4, 0, none⟩) 2 2) 2 (sv6 ss) * (IsPf q p dz.sync * F))))) from by ac_rfl)
              have up9 := Lib.hid UPz.out.sync.1
              have pg9 := Lib.hid (PGz.out.same UPz.out.sync.2.2)
              have sl9 := Lib.hid (SLz.out.same UPz.out.sync.2.2)
              generalize dz.sync = d9 at *
              clear H8 Hy Hz y0 y1 y2 y3 y4 lq cq UPz PGz SLz
              go_wp2_with fail
              go_roundw
              case rel => exact ⟨k + 1, d9, _, _, _, _, by omega, by go_num, up9.out, pg9.out, sl9.out, LB.out, LK.out, LT.out, LS.out, H9.right, Jz.trans I8⟩
              case measure => simp [intOf]; omega
            · have u5 : (xk.tmod 5 == 0) = false := by rw [beq_eq_false_iff_ne]; exact t5
              clear t5
              go_wp2_with fail
              go_roundw
              case rel => exact ⟨k + 1, dz, _, _, _, _, by omega, by go_num, UPz.out, PGz.out, SLz.out, LB.out, LK.out, LT.out, LS.out, Hz.right, Jz⟩
              case measure => simp [intOf]; omega
          · have UPz := Lib.hid (S1.out)
            have PGz := Lib.hid (V3'.out)
            have SLz := Lib.hid (V1.out)
            obtain ⟨y0, y1, y2, y3, y4⟩ := act6_cells Hz
            have Hy := Hz.right.right.right.right.right
            obtain ⟨lq, cq⟩ := pf_cells Hy
            generalize hdz : d.pfW xi xd xs = dz at *
            clear hdz
            by_cases t5 : xk.tmod 5 = 0
            · have u5 : (xk.tmod 5 == 0) = true := by rw [beq_iff_eq]; exact t5
              clear t5
              go_wp2_with fail
              refine sync_any (pf_disk (Hz.of_eq (show _ = IsPf q p dz * ((pts ab (.cells (act6C xk xi xd xs) 34 (0, 0))) * (Row 9 1 (.slice (some ⟨b1, 0, none⟩) 12 12) 12 (sv6 bs) * (Row 32 1 (.slice (some ⟨b2, 0, none⟩) 12 12) 12 (kv6 ks) * (Row 4 1 (.slice (some ⟨b3, 0, none⟩) 12 12) 12 (tv6 ts) * (Row 9 1 (.slice (some ⟨b4, 0, none⟩) 2 2) 2 (sv6 ss) * F))))) from by ac_rfl))) UPz.out.ok (by have := UPz.out.pend; omega) ?_
              rw [UPz.out.sync.2.1]
              intro w8 H8 I8
              have H9 := (pf_back H8).of_eq (show _ = (pts ab (.cells (act6C xk xi xd xs) 34 (0, 0))) * (Row 9 1 (.slice (some ⟨b1, 0, none⟩) 12 12) 12 (sv6 bs) * (Row 32 1 (.slice (some ⟨b2, 0, none⟩) 12 12) 12 (kv6 ks) * (Row 4 1 (.slice (some ⟨b3, 0, none⟩) 12 12) 12 (tv6 ts) * (Row 9 1 (.slice (some ⟨b4, 0, none⟩) 2 2) 2 (sv6 ss) * (IsPf q p dz.sync * F))))) from by ac_rfl)
              have up9 := Lib.hid UPz.out.sync.1
              have pg9 := Lib.hid (PGz.out.same UPz.out.sync.2.2)
              have sl9 := Lib.hid (SLz.out.same UPz.out.sync.2.2)
              generalize dz.sync = d9 at *
              clear H8 Hy Hz y0 y1 y2 y3 y4 lq cq UPz PGz SLz
              go_wp2_with fail
              go_roundw
              case rel => exact ⟨k + 1, d9, _, _, _, _, by omega, by go_num, up9.out, pg9.out, sl9.out, LB.out, LK.out, LT.out, LS.out, H9.right, Jz.trans I8⟩
              case measure => simp [intOf]; omega
            · have u5 : (xk.tmod 5 == 0) = false := by rw [beq_eq_false_iff_ne]; exact t5
              clear t5
              go_wp2_with fail
              go_roundw
              case rel => exact ⟨k + 1, dz, _, _, _, _, by omega, by go_num, UPz.out, PGz.out, SLz.out, LB.out, LK.out, LT.out, LS.out, Hz.right, Jz⟩
              case measure => simp [intOf]; omega
    · obtain rfl : k = l.length := by omega
      have hge1 : ¬ (l.length : Int) < (l.length : Int) := by omega
      clear AL NT
      go_wp2_with fail
      go_loopw [13] (fun x wr => ∃ (i : Nat) (dd : Dk), 2 ≤ i ∧ i ≤ 12 ∧ x = .int .i64 (i : Int) ∧ dd.Up (l.length + i) ∧ (∀ j, dd.now j = d.now j) ∧ Sat (Row 9 1 (.slice (some ⟨b1, 0, none⟩) 12 12) 12 (sv6 bs) * (Row 32 1 (.slice (some ⟨b2, 0, none⟩) 12 12) 12 (kv6 ks) * (Row 4 1 (.slice (some ⟨b3, 0, none⟩) 12 12) 12 (tv6 ts) * (Row 9 1 (.slice (some ⟨b4, 0, none⟩) 2 2) 2 (sv6 ss) * (IsPf q p dd * F))))) wr ∧ Io w wr) (fun x _ => 12 - (intOf x).toNat)
      case atStart => exact ⟨2, d, by omega, by omega, rfl, UP.out.mono (by omega), fun _ => rfl, Hk, Ik⟩
      case round =>
        obtain ⟨i, dd, i2, i12, rfl, up, same, Hr, Ir⟩ := hrel
        clear Hk Ik
        have UD := Lib.hid up
        have SM := Lib.hid same
        clear up same
        by_cases lt12 : (i : Int) < 12
        · have i2' : (2 : Int) ≤ (i : Int) := by omega
          have ck := row_cell Hr.right i _ (kv6_get ks i (by rw [LK.out]; omega))
          obtain ⟨r1, r2, r3⟩ := UD.out.getPage i i2 (by omega) (ks.getD i 0)
          have PGi := Lib.hid (PG.out i i2 (by omega))
          have R2 := Lib.hid r2
          have R3 := Lib.hid r3
          have R1 := Lib.hid r1
          obtain ⟨u1, u2⟩ := UD.out.read (i : Int)
          have U1 := Lib.hid u1
          have U2 := Lib.hid u2
          have Hp : Sat (IsPf q p dd * (Row 9 1 (.slice (some ⟨b1, 0, none⟩) 12 12) 12 (sv6 bs) * (Row 32 1 (.slice (some ⟨b2, 0, none⟩) 12 12) 12 (kv6 ks) * (Row 4 1 (.slice (some ⟨b3, 0, none⟩) 12 12) 12 (tv6 ts) * (Row 9 1 (.slice (some ⟨b4, 0, none⟩) 2 2) 2 (sv6 ss) * F))))) wr := Hr.of_eq (by ac_rfl)
          obtain ⟨kk, hkk⟩ : ∃ kk, kk = ks.getD i 0 := ⟨_, rfl⟩
          rw [← hkk] at ck R2 R3
          have KK := Lib.hid hkk
          clear r1 r2 r3 u1 u2 hkk
          cases hb : ts.getD i false with
          | true =>
            obtain ⟨g1, g2⟩ := PGi.out.1 hb
            obtain ⟨e1, e2⟩ := R2.out _ _ ((SM.out i).trans g2) g1 KK.out.symm
            have E1 := Lib.hid e1
            have E2 := Lib.hid e2
            have HB := Lib.hid hb
            clear e1 e2 g1 g2 R2 R3 hb
            go_wp2_with fail
            refine pf_read hv.with.with.with.with Hp UD.out.ok (by have := UD.out.reads; omega) (i : Int) kk ?_
            rw [R1.out, E1.out, E2.out]
            intro w8 H8 I8
            have H9 : Sat (Row 9 1 (.slice (some ⟨b1, 0, none⟩) 12 12) 12 (sv6 bs) * (Row 32 1 (.slice (some ⟨b2, 0, none⟩) 12 12) 12 (kv6 ks) * (Row 4 1 (.slice (some ⟨b3, 0, none⟩) 12 12) 12 (tv6 ts) * (Row 9 1 (.slice (some ⟨b4, 0, none⟩) 2 2) 2 (sv6 ss) * (IsPf q p (dd.read (i : Int)) * F))))) w8 := H8.of_eq (by ac_rfl)
            have ct := row_cell H9.right.right i _ (tv6_get ts i (by rw [LT.out]; omega))
            have cb := row_cell H9 i _ (sv6_get bs i (by rw [LB.out]; omega))
            rw [HB.out] at ct
            have ss9 : ((bs.getD i ByteArray.empty).toList == (bs.getD i ByteArray.empty).toList) = true := str_eq _
            clear Hp H8 ck
            have J9 := Ir.trans I8
            have UX : Hid ((dd.read (i : Int)).Up (l.length + (i + 1)) ∧ ∀ j, (dd.read (i : Int)).now j = d.now j) := Lib.hid ⟨U1.out.mono (by omega), fun j => (U2.out j).trans (SM.out j)⟩
            generalize dd.read (i : Int) = de at *
            generalize bs.getD i ByteArray.empty = bi at *
            clear Hr Ir
            go_wp2_with fail
            go_roundw
            case rel => exact ⟨i + 1, de, by omega, by omega, by go_num, UX.out.1, UX.out.2, H9, J9⟩
            case measure => simp [intOf]; omega
          | false =>
            have g1 := PGi.out.2 hb
            obtain ⟨e1, e2⟩ := R3.out ((SM.out i).trans g1)
            have E1 := Lib.hid e1
            have E2 := Lib.hid e2
            have HB := Lib.hid hb
            clear e1 e2 g1 R2 R3 hb
            go_wp2_with fail
            refine pf_read hv.with.with.with.with Hp UD.out.ok (by have := UD.out.reads; omega) (i : Int) kk ?_
            rw [R1.out, E1.out, E2.out]
            intro w8 H8 I8
            have H9 : Sat (Row 9 1 (.slice (some ⟨b1, 0, none⟩) 12 12) 12 (sv6 bs) * (Row 32 1 (.slice (some ⟨b2, 0, none⟩) 12 12) 12 (kv6 ks) * (Row 4 1 (.slice (some ⟨b3, 0, none⟩) 12 12) 12 (tv6 ts) * (Row 9 1 (.slice (some ⟨b4, 0, none⟩) 2 2) 2 (sv6 ss) * (IsPf q p (dd.read (i : Int)) * F))))) w8 := H8.of_eq (by ac_rfl)
            have ct := row_cell H9.right.right i _ (tv6_get ts i (by rw [LT.out]; omega))
            have cb := row_cell H9 i _ (sv6_get bs i (by rw [LB.out]; omega))
            rw [HB.out] at ct
            clear Hp H8 ck
            have J9 := Ir.trans I8
            have UX : Hid ((dd.read (i : Int)).Up (l.length + (i + 1)) ∧ ∀ j, (dd.read (i : Int)).now j = d.now j) := Lib.hid ⟨U1.out.mono (by omega), fun j => (U2.out j).trans (SM.out j)⟩
            generalize dd.read (i : Int) = de at *
            generalize bs.getD i ByteArray.empty = bi at *
            clear Hr Ir
            go_wp2_with fail
            go_roundw
            case rel => exact ⟨i + 1, de, by omega, by omega, by go_num, UX.out.1, UX.out.2, H9, J9⟩
            case measure => simp [intOf]; omega
        · obtain rfl : i = 12 := by omega
          obtain ⟨a1, a2, a3⟩ := UD.out.getSlot 0 (by omega)
          obtain ⟨v1, v2⟩ := UD.out.read ((0 : Nat) : Int)
          obtain ⟨b1', b2', b3'⟩ := v1.getSlot 1 (by omega)
          have n0 : dd.slotS ((0 : Nat) : Int) = ss.getD 0 ByteArray.empty := a3.trans ((SM.out 0).trans (SL.out 0 (by omega)))
          have n1 : (dd.read ((0 : Nat) : Int)).slotS ((1 : Nat) : Int) = ss.getD 1 ByteArray.empty := b3'.trans ((v2 1).trans ((SM.out 1).trans (SL.out 1 (by omega))))
          have A1 : Hid (dd.slotR 0 = dd.read 0) := Lib.hid a1
          have A2 : Hid (dd.slotE 0 = 0) := Lib.hid a2
          have B2 : Hid ((dd.read 0).slotE 1 = 0) := Lib.hid b2'
          have N0 : Hid (dd.slotS 0 = ss.getD 0 ByteArray.empty) := Lib.hid n0
          have N1 : Hid ((dd.read 0).slotS 1 = ss.getD 1 ByteArray.empty) := Lib.hid n1
          have V1 : Hid ((dd.read 0).Up (l.length + 12 + 1)) := Lib.hid v1
          clear a1 a2 a3 v1 v2 b1' b2' b3' n0 n1
          have Hp : Sat (IsPf q p dd * (Row 9 1 (.slice (some ⟨b1, 0, none⟩) 12 12) 12 (sv6 bs) * (Row 32 1 (.slice (some ⟨b2, 0, none⟩) 12 12) 12 (kv6 ks) * (Row 4 1 (.slice (some ⟨b3, 0, none⟩) 12 12) 12 (tv6 ts) * (Row 9 1 (.slice (some ⟨b4, 0, none⟩) 2 2) 2 (sv6 ss) * F))))) wr := Hr.of_eq (by ac_rfl)
          clear Hr
          go_wp2_with fail
          refine pf_slot Hp UD.out.ok (by have := UD.out.reads; omega) 0 ?_
          rw [A1.out, A2.out, N0.out]
          intro w8 H8 I8
          clear Hp
          obtain ⟨s0, e0⟩ : ∃ s0, Hid (s0 = ss.getD 0 ByteArray.empty) := ⟨_, Lib.hid rfl⟩
          obtain ⟨s1, e1⟩ : ∃ s1, Hid (s1 = ss.getD 1 ByteArray.empty) := ⟨_, Lib.hid rfl⟩
          rw [← e0.out]
          go_wp2_with fail
          refine pf_slot H8 V1.out.ok (by have := V1.out.reads; omega) 1 ?_
          rw [B2.out, N1.out, ← e1.out]
          intro w9 H9 I9
          have HQ : Sat (Row 9 1 (.slice (some ⟨b4, 0, none⟩) 2 2) 2 (sv6 ss) * (Row 9 1 (.slice (some ⟨b1, 0, none⟩) 12 12) 12 (sv6 bs) * (Row 32 1 (.slice (some ⟨b2, 0, none⟩) 12 12) 12 (kv6 ks) * (Row 4 1 (.slice (some ⟨b3, 0, none⟩) 12 12) 12 (tv6 ts) * (IsPf q p ((dd.read 0).slotR 1) * F))))) w9 := H9.of_eq (by ac_rfl)
          have g0 := row_cell HQ 0 _ (sv6_get ss 0 (by rw [LS.out]; omega))
          have g1 := row_cell HQ 1 _ (sv6_get ss 1 (by rw [LS.out]; omega))
          rw [← e0.out] at g0
          rw [← e1.out] at g1
          have z0 : (s0.toList == s0.toList) = true := str_eq _
          have z1 : (s1.toList == s1.toList) = true := str_eq _
          have fin := HH.out w9 HQ.right.right.right.right.right ((Ir.trans I8).trans I9)
          clear H8 H9 HQ HH
          go_wp2_with fail
          exact fin
end
end Go.Proofs.YtpccdadobnhpkaaDoor
