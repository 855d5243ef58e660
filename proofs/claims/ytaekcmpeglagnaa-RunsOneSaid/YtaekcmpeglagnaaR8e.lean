/-
  Runs: RunsOne, by its walk. It proves no statement by itself.
-/
import Derived.Test.YtaekcmpeglagnaaRw8
import Derived.Test.YtaekcmpeglagnaaR8c
namespace Go.Proofs.Ytaekcmpeglagnaa
open Go.RowKit Go.Lib
set_option linter.unusedSimpArgs false
set_option linter.unusedVariables false

section
variable {F : Asn} {w : World} {R : Ending → World → Prop}
set_option maxRecDepth 100000 in
set_option maxHeartbeats 8000000 in
theorem runsOne_any {a b : List Rn} {va vb : Value} (ha : ReadsR F va a) (hb : ReadsR F vb b) (H : Sat F w) (h : ∀ w', Sat F w' → Io w w' → R (.returned (.bool true)) w') : Calls Try.prog 4 #[va, vb] w R := by
  have HH := Lib.hid h
  clear h
  obtain ⟨aa, ac, rfl, am⟩ := readsR_len ha
  obtain ⟨ba, bc, rfl, bm⟩ := readsR_len hb
  by_cases len_a : a.length ≤ 40
  · by_cases len_b : b.length ≤ 40
    · have qa : ¬ (40 : Int) < (a.length : Int) := by omega
      have qb : ¬ (40 : Int) < (b.length : Int) := by omega
      have l1 := Rs.minus_len a b
      have l2 := Rs.union_len a b
      have l3 := Rs.union_len b a
      have l4 := Rs.meet_len a b
      have l5 := Rs.union_len (Rs.minus a b) (Rs.meet a b)
      have l6 := Rs.norm_len (Rs.union a b)
      have l7 := Rs.norm_len a
      have CU := Lib.hid (Rs.canon_union a b)
      go_enter Try.func4, Try.ntmps4
      go_wp2_with (first
        | (go_at_call 9; with_reducible refine works_any H ?_; intro w1 H1 I1)
        | (at_builtin; first
          | (refine wpList_append_recs Try.rowR encR_ok rfl (.tmp 26) (.tmp 27) rfl rfl (row_nilR H1) (by simp) (by omega) rfl ha ?_; intro v2 w2 H2 I2; rw [List.nil_append] at H2; have r2 := Reads.of_row H2 (by omega)))
        | (go_at_call 18; first
          | (with_reducible refine union_any ha.with (by omega) hb.with (by omega) H2 ?_; intro v3 w3 H3 I3; have r3 := Reads.of_row H3 (by omega); obtain ⟨ua, uc, rfl, um⟩ := readsR_len r3)
          | (with_reducible refine union_any hb.with.with (by omega) ha.with.with (by omega) H3 ?_; intro v4 w4 H4 I4; have r4 := Reads.of_row H4 (by omega))
          | (with_reducible refine union_any r6.with (by omega) r7 (by omega) H7 ?_; intro v8 w8 H8 I8; have r8 := Reads.of_row H8 (by omega)))
        | (go_at_call 19; first
          | (with_reducible refine norm_any r3.with (by omega) H4 ?_; intro v5 w5 H5 I5; have r5 := Reads.of_row H5 (by omega))
          | (with_reducible refine norm_any ha.with.with.with.with.with.with.with (by omega) H10 ?_; intro v11 w11 H11 I11; have r11 := Reads.of_row H11 (by omega)))
        | (go_at_call 20; first
          | (with_reducible refine minusr_any ha.with.with.with.with (by omega) hb.with.with.with.with (by omega) H5 ?_; intro v6 w6 H6 I6; have r6 := Reads.of_row H6 (by omega)))
        | (go_at_call 21; first
          | (with_reducible refine meet_any ha.with.with.with.with.with (by omega) hb.with.with.with.with.with (by omega) H6 ?_; intro v7 w7 H7 I7; have r7 := Reads.of_row H7 (by omega)))
        | (go_at_call 22; first
          | (with_reducible refine rsamer_any r3.with.with.with.with.with r4.with.with.with.with (d := true) (Lib.hid (decide_eq_true (Rs.union_comm a b)).symm) H8 ?_; intro w9 H9 I9)
          | (with_reducible refine rsamer_any r3.with.with.with.with.with r5.with.with.with (d := true) (Lib.hid (decide_eq_true (Rs.norm_union a b).symm).symm) H9 ?_; intro w10 H10 I10)
          | (with_reducible refine rsamer_any r8.with r11 (d := true) (Lib.hid (decide_eq_true (Rs.union_back a b)).symm) H11 ?_; intro w12 H12 I12)
          | (with_reducible refine rsamer_any ha.with.with.with.with.with.with.with.with r2.with.with.with.with.with.with.with (d := true) (Lib.hid (decide_eq_true rfl).symm) H12 ?_; intro w13 H13 I13)))
      have I0 := ((((((((((((I1).trans I2).trans I3).trans I4).trans I5).trans I6).trans I7).trans I8).trans I9).trans I10).trans I11).trans I12).trans I13
      obtain ⟨X, HX, RX, EX⟩ : ∃ X, Sat X w13 ∧ ReadsR X (.slice ua (Rs.union a b).length uc) (Rs.union a b) ∧ ∀ w', Sat X w' → Sat F w' := ⟨_, H13, r3.with.with.with.with.with.with, fun w' hw => hw.right.right.right.right.right.right.right.right⟩
      clear H1 H2 H3 H4 H5 H6 H7 H8 H9 H10 H11 H12 H13
      clear r2 r3 r4 r5 r6 r7 r8 r11
      have HV := Lib.hid (fun k hk => readsR_get RX k hk)
      have HE := Lib.hid EX
      clear RX EX
      generalize Rs.union a b = U at *
      go_loopw [13] (fun x wr => ∃ k : Nat, k ≤ U.length ∧ x = .int .i64 (k : Int) ∧ Sat X wr ∧ Io w wr) (fun x _ => U.length - (intOf x).toNat)
      case atStart => exact ⟨0, by omega, rfl, HX, I0⟩
      case round =>
        obtain ⟨k, hk, rfl, Hk, Ik⟩ := hrel
        by_cases hlt : k < U.length
        · have hlti : (k : Int) < (U.length : Int) := by omega
          have Hn := fun n => Hk.drewN n
          have In := fun n => Ik.drewN n
          obtain ⟨ub, uo, x1, x2, rfl, hx, hc⟩ := HV.out k hlt
          obtain ⟨c0, c1⟩ := hc wr Hk
          have ok := Rs.canon_at CU.out hlt
          rw [hx] at ok
          simp only [Rs.Ok, Rs.most] at ok
          obtain ⟨o1, o2, o3⟩ := ok
          have q1 : ¬ x2 < x1 := by omega
          have hk0 : (0 : Int) ≤ (k : Int) := by omega
          by_cases hp : (0 : Int) < (k : Int)
          · obtain ⟨j, hkj⟩ : ∃ j, k = j + 1 := ⟨k - 1, by omega⟩
            have hpn : 0 < k := by omega
            have hj0 : (0 : Int) ≤ (j : Int) := by omega
            have hji : (j : Int) < (U.length : Int) := by omega
            have ej : (k : Int) - 1 = (j : Int) := by omega
            obtain ⟨ub', uo', y1, y2, e, hy, hd⟩ := HV.out j (by omega)
            obtain ⟨rfl, rfl⟩ : ub = ub' ∧ uo = uo' := by cases e; exact ⟨rfl, rfl⟩
            obtain ⟨d0, d1⟩ := hd wr Hk
            have ok' := Rs.canon_at CU.out (show j < U.length by omega)
            have pr := Rs.canon_pair CU.out hlt (show j < k by omega)
            rw [hx, hy] at pr
            rw [hy] at ok'
            simp only [Rs.Ok, Rs.most] at ok' pr
            obtain ⟨p1, p2, p3⟩ := ok'
            have q2 : decide (x1 ≤ y2 + 1) = false := decide_eq_false (by omega)
            have q3 : decide (x2 < x1) = false := decide_eq_false (by omega)
            have hw2 : IntKind.i64.wrap (y2 + 1) = y2 + 1 := by rw [IntKind.wrap_i64]; omega
            have hw : IntKind.i64.wrap (j : Int) = (j : Int) := by rw [IntKind.wrap_i64]; omega
            clear hc hx hy hd e hkj HH HE HV CU l1 l3 l4 l5 l7 len_a len_b am bm qa qb
            go_wp2_with fail
            go_quiet (fail)
            go_wp2_with fail
            go_roundw
            case rel => exact ⟨k + 1, by omega, by go_num, Hn _, In _⟩
            case measure => simp [intOf]; omega
          · have hpn : ¬ 0 < k := by omega
            have hpd : decide ((0 : Int) < (k : Int)) = false := decide_eq_false hp
            have q3 : decide (x2 < x1) = false := decide_eq_false (by omega)
            clear hc hx HH HE HV CU l1 l3 l4 l5 l7 len_a len_b am bm qa qb
            go_wp2_with fail
            go_quiet (fail)
            go_wp2_with fail
            go_roundw
            case rel => exact ⟨k + 1, by omega, by go_num, Hn _, In _⟩
            case measure => simp [intOf]; omega
        · obtain rfl : k = U.length := by omega
          have hge : ¬ (U.length : Int) < (U.length : Int) := by omega
          clear HV
          go_wp2_with fail
          exact HH.out _ (HE.out _ Hk) Ik
    · have qb : (40 : Int) < (b.length : Int) := by omega
      have qa : ¬ (40 : Int) < (a.length : Int) := by omega
      go_enter Try.func4, Try.ntmps4
      go_wp2_with (go_at_call 9; with_reducible refine works_any H ?_; intro w1 H1 I1)
      exact HH.out _ H1 I1
  · have qa : (40 : Int) < (a.length : Int) := by omega
    go_enter Try.func4, Try.ntmps4
    go_wp2_with (go_at_call 9; with_reducible refine works_any H ?_; intro w1 H1 I1)
    exact HH.out _ H1 I1
end
end Go.Proofs.Ytaekcmpeglagnaa
