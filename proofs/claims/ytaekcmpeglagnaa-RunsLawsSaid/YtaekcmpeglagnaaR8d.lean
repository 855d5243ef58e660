/-
  Runs: RunsLaws, by its walk. It proves no statement by itself.
-/
import Derived.Test.YtaekcmpeglagnaaRw8
import Derived.Test.YtaekcmpeglagnaaR8c
namespace Go.Proofs.Ytaekcmpeglagnaa
open Go.RowKit Go.Lib
set_option linter.unusedSimpArgs false
set_option linter.unusedVariables false

section
variable {F : Asn} {w : World} {R : Ending → World → Prop}
set_option maxRecDepth 100000 in
set_option maxHeartbeats 8000000 in
theorem runsLaws_any {a b c : List Rn} {va vb vc : Value} (ha : ReadsR F va a) (hb : ReadsR F vb b) (hc : ReadsR F vc c) (H : Sat F w) (h : ∀ w', Sat F w' → Io w w' → R (.returned (.bool true)) w') : Calls Try.prog 5 #[va, vb, vc] w R := by
  have HH := Lib.hid h
  clear h
  obtain ⟨aa, ac, rfl, am⟩ := readsR_len ha
  obtain ⟨ba, bc, rfl, bm⟩ := readsR_len hb
  obtain ⟨ca, cc, rfl, cm⟩ := readsR_len hc
  by_cases len_a : a.length ≤ 40
  · by_cases len_b : b.length ≤ 40
    · by_cases len_c : c.length ≤ 40
      · have qa : ¬ (40 : Int) < (a.length : Int) := by omega
        have qb : ¬ (40 : Int) < (b.length : Int) := by omega
        have qc : ¬ (40 : Int) < (c.length : Int) := by omega
        have l1 := Rs.minus_len a b
        have l2 := Rs.minus_len (Rs.minus a b) c
        have l3 := Rs.union_len b c
        have l4 := Rs.minus_len a (Rs.union b c)
        have l5 := Rs.meet_len a b
        have l6 := Rs.minus_len a (Rs.minus a b)
        have l7 := Rs.union_len a (Rs.union b c)
        have l8 := Rs.union_len a b
        have l9 := Rs.union_len (Rs.union a b) c
        have m1 := Rs.meet_len a (Rs.union b c)
        have m2 := Rs.meet_len a c
        have m3 := Rs.union_len (Rs.meet a b) (Rs.meet a c)
        go_enter Try.func5, Try.ntmps5
        go_wp2_with (first
          | (go_at_call 9; with_reducible refine works_any H ?_; intro w1 H1 I1)
          | (go_at_call 20; first
            | (with_reducible refine minusr_any ha (by omega) hb (by omega) H1 ?_; intro v2 w2 H2 I2; have r2 := Reads.of_row H2 (by omega))
            | (with_reducible refine minusr_any r2 (by omega) hc.with (by omega) H2 ?_; intro v3 w3 H3 I3; have r3 := Reads.of_row H3 (by omega))
            | (with_reducible refine minusr_any ha.with.with.with (by omega) r4 (by omega) H4 ?_; intro v5 w5 H5 I5; have r5 := Reads.of_row H5 (by omega))
            | (with_reducible refine minusr_any ha.with (by omega) hb.with (by omega) H7 ?_; intro v8 w8 H8 I8; have r8 := Reads.of_row H8 (by omega))
            | (with_reducible refine minusr_any ha.with.with (by omega) r8 (by omega) H8 ?_; intro v9 w9 H9 I9; have r9 := Reads.of_row H9 (by omega)))
          | (go_at_call 18; first
            | (with_reducible refine union_any hb.with.with (by omega) hc.with.with (by omega) H3 ?_; intro v4 w4 H4 I4; have r4 := Reads.of_row H4 (by omega))
            | (with_reducible refine union_any hb (by omega) hc (by omega) G10 ?_; intro v11 w11 H11 I11; have r11 := Reads.of_row H11 (by omega))
            | (with_reducible refine union_any ha.with (by omega) r11 (by omega) H11 ?_; intro v12 w12 H12 I12; have r12 := Reads.of_row H12 (by omega))
            | (with_reducible refine union_any ha.with.with (by omega) hb.with.with (by omega) H12 ?_; intro v13 w13 H13 I13; have r13 := Reads.of_row H13 (by omega))
            | (with_reducible refine union_any r13 (by omega) hc.with.with.with (by omega) H13 ?_; intro v14 w14 H14 I14; have r14 := Reads.of_row H14 (by omega))
            | (with_reducible refine union_any hb (by omega) hc (by omega) G15 ?_; intro v16 w16 H16 I16; have r16 := Reads.of_row H16 (by omega))
            | (with_reducible refine union_any r18.with (by omega) r19 (by omega) H19 ?_; intro v20 w20 H20 I20; have r20 := Reads.of_row H20 (by omega)))
          | (go_at_call 22; first
            | (with_reducible refine rsamer_any r3.with.with r5 (d := true) (Lib.hid (decide_eq_true (Rs.law_one a b c)).symm) H5 ?_; intro w6 H6 I6; have G6 := H6.right.right.right.right)
            | (with_reducible refine rsamer_any r7.with.with r9 (d := true) (Lib.hid (decide_eq_true (Rs.meet_eq a b)).symm) H9 ?_; intro w10 H10 I10; have G10 := H10.right.right.right)
            | (with_reducible refine rsamer_any r12.with.with r14 (d := true) (Lib.hid (decide_eq_true (Rs.law_three a b c)).symm) H14 ?_; intro w15 H15 I15; have G15 := H15.right.right.right.right)
            | (with_reducible refine rsamer_any r17.with.with.with r20 (d := true) (Lib.hid (decide_eq_true (Rs.law_four a b c)).symm) H20 ?_; intro w21 H21 I21; have G21 := H21.right.right.right.right.right))
          | (go_at_call 21; first
            | (with_reducible refine meet_any ha (by omega) hb (by omega) G6 ?_; intro v7 w7 H7 I7; have r7 := Reads.of_row H7 (by omega))
            | (with_reducible refine meet_any ha.with (by omega) r16 (by omega) H16 ?_; intro v17 w17 H17 I17; have r17 := Reads.of_row H17 (by omega))
            | (with_reducible refine meet_any ha.with.with (by omega) hb.with.with (by omega) H17 ?_; intro v18 w18 H18 I18; have r18 := Reads.of_row H18 (by omega))
            | (with_reducible refine meet_any ha.with.with.with (by omega) hc.with.with.with (by omega) H18 ?_; intro v19 w19 H19 I19; have r19 := Reads.of_row H19 (by omega))))
        exact HH.out _ G21 (((((((((((((((((((((I1).trans I2).trans I3).trans I4).trans I5).trans I6).trans I7).trans I8).trans I9).trans I10).trans I11).trans I12).trans I13).trans I14).trans I15).trans I16).trans I17).trans I18).trans I19).trans I20).trans I21)
      · have qc : (40 : Int) < (c.length : Int) := by omega
        have qa : ¬ (40 : Int) < (a.length : Int) := by omega
        have qb : ¬ (40 : Int) < (b.length : Int) := by omega
        go_enter Try.func5, Try.ntmps5
        go_wp2_with (go_at_call 9; with_reducible refine works_any H ?_; intro w1 H1 I1)
        exact HH.out _ H1 I1
    · have qb : (40 : Int) < (b.length : Int) := by omega
      have qa : ¬ (40 : Int) < (a.length : Int) := by omega
      go_enter Try.func5, Try.ntmps5
      go_wp2_with (go_at_call 9; with_reducible refine works_any H ?_; intro w1 H1 I1)
      exact HH.out _ H1 I1
  · have qa : (40 : Int) < (a.length : Int) := by omega
    go_enter Try.func5, Try.ntmps5
    go_wp2_with (go_at_call 9; with_reducible refine works_any H ?_; intro w1 H1 I1)
    exact HH.out _ H1 I1
end
end Go.Proofs.Ytaekcmpeglagnaa
