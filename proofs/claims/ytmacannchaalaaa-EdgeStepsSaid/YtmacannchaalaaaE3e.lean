/-
  Edges: the statements of steps, by their walks. It proves no statement by itself.
-/
import Derived.Test.YtmacannchaalaaaE3I
import Derived.Test.YtmacannchaalaaaE3J
namespace Go.Proofs.Ytmacannchaalaaa
open Go.RowKit
set_option linter.unusedSimpArgs false
set_option linter.unusedVariables false

section
variable {F : Asn} {w : World} {R : Ending → World → Prop}
set_option maxRecDepth 100000 in
set_option maxHeartbeats 8000000 in
theorem edgeSteps_any {a b c : List Pr} {va vb vc : Value} (ha : ReadsP F va a) (hb : ReadsP F vb b) (hc : ReadsP F vc c) (H : Sat F w) (h : ∀ w', Sat F w' → Io w w' → R (.returned (.bool true)) w') : Calls Try.prog 7 #[va, vb, vc] w R := by
  have HH := Lib.hid h
  clear h
  obtain ⟨aa, ac, rfl, am⟩ := readsP_len ha
  obtain ⟨ba', bc', rfl, bm⟩ := readsP_len hb
  obtain ⟨ca, cc, rfl, cm⟩ := readsP_len hc
  by_cases ba : a.length ≤ 60
  · by_cases bb : b.length ≤ 60
    · by_cases bc : c.length ≤ 60
      · have qa : ¬ (60 : Int) < (a.length : Int) := by omega
        have qb : ¬ (60 : Int) < (b.length : Int) := by omega
        have qc : ¬ (60 : Int) < (c.length : Int) := by omega
        have l1 := Eg.sort_len c
        have l2 := Eg.minus_le a b
        have l3 := Eg.minus_le b a
        have l4 := Eg.minus_len a b
        have l2' := Eg.minus_le b c
        have l3' := Eg.minus_le c b
        have l4' := Eg.minus_len b c
        have l2'' := Eg.minus_le a c
        have l3'' := Eg.minus_le c a
        have l4'' := Eg.minus_len a c
        have E1 := Lib.hid (Eg.diff_steps a b c)
        have E2 := Lib.hid (Eg.diff_there a c)
        go_enter Try.func7, Try.ntmps7
        go_wp2_with (first
          | (go_at_call 11; with_reducible refine works_any H ?_; intro w1 H1 I1)
          | (go_at_call 24; first
            | (with_reducible refine diff_any ha (by omega) hb (by omega) H1 ?_; intro v2 w2 H2 I2; have r2 := Reads.of_row H2 (by omega))
            | (with_reducible refine diff_any hb.with.with (by omega) hc.with.with (by omega) H3 ?_; intro v4 w4 H4 I4; have r4 := Reads.of_row H4 (by omega); have H4' := H4.of_eq (show _ = RowC v3 (Eg.diff a b) * (RowC v4 (Eg.diff b c) * (RowC v2 (Eg.diff a b) * F)) from by unfold RowC; ac_rfl))
            | (with_reducible refine diff_any ha (by omega) hc (by omega) G8 ?_; intro v9 w9 H9 I9; have r9 := Reads.of_row H9 (by omega)))
          | (at_builtin; first
            | (refine wpList_append_recs Try.rowC encC_ok rfl (.tmp 28) (.tmp 31) rfl rfl (rowOf_nil H2) (by simp) (by omega) rfl r2 ?_; intro v3 w3 H3 I3; rw [List.nil_append] at H3)
            | (refine wpList_append_recs Try.rowC encC_ok rfl (.tmp 33) (.tmp 36) rfl rfl H4' (by omega) (by omega) rfl (Reads.of_row H4'.right (by omega)) ?_; intro v5 w5 H5 I5; have r5 := Reads.of_row H5 (by rw [List.length_append]; omega)))
          | (go_at_call 25; first
            | (with_reducible refine apply_any ha.with.with.with (by omega) r5 (by rw [List.length_append]; omega) H5 ?_; intro v6 w6 H6 I6; rw [E1.out] at H6; have r6 := readsP_row H6 (by omega))
            | (with_reducible refine apply_any ha.with (by omega) r9 (by omega) H9 ?_; intro v10 w10 H10 I10; rw [E2.out] at H10; have r10 := readsP_row H10 (by omega)))
          | (go_at_call 21; first
            | (with_reducible refine sort_any hc.with.with.with.with (by omega) H6 ?_; intro v7 w7 H7 I7; have r7 := readsP_row H7 (by omega))
            | (with_reducible refine sort_any hc.with.with (by omega) H10 ?_; intro v11 w11 H11 I11; have r11 := readsP_row H11 (by omega)))
          | (go_at_call 20; first
            | (with_reducible refine rsame_any r6.with r7 (d := true) (Lib.hid (decide_eq_true rfl).symm) H7 ?_; intro w8 H8 I8; have G8 := H8.right.right.right.right.right)
            | (with_reducible refine rsame_any r10.with r11 (d := true) (Lib.hid (decide_eq_true rfl).symm) H11 ?_; intro w12 H12 I12)))
        exact HH.out _ H12.right.right.right (((((((((((I1.trans I2).trans I3).trans I4).trans I5).trans I6).trans I7).trans I8).trans I9).trans I10).trans I11).trans I12)
      · have qa : ¬ (60 : Int) < (a.length : Int) := by omega
        have qb : ¬ (60 : Int) < (b.length : Int) := by omega
        have qc : (60 : Int) < (c.length : Int) := by omega
        go_enter Try.func7, Try.ntmps7
        go_wp2_with (go_at_call 11; with_reducible refine works_any H ?_; intro w1 H1 I1)
        exact HH.out _ H1 I1
    · have qa : ¬ (60 : Int) < (a.length : Int) := by omega
      have qb : (60 : Int) < (b.length : Int) := by omega
      go_enter Try.func7, Try.ntmps7
      go_wp2_with (go_at_call 11; with_reducible refine works_any H ?_; intro w1 H1 I1)
      exact HH.out _ H1 I1
  · have qa : (60 : Int) < (a.length : Int) := by omega
    go_enter Try.func7, Try.ntmps7
    go_wp2_with (go_at_call 11; with_reducible refine works_any H ?_; intro w1 H1 I1)
    exact HH.out _ H1 I1
end
end Go.Proofs.Ytmacannchaalaaa
