/-
  Runs: RunsSets, by its walk. It proves no statement by itself.
-/
import Derived.Test.YtaekcmpeglagnaaRw8
import Derived.Test.YtaekcmpeglagnaaR8c
namespace Go.Proofs.Ytaekcmpeglagnaa
open Go.RowKit Go.Lib
set_option linter.unusedSimpArgs false
set_option linter.unusedVariables false

section
variable {F : Asn} {w : World} {R : Ending → World → Prop}
set_option maxRecDepth 100000 in
set_option maxHeartbeats 8000000 in
theorem runsSets_any {a b : List Rn} {va vb : Value} (n : Int) (ha : ReadsR F va a) (hb : ReadsR F vb b) (H : Sat F w) (h : ∀ w', Sat F w' → Io w w' → R (.returned (.bool true)) w') : Calls Try.prog 7 #[va, vb, .int .i64 n] w R := by
  have HH := Lib.hid h
  clear h
  obtain ⟨aa, ac, rfl, am⟩ := readsR_len ha
  obtain ⟨ba, bc, rfl, bm⟩ := readsR_len hb
  by_cases len_a : a.length ≤ 40
  · by_cases len_b : b.length ≤ 40
    · have qa : ¬ (40 : Int) < (a.length : Int) := by omega
      have qb : ¬ (40 : Int) < (b.length : Int) := by omega
      have l1 := Rs.minus_len a b
      have l2 := Rs.union_len a b
      have l3 := Rs.norm_len a
      have l4 := Rs.norm_len (a ++ b)
      have l5 := Rs.meet_len a b
      have l6 := Rs.minus_len a (Rs.minus a b)
      have l7 := Rs.union_len a [(n, n)]
      have l8 := Rs.norm_len (a ++ [(n, n)])
      have l9 := Rs.minus_len a [(n, n)]
      rw [List.length_append] at l4 l8
      simp only [List.length_cons, List.length_nil, Nat.zero_add] at l7 l8 l9
      go_enter Try.func7, Try.ntmps7
      go_wp2_with (first
        | (go_at_call 9; with_reducible refine works_any H ?_; intro w1 H1 I1)
        | (at_builtin; first
          | (refine wpList_append_recs Try.rowR encR_ok rfl (.tmp 27) (.tmp 28) rfl rfl (row_nilR H1) (by simp) (by omega) rfl ha ?_; intro v2 w2 H2 I2; rw [List.nil_append] at H2; have r2 := Reads.of_row H2 (by omega))
          | (refine wpList_append_recs Try.rowR encR_ok rfl (.tmp 30) (.tmp 31) rfl rfl H2 (by omega) (by first | omega | simp) rfl hb ?_; intro v3 w3 H3 I3; have r3 := Reads.of_row H3 (by simp only [List.length_append, List.length_cons, List.length_nil]; omega))
          | (refine wpList_append_recs Try.rowR encR_ok rfl (.tmp 67) (.tmp 68) rfl rfl (row_nilR B15) (by simp) (by omega) rfl ha.with ?_; intro v16 w16 H16 I16; rw [List.nil_append] at H16; have r16 := Reads.of_row H16 (by omega))
          | (refine wpList_append_recs Try.rowR encR_ok rfl (.tmp 70) (.tmp 71) rfl rfl H16 (by omega) (by first | omega | simp) rfl (reads_one n n) ?_; intro v17 w17 H17 I17; have r17 := Reads.of_row H17 (by simp only [List.length_append, List.length_cons, List.length_nil]; omega)))
        | (go_at_call 19; first
          | (with_reducible refine norm_any ha.with (by omega) H3 ?_; intro v4 w4 H4 I4; have r4 := Reads.of_row H4 (by omega)))
        | (go_at_call 10; first
          | (with_reducible refine rnorm_any ha.with.with (by omega) H4 ?_; intro v5 w5 H5 I5; have r5 := Reads.of_row H5 (by omega))
          | (with_reducible refine rnorm_any r3.with (by simp only [List.length_append]; omega) H7 ?_; intro v8 w8 H8 I8; have r8 := Reads.of_row H8 (by omega))
          | (with_reducible refine rnorm_any r17.with (by simp only [List.length_append, List.length_cons, List.length_nil]; omega) H18 ?_; intro v19 w19 H19 I19; have r19 := Reads.of_row H19 (by omega)))
        | (go_at_call 22; first
          | (with_reducible refine rsamer_any r4.with r5 (d := true) (Lib.hid (decide_eq_true rfl).symm) H5 ?_; intro w6 H6 I6; have G6 := H6.right.right)
          | (with_reducible refine rsamer_any r7.with r8 (d := true) (Lib.hid (decide_eq_true (show Rs.union a b = Rs.norm (a ++ b) from rfl)).symm) H8 ?_; intro w9 H9 I9; have G9 := H9.right.right.right)
          | (with_reducible refine rsamer_any r11 r10.with (d := true) (Lib.hid (decide_eq_true rfl).symm) H11 ?_; intro w12 H12 I12; have G12 := H12.right)
          | (with_reducible refine rsamer_any r13.with r14 (d := true) (Lib.hid (decide_eq_true (Rs.meet_eq a b)).symm) H14 ?_; intro w15 H15 I15; have G15 := H15.right.right.right; have B15 := G15.new (.cells #[.int .i64 n, .int .i64 n] 28); have J15 := (Io.refl w15).alloc (.cells #[.int .i64 n, .int .i64 n] 28))
          | (with_reducible refine rsamer_any r18.with r19 (d := true) (Lib.hid (decide_eq_true (show Rs.union a [(n, n)] = Rs.norm (a ++ [(n, n)]) from rfl)).symm) H19 ?_; intro w20 H20 I20; have G20 := H20.right.right)
          | (with_reducible refine rsamer_any r21.with r22 (d := true) (Lib.hid (decide_eq_true rfl).symm) H22 ?_; intro w23 H23 I23; have G23 := H23.right.right.right.right))
        | (go_at_call 18; first
          | (with_reducible refine union_any ha.with (by omega) hb.with (by omega) G6 ?_; intro v7 w7 H7 I7; have r7 := Reads.of_row H7 (by omega)))
        | (go_at_call 24; first
          | (with_reducible refine rminusr_any ha (by omega) hb (by omega) G9 ?_; intro v10 w10 H10 I10; have r10 := Reads.of_row H10 (by omega))
          | (with_reducible refine rminusr_any ha.with.with (by omega) r10.with (by omega) H13 ?_; intro v14 w14 H14 I14; have r14 := Reads.of_row H14 (by omega))
          | (with_reducible refine rminusr_any ha.with.with.with (by omega) (reads_one n n).with.with (by simp) H21 ?_; intro v22 w22 H22 I22; have r22 := Reads.of_row H22 (by omega)))
        | (go_at_call 20; first
          | (with_reducible refine minusr_any ha.with (by omega) hb.with (by omega) H10 ?_; intro v11 w11 H11 I11; have r11 := Reads.of_row H11 (by omega)))
        | (go_at_call 21; first
          | (with_reducible refine meet_any ha.with (by omega) hb.with (by omega) G12 ?_; intro v13 w13 H13 I13; have r13 := Reads.of_row H13 (by omega)))
        | (go_at_call 25; first
          | (with_reducible refine add_any ha.with.with (by omega) n H17 ?_; intro v18 w18 H18 I18; have r18 := Reads.of_row H18 (by omega)))
        | (go_at_call 23; first
          | (with_reducible refine remove_any ha.with.with (by omega) n G20 ?_; intro v21 w21 H21 I21; have r21 := Reads.of_row H21 (by omega))))
      exact HH.out _ G23 ((((((((((((((((((((((((I1).trans I2).trans I3).trans I4).trans I5).trans I6).trans I7).trans I8).trans I9).trans I10).trans I11).trans I12).trans I13).trans I14).trans I15).trans J15).trans I16).trans I17).trans I18).trans I19).trans I20).trans I21).trans I22).trans I23)
    · have qb : (40 : Int) < (b.length : Int) := by omega
      have qa : ¬ (40 : Int) < (a.length : Int) := by omega
      go_enter Try.func7, Try.ntmps7
      go_wp2_with (go_at_call 9; with_reducible refine works_any H ?_; intro w1 H1 I1)
      exact HH.out _ H1 I1
  · have qa : (40 : Int) < (a.length : Int) := by omega
    go_enter Try.func7, Try.ntmps7
    go_wp2_with (go_at_call 9; with_reducible refine works_any H ?_; intro w1 H1 I1)
    exact HH.out _ H1 I1
end
end Go.Proofs.Ytaekcmpeglagnaa
