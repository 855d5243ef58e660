/-
  Edges: the statements of sorting, by their walks. It proves no statement by itself.
-/
import Derived.Test.YtmacannchaalaaaE3I
import Derived.Test.YtmacannchaalaaaE3J
namespace Go.Proofs.Ytmacannchaalaaa
open Go.RowKit
set_option linter.unusedSimpArgs false
set_option linter.unusedVariables false

section
variable {F : Asn} {w : World} {R : Ending → World → Prop}
set_option maxRecDepth 100000 in
set_option maxHeartbeats 8000000 in
theorem edgeSorts_any {a b : List Pr} {c : List Ch} {va vb vc : Value} (ha : ReadsP F va a) (hb : ReadsP F vb b) (hc : ReadsC F vc c) (H : Sat F w) (h : ∀ w', Sat F w' → Io w w' → R (.returned (.bool true)) w') : Calls Try.prog 8 #[va, vb, vc] w R := by
  have HH := Lib.hid h
  clear h
  obtain ⟨aa, ac, rfl, am⟩ := readsP_len ha
  obtain ⟨ba', bc', rfl, bm⟩ := readsP_len hb
  obtain ⟨ca, cc, rfl, cm⟩ := readsC_len hc
  by_cases ba : a.length ≤ 60
  · by_cases bb : b.length ≤ 60
    · by_cases bc : c.length ≤ 60
      · have qa : ¬ (60 : Int) < (a.length : Int) := by omega
        have qb : ¬ (60 : Int) < (b.length : Int) := by omega
        have qc : ¬ (60 : Int) < (c.length : Int) := by omega
        have l1 := Eg.sort_len a
        have l2 := Eg.minus_le a b
        have l3 := Eg.minus_le b a
        have l4 := Eg.minus_len a b
        have l5 := Eg.fold_one_len c (Eg.sort a)
        have l5' : (Eg.apply a c).length ≤ 120 := by show (c.foldl Eg.one (Eg.sort a)).length ≤ 120; omega
        clear l5
        go_enter Try.func8, Try.ntmps8
        go_wp2_with (first
          | (go_at_call 11; with_reducible refine works_any H ?_; intro w1 H1 I1)
          | (go_at_call 21; with_reducible refine sort_any ha (by omega) H1 ?_; intro v2 w2 H2 I2; have r2 := readsP_row H2 (by omega))
          | (go_at_call 26; with_reducible refine rsort_any ha.with (by omega) H2 ?_; intro v3 w3 H3 I3; have r3 := readsP_row H3 (by omega))
          | (go_at_call 20; first
            | (with_reducible refine rsame_any r2.with r3 (d := true) (Lib.hid (decide_eq_true rfl).symm) H3 ?_; intro w4 H4 I4; have G4 := H4.right.right)
            | (with_reducible refine rsame_any r5.with r6 (d := true) (Lib.hid (decide_eq_true rfl).symm) H6 ?_; intro w7 H7 I7; have G7 := H7.right.right)
            | (with_reducible refine rsame_any r11.with r12 (d := true) (Lib.hid (decide_eq_true rfl).symm) H12 ?_; intro w13 H13 I13))
          | (go_at_call 22; with_reducible refine minus_any ha (by omega) hb (by omega) G4 ?_; intro v5 w5 H5 I5; have r5 := readsP_row H5 (by omega))
          | (go_at_call 27; with_reducible refine rminus_any ha.with (by omega) hb.with H5 ?_; intro v6 w6 H6 I6; have r6 := readsP_row H6 (by omega))
          | (go_at_call 24; with_reducible refine diff_any ha (by omega) hb (by omega) G7 ?_; intro v8 w8 H8 I8; have r8 := Reads.of_row H8 (by omega))
          | (go_at_call 29; with_reducible refine rdiff_any ha.with (by omega) hb.with (by omega) H8 ?_; intro v9 w9 H9 I9; have r9 := Reads.of_row H9 (by omega))
          | (go_at_call 28; with_reducible refine rsamec_any r8.with r9 (d := true) (Lib.hid (decide_eq_true rfl).symm) H9 ?_; intro w10 H10 I10; have G10 := H10.right.right)
          | (go_at_call 25; with_reducible refine apply_any ha (by omega) hc (by omega) G10 ?_; intro v11 w11 H11 I11; have r11 := readsP_row H11 (by omega))
          | (go_at_call 30; with_reducible refine rapply_any ha.with (by omega) hc.with (by omega) H11 ?_; intro v12 w12 H12 I12; have r12 := readsP_row H12 (by omega)))
        exact HH.out _ H13.right.right ((((((((((((I1.trans I2).trans I3).trans I4).trans I5).trans I6).trans I7).trans I8).trans I9).trans I10).trans I11).trans I12).trans I13)
      · have qa : ¬ (60 : Int) < (a.length : Int) := by omega
        have qb : ¬ (60 : Int) < (b.length : Int) := by omega
        have qc : (60 : Int) < (c.length : Int) := by omega
        go_enter Try.func8, Try.ntmps8
        go_wp2_with (go_at_call 11; with_reducible refine works_any H ?_; intro w1 H1 I1)
        exact HH.out _ H1 I1
    · have qa : ¬ (60 : Int) < (a.length : Int) := by omega
      have qb : (60 : Int) < (b.length : Int) := by omega
      go_enter Try.func8, Try.ntmps8
      go_wp2_with (go_at_call 11; with_reducible refine works_any H ?_; intro w1 H1 I1)
      exact HH.out _ H1 I1
  · have qa : (60 : Int) < (a.length : Int) := by omega
    go_enter Try.func8, Try.ntmps8
    go_wp2_with (go_at_call 11; with_reducible refine works_any H ?_; intro w1 H1 I1)
    exact HH.out _ H1 I1
end
end Go.Proofs.Ytmacannchaalaaa
