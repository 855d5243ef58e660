/-
  Edges: the statements of leading there and back, by their walks. It proves no statement by itself.
-/
import Derived.Test.YtmacannchaalaaaE3I
import Derived.Test.YtmacannchaalaaaE3J
namespace Go.Proofs.Ytmacannchaalaaa
open Go.RowKit
set_option linter.unusedSimpArgs false
set_option linter.unusedVariables false

section
variable {F : Asn} {w : World} {R : Ending → World → Prop}
set_option maxRecDepth 100000 in
set_option maxHeartbeats 8000000 in
theorem edgeBack_any {a b : List Pr} {va vb : Value} (ha : ReadsP F va a) (hb : ReadsP F vb b) (H : Sat F w) (h : ∀ w', Sat F w' → Io w w' → R (.returned (.bool true)) w') : Calls Try.prog 9 #[va, vb] w R := by
  have HH := Lib.hid h
  clear h
  obtain ⟨aa, ac, rfl, am⟩ := readsP_len ha
  obtain ⟨ba', bc', rfl, bm⟩ := readsP_len hb
  by_cases ba : a.length ≤ 60
  · by_cases bb : b.length ≤ 60
    · have qa : ¬ (60 : Int) < (a.length : Int) := by omega
      have qb : ¬ (60 : Int) < (b.length : Int) := by omega
      have l1 := Eg.sort_len a
      have l1' := Eg.sort_len b
      have l2 := Eg.minus_le a b
      have l3 := Eg.minus_le b a
      have l4 := Eg.minus_len a b
      have l4' := Eg.minus_len b a
      have e1 := Eg.diff_there a b
      have e2 := Eg.diff_there b a
      have e3 := Eg.diff_none a
      have E1 := Lib.hid e1
      have E2 := Lib.hid e2
      have E3 := Lib.hid e3
      clear e1 e2 e3
      go_enter Try.func9, Try.ntmps9
      go_wp2_with (first
        | (go_at_call 11; with_reducible refine works_any H ?_; intro w1 H1 I1)
        | (go_at_call 24; first
          | (with_reducible refine diff_any ha (by omega) ha (by omega) G9 ?_; intro v10 w10 H10 I10; rw [E3.out] at H10; obtain ⟨a10, c10, rfl, -⟩ := readsC_len (Reads.of_row H10 (by decide)); have G10 := H10.right)
          | (with_reducible refine diff_any ha (by omega) hb (by omega) H1 ?_; intro v2 w2 H2 I2; have r2 := Reads.of_row H2 (by omega))
          | (with_reducible refine diff_any hb (by omega) ha (by omega) G5 ?_; intro v6 w6 H6 I6; have r6 := Reads.of_row H6 (by omega))
          | (with_reducible refine diff_any ha (by omega) hb (by omega) G10 ?_; intro v11 w11 H11 I11; obtain ⟨a11, c11, rfl, -⟩ := readsC_len (Reads.of_row H11 (by omega)); have G11 := H11.right))
        | (go_at_call 25; first
          | (with_reducible refine apply_any ha.with (by omega) r2 (by omega) H2 ?_; intro v3 w3 H3 I3; rw [E1.out] at H3; have r3 := readsP_row H3 (by omega))
          | (with_reducible refine apply_any hb.with (by omega) r6 (by omega) H6 ?_; intro v7 w7 H7 I7; rw [E2.out] at H7; have r7 := readsP_row H7 (by omega)))
        | (go_at_call 21; first
          | (with_reducible refine sort_any hb.with.with (by omega) H3 ?_; intro v4 w4 H4 I4; have r4 := readsP_row H4 (by omega))
          | (with_reducible refine sort_any ha.with.with (by omega) H7 ?_; intro v8 w8 H8 I8; have r8 := readsP_row H8 (by omega)))
        | (go_at_call 20; first
          | (with_reducible refine rsame_any r3.with r4 (d := true) (Lib.hid (decide_eq_true rfl).symm) H4 ?_; intro w5 H5 I5; have G5 := H5.right.right.right)
          | (with_reducible refine rsame_any r7.with r8 (d := true) (Lib.hid (decide_eq_true rfl).symm) H8 ?_; intro w9 H9 I9; have G9 := H9.right.right.right))
        | (go_at_call 22; first
          | (with_reducible refine minus_any ha (by omega) hb (by omega) G11 ?_; intro v12 w12 H12 I12; obtain ⟨a12, c12, rfl, -⟩ := readsP_len (readsP_row H12 (by omega)); have G12 := H12.right)
          | (with_reducible refine minus_any hb (by omega) ha (by omega) G12 ?_; intro v13 w13 H13 I13; obtain ⟨a13, c13, rfl, -⟩ := readsP_len (readsP_row H13 (by omega)); have G13 := H13.right; have z1 : ((Eg.minus a b).length : Int) ≤ 60 := (by omega); have z2 : ((Eg.minus b a).length : Int) ≤ 60 := (by omega); have z3 : ((Eg.diff a b).length : Int) = ((Eg.minus a b).length : Int) + ((Eg.minus b a).length : Int) := (by omega))))
      exact HH.out _ G13 ((((((((((((I1.trans I2).trans I3).trans I4).trans I5).trans I6).trans I7).trans I8).trans I9).trans I10).trans I11).trans I12).trans I13)
    · have qa : ¬ (60 : Int) < (a.length : Int) := by omega
      have qb : (60 : Int) < (b.length : Int) := by omega
      go_enter Try.func9, Try.ntmps9
      go_wp2_with (go_at_call 11; with_reducible refine works_any H ?_; intro w1 H1 I1)
      exact HH.out _ H1 I1
  · have qa : (60 : Int) < (a.length : Int) := by omega
    go_enter Try.func9, Try.ntmps9
    go_wp2_with (go_at_call 11; with_reducible refine works_any H ?_; intro w1 H1 I1)
    exact HH.out _ H1 I1
end
end Go.Proofs.Ytmacannchaalaaa
