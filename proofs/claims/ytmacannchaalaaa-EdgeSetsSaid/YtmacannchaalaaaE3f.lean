/-
  Edges: the statements of sets, by their walks. It proves no statement by itself.
-/
import Derived.Test.YtmacannchaalaaaE3I
import Derived.Test.YtmacannchaalaaaE3J
namespace Go.Proofs.Ytmacannchaalaaa
open Go.RowKit
set_option linter.unusedSimpArgs false
set_option linter.unusedVariables false

section
variable {F : Asn} {w : World} {R : Ending → World → Prop}
set_option maxRecDepth 100000 in
set_option maxHeartbeats 8000000 in
theorem edgeSets_any {a b : List Pr} {va vb : Value} (p : Pr) (ha : ReadsP F va a) (hb : ReadsP F vb b) (H : Sat F w) (h : ∀ w', Sat F w' → Io w w' → R (.returned (.bool true)) w') : Calls Try.prog 6 #[va, vb, .agg #[.int .i64 p.1, .int .i64 p.2]] w R := by
  have HH := Lib.hid h
  clear h
  obtain ⟨aa, ac, rfl, am⟩ := readsP_len ha
  obtain ⟨ba', bc', rfl, bm⟩ := readsP_len hb
  by_cases ba : a.length ≤ 60
  · by_cases bb : b.length ≤ 60
    · have qa : ¬ (60 : Int) < (a.length : Int) := by omega
      have qb : ¬ (60 : Int) < (b.length : Int) := by omega
      have l1 := Eg.sort_len (a ++ b)
      have l2 := Eg.sort_len (b ++ a ++ a)
      have l3 := Eg.minus_le a b
      have l4 := Eg.sort_len a
      have l5 := Eg.sort_len (Eg.sort a)
      have E1 := Lib.hid (Eg.sort_both (a := a ++ b) (b := b ++ a ++ a) (fun x => by by_cases h1 : x ∈ a <;> by_cases h2 : x ∈ b <;> simp [h1, h2]))
      have E2 := Lib.hid (Eg.sort_same (Eg.srt_sort a))
      rw [List.length_append] at l1
      rw [List.length_append, List.length_append] at l2
      obtain ⟨dx, hdx⟩ : ∃ d, Hid (d = decide (p ∈ a)) := ⟨_, Lib.hid rfl⟩
      obtain ⟨dy, hdy⟩ : ∃ d, Hid (d = decide (p ∈ b)) := ⟨_, Lib.hid rfl⟩
      have hdm : Hid ((dx && !dy) = decide (p ∈ Eg.minus a b)) := Lib.hid (by rw [hdx.out, hdy.out, Bool.eq_iff_iff]; simp [Eg.mem_minus])
      have hds : Hid (dx = decide (p ∈ Eg.sort a)) := Lib.hid (by rw [hdx.out, decide_eq_decide, Eg.mem_sort])
      obtain ⟨p1, p2⟩ := p
      have HB := H.new (.cells #[.int .i64 p1, .int .i64 p2] 25)
      have IB := (Io.refl w).alloc (.cells #[.int .i64 p1, .int .i64 p2] 25)
      go_enter Try.func6, Try.ntmps6
      go_wp2_with fail
      generalize w.alloc (.cells #[.int .i64 p1, .int .i64 p2] 25) = w0 at *
      generalize w.heap.size = bp at *
      refine works_any HB ?_
      intro w1 H1 I1
      go_wp2_with (first
        | (at_builtin; first
          | (refine wpList_append_pairs rfl (.tmp 29) (.tmp 30) rfl rfl (row_nilP H1) (by simp) (by omega) rfl ha.with ?_; intro v2 w2 H2 I2; rw [List.nil_append] at H2)
          | (refine wpList_append_pairs rfl (.tmp 32) (.tmp 33) rfl rfl H2 (by omega) (by omega) rfl hb.with ?_; intro v3 w3 H3 I3; have r3 := readsP_row H3 (by rw [List.length_append]; omega))
          | (refine wpList_append_pairs rfl (.tmp 35) (.tmp 36) rfl rfl (row_nilP H3) (by simp) (by omega) rfl hb.with.with ?_; intro v4 w4 H4 I4; rw [List.nil_append] at H4)
          | (refine wpList_append_pairs rfl (.tmp 38) (.tmp 39) rfl rfl H4 (by omega) (by omega) rfl ha.with.with ?_; intro v5 w5 H5 I5)
          | (refine wpList_append_pairs rfl (.tmp 41) (.tmp 42) rfl rfl H5 (by rw [List.length_append]; omega) (by omega) rfl ha.with.with ?_; intro v6 w6 H6 I6; have r6 := readsP_row H6 (by rw [List.length_append, List.length_append]; omega)))
        | (go_at_call 21; first
          | (with_reducible refine sort_any r3.with (by rw [List.length_append]; omega) H6 ?_; intro v7 w7 H7 I7; have r7 := readsP_row H7 (by omega))
          | (with_reducible refine sort_any r6.with (by rw [List.length_append, List.length_append]; omega) H7 ?_; intro v8 w8 H8 I8; have r8 := readsP_row H8 (by omega))
          | (with_reducible refine sort_any ha.with.with (by omega) J13 ?_; intro v14 w14 H14 I14; have r14 := readsP_row H14 (by omega))
          | (with_reducible refine sort_any r14 (by omega) H14 ?_; intro v15 w15 H15 I15; have r15 := readsP_row H15 (by omega)))
        | (go_at_call 20; first
          | (with_reducible refine rsame_any r7.with r8 (d := true) (Lib.hid (decide_eq_true E1.out).symm) H8 ?_; intro w9 H9 I9; have G9 := H9.right.right.right.right)
          | (with_reducible refine rsame_any r15 r14.with (d := true) (Lib.hid (decide_eq_true E2.out).symm) H15 ?_; intro w16 H16 I16; obtain ⟨y0, y1⟩ := box_cells H16.right.right.right))
        | (go_at_call 22; with_reducible refine minus_any ha.with (by omega) hb.with (by omega) G9 ?_; intro v10 w10 H10 I10; have r10 := readsP_row H10 (by omega); obtain ⟨x0, x1⟩ := box_cells H10.right)
        | (go_at_call 23; first
          | (with_reducible refine rhas_d (p := (p1, p2)) r10 hdm H10 ?_; intro w11 H11 I11; obtain ⟨s0, s1⟩ := box_cells H11.right)
          | (with_reducible refine rhas_d (p := (p1, p2)) ha.with.with hdx H11 ?_; intro w12 H12 I12; obtain ⟨t0, t1⟩ := box_cells H12.right)
          | (with_reducible refine rhas_d (p := (p1, p2)) hb.with.with hdy H12 ?_; intro w13 J13 I13)
          | (with_reducible refine rhas_d (p := (p1, p2)) r14.with hds H16 ?_; intro w17 H17 I17)))
      all_goals exact HH.out _ H17.right.right.right.right ((((((((((((((((IB.trans I1).trans I2).trans I3).trans I4).trans I5).trans I6).trans I7).trans I8).trans I9).trans I10).trans I11).trans I12).trans I13).trans I14).trans I15).trans (I16.trans I17))
    · have qa : ¬ (60 : Int) < (a.length : Int) := by omega
      have qb : (60 : Int) < (b.length : Int) := by omega
      go_enter Try.func6, Try.ntmps6
      go_wp2_with (go_at_call 11; with_reducible refine works_any (H.alloc (.cells #[.int .i64 p.1, .int .i64 p.2] 25)) ?_; intro w1 H1 I1)
      exact HH.out _ H1 (((Io.refl w).alloc _).trans I1)
  · have qa : (60 : Int) < (a.length : Int) := by omega
    go_enter Try.func6, Try.ntmps6
    go_wp2_with (go_at_call 11; with_reducible refine works_any (H.alloc (.cells #[.int .i64 p.1, .int .i64 p.2] 25)) ?_; intro w1 H1 I1)
    exact HH.out _ H1 (((Io.refl w).alloc _).trans I1)
end
end Go.Proofs.Ytmacannchaalaaa
