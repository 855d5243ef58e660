/-
  A catalogue whose tree is done with: what its calls answer, by walks. It proves no statement by itself.
-/
import Derived.Test.YtojiffhknddleaaGreatDoorV46
import Derived.Test.YtojiffhknddleaaGreatDoorV48
namespace Go.Proofs.YtojiffhknddleaaGreatDoor
open Go.RowKit Go.Lib
set_option linter.unusedSimpArgs false
set_option linter.unusedVariables false
set_option linter.unusedSectionVars false
section
variable {a : Nat} {c : Cq} {F : Asn} {w : World} {R : Ending → World → Prop}
end
end Go.Proofs.YtojiffhknddleaaGreatDoor

/-
  catalog: a version read from any entry, by its walk. It proves no statement by itself.
-/
namespace Go.Proofs.YtojiffhknddleaaGreatDoor
open Go.RowKit Go.Lib
set_option linter.unusedSimpArgs false
set_option linter.unusedVariables false
set_option linter.unusedSectionVars false
theorem rd_bad {r : Rd} {n : Int} (h : r.err ≠ 0) : (r.bR n).err ≠ 0 := by
  have e : r.bE n = r.err := by unfold Rd.bE; rw [if_pos h]
  unfold Rd.bR
  rw [e, if_neg h]
  exact h
theorem rd_ok {r : Rd} {n : Nat} (h : (r.bR n).err = 0) : r.err = 0 ∧ (r.bR n).rest.size + n = r.rest.size := by
  by_cases h0 : r.err = 0
  · refine ⟨h0, ?_⟩
    by_cases hb : r.bE n = 0
    · have hs : ¬ (r.rest.size : Int) < (n : Int) := by
        intro hl
        unfold Rd.bE at hb
        rw [if_neg (by simpa using h0), if_neg (by omega), if_pos hl] at hb
        cases hb
      unfold Rd.bR
      rw [if_pos hb]
      simp only [Int.toNat_natCast, ByteArray.size_extract]
      omega
    · unfold Rd.bR at h
      rw [if_neg hb] at h
      exact absurd h hb
  · exact absurd h (rd_bad h0)
theorem rd_len (r : Rd) (n : Int) : (r.bR n).rest.size ≤ r.rest.size := by
  unfold Rd.bR
  split
  · simp only [ByteArray.size_extract]; omega
  · exact Nat.le_refl _
theorem rd_fin {r : Rd} (h : r.fin = 0) : r.err = 0 ∧ r.rest.size = 0 := by
  unfold Rd.fin at h
  by_cases h0 : r.err = 0
  · refine ⟨h0, ?_⟩
    by_cases h1 : r.rest = ByteArray.empty
    · rw [h1]; rfl
    · exfalso; simp_all
  · exfalso; simp_all
section
variable {F : Asn} {w : World} {R : Ending → World → Prop} {p : Nat}
theorem bytes_raw {r : Rd} (hs : Hid (r.rest.size ≤ 1000000)) (H : Sat (IsRd p r * F) w) (h : ∀ s w', Sat (IsRd p (r.bR (1 : Nat)) * F) w' → Io w w' → R (.returned (.string s)) w') :
    Calls Tryz.prog 78 #[.pointer (some ⟨p, 0, none⟩), .int .i64 1] w R := bytes_any H hs.out 1 fun w' H' I => h _ w' H' I
theorem int_raw {r : Rd} (hs : Hid (r.rest.size ≤ 1000000)) (H : Sat (IsRd p r * F) w) (h : ∀ (m : Nat) w', Hid (m = r.num 4) → Sat (IsRd p (r.bR (4 : Nat)) * F) w' → Io w w' → R (.returned (.int .i64 (m : Int))) w') :
    Calls Tryz.prog 64 #[.pointer (some ⟨p, 0, none⟩), .int .i64 4] w R := int_any H hs.out 4 (by omega) fun w' H' I => h _ w' (Lib.hid rfl) H' I
theorem end_raw {r : Rd} {e : Int} (he : Hid (e = r.fin)) (H : Sat (IsRd p r * F) w) (h : ∀ w', Sat (IsRd p r * F) w' → Io w w' → R (.returned (.int .i64 e)) w') :
    Calls Tryz.prog 65 #[.pointer (some ⟨p, 0, none⟩)] w R := by
  obtain rfl := he.out
  exact end_any H h
set_option maxRecDepth 100000 in
set_option maxHeartbeats 8000000 in
/-- A version read from any entry. -/
theorem cver_raw {k x : ByteArray} (ZK : Hid (k.size ≤ 1000)) (ZX : Hid (x.size ≤ 1000)) (H : Sat F w)
    (h : ∀ (v1 v2 v3 v4 e : Int) w', Hid (e = 3 ∨ (e = 0 ∧ k.size = 5 ∧ x.size = 12)) → Sat F w' → Io w w' → R (.returned (.tuple #[.agg #[.int .i64 v1, .int .i64 v2, .int .i64 v3, .int .i64 v4], .int .i64 e])) w') :
    Calls Tryz.prog 54 #[.agg #[.string k, .string x]] w R := by
  have HH := Lib.hid h
  have L0 : Hid ((⟨k, 0⟩ : Rd).rest.size ≤ 1000000) := Lib.hid (by have := ZK.out; simp only; omega)
  have M0 : Hid ((⟨x, 0⟩ : Rd).rest.size ≤ 1000000) := Lib.hid (by have := ZX.out; simp only; omega)
  obtain ⟨r1, hr1⟩ : ∃ r, r = (⟨k, 0⟩ : Rd).bR (1 : Nat) := ⟨_, rfl⟩
  obtain ⟨r2, hr2⟩ : ∃ r, r = r1.bR (4 : Nat) := ⟨_, rfl⟩
  obtain ⟨s1, hs1⟩ : ∃ r, r = (⟨x, 0⟩ : Rd).bR (4 : Nat) := ⟨_, rfl⟩
  obtain ⟨s2, hs2⟩ : ∃ r, r = s1.bR (4 : Nat) := ⟨_, rfl⟩
  obtain ⟨s3, hs3⟩ : ∃ r, r = s2.bR (4 : Nat) := ⟨_, rfl⟩
  have L1 : Hid (r1.rest.size ≤ 1000000) := Lib.hid (by rw [hr1]; exact Nat.le_trans (rd_len _ _) L0.out)
  have M1 : Hid (s1.rest.size ≤ 1000000) := Lib.hid (by rw [hs1]; exact Nat.le_trans (rd_len _ _) M0.out)
  have M2 : Hid (s2.rest.size ≤ 1000000) := Lib.hid (by rw [hs2]; exact Nat.le_trans (rd_len _ _) M1.out)
  obtain ⟨e1, he1⟩ : ∃ e, e = r2.fin := ⟨_, rfl⟩
  obtain ⟨e2, he2⟩ : ∃ e, e = s3.fin := ⟨_, rfl⟩
  have E1 := Lib.hid he1
  have E2 := Lib.hid he2
  have SK : Hid (e1 = 0 → k.size = 5) := Lib.hid (fun h => by
    obtain ⟨a1, a2⟩ := rd_fin (he1 ▸ h)
    rw [hr2] at a1 a2
    obtain ⟨b1, b2⟩ := rd_ok a1
    rw [hr1] at b1
    obtain ⟨c1, c2⟩ := rd_ok b1
    rw [← hr1] at c2
    simp only at c2
    omega)
  have SX : Hid (e2 = 0 → x.size = 12) := Lib.hid (fun h => by
    obtain ⟨a1, a2⟩ := rd_fin (he2 ▸ h)
    rw [hs3] at a1 a2
    obtain ⟨b1, b2⟩ := rd_ok a1
    rw [hs2] at b1
    obtain ⟨c1, c2⟩ := rd_ok b1
    rw [hs1] at c1
    obtain ⟨d1, d2⟩ := rd_ok c1
    rw [← hs1] at d2
    rw [← hs2] at c2
    simp only at d2
    omega)
  have R1 := Lib.hid hr1.symm
  have R2 := Lib.hid hr2.symm
  have T1 := Lib.hid hs1.symm
  have T2 := Lib.hid hs2.symm
  have T3 := Lib.hid hs3.symm
  clear h hr1 hr2 hs1 hs2 hs3 he1 he2
  have H1 := (H.new (.cells #[.string k, .string x] 50)).new (.cells #[.int .i64 0, .int .i64 0, .int .i64 0, .int .i64 0] 30)
  have I1 := ((Io.refl w).alloc (.cells #[.string k, .string x] 50)).alloc (.cells #[.int .i64 0, .int .i64 0, .int .i64 0, .int .i64 0] 30)
  rw [World.size_alloc] at H1
  clear H
  go_enter Tryz.func54, Tryz.ntmps54
  go_upto_region 1 with fail
  generalize (w.alloc (.cells #[.string k, .string x] 50)).alloc (.cells #[.int .i64 0, .int .i64 0, .int .i64 0, .int .i64 0] 30) = w1 at *
  generalize w.heap.size = bx at *
  have H1d := H1.drew
  have I1d := I1.drew
  have S0 := nd2 H1d.right
  clear H1 I1
  go_region_held3 (fun W => W.cell? ⟨bx, 0, none⟩ = some (.string k) ∧ W.cell? ⟨bx, 1, none⟩ = some (.string x)) (with_reducible (first | exact S0 | exact S1 | exact S2)) (first
    | (go_at_call 62; (with_reducible refine read_new H1d k ?_); intro p1 w2 H2 I2; have S1 := nd2 H2.right.right)
    | (go_at_call 62; (with_reducible refine read_new H2 x ?_); intro p2 w3 H3 I3; have S2 := nd2 H3.right.right.right; have K3 := swap3 H3; have J3 := (I1d.trans I2).trans I3)
    | (go_at_call 62; (with_reducible refine read_new H1d x ?_); intro p2 w2 H2b I2; have S1 := nd2 H2b.right.right)
    | (go_at_call 62; (with_reducible refine read_new H2b k ?_); intro p1 w3 H3 I3; have S2 := nd2 H3.right.right.right; have K3 := H3; have J3 := (I1d.trans I2).trans I3))
  all_goals
    have K4 := cv_drop K3
    clear K3 S0 S1 S2
    go_upto_region 4 with (first
      | (go_at_call 78; (with_reducible refine bytes_raw L0 K4 ?_); intro s w4 H4 I4; rw [R1.out] at H4)
      | (go_at_call 64; (with_reducible refine int_raw L1 H4 ?_); intro i w5 hi H5 I5; rw [R2.out] at H5; have H6 := cv_1 (H5.new (.cells #[.int .i64 (i : Int), .int .i64 0, .int .i64 0, .int .i64 0] 30)); have I6 := I5.alloc (.cells #[.int .i64 (i : Int), .int .i64 0, .int .i64 0, .int .i64 0] 30))
      | fail)
    go_upto_region 5 with (first
      | (go_at_call 64; (with_reducible refine int_raw M0 H6 ?_); intro pa w7 hpa H7 I7; rw [T1.out] at H7)
      | (go_at_call 64; (with_reducible refine int_raw M1 H7 ?_); intro ro w8 hro H8 I8; rw [T2.out] at H8)
      | (go_at_call 64; (with_reducible refine int_raw M2 H8 ?_); intro ed w9 hed H9 I9; rw [T3.out] at H9; have K9 := cv_2 H9; have Z := nd4 K9; obtain ⟨a0, a1, a2, a3⟩ := Z; have Y := nd4f K9; obtain ⟨b0, b1, b2, b3⟩ := Y)
      | fail)
    have K10 := ver_set (pa := (pa : Int)) (ro := (ro : Int)) (ed := (ed : Int)) K9
    have J10 := (((((J3.trans I4).trans I6).trans I7).trans I8).trans I9)
    have J10 := ((J10.setCell ⟨w5.heap.size, 1, none⟩ (.int .i64 (pa : Int))).setCell ⟨w5.heap.size, 2, none⟩ (.int .i64 (ro : Int))).setCell ⟨w5.heap.size, 3, none⟩ (.int .i64 (ed : Int))
    clear K4 J3 H4 I4 H5 I5 H6 I6 H7 I7 H8 I8 H9 I9 K9 a0 a1 a2 a3 b0 b1 b2 b3
    generalize ((w9.setCell ⟨w5.heap.size, 1, none⟩ (.int .i64 (pa : Int))).setCell ⟨w5.heap.size, 2, none⟩ (.int .i64 (ro : Int))).setCell ⟨w5.heap.size, 3, none⟩ (.int .i64 (ed : Int)) = w10 at *
    generalize w5.heap.size = bv at *
    have Z := nd4 K10
    obtain ⟨a0, a1, a2, a3⟩ := Z
    obtain ⟨kk, hkk⟩ : ∃ kk, kk = Ca.kk (i : Int) := ⟨_, rfl⟩
    have HKK := Lib.hid hkk
    obtain ⟨d, hd⟩ : ∃ d, d = decide (Ca.okId (i : Int)) := ⟨_, rfl⟩
    have HD := Lib.hid hd
    clear hkk hd hi hpa hro hed
    go_upto_region 6 with (first
      | (go_at_call 36; (with_reducible refine ckey_any (i : Int) HKK HD K10 ?_); intro w11 H11 I11)
      | fail)
    have J11 := J10.trans I11
    clear a0 a1 a2 a3 K10 J10 I11
    have Z := nd4 H11
    obtain ⟨a0, a1, a2, a3⟩ := Z
    have Y := nd4f H11.right.right.right
    obtain ⟨d0, d1, d2, d3⟩ := Y
    have X := nd4 H11.right.right.right
    obtain ⟨x0, x1, x2, x3⟩ := X
    cases d with
    | false =>
      go_upto_region 7 with (first
        | fail)
      have K14 := ver_fill (i := (0)) (pa := (0)) (ro := (0)) (ed := (0)) H11.right.right.right
      have J14 := ((J11).setCell ⟨bx + 1, 0, none⟩ (.int .i64 (0))).setCell ⟨bx + 1, 1, none⟩ (.int .i64 (0))
      have J14 := (J14.setCell ⟨bx + 1, 2, none⟩ (.int .i64 (0))).setCell ⟨bx + 1, 3, none⟩ (.int .i64 (0))
      have FIN := Lib.hid (HH.out (0) (0) (0) (0) 3 _ (Lib.hid (.inl rfl)) K14.right J14)
      have Q := nd4 K14
      obtain ⟨q0, q1, q2, q3⟩ := Q
      go_wp2_with fail
      have hag := Tryz.isAgg30
      have hsz := Tryz.sizeOf30
      exact bodyPost_ret (v := .tuple #[.agg #[.int .i64 (0), .int .i64 (0), .int .i64 (0), .int .i64 (0)], .int .i64 3]) (by simp [results, Tryz.results54, go_sem, q0, q1, q2, q3]) rfl FIN.out
    | true =>
      by_cases h1 : e1 = 0
      · subst h1
        by_cases h2 : e2 = 0
        · subst h2
          by_cases h3 : (1048576 : Int) < (pa : Int)
          · go_upto_region 7 with (first
              | (go_at_call 65; (with_reducible refine end_raw E1 (swap3 H11) ?_); intro w12 H12 I12; have K12 := swap3 H12; have Z := nd4 K12; obtain ⟨b0, b1, b2, b3⟩ := Z; have Y := nd4f K12.right.right.right; obtain ⟨f0, f1, f2, f3⟩ := Y; have X := nd4 K12.right.right.right; obtain ⟨z0, z1, z2, z3⟩ := X)
              | (go_at_call 65; (with_reducible refine end_raw E2 (cv_1 K12) ?_); intro w13 H13 I13; have K13 := cv_2 H13; have Z := nd4 K13; obtain ⟨c0, c1, c2, c3⟩ := Z; have Y := nd4f K13.right.right.right; obtain ⟨g0, g1, g2, g3⟩ := Y; have X := nd4 K13.right.right.right; obtain ⟨u0, u1, u2, u3⟩ := X)
              | fail)
            have K14 := ver_fill (i := (0)) (pa := (0)) (ro := (0)) (ed := (0)) K13.right.right.right
            have J14 := (((J11.trans I12).trans I13).setCell ⟨bx + 1, 0, none⟩ (.int .i64 (0))).setCell ⟨bx + 1, 1, none⟩ (.int .i64 (0))
            have J14 := (J14.setCell ⟨bx + 1, 2, none⟩ (.int .i64 (0))).setCell ⟨bx + 1, 3, none⟩ (.int .i64 (0))
            have FIN := Lib.hid (HH.out (0) (0) (0) (0) 3 _ (Lib.hid (.inl rfl)) K14.right J14)
            have Q := nd4 K14
            obtain ⟨q0, q1, q2, q3⟩ := Q
            go_wp2_with fail
            have hag := Tryz.isAgg30
            have hsz := Tryz.sizeOf30
            exact bodyPost_ret (v := .tuple #[.agg #[.int .i64 (0), .int .i64 (0), .int .i64 (0), .int .i64 (0)], .int .i64 3]) (by simp [results, Tryz.results54, go_sem, q0, q1, q2, q3]) rfl FIN.out
          · go_upto_region 8 with (first
              | (go_at_call 65; (with_reducible refine end_raw E1 (swap3 H11) ?_); intro w12 H12 I12; have K12 := swap3 H12; have Z := nd4 K12; obtain ⟨b0, b1, b2, b3⟩ := Z; have Y := nd4f K12.right.right.right; obtain ⟨f0, f1, f2, f3⟩ := Y; have X := nd4 K12.right.right.right; obtain ⟨z0, z1, z2, z3⟩ := X)
              | (go_at_call 65; (with_reducible refine end_raw E2 (cv_1 K12) ?_); intro w13 H13 I13; have K13 := cv_2 H13; have Z := nd4 K13; obtain ⟨c0, c1, c2, c3⟩ := Z; have Y := nd4f K13.right.right.right; obtain ⟨g0, g1, g2, g3⟩ := Y; have X := nd4 K13.right.right.right; obtain ⟨u0, u1, u2, u3⟩ := X)
              | fail)
            have K14 := ver_fill (i := ((i : Int))) (pa := ((pa : Int))) (ro := ((ro : Int))) (ed := ((ed : Int))) K13.right.right.right
            have J14 := (((J11.trans I12).trans I13).setCell ⟨bx + 1, 0, none⟩ (.int .i64 ((i : Int)))).setCell ⟨bx + 1, 1, none⟩ (.int .i64 ((pa : Int)))
            have J14 := (J14.setCell ⟨bx + 1, 2, none⟩ (.int .i64 ((ro : Int)))).setCell ⟨bx + 1, 3, none⟩ (.int .i64 ((ed : Int)))
            have FIN := Lib.hid (HH.out ((i : Int)) ((pa : Int)) ((ro : Int)) ((ed : Int)) 0 _ (Lib.hid (.inr ⟨rfl, SK.out (by simp), SX.out (by simp)⟩)) K14.right J14)
            have Q := nd4 K14
            obtain ⟨q0, q1, q2, q3⟩ := Q
            go_wp2_with fail
            have hag := Tryz.isAgg30
            have hsz := Tryz.sizeOf30
            exact bodyPost_ret (v := .tuple #[.agg #[.int .i64 ((i : Int)), .int .i64 ((pa : Int)), .int .i64 ((ro : Int)), .int .i64 ((ed : Int))], .int .i64 0]) (by simp [results, Tryz.results54, go_sem, q0, q1, q2, q3]) rfl FIN.out
        · have de : (e2 != 0) = true := by simpa using h2
          have dd : decide (e2 = 0) = false := decide_eq_false h2
          go_upto_region 7 with (first
            | (go_at_call 65; (with_reducible refine end_raw E1 (swap3 H11) ?_); intro w12 H12 I12; have K12 := swap3 H12; have Z := nd4 K12; obtain ⟨b0, b1, b2, b3⟩ := Z; have Y := nd4f K12.right.right.right; obtain ⟨f0, f1, f2, f3⟩ := Y; have X := nd4 K12.right.right.right; obtain ⟨z0, z1, z2, z3⟩ := X)
            | (go_at_call 65; (with_reducible refine end_raw E2 (cv_1 K12) ?_); intro w13 H13 I13; have K13 := cv_2 H13; have Z := nd4 K13; obtain ⟨c0, c1, c2, c3⟩ := Z; have Y := nd4f K13.right.right.right; obtain ⟨g0, g1, g2, g3⟩ := Y; have X := nd4 K13.right.right.right; obtain ⟨u0, u1, u2, u3⟩ := X)
            | fail)
          have K14 := ver_fill (i := (0)) (pa := (0)) (ro := (0)) (ed := (0)) K13.right.right.right
          have J14 := (((J11.trans I12).trans I13).setCell ⟨bx + 1, 0, none⟩ (.int .i64 (0))).setCell ⟨bx + 1, 1, none⟩ (.int .i64 (0))
          have J14 := (J14.setCell ⟨bx + 1, 2, none⟩ (.int .i64 (0))).setCell ⟨bx + 1, 3, none⟩ (.int .i64 (0))
          have FIN := Lib.hid (HH.out (0) (0) (0) (0) 3 _ (Lib.hid (.inl rfl)) K14.right J14)
          have Q := nd4 K14
          obtain ⟨q0, q1, q2, q3⟩ := Q
          go_wp2_with fail
          have hag := Tryz.isAgg30
          have hsz := Tryz.sizeOf30
          exact bodyPost_ret (v := .tuple #[.agg #[.int .i64 (0), .int .i64 (0), .int .i64 (0), .int .i64 (0)], .int .i64 3]) (by simp [results, Tryz.results54, go_sem, q0, q1, q2, q3]) rfl FIN.out
      · have de : (e1 != 0) = true := by simpa using h1
        have dd : decide (e1 = 0) = false := decide_eq_false h1
        go_upto_region 7 with (first
          | (go_at_call 65; (with_reducible refine end_raw E1 (swap3 H11) ?_); intro w12 H12 I12; have K12 := swap3 H12; have Z := nd4 K12; obtain ⟨b0, b1, b2, b3⟩ := Z; have Y := nd4f K12.right.right.right; obtain ⟨f0, f1, f2, f3⟩ := Y; have X := nd4 K12.right.right.right; obtain ⟨z0, z1, z2, z3⟩ := X)
          | fail)
        have K14 := ver_fill (i := (0)) (pa := (0)) (ro := (0)) (ed := (0)) K12.right.right.right
        have J14 := ((J11.trans I12).setCell ⟨bx + 1, 0, none⟩ (.int .i64 (0))).setCell ⟨bx + 1, 1, none⟩ (.int .i64 (0))
        have J14 := (J14.setCell ⟨bx + 1, 2, none⟩ (.int .i64 (0))).setCell ⟨bx + 1, 3, none⟩ (.int .i64 (0))
        have FIN := Lib.hid (HH.out (0) (0) (0) (0) 3 _ (Lib.hid (.inl rfl)) K14.right J14)
        have Q := nd4 K14
        obtain ⟨q0, q1, q2, q3⟩ := Q
        go_wp2_with fail
        have hag := Tryz.isAgg30
        have hsz := Tryz.sizeOf30
        exact bodyPost_ret (v := .tuple #[.agg #[.int .i64 (0), .int .i64 (0), .int .i64 (0), .int .i64 (0)], .int .i64 3]) (by simp [results, Tryz.results54, go_sem, q0, q1, q2, q3]) rfl FIN.out
end
end Go.Proofs.YtojiffhknddleaaGreatDoor

/-
  catalog: a branch read from any entry, by its walk. It proves no statement by itself.
-/
namespace Go.Proofs.YtojiffhknddleaaGreatDoor
open Go.RowKit Go.Lib
set_option linter.unusedSimpArgs false
set_option linter.unusedVariables false
set_option linter.unusedSectionVars false
section
variable {F : Asn} {w : World} {R : Ending → World → Prop} {p : Nat}
theorem ctrim_raw {k : ByteArray} (h : ∀ n : ByteArray, Hid (n.size ≤ k.size) → R (.returned (.string n)) w) : Calls Tryz.prog 63 #[.string k, .string ⟨#[72]⟩] w R := by
  refine (Tryz.strings_TrimPrefix k ⟨#[72]⟩ w).mono fun e w' he => ?_
  obtain ⟨rfl, rfl⟩ := he
  refine h _ (Lib.hid ?_)
  show (Lib.trimPrefix k.data.toList _).length ≤ k.data.toList.length
  unfold Lib.trimPrefix
  split
  · simp
  · exact Nat.le_refl _
set_option maxRecDepth 100000 in
set_option maxHeartbeats 8000000 in
/-- A branch read from any entry. -/
theorem cbr_raw {k x : ByteArray} (ZK : Hid (k.size ≤ 1000)) (ZX : Hid (x.size ≤ 1000)) (H : Sat F w)
    (h : ∀ (n : ByteArray) (hd e : Int) w', Hid (e = 3 ∨ e = 0) → Sat F w' → Io w w' → R (.returned (.tuple #[.agg #[.string n, .int .i64 hd], .int .i64 e])) w') :
    Calls Tryz.prog 41 #[.agg #[.string k, .string x]] w R := by
  have HH := Lib.hid h
  have M0 : Hid ((⟨x, 0⟩ : Rd).rest.size ≤ 1000000) := Lib.hid (by have := ZX.out; simp only; omega)
  obtain ⟨s1, hs1⟩ : ∃ r, r = (⟨x, 0⟩ : Rd).bR (4 : Nat) := ⟨_, rfl⟩
  have T1 := Lib.hid hs1.symm
  obtain ⟨e1, he1⟩ : ∃ e, e = s1.fin := ⟨_, rfl⟩
  have E1 := Lib.hid he1
  have H1 := (H.new (.cells #[.string k, .string x] 50)).new (.cells #[.string ⟨#[]⟩, .int .i64 0] 65)
  have I1 := ((Io.refl w).alloc (.cells #[.string k, .string x] 50)).alloc (.cells #[.string ⟨#[]⟩, .int .i64 0] 65)
  rw [World.size_alloc] at H1
  clear h hs1 he1 H
  go_enter Tryz.func41, Tryz.ntmps41
  go_upto_region 1 with fail
  generalize (w.alloc (.cells #[.string k, .string x] 50)).alloc (.cells #[.string ⟨#[]⟩, .int .i64 0] 65) = w1 at *
  generalize w.heap.size = bx at *
  have Z := nd2 H1.right
  obtain ⟨q0, q1⟩ := Z
  go_upto_region 3 with (first
    | (go_at_call 62; (with_reducible refine read_new H1 x ?_); intro p w2 H2 I2; have H3 := cb_drop H2; have Z := nd2 H2.right.right; obtain ⟨y0, y1⟩ := Z)
    | (go_at_call 63; (with_reducible refine ctrim_raw ?_); intro n hn)
    | (go_at_call 64; (with_reducible refine int_raw M0 H3 ?_); intro hd w4 hhd H4 I4; rw [T1.out] at H4; have H5 := H4.new (.cells #[.string n, .int .i64 (hd : Int)] 65); have I5 := I4.alloc (.cells #[.string n, .int .i64 (hd : Int)] 65))
    | fail)
  generalize w4.alloc (.cells #[.string n, .int .i64 (hd : Int)] 65) = w5 at *
  generalize w4.heap.size = bv at *
  have Z := nd2 H5
  obtain ⟨a0, a1⟩ := Z
  have ZN : Hid (n.size ≤ 9223372036854775807) := Lib.hid (by have := hn.out; have := ZK.out; omega)
  obtain ⟨d, hd'⟩ : ∃ d, d = Md.nameOk n := ⟨_, rfl⟩
  have HD := Lib.hid hd'
  clear hd' hhd
  have J5 := (I1.trans I2).trans I5
  by_cases h1 : e1 = 0
  · subst h1
    cases d with
    | true =>
      go_upto_region 5 with (first
        | (go_at_call 65; (with_reducible refine end_raw E1 (swap3 H5) ?_); intro w6 H6 I6; have K6 := swap3 H6; have Z := nd2 K6; obtain ⟨c0, c1⟩ := Z)
        | (go_at_call 13; (with_reducible refine name_any n ZN.out HD K6 ?_); intro w7 H7 I7; have Z := nd2 H7; obtain ⟨d0, d1⟩ := Z; have Y := nd2f H7.right.right; obtain ⟨f0, f1⟩ := Y; have X := nd2 H7.right.right; obtain ⟨z0, z1⟩ := X)
        | fail)
      have K8 := br_fill (n := n) (hd := (hd : Int)) H7.right.right
      have J8 := (((J5.trans I6).trans I7).setCell ⟨bx + 1, 0, none⟩ (.string n)).setCell ⟨bx + 1, 1, none⟩ (.int .i64 (hd : Int))
      have FIN := Lib.hid (HH.out n (hd : Int) 0 _ (Lib.hid (.inr rfl)) K8.right J8)
      have Q := nd2 K8
      obtain ⟨g0, g1⟩ := Q
      go_wp2_with fail
      exact bodyPost_ret (v := .tuple #[.agg #[.string n, .int .i64 (hd : Int)], .int .i64 0]) (by simp [results, Tryz.results41, go_sem, g0, g1]) rfl FIN.out
    | false =>
      go_upto_region 4 with (first
        | (go_at_call 65; (with_reducible refine end_raw E1 (swap3 H5) ?_); intro w6 H6 I6; have K6 := swap3 H6; have Z := nd2 K6; obtain ⟨c0, c1⟩ := Z)
        | (go_at_call 13; (with_reducible refine name_any n ZN.out HD K6 ?_); intro w7 H7 I7; have Z := nd2 H7; obtain ⟨d0, d1⟩ := Z; have Y := nd2f H7.right.right; obtain ⟨f0, f1⟩ := Y; have X := nd2 H7.right.right; obtain ⟨z0, z1⟩ := X)
        | fail)
      have K8 := br_fill (n := ⟨#[]⟩) (hd := 0) H7.right.right
      have J8 := (((J5.trans I6).trans I7).setCell ⟨bx + 1, 0, none⟩ (.string ⟨#[]⟩)).setCell ⟨bx + 1, 1, none⟩ (.int .i64 0)
      have FIN := Lib.hid (HH.out ⟨#[]⟩ 0 3 _ (Lib.hid (.inl rfl)) K8.right J8)
      have Q := nd2 K8
      obtain ⟨g0, g1⟩ := Q
      go_wp2_with fail
      exact bodyPost_ret (v := .tuple #[.agg #[.string ⟨#[]⟩, .int .i64 0], .int .i64 3]) (by simp [results, Tryz.results41, go_sem, g0, g1]) rfl FIN.out
  · have de : (e1 != 0) = true := by simpa using h1
    have dd : decide (e1 = 0) = false := decide_eq_false h1
    go_upto_region 4 with (first
      | (go_at_call 65; (with_reducible refine end_raw E1 (swap3 H5) ?_); intro w6 H6 I6; have K6 := swap3 H6; have Z := nd2 K6; obtain ⟨c0, c1⟩ := Z; have Y := nd2f K6.right.right; obtain ⟨f0, f1⟩ := Y; have X := nd2 K6.right.right; obtain ⟨z0, z1⟩ := X)
      | fail)
    have K8 := br_fill (n := ⟨#[]⟩) (hd := 0) K6.right.right
    have J8 := ((J5.trans I6).setCell ⟨bx + 1, 0, none⟩ (.string ⟨#[]⟩)).setCell ⟨bx + 1, 1, none⟩ (.int .i64 0)
    have FIN := Lib.hid (HH.out ⟨#[]⟩ 0 3 _ (Lib.hid (.inl rfl)) K8.right J8)
    have Q := nd2 K8
    obtain ⟨g0, g1⟩ := Q
    go_wp2_with fail
    exact bodyPost_ret (v := .tuple #[.agg #[.string ⟨#[]⟩, .int .i64 0], .int .i64 3]) (by simp [results, Tryz.results41, go_sem, g0, g1]) rfl FIN.out
end
end Go.Proofs.YtojiffhknddleaaGreatDoor

/-
  catalog: all over any entries, by walks. It proves no statement by itself.
-/
namespace Go.Proofs.YtojiffhknddleaaGreatDoor
open Go.RowKit Go.Lib
set_option linter.unusedSimpArgs false
set_option linter.unusedVariables false
set_option linter.unusedSectionVars false
section
variable {a : Nat} {c : Cq} {F : Asn} {w : World} {R : Ending → World → Prop} {q g : Nat}
theorem ra_get {ad : Option Addr} {n cc : Nat} {L : List Ky.En} (H : Sat (RowE (.slice ad n cc) L * F) w) (hL : L.length ≤ 1000) (k : Nat) (hk : k < L.length) : ∃ b off key val, ad = some ⟨b, off, none⟩ ∧ L[k] = (key, val) ∧ ∀ W, Sat (RowE (.slice ad n cc) L * F) W →
    W.cell? ⟨b, off + k * 2, none⟩ = some (.string key) ∧ W.cell? ⟨b, off + k * 2 + 1, none⟩ = some (.string val) := by
  obtain ⟨b, off, key, val, e, hx, hc⟩ := readsE_get (Reads.of_row H (by omega)) k hk
  exact ⟨b, off, key, val, e, hx, hc⟩
set_option maxRecDepth 100000 in
set_option maxHeartbeats 8000000 in
theorem allV_raw {es : List Ky.En} (hg : g ≤ 240) (hl : es.length ≤ 100000) (fr ub : ByteArray) (hub : Hid (ub.size ≤ 1000000)) (hL : Hid ((Tb.scan fr ub es).length ≤ 1000)) (hz : Hid (∀ z ∈ Tb.scan fr ub es, z.1.size ≤ 1000 ∧ z.2.size ≤ 1000))
    (H : Sat (TrAt c es q g * F) w)
    (hR : ∀ v e w', Hid ((e = 3 ∧ v = .slice none 0 0) ∨ (e = 0 ∧ (∃ a n c, v = .slice a n c) ∧ ∀ z ∈ Tb.scan fr ub es, z.1.size = 5 ∧ z.2.size = 12)) → Sat (TrAt c es q g * F) w' → Io w w' → R (.returned (.tuple #[v, .int .i64 e])) w') :
    Calls Tryz.prog 53 #[.pointer (some ⟨c.tr, 0, none⟩), .string fr, .string ub, .func (.func 54) #[] #[]] w R := by
  have HH := Lib.hid hR
  have HG := Lib.hid hg
  have HLL := Lib.hid hl
  clear hR hg hl
  go_enter Tryz.func53, Tryz.ntmps53
  go_wp2_with (go_at_call 24; (with_reducible refine ctscan_any fr ub HG.out HLL.out hub.out H ?_); intro v1 w1 H1 I1; obtain ⟨a1, c1, hq⟩ := rowOf_shl H1; subst hq)
  generalize Tb.scan fr ub es = L at *
  have n1 : (L.length : Int) ≤ 1000 := by have := hL.out; omega
  have HE := Lib.hid (fun k hk => ra_get H1 hL.out k hk)
  have K1 := rowOf_nil (enc := encV4) (sz := 4) (e := 30) H1
  clear H H1
  go_loopw [12, 29] (fun y x wr => ∃ (k : Nat) (W : List Md.Ver), k ≤ L.length ∧ x = .int .i64 (k : Int) ∧ Hid (W.length ≤ k ∧ ∀ z ∈ L.take k, z.1.size = 5 ∧ z.2.size = 12) ∧ Sat (RowV y W * (RowE (.slice a1 L.length c1) L * (TrAt c es q g * F))) wr ∧ Io w wr) (fun _ x _ => L.length - (RowKit.intOf x).toNat)
  case atStart => exact ⟨0, [], by omega, rfl, Lib.hid (by simp), K1, I1⟩
  case round =>
    obtain ⟨k, W, hk, rfl, hW, Hk, Ik⟩ := hrel
    clear K1 I1
    by_cases hlt : k < L.length
    · have hlti : (k : Int) < (L.length : Int) := by omega
      have hk0 : (0 : Int) ≤ (k : Int) := by omega
      obtain ⟨b, off, kk, xx, rfl, hx, hc⟩ := HE.out k hlt
      obtain ⟨g0, g1⟩ := hc _ Hk.right
      have hsz := hz.out _ (List.getElem_mem hlt)
      rw [hx] at hsz
      have ZK : Hid (kk.size ≤ 1000) := Lib.hid hsz.1
      have ZX : Hid (xx.size ≤ 1000) := Lib.hid hsz.2
      have HS : Hid (L.take (k + 1) = L.take k ++ [(kk, xx)]) := Lib.hid (by rw [List.take_succ_eq_append_getElem hlt, hx])
      have HLN : Hid (W.length ≤ 1000000) := Lib.hid (by have := hW.out.1; have := hL.out; omega)
      clear hc hsz hx
      have H2 := Hk.new (.cells #[.string kk, .string xx] 50)
      have I2 := Ik.alloc (.cells #[.string kk, .string xx] 50)
      go_upto_region 8 with fail
      generalize wr.alloc (.cells #[.string kk, .string xx] 50) = w2 at *
      generalize wr.heap.size = bx at *
      have Z := nd2 H2
      obtain ⟨q0, q1⟩ := Z
      go_upto_region 9 with (go_at_call 54; (refine cver_raw ZK ZX H2.right ?_); intro v1 v2 v3 v4 e w3 he H3 I3; have H4 := H3.new (.cells #[.int .i64 v1, .int .i64 v2, .int .i64 v3, .int .i64 v4] 30); have I4 := I3.alloc (.cells #[.int .i64 v1, .int .i64 v2, .int .i64 v3, .int .i64 v4] 30))
      generalize w3.alloc (.cells #[.int .i64 v1, .int .i64 v2, .int .i64 v3, .int .i64 v4] 30) = w4 at *
      generalize w3.heap.size = by' at *
      have Z := nd4 H4
      obtain ⟨z0, z1, z2, z3⟩ := Z
      by_cases h0 : e = 0
      · subst h0
        go_wp2_with (at_builtin; refine wpList_append_rec Tryz.rowV encV4_ok rfl (.tmp 42) (.tmp 44) rfl rfl H4.right HLN.out ⟨v1, v2, v3, v4⟩ rfl rfl ?_; intro v5 w5 H5 I5)
        go_roundw
        case rel => exact ⟨k + 1, W ++ [⟨v1, v2, v3, v4⟩], by omega, by go_num, Lib.hid ⟨by have := hW.out.1; simp; omega, by rw [HS.out]; intro z hz'; rcases List.mem_append.1 hz' with h | h; exact hW.out.2 z h; simp only [List.mem_singleton] at h; subst h; have h9 := he.out; simp at h9; exact h9⟩, H5, (I2.trans I4).trans I5⟩
        case measure => simp [RowKit.intOf]; omega
      · obtain rfl : e = 3 := by have := he.out; omega
        have FIN := Lib.hid (HH.out (.slice none 0 0) 3 _ (Lib.hid (.inl ⟨rfl, rfl⟩)) H4.right.right.right (I2.trans I4))
        go_wp2_with fail
        exact FIN.out
    · obtain rfl : k = L.length := by omega
      have hge : ¬ (L.length : Int) < (L.length : Int) := by omega
      obtain ⟨ay, cy, rfl⟩ := rowOf_shl Hk
      have FIN := Lib.hid (HH.out (.slice ay W.length cy) 0 wr (Lib.hid (.inr ⟨rfl, ⟨_, _, _, rfl⟩, by have := hW.out.2; rw [List.take_length] at this; exact this⟩)) Hk.right.right Ik)
      clear HE HH
      go_wp2_with fail
      exact FIN.out
set_option maxRecDepth 100000 in
set_option maxHeartbeats 8000000 in
theorem allB_raw {es : List Ky.En} (hg : g ≤ 240) (hl : es.length ≤ 100000) (fr ub : ByteArray) (hub : Hid (ub.size ≤ 1000000)) (hL : Hid ((Tb.scan fr ub es).length ≤ 1000)) (hz : Hid (∀ z ∈ Tb.scan fr ub es, z.1.size ≤ 1000 ∧ z.2.size ≤ 1000))
    (H : Sat (TrAt c es q g * F) w)
    (hR : ∀ v e w', Hid ((e = 3 ∧ v = .slice none 0 0) ∨ (e = 0 ∧ (∃ a n c, v = .slice a n c))) → Sat (TrAt c es q g * F) w' → Io w w' → R (.returned (.tuple #[v, .int .i64 e])) w') :
    Calls Tryz.prog 40 #[.pointer (some ⟨c.tr, 0, none⟩), .string fr, .string ub, .func (.func 41) #[] #[]] w R := by
  have HH := Lib.hid hR
  have HG := Lib.hid hg
  have HLL := Lib.hid hl
  clear hR hg hl
  go_enter Tryz.func40, Tryz.ntmps40
  go_wp2_with (go_at_call 24; (with_reducible refine ctscan_any fr ub HG.out HLL.out hub.out H ?_); intro v1 w1 H1 I1; obtain ⟨a1, c1, hq⟩ := rowOf_shl H1; subst hq)
  generalize Tb.scan fr ub es = L at *
  have n1 : (L.length : Int) ≤ 1000 := by have := hL.out; omega
  have HE := Lib.hid (fun k hk => ra_get H1 hL.out k hk)
  have K1 := rowOf_nil (enc := encBr) (sz := 2) (e := 65) H1
  clear H H1
  go_loopw [12, 29] (fun y x wr => ∃ (k : Nat) (W : List Md.Br), k ≤ L.length ∧ x = .int .i64 (k : Int) ∧ Hid (W.length ≤ k) ∧ Sat (RowB y W * (RowE (.slice a1 L.length c1) L * (TrAt c es q g * F))) wr ∧ Io w wr) (fun _ x _ => L.length - (RowKit.intOf x).toNat)
  case atStart => exact ⟨0, [], by omega, rfl, Lib.hid (by simp), K1, I1⟩
  case round =>
    obtain ⟨k, W, hk, rfl, hW, Hk, Ik⟩ := hrel
    clear K1 I1
    by_cases hlt : k < L.length
    · have hlti : (k : Int) < (L.length : Int) := by omega
      have hk0 : (0 : Int) ≤ (k : Int) := by omega
      obtain ⟨b, off, kk, xx, rfl, hx, hc⟩ := HE.out k hlt
      obtain ⟨g0, g1⟩ := hc _ Hk.right
      have hsz := hz.out _ (List.getElem_mem hlt)
      rw [hx] at hsz
      have ZK : Hid (kk.size ≤ 1000) := Lib.hid hsz.1
      have ZX : Hid (xx.size ≤ 1000) := Lib.hid hsz.2
      have HS : Hid (L.take (k + 1) = L.take k ++ [(kk, xx)]) := Lib.hid (by rw [List.take_succ_eq_append_getElem hlt, hx])
      have HLN : Hid (W.length ≤ 1000000) := Lib.hid (by have := hW.out; have := hL.out; omega)
      clear hc hsz hx
      have H2 := Hk.new (.cells #[.string kk, .string xx] 50)
      have I2 := Ik.alloc (.cells #[.string kk, .string xx] 50)
      go_upto_region 8 with fail
      generalize wr.alloc (.cells #[.string kk, .string xx] 50) = w2 at *
      generalize wr.heap.size = bx at *
      have Z := nd2 H2
      obtain ⟨q0, q1⟩ := Z
      go_upto_region 9 with (go_at_call 41; (refine cbr_raw ZK ZX H2.right ?_); intro nm hd e w3 he H3 I3; have H4 := H3.new (.cells #[.string nm, .int .i64 hd] 65); have I4 := I3.alloc (.cells #[.string nm, .int .i64 hd] 65))
      generalize w3.alloc (.cells #[.string nm, .int .i64 hd] 65) = w4 at *
      generalize w3.heap.size = by' at *
      have Z := nd2 H4
      obtain ⟨z0, z1⟩ := Z
      by_cases h0 : e = 0
      · subst h0
        go_wp2_with (at_builtin; refine wpList_append_rec Tryz.rowB encBr_ok rfl (.tmp 42) (.tmp 44) rfl rfl H4.right HLN.out ⟨nm, hd⟩ rfl rfl ?_; intro v5 w5 H5 I5)
        go_roundw
        case rel => exact ⟨k + 1, W ++ [⟨nm, hd⟩], by omega, by go_num, Lib.hid (by have := hW.out; simp; omega), H5, (I2.trans I4).trans I5⟩
        case measure => simp [RowKit.intOf]; omega
      · obtain rfl : e = 3 := by have := he.out; omega
        have FIN := Lib.hid (HH.out (.slice none 0 0) 3 _ (Lib.hid (.inl ⟨rfl, rfl⟩)) H4.right.right.right (I2.trans I4))
        go_wp2_with fail
        exact FIN.out
    · obtain rfl : k = L.length := by omega
      have hge : ¬ (L.length : Int) < (L.length : Int) := by omega
      obtain ⟨ay, cy, rfl⟩ := rowOf_shl Hk
      have FIN := Lib.hid (HH.out (.slice ay W.length cy) 0 wr (Lib.hid (.inr ⟨rfl, _, _, _, rfl⟩)) Hk.right.right Ik)
      clear HE HH
      go_wp2_with fail
      exact FIN.out
end
end Go.Proofs.YtojiffhknddleaaGreatDoor

/-
  catalog: Version over any entries, by its walk. It proves no statement by itself.
-/
namespace Go.Proofs.YtojiffhknddleaaGreatDoor
open Go.RowKit Go.Lib
set_option linter.unusedSimpArgs false
set_option linter.unusedVariables false
set_option linter.unusedSectionVars false
section
variable {a : Nat} {c : Cq} {F : Asn} {w : World} {R : Ending → World → Prop} {q g : Nat}
set_option maxRecDepth 100000 in
set_option maxHeartbeats 8000000 in
theorem cversion_raw {es : List Ky.En} (id : Int) (hg : g ≤ 240) (hkk : Hid ((Ca.kk id).size ≤ 1000)) (hz : Hid (∀ k val, Ky.get es k = some val → val.size ≤ 1000))
    (H : Sat (TrAt c es q g * (pts a (.cells #[.pointer (some ⟨c.tr, 0, none⟩)] 82 (0, 0)) * F)) w)
    (hR : ∀ (v1 v2 v3 v4 e : Int) w', Hid (e = 0 ∨ e = 190 ∨ e = 3) → Sat (TrAt c es q g * (pts a (.cells #[.pointer (some ⟨c.tr, 0, none⟩)] 82 (0, 0)) * F)) w' → Io w w' → R (.returned (.tuple #[.agg #[.int .i64 v1, .int .i64 v2, .int .i64 v3, .int .i64 v4], .int .i64 e])) w') :
    Calls Tryz.prog 26 #[.pointer (some ⟨a, 0, none⟩), .int .i64 id] w R := by
  have HH := Lib.hid hR
  obtain ⟨k, hk⟩ : ∃ k, k = Ca.kk id := ⟨_, rfl⟩
  have HK := Lib.hid hk
  have ZK : Hid (k.size ≤ 1000) := Lib.hid (by rw [hk]; exact hkk.out)
  have HG := Lib.hid hg
  have H1 := H.new (.cells #[.int .i64 0, .int .i64 0, .int .i64 0, .int .i64 0] 30)
  have I1 := (Io.refl w).alloc (.cells #[.int .i64 0, .int .i64 0, .int .i64 0, .int .i64 0] 30)
  obtain ⟨d, hd⟩ : ∃ d, d = decide (Ca.okId id) := ⟨_, rfl⟩
  have HD := Lib.hid hd
  clear hR hg hd hk
  go_enter Tryz.func26, Tryz.ntmps26
  go_upto_region 1 with fail
  generalize w.alloc (.cells #[.int .i64 0, .int .i64 0, .int .i64 0, .int .i64 0] 30) = w1 at *
  generalize w.heap.size = br at *
  cases d with
  | true =>
    cases hgt : Ky.get es k with
    | none =>
      have HGT := Lib.hid hgt
      go_wp2_with (first
        | (go_at_call 36; (with_reducible refine ckey_any id HK HD H1 ?_); intro w2 H2 I2)
        | (go_at_call 55; (with_reducible refine cget_none 190 HG.out HGT (cg_1 H2) ?_); intro w3 H3 I3; have H4 := H3.new (.cells #[.string k, .string ⟨#[]⟩] 50); have I4 := I3.alloc (.cells #[.string k, .string ⟨#[]⟩] 50); have K5 := cg_2 H4; have Z := nd4 K5; obtain ⟨c0, c1, c2, c3⟩ := Z; have Y := nd4f K5; obtain ⟨d0, d1, d2, d3⟩ := Y; have K6 := ver_fill (i := 0) (pa := 0) (ro := 0) (ed := 0) K5; have X := nd4 K6; obtain ⟨f0, f1, f2, f3⟩ := X)
        | fail)
      have J6 := (((I1.trans I2).trans I4).setCell ⟨br, 0, none⟩ (.int .i64 0)).setCell ⟨br, 1, none⟩ (.int .i64 0)
      have J6 := (J6.setCell ⟨br, 2, none⟩ (.int .i64 0)).setCell ⟨br, 3, none⟩ (.int .i64 0)
      have FIN := Lib.hid (HH.out 0 0 0 0 190 _ (Lib.hid (.inr (.inl rfl))) K6.right J6)
      exact bodyPost_ret (v := .tuple #[.agg #[.int .i64 0, .int .i64 0, .int .i64 0, .int .i64 0], .int .i64 190]) (by simp [results, Tryz.results26, go_sem, f0, f1, f2, f3]) rfl FIN.out
    | some x =>
      have HGT := Lib.hid hgt
      have ZX : Hid (x.size ≤ 1000) := Lib.hid (hz.out _ _ hgt)
      go_upto_region 9 with (first
        | (go_at_call 36; (with_reducible refine ckey_any id HK HD H1 ?_); intro w2 H2 I2)
        | (go_at_call 55; (with_reducible refine cget_yes 190 HG.out HGT (cg_1 H2) ?_); intro w3 H3 I3; have H4 := H3.new (.cells #[.string k, .string x] 50); have I4 := I3.alloc (.cells #[.string k, .string x] 50))
        | fail)
      generalize w3.alloc (.cells #[.string k, .string x] 50) = w4 at *
      generalize w3.heap.size = bx at *
      have Z := nd2 H4
      obtain ⟨q0, q1⟩ := Z
      go_wp2_with (first
        | (go_at_call 54; (with_reducible refine cver_raw ZK ZX H4 ?_); intro i pa ro ed e w5 he H5 I5; have K5 := cg_2 H5; have Z := nd4 K5; obtain ⟨c0, c1, c2, c3⟩ := Z; have Y := nd4f K5; obtain ⟨d0, d1, d2, d3⟩ := Y; have K6 := ver_fill (i := i) (pa := pa) (ro := ro) (ed := ed) K5; have X := nd4 K6; obtain ⟨f0, f1, f2, f3⟩ := X)
        | fail)
      have J6 := ((((I1.trans I2).trans I4).trans I5).setCell ⟨br, 0, none⟩ (.int .i64 i)).setCell ⟨br, 1, none⟩ (.int .i64 pa)
      have J6 := (J6.setCell ⟨br, 2, none⟩ (.int .i64 ro)).setCell ⟨br, 3, none⟩ (.int .i64 ed)
      have FIN := Lib.hid (HH.out i pa ro ed e _ (Lib.hid (by have := he.out; omega)) K6.right J6)
      exact bodyPost_ret (v := .tuple #[.agg #[.int .i64 i, .int .i64 pa, .int .i64 ro, .int .i64 ed], .int .i64 e]) (by simp [results, Tryz.results26, go_sem, f0, f1, f2, f3]) rfl FIN.out
  | false =>
    cases hgt : Ky.get es (⟨#[86]⟩ : ByteArray) with
    | none =>
      have HGT := Lib.hid hgt
      go_wp2_with (first
        | (go_at_call 36; (with_reducible refine ckey_any id HK HD H1 ?_); intro w2 H2 I2)
        | (go_at_call 55; (with_reducible refine cget_none 190 HG.out HGT (cg_1 H2) ?_); intro w3 H3 I3; have H4 := H3.new (.cells #[.string ⟨#[86]⟩, .string ⟨#[]⟩] 50); have I4 := I3.alloc (.cells #[.string ⟨#[86]⟩, .string ⟨#[]⟩] 50); have K5 := cg_2 H4; have Z := nd4 K5; obtain ⟨c0, c1, c2, c3⟩ := Z; have Y := nd4f K5; obtain ⟨d0, d1, d2, d3⟩ := Y; have K6 := ver_fill (i := 0) (pa := 0) (ro := 0) (ed := 0) K5; have X := nd4 K6; obtain ⟨f0, f1, f2, f3⟩ := X)
        | fail)
      have J6 := (((I1.trans I2).trans I4).setCell ⟨br, 0, none⟩ (.int .i64 0)).setCell ⟨br, 1, none⟩ (.int .i64 0)
      have J6 := (J6.setCell ⟨br, 2, none⟩ (.int .i64 0)).setCell ⟨br, 3, none⟩ (.int .i64 0)
      have FIN := Lib.hid (HH.out 0 0 0 0 190 _ (Lib.hid (.inr (.inl rfl))) K6.right J6)
      exact bodyPost_ret (v := .tuple #[.agg #[.int .i64 0, .int .i64 0, .int .i64 0, .int .i64 0], .int .i64 190]) (by simp [results, Tryz.results26, go_sem, f0, f1, f2, f3]) rfl FIN.out
    | some x =>
      have HGT := Lib.hid hgt
      go_wp2_with (first
        | (go_at_call 36; (with_reducible refine ckey_any id HK HD H1 ?_); intro w2 H2 I2)
        | (go_at_call 55; (with_reducible refine cget_yes 190 HG.out HGT (cg_1 H2) ?_); intro w3 H3 I3; have H4 := H3.new (.cells #[.string ⟨#[86]⟩, .string x] 50); have I4 := I3.alloc (.cells #[.string ⟨#[86]⟩, .string x] 50); have K5 := cg_2 H4; have Z := nd4 K5; obtain ⟨c0, c1, c2, c3⟩ := Z; have Y := nd4f K5; obtain ⟨d0, d1, d2, d3⟩ := Y; have K6 := ver_fill (i := 0) (pa := 0) (ro := 0) (ed := 0) K5; have X := nd4 K6; obtain ⟨f0, f1, f2, f3⟩ := X)
        | fail)
      have J6 := (((I1.trans I2).trans I4).setCell ⟨br, 0, none⟩ (.int .i64 0)).setCell ⟨br, 1, none⟩ (.int .i64 0)
      have J6 := (J6.setCell ⟨br, 2, none⟩ (.int .i64 0)).setCell ⟨br, 3, none⟩ (.int .i64 0)
      have FIN := Lib.hid (HH.out 0 0 0 0 190 _ (Lib.hid (.inr (.inl rfl))) K6.right J6)
      exact bodyPost_ret (v := .tuple #[.agg #[.int .i64 0, .int .i64 0, .int .i64 0, .int .i64 0], .int .i64 190]) (by simp [results, Tryz.results26, go_sem, f0, f1, f2, f3]) rfl FIN.out
end
end Go.Proofs.YtojiffhknddleaaGreatDoor

/-
  catalog: Version, Head over any entries, by walks. It proves no statement by itself.
-/
namespace Go.Proofs.YtojiffhknddleaaGreatDoor
open Go.RowKit Go.Lib
set_option linter.unusedSimpArgs false
set_option linter.unusedVariables false
set_option linter.unusedSectionVars false
section
variable {a : Nat} {c : Cq} {F : Asn} {w : World} {R : Ending → World → Prop} {q g : Nat}
set_option maxRecDepth 100000 in
set_option maxHeartbeats 8000000 in
theorem chd_raw {es : List Ky.En} (n : Ky.Nm) (ZN : Hid (n.size ≤ 900)) (hg : g ≤ 240) (hz : Hid (∀ k val, Ky.get es k = some val → val.size ≤ 1000))
    (H : Sat (TrAt c es q g * (pts a (.cells #[.pointer (some ⟨c.tr, 0, none⟩)] 82 (0, 0)) * F)) w)
    (hR : ∀ (hd e : Int) w', Hid (e = 0 ∨ e = 191 ∨ e = 3) → Sat (TrAt c es q g * (pts a (.cells #[.pointer (some ⟨c.tr, 0, none⟩)] 82 (0, 0)) * F)) w' → Io w w' → R (.returned (.tuple #[.int .i64 hd, .int .i64 e])) w') :
    Calls Tryz.prog 27 #[.pointer (some ⟨a, 0, none⟩), .string n] w R := by
  have HH := Lib.hid hR
  have HG := Lib.hid hg
  obtain ⟨d, hd⟩ : ∃ d, d = Md.nameOk n := ⟨_, rfl⟩
  have HD := Lib.hid hd
  have ZM : Hid (n.size ≤ 9223372036854775807) := Lib.hid (by have := ZN.out; omega)
  have n12 : (n.size : Int) ≤ 1000 := by have := ZN.out; omega
  have ZK : Hid (((⟨#[72]⟩ : ByteArray) ++ n).size ≤ 1000) := Lib.hid (by rw [ByteArray.size_append]; have h : (⟨#[72]⟩ : ByteArray).size = 1 := rfl; have := ZN.out; omega)
  clear hR hg
  go_enter Tryz.func27, Tryz.ntmps27
  cases d with
  | true =>
    cases hgt : Ky.get es ((⟨#[72]⟩ : ByteArray) ++ n) with
    | none =>
      have HGT := Lib.hid hgt
      clear hd
      go_wp2_with (first
        | (go_at_call 13; (with_reducible refine name_any n ZM.out HD H ?_); intro w1 H1 I1)
        | (go_at_call 55; (with_reducible refine cget_none 191 HG.out HGT H1 ?_); intro w3 H3 I3; have H4 := H3.new (.cells #[.string ((⟨#[72]⟩ : ByteArray) ++ n), .string ⟨#[]⟩] 50); have I4 := I3.alloc (.cells #[.string ((⟨#[72]⟩ : ByteArray) ++ n), .string ⟨#[]⟩] 50))
        | fail)
      have FIN := Lib.hid (HH.out 0 191 _ (Lib.hid (.inr (.inl rfl))) H4.right (I1.trans I4))
      exact FIN.out
    | some x =>
      have HGT := Lib.hid hgt
      have ZX : Hid (x.size ≤ 1000) := Lib.hid (hz.out _ _ hgt)
      clear hd
      go_upto_region 9 with (first
        | (go_at_call 13; (with_reducible refine name_any n ZM.out HD H ?_); intro w1 H1 I1)
        | (go_at_call 55; (with_reducible refine cget_yes 191 HG.out HGT H1 ?_); intro w3 H3 I3; have H4 := H3.new (.cells #[.string ((⟨#[72]⟩ : ByteArray) ++ n), .string x] 50); have I4 := I3.alloc (.cells #[.string ((⟨#[72]⟩ : ByteArray) ++ n), .string x] 50))
        | (go_at_call 13; (with_reducible refine name_any n ZM.out HD H4 ?_); intro w5 H5 I5; have Z := nd2 H5; obtain ⟨q0, q1⟩ := Z)
        | fail)
      go_wp2_with (first
        | (go_at_call 41; (with_reducible refine cbr_raw ZK ZX H5 ?_); intro nm hd e w6 he H6 I6; have H7 := H6.new (.cells #[.string nm, .int .i64 hd] 65); have I7 := I6.alloc (.cells #[.string nm, .int .i64 hd] 65); have Z := nd2 H7; obtain ⟨c0, c1⟩ := Z)
        | fail)
      have FIN := Lib.hid (HH.out hd e _ (Lib.hid (by have := he.out; omega)) H7.right.right (((I1.trans I4).trans I5).trans I7))
      exact FIN.out
  | false =>
    cases hgt : Ky.get es (⟨#[72]⟩ : ByteArray) with
    | none =>
      have HGT := Lib.hid hgt
      clear hd
      go_wp2_with (first
        | (go_at_call 13; (with_reducible refine name_any n ZM.out HD H ?_); intro w1 H1 I1)
        | (go_at_call 55; (with_reducible refine cget_none 191 HG.out HGT H1 ?_); intro w3 H3 I3; have H4 := H3.new (.cells #[.string ⟨#[72]⟩, .string ⟨#[]⟩] 50); have I4 := I3.alloc (.cells #[.string ⟨#[72]⟩, .string ⟨#[]⟩] 50))
        | fail)
      have FIN := Lib.hid (HH.out 0 191 _ (Lib.hid (.inr (.inl rfl))) H4.right (I1.trans I4))
      exact FIN.out
    | some x =>
      have HGT := Lib.hid hgt
      clear hd
      go_wp2_with (first
        | (go_at_call 13; (with_reducible refine name_any n ZM.out HD H ?_); intro w1 H1 I1)
        | (go_at_call 55; (with_reducible refine cget_yes 191 HG.out HGT H1 ?_); intro w3 H3 I3; have H4 := H3.new (.cells #[.string ⟨#[72]⟩, .string x] 50); have I4 := I3.alloc (.cells #[.string ⟨#[72]⟩, .string x] 50))
        | (go_at_call 13; (with_reducible refine name_any n ZM.out HD H4 ?_); intro w5 H5 I5)
        | fail)
      have FIN := Lib.hid (HH.out 0 191 _ (Lib.hid (.inr (.inl rfl))) H5.right ((I1.trans I4).trans I5))
      exact FIN.out
end
end Go.Proofs.YtojiffhknddleaaGreatDoor

/-
  catalog: Versions, Branches over any entries, by walks. It proves no statement by itself.
-/
namespace Go.Proofs.YtojiffhknddleaaGreatDoor
open Go.RowKit Go.Lib
set_option linter.unusedSimpArgs false
set_option linter.unusedVariables false
set_option linter.unusedSectionVars false
section
variable {a : Nat} {c : Cq} {F : Asn} {w : World} {R : Ending → World → Prop} {q g : Nat}
set_option maxRecDepth 100000 in
set_option maxHeartbeats 4000000 in
theorem versions_raw {es : List Ky.En} (hg : g ≤ 240) (hl : es.length ≤ 100000) (hL : Hid ((Tb.scan Ca.pV Ca.pW es).length ≤ 1000)) (hz : Hid (∀ z ∈ Tb.scan Ca.pV Ca.pW es, z.1.size ≤ 1000 ∧ z.2.size ≤ 1000))
    (H : Sat (TrAt c es q g * (pts a (.cells #[.pointer (some ⟨c.tr, 0, none⟩)] 82 (0, 0)) * F)) w)
    (hR : ∀ v e w', Hid ((e = 3 ∧ v = .slice none 0 0) ∨ (e = 0 ∧ (∃ a n c, v = .slice a n c) ∧ ∀ z ∈ Tb.scan Ca.pV Ca.pW es, z.1.size = 5 ∧ z.2.size = 12)) → Sat (TrAt c es q g * (pts a (.cells #[.pointer (some ⟨c.tr, 0, none⟩)] 82 (0, 0)) * F)) w' → Io w w' → R (.returned (.tuple #[v, .int .i64 e])) w') :
    Calls Tryz.prog 25 #[.pointer (some ⟨a, 0, none⟩)] w R := by
  have HH := Lib.hid hR
  have S0 := (nd1 H.right).1
  have HG := Lib.hid hg
  have HLL := Lib.hid hl
  have HU : Hid (Ca.pW.size ≤ 1000000) := Lib.hid (by decide)
  clear hR hg hl
  go_enter Tryz.func25, Tryz.ntmps25
  go_wp2_with (go_at_call 53; (refine allV_raw HG.out HLL.out Ca.pV Ca.pW HU hL hz H ?_); intro v1 e1 w1 he H1 I1)
  first | exact HH.out _ _ _ he H1 I1 | exact bodyPost_ret (v := .tuple #[v1, .int .i64 e1]) (by simp [results, Tryz.results25, go_sem]) rfl (HH.out _ _ _ he H1 I1)
set_option maxRecDepth 100000 in
set_option maxHeartbeats 4000000 in
theorem branches_raw {es : List Ky.En} (hg : g ≤ 240) (hl : es.length ≤ 100000) (hL : Hid ((Tb.scan Ca.pH Ca.pI es).length ≤ 1000)) (hz : Hid (∀ z ∈ Tb.scan Ca.pH Ca.pI es, z.1.size ≤ 1000 ∧ z.2.size ≤ 1000))
    (H : Sat (TrAt c es q g * (pts a (.cells #[.pointer (some ⟨c.tr, 0, none⟩)] 82 (0, 0)) * F)) w)
    (hR : ∀ v e w', Hid ((e = 3 ∧ v = .slice none 0 0) ∨ (e = 0 ∧ (∃ a n c, v = .slice a n c))) → Sat (TrAt c es q g * (pts a (.cells #[.pointer (some ⟨c.tr, 0, none⟩)] 82 (0, 0)) * F)) w' → Io w w' → R (.returned (.tuple #[v, .int .i64 e])) w') :
    Calls Tryz.prog 12 #[.pointer (some ⟨a, 0, none⟩)] w R := by
  have HH := Lib.hid hR
  have S0 := (nd1 H.right).1
  have HG := Lib.hid hg
  have HLL := Lib.hid hl
  have HU : Hid (Ca.pI.size ≤ 1000000) := Lib.hid (by decide)
  clear hR hg hl
  go_enter Tryz.func12, Tryz.ntmps12
  go_wp2_with (go_at_call 40; (refine allB_raw HG.out HLL.out Ca.pH Ca.pI HU hL hz H ?_); intro v1 e1 w1 he H1 I1)
  first | exact HH.out _ _ _ he H1 I1 | exact bodyPost_ret (v := .tuple #[v1, .int .i64 e1]) (by simp [results, Tryz.results12, go_sem]) rfl (HH.out _ _ _ he H1 I1)
end
end Go.Proofs.YtojiffhknddleaaGreatDoor

/-
  ref11's May over any value; an entry that may be; by walks. It proves no statement by itself.
-/
namespace Go.Proofs.YtojiffhknddleaaGreatDoor
open Go.RowKit Go.Lib
set_option linter.unusedSimpArgs false
set_option linter.unusedVariables false
set_option linter.unusedSectionVars false
section
variable {F : Asn} {w : World} {R : Ending → World → Prop}
set_option maxRecDepth 100000 in
set_option maxHeartbeats 2000000 in
theorem rmay_raw (key val : ByteArray) (hk : Hid (key.size ≤ 60)) (hv : Hid (val.size ≤ 60)) {d : Bool} (hd : Hid (d = decide (Ky.chk key val = 0))) (h : R (.returned (.bool d)) w) :
    Calls Tryz.prog 22 #[.string key, .string val] w R := by
  have HH := Lib.hid h
  have k2 : (key.size : Int) ≤ 60 := by have := hk.out; omega
  have h2 : (val.size : Int) ≤ 60 := by have := hv.out; omega
  have hx := hd.out
  unfold Ky.chk at hx
  clear h
  go_enter Tryz.func22, Tryz.ntmps22
  by_cases h1 : 1 ≤ (key.size : Int)
  · by_cases h3 : (key.size : Int) ≤ 16
    · by_cases h4 : (val.size : Int) ≤ 40
      · obtain rfl : d = true := by rw [hx, decide_eq_true_eq, if_neg (by omega)]
        clear hx
        go_wp2_with fail
        exact HH.out
      · obtain rfl : d = false := by rw [hx, decide_eq_false_iff_not, if_pos (by omega)]; omega
        clear hx
        go_wp2_with fail
        exact HH.out
    · obtain rfl : d = false := by rw [hx, decide_eq_false_iff_not, if_pos (by omega)]; omega
      clear hx
      go_wp2_with fail
      exact HH.out
  · obtain rfl : d = false := by rw [hx, decide_eq_false_iff_not, if_pos (by omega)]; omega
    clear hx
    go_wp2_with fail
    exact HH.out
/-- A raw entry put in the tree. -/
theorem kr_put {c : Cq} {es : List Ky.En} {q g : Nat} {key val : ByteArray} (hc : Hid (Ky.chk key val = 0)) (ho : Hid (Ky.one (key, val) ≤ 58)) (hk : c.k.n ≤ 3000) (hg : g ≤ 240) (hq : 60 ≤ q) (hroom : Hid (30 + (Tb.most q g : Int) < c.k.room)) (H : Sat (TrAt c es q g * F) w)
    (hR : ∀ w', Sat (TrAt c (Ky.put es key val) (q + 58) (g + 1) * F) w' → Io w w' → R (.returned (.int .i64 0)) w') :
    Calls Tryz.prog 23 #[.pointer (some ⟨c.tr, 0, none⟩), .string key, .string val] w R := by
  have hl := Tb.loc_put hc.out
  refine ctput_any hk hg hq hc.out hl trivial H fun x w' D I => ?_
  rcases D with ⟨rfl, H'⟩ | ⟨_, h1, _⟩
  · exact hR w' (TrAt.mono (by have := ho.out; omega) (by omega) H') I
  · have := hroom.out; omega
end
end Go.Proofs.YtojiffhknddleaaGreatDoor
