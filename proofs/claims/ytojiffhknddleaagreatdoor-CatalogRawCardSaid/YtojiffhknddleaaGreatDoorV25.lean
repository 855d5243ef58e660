/-
  node.Swap, by a walk: regions whose order is drawn. It proves no statement by itself.
-/
import Derived.Test.YtojiffhknddleaaGreatDoorV24
namespace Go.Proofs.YtojiffhknddleaaGreatDoor
open Go.RowKit Go.Lib
set_option linter.unusedSimpArgs false
set_option linter.unusedVariables false
set_option linter.unusedSectionVars false
section
variable {F : Asn} {w : World} {R : Ending → World → Prop}
set_option maxRecDepth 100000 in
set_option maxHeartbeats 40000000 in
theorem swap_v2 {K k' : List Int} {B y' : List Ky.Nm} {f t : Nat} {v kv yv : Value} (hlen : K.length = B.length + 1) (hl : K.length ≤ 4000) (hft : f < t) (htl : t ≤ K.length) (hk : ReadsNu F kv k') (hy : ReadsTx F yv y') (hky : k'.length = 0 ∧ 0 < f ∧ y'.length = 0) (hkl : k'.length ≤ 1000) (hyl : y'.length ≤ 1000) (hv : NdV F v (Ky.inn K B)) (H : Sat F w)
    (h : ∀ G v' w', NdV G v' (Ky.inn (K.take f ++ k' ++ K.drop t) (B.take (f - 1) ++ y' ++ B.drop (t - 1))) → Sat (G * F) w' → Io w w' → R (.returned v') w') :
    Calls Tryz.prog 98 #[v, .int .i64 (f : Int), .int .i64 (t : Int), kv, yv] w R := by
  obtain ⟨se, sk, sx, rfl, hh⟩ := hv
  dsimp only [Ky.inn] at hh
  obtain ⟨⟨h1, s1⟩, ⟨h3, s3⟩, h5, s5⟩ := hh
  obtain ⟨a1, c1, rfl, -⟩ := reads_shape h1
  obtain ⟨b3, o3, c3, rfl, hc3, hc4⟩ : ∃ b off c, sk = .slice (some ⟨b, off, none⟩) K.length c ∧ K.length ≤ c ∧ c ≤ maxLen := by
    rcases s3 with ⟨_, h0⟩ | h
    · omega
    · exact h
  rcases s5 with ⟨rfl, h0⟩ | ⟨b5, o5, c5, rfl, hc5, hc6⟩
  · omega
  · skip
    obtain ⟨ka, kc, rfl, -⟩ := reads_shape hk
    obtain ⟨ya, yc, rfl, -⟩ := reads_shape hy
    unfold maxLen at hc4
    have HH := Lib.hid h
    obtain ⟨n3, hn3⟩ : ∃ n, n = K.length := ⟨_, rfl⟩
    obtain ⟨n5, hn5⟩ : ∃ n, n = B.length := ⟨_, rfl⟩
    obtain ⟨nk, hnk⟩ : ∃ n, n = k'.length := ⟨_, rfl⟩
    obtain ⟨ny, hny⟩ : ∃ n, n = y'.length := ⟨_, rfl⟩
    obtain ⟨lo, hlo⟩ : ∃ n, n = f - 1 := ⟨_, rfl⟩
    obtain ⟨hi, hhi⟩ : ∃ n, n = t - 1 := ⟨_, rfl⟩
    rw [← hlo, ← hhi] at HH
    have P3 := Lib.hid h3
    have P5 := Lib.hid h5
    have R2 := Lib.hid hk
    have R5 := Lib.hid hy
    have R1 : Hid (ReadsNu F (.slice (some ⟨b3, o3, none⟩) f c3) (K.take f)) := Lib.hid (reads_take encNu_ok P3.out f (by omega))
    have R3 : Hid (ReadsNu F (.slice (if c3 = t then some ⟨b3, o3, none⟩ else some ⟨b3, o3 + t, none⟩) (n3 - t) (c3 - t)) (K.drop t)) := Lib.hid (by
      have h := reads_drop_if encNu_ok P3.out t (by omega) (by omega)
      rw [Nat.mul_one, ← hn3] at h
      exact h)
    obtain ⟨ad, had⟩ : ∃ ad : Option Addr, (if c3 = t then some ⟨b3, o3, none⟩ else some ⟨b3, o3 + t, none⟩) = ad := ⟨_, rfl⟩
    rw [had] at R3
    unfold maxLen at hc6
    have R4 : Hid (ReadsTx F (.slice (some ⟨b5, o5, none⟩) lo c5) (B.take lo)) := Lib.hid (reads_take encTx_ok P5.out lo (by omega))
    have R6 : Hid (ReadsTx F (.slice (if c5 = hi then some ⟨b5, o5, none⟩ else some ⟨b5, o5 + hi, none⟩) (n5 - hi) (c5 - hi)) (B.drop hi)) := Lib.hid (by
      have h := reads_drop_if encTx_ok P5.out hi (by omega) (by omega)
      rw [Nat.mul_one, ← hn5] at h
      exact h)
    obtain ⟨ae, hae⟩ : ∃ ae : Option Addr, (if c5 = hi then some ⟨b5, o5, none⟩ else some ⟨b5, o5 + hi, none⟩) = ae := ⟨_, rfl⟩
    rw [hae] at R6
    have l4 : (lo : Int) ≤ (c5 : Int) := by omega
    have l5 : (hi : Int) ≤ (c5 : Int) := by omega
    have l6 : (n5 : Int) ≤ (c5 : Int) := by omega
    clear hc5 hc6
    have Q1 : Hid ((K.take f).length ≤ 10000) := Lib.hid (by rw [List.length_take]; omega)
    have Q2 : Hid (k'.length ≤ 10000) := Lib.hid (by omega)
    have Q3 : Hid ((K.drop t).length ≤ 10000) := Lib.hid (by rw [List.length_drop]; omega)
    have Q4 : Hid ((B.take lo).length ≤ 10000) := Lib.hid (by rw [List.length_take]; omega)
    have Q5 : Hid (y'.length ≤ 10000) := Lib.hid (by omega)
    have Q6 : Hid ((B.drop hi).length ≤ 10000) := Lib.hid (by rw [List.length_drop]; omega)
    have B3 : Hid ((K.take f ++ k' ++ K.drop t).length ≤ 1000000) := Lib.hid (by simp only [List.length_append, List.length_take, List.length_drop]; omega)
    have B5 : Hid ((B.take lo ++ y' ++ B.drop hi).length ≤ 1000000) := Lib.hid (by simp only [List.length_append, List.length_take, List.length_drop]; omega)
    rw [← hnk] at R2
    rw [← hny] at R5
    have i0 : (0 : Int) ≤ (f : Int) := by omega
    have i1 : ¬ (f : Int) < 0 := by omega
    have i2 : (f : Int) < (t : Int) := by omega
    have i3 : ¬ (t : Int) ≤ (f : Int) := by omega
    have i4 : (t : Int) ≤ (n3 : Int) := by omega
    have i5 : ¬ (n3 : Int) < (t : Int) := by omega
    have i6 : (f : Int) ≤ (n3 : Int) := by omega
    have i7 : (f : Int) ≤ (c3 : Int) := by omega
    have i8 : (0 : Int) ≤ (t : Int) := by omega
    have i9 : (n3 : Int) ≤ (c3 : Int) := by omega
    have i10 : (t : Int) ≤ (c3 : Int) := by omega
    have l0 : (0 : Int) ≤ (lo : Int) := by omega
    have l1 : (lo : Int) ≤ (n5 : Int) := by omega
    have l2 : (0 : Int) ≤ (hi : Int) := by omega
    have l3 : (hi : Int) ≤ (n5 : Int) := by omega
    have u1 : (f : Int) ≤ 4000 := by omega
    have u2 : (t : Int) ≤ 4000 := by omega
    have u3 : (n3 : Int) ≤ 4000 := by omega
    have u4 : (nk : Int) ≤ 1000 := by omega
    have u5 : (ny : Int) ≤ 1000 := by omega
    have u6 : (lo : Int) ≤ 4000 := by omega
    have u7 : (hi : Int) ≤ 4000 := by omega
    have u8 : (n5 : Int) ≤ 4000 := by omega
    have f1 : nk = 0 := by omega
    have f2 : ny = 0 := by omega
    have f3 : (0 : Int) < (f : Int) := by omega
    have f7 : (t : Int) - 1 = (hi : Int) := by omega
    have f9 : (f : Int) - 1 = (lo : Int) := by omega
    rw [← hnk, ← hny]
    change Calls Tryz.prog 98 #[.agg #[.bool false, .slice a1 0 c1, .slice (some ⟨b3, o3, none⟩) K.length c3, .slice (some ⟨b5, o5, none⟩) B.length c5], .int .i64 (f : Int), .int .i64 (t : Int), .slice ka nk kc, .slice ya ny yc] w R
    rw [← hn3, ← hn5]
    have I := (((Io.refl w).alloc (.cells #[.bool false, .slice a1 0 c1, .slice (some ⟨b3, o3, none⟩) n3 c3, .slice (some ⟨b5, o5, none⟩) n5 c5] 140)).alloc (.cells #[.bool false, .slice none 0 0, .slice none 0 0, .slice none 0 0] 140))
    have H := ((H.new (.cells #[.bool false, .slice a1 0 c1, .slice (some ⟨b3, o3, none⟩) n3 c3, .slice (some ⟨b5, o5, none⟩) n5 c5] 140)).new (.cells #[.bool false, .slice none 0 0, .slice none 0 0, .slice none 0 0] 140)).in_emp
    simp only [heap_alloc, Nat.add_assoc, Nat.reduceAdd] at H
    clear h h1 s1 h3 s3 h5 hk hy hky hkl hyl hl hlen hc3 hc4 hft htl hn3 hn5 hnk hny hhi P3 P5
    clear hlo
    subst f1 f2
    go_enter Tryz.func98, Tryz.ntmps98
    go_upto_region 1 with fail
    generalize ((w.alloc (.cells #[.bool false, .slice a1 0 c1, .slice (some ⟨b3, o3, none⟩) n3 c3, .slice (some ⟨b5, o5, none⟩) n5 c5] 140)).alloc (.cells #[.bool false, .slice none 0 0, .slice none 0 0, .slice none 0 0] 140)) = w1 at *
    generalize hb : w.heap.size = b at *
    obtain ⟨q0, q1, q2, q3⟩ := nd4 H.right.right
    go_upto_region 8 with fail
    have Zu := nd4 H.right.right
    replace I := I.drew
    replace H := H.drew
    clear q0 q1 q2 q3
    have Z := nd4 H.right.right
    have Y := nd4 H.right
    have Yf := nd4f H.right
    go_region_held3 (fun W => W.cell? ⟨b, 0, none⟩ = some (.bool false) ∧ W.cell? ⟨b, 1, none⟩ = some (.slice a1 0 c1) ∧ W.cell? ⟨b, 2, none⟩ = some (.slice (some ⟨b3, o3, none⟩) n3 c3) ∧ W.cell? ⟨b, 3, none⟩ = some (.slice (some ⟨b5, o5, none⟩) n5 c5)) ((with_reducible (first | exact Z | (refine held_d ?_; assumption) | (refine held_a ?_; assumption) | (refine held_s1 ?_; assumption)))) ((first
      | (go_at_call 122; (with_reducible (first | refine with_si H I (fun HS IS => ?_) | refine with_si (H.n1 _) (I.alloc _) (fun HS IS => ?_) | refine with_si ((H.n1 _).n1 _) ((I.alloc _).alloc _) (fun HS IS => ?_) | refine with_si (((H.n1 _).n1 _).n1 _) (((I.alloc _).alloc _).alloc _) (fun HS IS => ?_) | refine with_si ((((H.n1 _).n1 _).n1 _).n1 _) ((((I.alloc _).alloc _).alloc _).alloc _) (fun HS IS => ?_))); (try simp only [heap_alloc, Nat.add_assoc, Nat.reduceAdd] at HS); (with_reducible (first | refine glueNu3_any (R1.out.imp (fun _ hw => hw.right.right.right)) Q1.out (R2.out.imp (fun _ hw => hw.right.right.right)) Q2.out (R3.out.imp (fun _ hw => hw.right.right.right)) Q3.out HS.p1 ?_ | refine glueNu3_any (R1.out.imp (fun _ hw => hw.right.right.right)) Q1.out (R2.out.imp (fun _ hw => hw.right.right.right)) Q2.out (R3.out.imp (fun _ hw => hw.right.right.right)) Q3.out HS.p2 ?_ | refine glueNu3_any (R1.out.imp (fun _ hw => hw.right.right.right)) Q1.out (R2.out.imp (fun _ hw => hw.right.right.right)) Q2.out (R3.out.imp (fun _ hw => hw.right.right.right)) Q3.out HS.p3 ?_ | refine glueNu3_any (R1.out.imp (fun _ hw => hw.right.right.right)) Q1.out (R2.out.imp (fun _ hw => hw.right.right.right)) Q2.out (R3.out.imp (fun _ hw => hw.right.right.right)) Q3.out HS.p4 ?_ | refine glueNu3_any (R1.out.imp (fun _ hw => hw.right.right.right)) Q1.out (R2.out.imp (fun _ hw => hw.right.right.right)) Q2.out (R3.out.imp (fun _ hw => hw.right.right.right)) Q3.out HS.p5 ?_ | refine glueNu3_any (R1.out.imp (fun _ hw => hw.right.right.right)) Q1.out (R2.out.imp (fun _ hw => hw.right.right.right)) Q2.out (R3.out.imp (fun _ hw => hw.right.right.right)) Q3.out HS.p6 ?_ | refine glueNu3_any (R1.out.imp (fun _ hw => hw.right.right.right)) Q1.out (R2.out.imp (fun _ hw => hw.right.right.right)) Q2.out (R3.out.imp (fun _ hw => hw.right.right.right)) Q3.out HS.p7 ?_ | refine glueNu3_any (R1.out.imp (fun _ hw => hw.right.right.right)) Q1.out (R2.out.imp (fun _ hw => hw.right.right.right)) Q2.out (R3.out.imp (fun _ hw => hw.right.right.right)) Q3.out HS.p8 ?_)); clear H I Z Y Yf; (try clear Zu); intro vA wA H5 I5; obtain ⟨aA, mA, cA, rfl⟩ := rowOf_form3 H5; have RA := Lib.hid (Reads.of_row (emp_r H5.left) B3.out); have SA := Lib.hid (slOk_row H5); have H := H5.push; have I := IS.trans I5; clear H5 I5 HS IS; have Z := nd4 H.right.right; have Y := nd4 H.right; have Yf := nd4f H.right)
      | (go_at_call 123; (with_reducible (first | refine with_si H I (fun HS IS => ?_) | refine with_si (H.n1 _) (I.alloc _) (fun HS IS => ?_) | refine with_si ((H.n1 _).n1 _) ((I.alloc _).alloc _) (fun HS IS => ?_) | refine with_si (((H.n1 _).n1 _).n1 _) (((I.alloc _).alloc _).alloc _) (fun HS IS => ?_) | refine with_si ((((H.n1 _).n1 _).n1 _).n1 _) ((((I.alloc _).alloc _).alloc _).alloc _) (fun HS IS => ?_))); (try simp only [heap_alloc, Nat.add_assoc, Nat.reduceAdd] at HS); (with_reducible (first | refine glueTx3_any (R4.out.imp (fun _ hw => hw.right.right.right)) Q4.out (R5.out.imp (fun _ hw => hw.right.right.right)) Q5.out (R6.out.imp (fun _ hw => hw.right.right.right)) Q6.out HS.p1 ?_ | refine glueTx3_any (R4.out.imp (fun _ hw => hw.right.right.right)) Q4.out (R5.out.imp (fun _ hw => hw.right.right.right)) Q5.out (R6.out.imp (fun _ hw => hw.right.right.right)) Q6.out HS.p2 ?_ | refine glueTx3_any (R4.out.imp (fun _ hw => hw.right.right.right)) Q4.out (R5.out.imp (fun _ hw => hw.right.right.right)) Q5.out (R6.out.imp (fun _ hw => hw.right.right.right)) Q6.out HS.p3 ?_ | refine glueTx3_any (R4.out.imp (fun _ hw => hw.right.right.right)) Q4.out (R5.out.imp (fun _ hw => hw.right.right.right)) Q5.out (R6.out.imp (fun _ hw => hw.right.right.right)) Q6.out HS.p4 ?_ | refine glueTx3_any (R4.out.imp (fun _ hw => hw.right.right.right)) Q4.out (R5.out.imp (fun _ hw => hw.right.right.right)) Q5.out (R6.out.imp (fun _ hw => hw.right.right.right)) Q6.out HS.p5 ?_ | refine glueTx3_any (R4.out.imp (fun _ hw => hw.right.right.right)) Q4.out (R5.out.imp (fun _ hw => hw.right.right.right)) Q5.out (R6.out.imp (fun _ hw => hw.right.right.right)) Q6.out HS.p6 ?_ | refine glueTx3_any (R4.out.imp (fun _ hw => hw.right.right.right)) Q4.out (R5.out.imp (fun _ hw => hw.right.right.right)) Q5.out (R6.out.imp (fun _ hw => hw.right.right.right)) Q6.out HS.p7 ?_ | refine glueTx3_any (R4.out.imp (fun _ hw => hw.right.right.right)) Q4.out (R5.out.imp (fun _ hw => hw.right.right.right)) Q5.out (R6.out.imp (fun _ hw => hw.right.right.right)) Q6.out HS.p8 ?_)); clear H I Z Y Yf; (try clear Zu); intro vB wB H5 I5; obtain ⟨aB, mB, cB, rfl⟩ := rowOf_form3 H5; have RB := Lib.hid (Reads.of_row (emp_r H5.left) B5.out); have SB := Lib.hid (slOk_row H5); have H := H5.push; have I := IS.trans I5; clear H5 I5 HS IS; have Z := nd4 H.right.right; have Y := nd4 H.right; have Yf := nd4f H.right)))
    all_goals (
      have K := (H.sw).cells4 (x' := .bool false) (y' := .slice none 0 0) (z' := .slice aA mA cA) (u' := .slice aB mB cB)
      have J := (((I.setCell ⟨b + 1, 0, none⟩ (.bool false)).setCell ⟨b + 1, 1, none⟩ (.slice none 0 0)).setCell ⟨b + 1, 2, none⟩ (.slice aA mA cA)).setCell ⟨b + 1, 3, none⟩ (.slice aB mB cB)
      go_wp2_with fail
      generalize ((((wB.setCell ⟨b + 1, 0, none⟩ (.bool false)).setCell ⟨b + 1, 1, none⟩ (.slice none 0 0)).setCell ⟨b + 1, 2, none⟩ (.slice aA mA cA)).setCell ⟨b + 1, 3, none⟩ (.slice aB mB cB)) = W at *
      clear Z Y Yf
      obtain ⟨y0, y1, y2, y3⟩ := nd4 K
      exact bodyPost_ret (v := .agg #[.bool false, .slice none 0 0, .slice aA mA cA, .slice aB mB cB]) (by simp [results, Tryz.results98, go_sem, y0, y1, y2, y3]) rfl (HH.out _ _ _ ⟨_, _, _, rfl, ⟨reads_none _ none 0, nil_ok⟩, ⟨(RA.out.imp (fun _ hw => emp_r hw.right.left)), SA.out⟩, (RB.out.imp (fun _ hw => emp_r hw.left)), SB.out⟩ K.right.drop1 J))
end
end Go.Proofs.YtojiffhknddleaaGreatDoor

/-
  node.Swap, by a walk: regions whose order is drawn. It proves no statement by itself.
-/
namespace Go.Proofs.YtojiffhknddleaaGreatDoor
open Go.RowKit Go.Lib
set_option linter.unusedSimpArgs false
set_option linter.unusedVariables false
set_option linter.unusedSectionVars false
section
variable {F : Asn} {w : World} {R : Ending → World → Prop}
set_option maxRecDepth 100000 in
set_option maxHeartbeats 40000000 in
theorem swap_v3 {K k' : List Int} {B y' : List Ky.Nm} {f t : Nat} {v kv yv : Value} (hlen : K.length = B.length + 1) (hl : K.length ≤ 4000) (hft : f < t) (htl : t ≤ K.length) (hk : ReadsNu F kv k') (hy : ReadsTx F yv y') (hky : k'.length = 0 ∧ f = 0 ∧ y'.length = 0) (hkl : k'.length ≤ 1000) (hyl : y'.length ≤ 1000) (hv : NdV F v (Ky.inn K B)) (H : Sat F w)
    (h : ∀ G v' w', NdV G v' (Ky.inn (K.take f ++ k' ++ K.drop t) (B.take (0) ++ y' ++ B.drop (min t B.length))) → Sat (G * F) w' → Io w w' → R (.returned v') w') :
    Calls Tryz.prog 98 #[v, .int .i64 (f : Int), .int .i64 (t : Int), kv, yv] w R := by
  obtain ⟨se, sk, sx, rfl, hh⟩ := hv
  dsimp only [Ky.inn] at hh
  obtain ⟨⟨h1, s1⟩, ⟨h3, s3⟩, h5, s5⟩ := hh
  obtain ⟨a1, c1, rfl, -⟩ := reads_shape h1
  obtain ⟨b3, o3, c3, rfl, hc3, hc4⟩ : ∃ b off c, sk = .slice (some ⟨b, off, none⟩) K.length c ∧ K.length ≤ c ∧ c ≤ maxLen := by
    rcases s3 with ⟨_, h0⟩ | h
    · omega
    · exact h
  rcases s5 with ⟨rfl, h0⟩ | ⟨b5, o5, c5, rfl, hc5, hc6⟩
  · skip
    obtain ⟨ka, kc, rfl, -⟩ := reads_shape hk
    obtain ⟨ya, yc, rfl, -⟩ := reads_shape hy
    unfold maxLen at hc4
    have HH := Lib.hid h
    obtain ⟨n3, hn3⟩ : ∃ n, n = K.length := ⟨_, rfl⟩
    obtain ⟨n5, hn5⟩ : ∃ n, n = B.length := ⟨_, rfl⟩
    obtain ⟨nk, hnk⟩ : ∃ n, n = k'.length := ⟨_, rfl⟩
    obtain ⟨ny, hny⟩ : ∃ n, n = y'.length := ⟨_, rfl⟩
    obtain ⟨lo, hlo⟩ : ∃ n, n = 0 := ⟨_, rfl⟩
    obtain ⟨hi, hhi⟩ : ∃ n, n = min t B.length := ⟨_, rfl⟩
    rw [← hlo, ← hhi] at HH
    have P3 := Lib.hid h3
    have P5 := Lib.hid h5
    have R2 := Lib.hid hk
    have R5 := Lib.hid hy
    have R1 : Hid (ReadsNu F (.slice (some ⟨b3, o3, none⟩) f c3) (K.take f)) := Lib.hid (reads_take encNu_ok P3.out f (by omega))
    have R3 : Hid (ReadsNu F (.slice (if c3 = t then some ⟨b3, o3, none⟩ else some ⟨b3, o3 + t, none⟩) (n3 - t) (c3 - t)) (K.drop t)) := Lib.hid (by
      have h := reads_drop_if encNu_ok P3.out t (by omega) (by omega)
      rw [Nat.mul_one, ← hn3] at h
      exact h)
    obtain ⟨ad, had⟩ : ∃ ad : Option Addr, (if c3 = t then some ⟨b3, o3, none⟩ else some ⟨b3, o3 + t, none⟩) = ad := ⟨_, rfl⟩
    rw [had] at R3
    have hB : B = [] := List.eq_nil_of_length_eq_zero h0
    have R4 : Hid (ReadsTx F (.slice none 0 0) (B.take lo)) := Lib.hid (by rw [hB, List.take_nil]; exact reads_none _ _ _)
    have R6 : Hid (ReadsTx F (.slice none 0 0) (B.drop hi)) := Lib.hid (by rw [hB, List.drop_nil]; exact reads_none _ _ _)
    have l4 : True := trivial
    have Q1 : Hid ((K.take f).length ≤ 10000) := Lib.hid (by rw [List.length_take]; omega)
    have Q2 : Hid (k'.length ≤ 10000) := Lib.hid (by omega)
    have Q3 : Hid ((K.drop t).length ≤ 10000) := Lib.hid (by rw [List.length_drop]; omega)
    have Q4 : Hid ((B.take lo).length ≤ 10000) := Lib.hid (by rw [List.length_take]; omega)
    have Q5 : Hid (y'.length ≤ 10000) := Lib.hid (by omega)
    have Q6 : Hid ((B.drop hi).length ≤ 10000) := Lib.hid (by rw [List.length_drop]; omega)
    have B3 : Hid ((K.take f ++ k' ++ K.drop t).length ≤ 1000000) := Lib.hid (by simp only [List.length_append, List.length_take, List.length_drop]; omega)
    have B5 : Hid ((B.take lo ++ y' ++ B.drop hi).length ≤ 1000000) := Lib.hid (by simp only [List.length_append, List.length_take, List.length_drop]; omega)
    rw [← hnk] at R2
    rw [← hny] at R5
    have i0 : (0 : Int) ≤ (f : Int) := by omega
    have i1 : ¬ (f : Int) < 0 := by omega
    have i2 : (f : Int) < (t : Int) := by omega
    have i3 : ¬ (t : Int) ≤ (f : Int) := by omega
    have i4 : (t : Int) ≤ (n3 : Int) := by omega
    have i5 : ¬ (n3 : Int) < (t : Int) := by omega
    have i6 : (f : Int) ≤ (n3 : Int) := by omega
    have i7 : (f : Int) ≤ (c3 : Int) := by omega
    have i8 : (0 : Int) ≤ (t : Int) := by omega
    have i9 : (n3 : Int) ≤ (c3 : Int) := by omega
    have i10 : (t : Int) ≤ (c3 : Int) := by omega
    have l0 : (0 : Int) ≤ (lo : Int) := by omega
    have l1 : (lo : Int) ≤ (n5 : Int) := by omega
    have l2 : (0 : Int) ≤ (hi : Int) := by omega
    have l3 : (hi : Int) ≤ (n5 : Int) := by omega
    have u1 : (f : Int) ≤ 4000 := by omega
    have u2 : (t : Int) ≤ 4000 := by omega
    have u3 : (n3 : Int) ≤ 4000 := by omega
    have u4 : (nk : Int) ≤ 1000 := by omega
    have u5 : (ny : Int) ≤ 1000 := by omega
    have u6 : (lo : Int) ≤ 4000 := by omega
    have u7 : (hi : Int) ≤ 4000 := by omega
    have u8 : (n5 : Int) ≤ 4000 := by omega
    have f1 : nk = 0 := by omega
    have f2 : ny = 0 := by omega
    have f3 : f = 0 := by omega
    have f4 : lo = 0 := by omega
    have f7 : (1 : Int) ≤ (t : Int) := by omega
    have f8 : min (t : Int) (n5 : Int) = (hi : Int) := by omega
    have z8 : max (-1 : Int) 0 = 0 := by decide
    have z2 : t = 1 := by omega
    have z4 : hi = 0 := by omega
    have z7 : min (1 : Int) 0 = 0 := by decide
    clear hlo
    rw [← hnk, ← hny]
    change Calls Tryz.prog 98 #[.agg #[.bool false, .slice a1 0 c1, .slice (some ⟨b3, o3, none⟩) K.length c3, .slice none 0 0], .int .i64 (f : Int), .int .i64 (t : Int), .slice ka nk kc, .slice ya ny yc] w R
    rw [← hn3]
    have I := (((Io.refl w).alloc (.cells #[.bool false, .slice a1 0 c1, .slice (some ⟨b3, o3, none⟩) n3 c3, .slice none 0 0] 140)).alloc (.cells #[.bool false, .slice none 0 0, .slice none 0 0, .slice none 0 0] 140))
    have H := ((H.new (.cells #[.bool false, .slice a1 0 c1, .slice (some ⟨b3, o3, none⟩) n3 c3, .slice none 0 0] 140)).new (.cells #[.bool false, .slice none 0 0, .slice none 0 0, .slice none 0 0] 140)).in_emp
    simp only [heap_alloc, Nat.add_assoc, Nat.reduceAdd] at H
    clear h h1 s1 h3 s3 h5 hk hy hky hkl hyl hl hlen hc3 hc4 hft htl hn3 hn5 hnk hny hhi P3 P5
    subst f1 f2 f3 f4 z2 z4
    go_enter Tryz.func98, Tryz.ntmps98
    go_upto_region 1 with fail
    generalize ((w.alloc (.cells #[.bool false, .slice a1 0 c1, .slice (some ⟨b3, o3, none⟩) n3 c3, .slice none 0 0] 140)).alloc (.cells #[.bool false, .slice none 0 0, .slice none 0 0, .slice none 0 0] 140)) = w1 at *
    generalize hb : w.heap.size = b at *
    obtain ⟨q0, q1, q2, q3⟩ := nd4 H.right.right
    go_upto_region 8 with fail
    have Zu := nd4 H.right.right
    replace I := I.drew
    replace H := H.drew
    clear q0 q1 q2 q3
    have Z := nd4 H.right.right
    have Y := nd4 H.right
    have Yf := nd4f H.right
    go_region_held3 (fun W => W.cell? ⟨b, 0, none⟩ = some (.bool false) ∧ W.cell? ⟨b, 1, none⟩ = some (.slice a1 0 c1) ∧ W.cell? ⟨b, 2, none⟩ = some (.slice (some ⟨b3, o3, none⟩) n3 c3) ∧ W.cell? ⟨b, 3, none⟩ = some (.slice none 0 0)) ((with_reducible (first | exact Z | (refine held_d ?_; assumption) | (refine held_a ?_; assumption) | (refine held_s1 ?_; assumption)))) ((first
      | (go_at_call 122; (with_reducible (first | refine with_si H I (fun HS IS => ?_) | refine with_si (H.n1 _) (I.alloc _) (fun HS IS => ?_) | refine with_si ((H.n1 _).n1 _) ((I.alloc _).alloc _) (fun HS IS => ?_) | refine with_si (((H.n1 _).n1 _).n1 _) (((I.alloc _).alloc _).alloc _) (fun HS IS => ?_) | refine with_si ((((H.n1 _).n1 _).n1 _).n1 _) ((((I.alloc _).alloc _).alloc _).alloc _) (fun HS IS => ?_))); (try simp only [heap_alloc, Nat.add_assoc, Nat.reduceAdd] at HS); (with_reducible (first | refine glueNu3_any (R1.out.imp (fun _ hw => hw.right.right.right)) Q1.out (R2.out.imp (fun _ hw => hw.right.right.right)) Q2.out (R3.out.imp (fun _ hw => hw.right.right.right)) Q3.out HS.p1 ?_ | refine glueNu3_any (R1.out.imp (fun _ hw => hw.right.right.right)) Q1.out (R2.out.imp (fun _ hw => hw.right.right.right)) Q2.out (R3.out.imp (fun _ hw => hw.right.right.right)) Q3.out HS.p2 ?_ | refine glueNu3_any (R1.out.imp (fun _ hw => hw.right.right.right)) Q1.out (R2.out.imp (fun _ hw => hw.right.right.right)) Q2.out (R3.out.imp (fun _ hw => hw.right.right.right)) Q3.out HS.p3 ?_ | refine glueNu3_any (R1.out.imp (fun _ hw => hw.right.right.right)) Q1.out (R2.out.imp (fun _ hw => hw.right.right.right)) Q2.out (R3.out.imp (fun _ hw => hw.right.right.right)) Q3.out HS.p4 ?_ | refine glueNu3_any (R1.out.imp (fun _ hw => hw.right.right.right)) Q1.out (R2.out.imp (fun _ hw => hw.right.right.right)) Q2.out (R3.out.imp (fun _ hw => hw.right.right.right)) Q3.out HS.p5 ?_ | refine glueNu3_any (R1.out.imp (fun _ hw => hw.right.right.right)) Q1.out (R2.out.imp (fun _ hw => hw.right.right.right)) Q2.out (R3.out.imp (fun _ hw => hw.right.right.right)) Q3.out HS.p6 ?_ | refine glueNu3_any (R1.out.imp (fun _ hw => hw.right.right.right)) Q1.out (R2.out.imp (fun _ hw => hw.right.right.right)) Q2.out (R3.out.imp (fun _ hw => hw.right.right.right)) Q3.out HS.p7 ?_ | refine glueNu3_any (R1.out.imp (fun _ hw => hw.right.right.right)) Q1.out (R2.out.imp (fun _ hw => hw.right.right.right)) Q2.out (R3.out.imp (fun _ hw => hw.right.right.right)) Q3.out HS.p8 ?_)); clear H I Z Y Yf; (try clear Zu); intro vA wA H5 I5; obtain ⟨aA, mA, cA, rfl⟩ := rowOf_form3 H5; have RA := Lib.hid (Reads.of_row (emp_r H5.left) B3.out); have SA := Lib.hid (slOk_row H5); have H := H5.push; have I := IS.trans I5; clear H5 I5 HS IS; have Z := nd4 H.right.right; have Y := nd4 H.right; have Yf := nd4f H.right)
      | (go_at_call 123; (with_reducible (first | refine with_si H I (fun HS IS => ?_) | refine with_si (H.n1 _) (I.alloc _) (fun HS IS => ?_) | refine with_si ((H.n1 _).n1 _) ((I.alloc _).alloc _) (fun HS IS => ?_) | refine with_si (((H.n1 _).n1 _).n1 _) (((I.alloc _).alloc _).alloc _) (fun HS IS => ?_) | refine with_si ((((H.n1 _).n1 _).n1 _).n1 _) ((((I.alloc _).alloc _).alloc _).alloc _) (fun HS IS => ?_))); (try simp only [heap_alloc, Nat.add_assoc, Nat.reduceAdd] at HS); (with_reducible (first | refine glueTx3_any (R4.out.imp (fun _ hw => hw.right.right.right)) Q4.out (R5.out.imp (fun _ hw => hw.right.right.right)) Q5.out (R6.out.imp (fun _ hw => hw.right.right.right)) Q6.out HS.p1 ?_ | refine glueTx3_any (R4.out.imp (fun _ hw => hw.right.right.right)) Q4.out (R5.out.imp (fun _ hw => hw.right.right.right)) Q5.out (R6.out.imp (fun _ hw => hw.right.right.right)) Q6.out HS.p2 ?_ | refine glueTx3_any (R4.out.imp (fun _ hw => hw.right.right.right)) Q4.out (R5.out.imp (fun _ hw => hw.right.right.right)) Q5.out (R6.out.imp (fun _ hw => hw.right.right.right)) Q6.out HS.p3 ?_ | refine glueTx3_any (R4.out.imp (fun _ hw => hw.right.right.right)) Q4.out (R5.out.imp (fun _ hw => hw.right.right.right)) Q5.out (R6.out.imp (fun _ hw => hw.right.right.right)) Q6.out HS.p4 ?_ | refine glueTx3_any (R4.out.imp (fun _ hw => hw.right.right.right)) Q4.out (R5.out.imp (fun _ hw => hw.right.right.right)) Q5.out (R6.out.imp (fun _ hw => hw.right.right.right)) Q6.out HS.p5 ?_ | refine glueTx3_any (R4.out.imp (fun _ hw => hw.right.right.right)) Q4.out (R5.out.imp (fun _ hw => hw.right.right.right)) Q5.out (R6.out.imp (fun _ hw => hw.right.right.right)) Q6.out HS.p6 ?_ | refine glueTx3_any (R4.out.imp (fun _ hw => hw.right.right.right)) Q4.out (R5.out.imp (fun _ hw => hw.right.right.right)) Q5.out (R6.out.imp (fun _ hw => hw.right.right.right)) Q6.out HS.p7 ?_ | refine glueTx3_any (R4.out.imp (fun _ hw => hw.right.right.right)) Q4.out (R5.out.imp (fun _ hw => hw.right.right.right)) Q5.out (R6.out.imp (fun _ hw => hw.right.right.right)) Q6.out HS.p8 ?_)); clear H I Z Y Yf; (try clear Zu); intro vB wB H5 I5; obtain ⟨aB, mB, cB, rfl⟩ := rowOf_form3 H5; have RB := Lib.hid (Reads.of_row (emp_r H5.left) B5.out); have SB := Lib.hid (slOk_row H5); have H := H5.push; have I := IS.trans I5; clear H5 I5 HS IS; have Z := nd4 H.right.right; have Y := nd4 H.right; have Yf := nd4f H.right)))
    all_goals (
      have K := (H.sw).cells4 (x' := .bool false) (y' := .slice none 0 0) (z' := .slice aA mA cA) (u' := .slice aB mB cB)
      have J := (((I.setCell ⟨b + 1, 0, none⟩ (.bool false)).setCell ⟨b + 1, 1, none⟩ (.slice none 0 0)).setCell ⟨b + 1, 2, none⟩ (.slice aA mA cA)).setCell ⟨b + 1, 3, none⟩ (.slice aB mB cB)
      go_wp2_with fail
      generalize ((((wB.setCell ⟨b + 1, 0, none⟩ (.bool false)).setCell ⟨b + 1, 1, none⟩ (.slice none 0 0)).setCell ⟨b + 1, 2, none⟩ (.slice aA mA cA)).setCell ⟨b + 1, 3, none⟩ (.slice aB mB cB)) = W at *
      clear Z Y Yf
      obtain ⟨y0, y1, y2, y3⟩ := nd4 K
      exact bodyPost_ret (v := .agg #[.bool false, .slice none 0 0, .slice aA mA cA, .slice aB mB cB]) (by simp [results, Tryz.results98, go_sem, y0, y1, y2, y3]) rfl (HH.out _ _ _ ⟨_, _, _, rfl, ⟨reads_none _ none 0, nil_ok⟩, ⟨(RA.out.imp (fun _ hw => emp_r hw.right.left)), SA.out⟩, (RB.out.imp (fun _ hw => emp_r hw.left)), SB.out⟩ K.right.drop1 J))
  · skip
    obtain ⟨ka, kc, rfl, -⟩ := reads_shape hk
    obtain ⟨ya, yc, rfl, -⟩ := reads_shape hy
    unfold maxLen at hc4
    have HH := Lib.hid h
    obtain ⟨n3, hn3⟩ : ∃ n, n = K.length := ⟨_, rfl⟩
    obtain ⟨n5, hn5⟩ : ∃ n, n = B.length := ⟨_, rfl⟩
    obtain ⟨nk, hnk⟩ : ∃ n, n = k'.length := ⟨_, rfl⟩
    obtain ⟨ny, hny⟩ : ∃ n, n = y'.length := ⟨_, rfl⟩
    obtain ⟨lo, hlo⟩ : ∃ n, n = 0 := ⟨_, rfl⟩
    obtain ⟨hi, hhi⟩ : ∃ n, n = min t B.length := ⟨_, rfl⟩
    rw [← hlo, ← hhi] at HH
    have P3 := Lib.hid h3
    have P5 := Lib.hid h5
    have R2 := Lib.hid hk
    have R5 := Lib.hid hy
    have R1 : Hid (ReadsNu F (.slice (some ⟨b3, o3, none⟩) f c3) (K.take f)) := Lib.hid (reads_take encNu_ok P3.out f (by omega))
    have R3 : Hid (ReadsNu F (.slice (if c3 = t then some ⟨b3, o3, none⟩ else some ⟨b3, o3 + t, none⟩) (n3 - t) (c3 - t)) (K.drop t)) := Lib.hid (by
      have h := reads_drop_if encNu_ok P3.out t (by omega) (by omega)
      rw [Nat.mul_one, ← hn3] at h
      exact h)
    obtain ⟨ad, had⟩ : ∃ ad : Option Addr, (if c3 = t then some ⟨b3, o3, none⟩ else some ⟨b3, o3 + t, none⟩) = ad := ⟨_, rfl⟩
    rw [had] at R3
    unfold maxLen at hc6
    have R4 : Hid (ReadsTx F (.slice (some ⟨b5, o5, none⟩) lo c5) (B.take lo)) := Lib.hid (reads_take encTx_ok P5.out lo (by omega))
    have R6 : Hid (ReadsTx F (.slice (if c5 = hi then some ⟨b5, o5, none⟩ else some ⟨b5, o5 + hi, none⟩) (n5 - hi) (c5 - hi)) (B.drop hi)) := Lib.hid (by
      have h := reads_drop_if encTx_ok P5.out hi (by omega) (by omega)
      rw [Nat.mul_one, ← hn5] at h
      exact h)
    obtain ⟨ae, hae⟩ : ∃ ae : Option Addr, (if c5 = hi then some ⟨b5, o5, none⟩ else some ⟨b5, o5 + hi, none⟩) = ae := ⟨_, rfl⟩
    rw [hae] at R6
    have l4 : (lo : Int) ≤ (c5 : Int) := by omega
    have l5 : (hi : Int) ≤ (c5 : Int) := by omega
    have l6 : (n5 : Int) ≤ (c5 : Int) := by omega
    clear hc5 hc6
    have Q1 : Hid ((K.take f).length ≤ 10000) := Lib.hid (by rw [List.length_take]; omega)
    have Q2 : Hid (k'.length ≤ 10000) := Lib.hid (by omega)
    have Q3 : Hid ((K.drop t).length ≤ 10000) := Lib.hid (by rw [List.length_drop]; omega)
    have Q4 : Hid ((B.take lo).length ≤ 10000) := Lib.hid (by rw [List.length_take]; omega)
    have Q5 : Hid (y'.length ≤ 10000) := Lib.hid (by omega)
    have Q6 : Hid ((B.drop hi).length ≤ 10000) := Lib.hid (by rw [List.length_drop]; omega)
    have B3 : Hid ((K.take f ++ k' ++ K.drop t).length ≤ 1000000) := Lib.hid (by simp only [List.length_append, List.length_take, List.length_drop]; omega)
    have B5 : Hid ((B.take lo ++ y' ++ B.drop hi).length ≤ 1000000) := Lib.hid (by simp only [List.length_append, List.length_take, List.length_drop]; omega)
    rw [← hnk] at R2
    rw [← hny] at R5
    have i0 : (0 : Int) ≤ (f : Int) := by omega
    have i1 : ¬ (f : Int) < 0 := by omega
    have i2 : (f : Int) < (t : Int) := by omega
    have i3 : ¬ (t : Int) ≤ (f : Int) := by omega
    have i4 : (t : Int) ≤ (n3 : Int) := by omega
    have i5 : ¬ (n3 : Int) < (t : Int) := by omega
    have i6 : (f : Int) ≤ (n3 : Int) := by omega
    have i7 : (f : Int) ≤ (c3 : Int) := by omega
    have i8 : (0 : Int) ≤ (t : Int) := by omega
    have i9 : (n3 : Int) ≤ (c3 : Int) := by omega
    have i10 : (t : Int) ≤ (c3 : Int) := by omega
    have l0 : (0 : Int) ≤ (lo : Int) := by omega
    have l1 : (lo : Int) ≤ (n5 : Int) := by omega
    have l2 : (0 : Int) ≤ (hi : Int) := by omega
    have l3 : (hi : Int) ≤ (n5 : Int) := by omega
    have u1 : (f : Int) ≤ 4000 := by omega
    have u2 : (t : Int) ≤ 4000 := by omega
    have u3 : (n3 : Int) ≤ 4000 := by omega
    have u4 : (nk : Int) ≤ 1000 := by omega
    have u5 : (ny : Int) ≤ 1000 := by omega
    have u6 : (lo : Int) ≤ 4000 := by omega
    have u7 : (hi : Int) ≤ 4000 := by omega
    have u8 : (n5 : Int) ≤ 4000 := by omega
    have f1 : nk = 0 := by omega
    have f2 : ny = 0 := by omega
    have f3 : f = 0 := by omega
    have f4 : lo = 0 := by omega
    have f7 : (1 : Int) ≤ (t : Int) := by omega
    have f8 : min (t : Int) (n5 : Int) = (hi : Int) := by omega
    have z8 : max (-1 : Int) 0 = 0 := by decide
    rw [← hnk, ← hny]
    change Calls Tryz.prog 98 #[.agg #[.bool false, .slice a1 0 c1, .slice (some ⟨b3, o3, none⟩) K.length c3, .slice (some ⟨b5, o5, none⟩) B.length c5], .int .i64 (f : Int), .int .i64 (t : Int), .slice ka nk kc, .slice ya ny yc] w R
    rw [← hn3, ← hn5]
    have I := (((Io.refl w).alloc (.cells #[.bool false, .slice a1 0 c1, .slice (some ⟨b3, o3, none⟩) n3 c3, .slice (some ⟨b5, o5, none⟩) n5 c5] 140)).alloc (.cells #[.bool false, .slice none 0 0, .slice none 0 0, .slice none 0 0] 140))
    have H := ((H.new (.cells #[.bool false, .slice a1 0 c1, .slice (some ⟨b3, o3, none⟩) n3 c3, .slice (some ⟨b5, o5, none⟩) n5 c5] 140)).new (.cells #[.bool false, .slice none 0 0, .slice none 0 0, .slice none 0 0] 140)).in_emp
    simp only [heap_alloc, Nat.add_assoc, Nat.reduceAdd] at H
    clear h h1 s1 h3 s3 h5 hk hy hky hkl hyl hl hlen hc3 hc4 hft htl hn3 hn5 hnk hny hhi P3 P5
    clear hlo
    subst f1 f2 f3 f4
    go_enter Tryz.func98, Tryz.ntmps98
    go_upto_region 1 with fail
    generalize ((w.alloc (.cells #[.bool false, .slice a1 0 c1, .slice (some ⟨b3, o3, none⟩) n3 c3, .slice (some ⟨b5, o5, none⟩) n5 c5] 140)).alloc (.cells #[.bool false, .slice none 0 0, .slice none 0 0, .slice none 0 0] 140)) = w1 at *
    generalize hb : w.heap.size = b at *
    obtain ⟨q0, q1, q2, q3⟩ := nd4 H.right.right
    go_upto_region 8 with fail
    have Zu := nd4 H.right.right
    replace I := I.drew
    replace H := H.drew
    clear q0 q1 q2 q3
    have Z := nd4 H.right.right
    have Y := nd4 H.right
    have Yf := nd4f H.right
    go_region_held3 (fun W => W.cell? ⟨b, 0, none⟩ = some (.bool false) ∧ W.cell? ⟨b, 1, none⟩ = some (.slice a1 0 c1) ∧ W.cell? ⟨b, 2, none⟩ = some (.slice (some ⟨b3, o3, none⟩) n3 c3) ∧ W.cell? ⟨b, 3, none⟩ = some (.slice (some ⟨b5, o5, none⟩) n5 c5)) ((with_reducible (first | exact Z | (refine held_d ?_; assumption) | (refine held_a ?_; assumption) | (refine held_s1 ?_; assumption)))) ((first
      | (go_at_call 122; (with_reducible (first | refine with_si H I (fun HS IS => ?_) | refine with_si (H.n1 _) (I.alloc _) (fun HS IS => ?_) | refine with_si ((H.n1 _).n1 _) ((I.alloc _).alloc _) (fun HS IS => ?_) | refine with_si (((H.n1 _).n1 _).n1 _) (((I.alloc _).alloc _).alloc _) (fun HS IS => ?_) | refine with_si ((((H.n1 _).n1 _).n1 _).n1 _) ((((I.alloc _).alloc _).alloc _).alloc _) (fun HS IS => ?_))); (try simp only [heap_alloc, Nat.add_assoc, Nat.reduceAdd] at HS); (with_reducible (first | refine glueNu3_any (R1.out.imp (fun _ hw => hw.right.right.right)) Q1.out (R2.out.imp (fun _ hw => hw.right.right.right)) Q2.out (R3.out.imp (fun _ hw => hw.right.right.right)) Q3.out HS.p1 ?_ | refine glueNu3_any (R1.out.imp (fun _ hw => hw.right.right.right)) Q1.out (R2.out.imp (fun _ hw => hw.right.right.right)) Q2.out (R3.out.imp (fun _ hw => hw.right.right.right)) Q3.out HS.p2 ?_ | refine glueNu3_any (R1.out.imp (fun _ hw => hw.right.right.right)) Q1.out (R2.out.imp (fun _ hw => hw.right.right.right)) Q2.out (R3.out.imp (fun _ hw => hw.right.right.right)) Q3.out HS.p3 ?_ | refine glueNu3_any (R1.out.imp (fun _ hw => hw.right.right.right)) Q1.out (R2.out.imp (fun _ hw => hw.right.right.right)) Q2.out (R3.out.imp (fun _ hw => hw.right.right.right)) Q3.out HS.p4 ?_ | refine glueNu3_any (R1.out.imp (fun _ hw => hw.right.right.right)) Q1.out (R2.out.imp (fun _ hw => hw.right.right.right)) Q2.out (R3.out.imp (fun _ hw => hw.right.right.right)) Q3.out HS.p5 ?_ | refine glueNu3_any (R1.out.imp (fun _ hw => hw.right.right.right)) Q1.out (R2.out.imp (fun _ hw => hw.right.right.right)) Q2.out (R3.out.imp (fun _ hw => hw.right.right.right)) Q3.out HS.p6 ?_ | refine glueNu3_any (R1.out.imp (fun _ hw => hw.right.right.right)) Q1.out (R2.out.imp (fun _ hw => hw.right.right.right)) Q2.out (R3.out.imp (fun _ hw => hw.right.right.right)) Q3.out HS.p7 ?_ | refine glueNu3_any (R1.out.imp (fun _ hw => hw.right.right.right)) Q1.out (R2.out.imp (fun _ hw => hw.right.right.right)) Q2.out (R3.out.imp (fun _ hw => hw.right.right.right)) Q3.out HS.p8 ?_)); clear H I Z Y Yf; (try clear Zu); intro vA wA H5 I5; obtain ⟨aA, mA, cA, rfl⟩ := rowOf_form3 H5; have RA := Lib.hid (Reads.of_row (emp_r H5.left) B3.out); have SA := Lib.hid (slOk_row H5); have H := H5.push; have I := IS.trans I5; clear H5 I5 HS IS; have Z := nd4 H.right.right; have Y := nd4 H.right; have Yf := nd4f H.right)
      | (go_at_call 123; (with_reducible (first | refine with_si H I (fun HS IS => ?_) | refine with_si (H.n1 _) (I.alloc _) (fun HS IS => ?_) | refine with_si ((H.n1 _).n1 _) ((I.alloc _).alloc _) (fun HS IS => ?_) | refine with_si (((H.n1 _).n1 _).n1 _) (((I.alloc _).alloc _).alloc _) (fun HS IS => ?_) | refine with_si ((((H.n1 _).n1 _).n1 _).n1 _) ((((I.alloc _).alloc _).alloc _).alloc _) (fun HS IS => ?_))); (try simp only [heap_alloc, Nat.add_assoc, Nat.reduceAdd] at HS); (with_reducible (first | refine glueTx3_any (R4.out.imp (fun _ hw => hw.right.right.right)) Q4.out (R5.out.imp (fun _ hw => hw.right.right.right)) Q5.out (R6.out.imp (fun _ hw => hw.right.right.right)) Q6.out HS.p1 ?_ | refine glueTx3_any (R4.out.imp (fun _ hw => hw.right.right.right)) Q4.out (R5.out.imp (fun _ hw => hw.right.right.right)) Q5.out (R6.out.imp (fun _ hw => hw.right.right.right)) Q6.out HS.p2 ?_ | refine glueTx3_any (R4.out.imp (fun _ hw => hw.right.right.right)) Q4.out (R5.out.imp (fun _ hw => hw.right.right.right)) Q5.out (R6.out.imp (fun _ hw => hw.right.right.right)) Q6.out HS.p3 ?_ | refine glueTx3_any (R4.out.imp (fun _ hw => hw.right.right.right)) Q4.out (R5.out.imp (fun _ hw => hw.right.right.right)) Q5.out (R6.out.imp (fun _ hw => hw.right.right.right)) Q6.out HS.p4 ?_ | refine glueTx3_any (R4.out.imp (fun _ hw => hw.right.right.right)) Q4.out (R5.out.imp (fun _ hw => hw.right.right.right)) Q5.out (R6.out.imp (fun _ hw => hw.right.right.right)) Q6.out HS.p5 ?_ | refine glueTx3_any (R4.out.imp (fun _ hw => hw.right.right.right)) Q4.out (R5.out.imp (fun _ hw => hw.right.right.right)) Q5.out (R6.out.imp (fun _ hw => hw.right.right.right)) Q6.out HS.p6 ?_ | refine glueTx3_any (R4.out.imp (fun _ hw => hw.right.right.right)) Q4.out (R5.out.imp (fun _ hw => hw.right.right.right)) Q5.out (R6.out.imp (fun _ hw => hw.right.right.right)) Q6.out HS.p7 ?_ | refine glueTx3_any (R4.out.imp (fun _ hw => hw.right.right.right)) Q4.out (R5.out.imp (fun _ hw => hw.right.right.right)) Q5.out (R6.out.imp (fun _ hw => hw.right.right.right)) Q6.out HS.p8 ?_)); clear H I Z Y Yf; (try clear Zu); intro vB wB H5 I5; obtain ⟨aB, mB, cB, rfl⟩ := rowOf_form3 H5; have RB := Lib.hid (Reads.of_row (emp_r H5.left) B5.out); have SB := Lib.hid (slOk_row H5); have H := H5.push; have I := IS.trans I5; clear H5 I5 HS IS; have Z := nd4 H.right.right; have Y := nd4 H.right; have Yf := nd4f H.right)))
    all_goals (
      have K := (H.sw).cells4 (x' := .bool false) (y' := .slice none 0 0) (z' := .slice aA mA cA) (u' := .slice aB mB cB)
      have J := (((I.setCell ⟨b + 1, 0, none⟩ (.bool false)).setCell ⟨b + 1, 1, none⟩ (.slice none 0 0)).setCell ⟨b + 1, 2, none⟩ (.slice aA mA cA)).setCell ⟨b + 1, 3, none⟩ (.slice aB mB cB)
      go_wp2_with fail
      generalize ((((wB.setCell ⟨b + 1, 0, none⟩ (.bool false)).setCell ⟨b + 1, 1, none⟩ (.slice none 0 0)).setCell ⟨b + 1, 2, none⟩ (.slice aA mA cA)).setCell ⟨b + 1, 3, none⟩ (.slice aB mB cB)) = W at *
      clear Z Y Yf
      obtain ⟨y0, y1, y2, y3⟩ := nd4 K
      exact bodyPost_ret (v := .agg #[.bool false, .slice none 0 0, .slice aA mA cA, .slice aB mB cB]) (by simp [results, Tryz.results98, go_sem, y0, y1, y2, y3]) rfl (HH.out _ _ _ ⟨_, _, _, rfl, ⟨reads_none _ none 0, nil_ok⟩, ⟨(RA.out.imp (fun _ hw => emp_r hw.right.left)), SA.out⟩, (RB.out.imp (fun _ hw => emp_r hw.left)), SB.out⟩ K.right.drop1 J))
end
end Go.Proofs.YtojiffhknddleaaGreatDoor

/-
  node.Swap as one contract, over what its cases are. It proves no statement by itself.
-/
namespace Go.Proofs.YtojiffhknddleaaGreatDoor
open Go.RowKit Go.Lib
set_option linter.unusedSimpArgs false
set_option linter.unusedVariables false
set_option linter.unusedSectionVars false
section
variable {F : Asn} {w : World} {R : Ending → World → Prop}
/-- Kids give way to others. -/
theorem swap_any {K k' : List Int} {B y' : List Ky.Nm} {f t : Nat} {v kv yv : Value} (hlen : K.length = B.length + 1) (hl : K.length ≤ 4000) (hft : f < t) (htl : t ≤ K.length) (hk : ReadsNu F kv k') (hy : ReadsTx F yv y') (hky : y'.length = k'.length - 1) (hkl : k'.length ≤ 1000) (hyl : y'.length ≤ 1000) (hv : NdV F v (Ky.inn K B)) (H : Sat F w)
    (h : ∀ G v' w', NdV G v' (Ky.inn (Tb.swK K f t k') (Tb.swB B f t k' y')) → Sat (G * F) w' → Io w w' → R (.returned v') w') :
    Calls Tryz.prog 98 #[v, .int .i64 (f : Int), .int .i64 (t : Int), kv, yv] w R := by
  unfold Tb.swK Tb.swB Tb.swLow Tb.swHigh at h
  by_cases h0 : k'.length = 0
  · have e : k' = [] := List.eq_nil_of_length_eq_zero h0
    by_cases hf : 0 < f
    · rw [if_pos ⟨e, hf⟩, if_neg (by omega)] at h
      exact swap_v2 hlen hl hft htl hk hy ⟨h0, hf, by omega⟩ hkl hyl hv H h
    · obtain rfl : f = 0 := by omega
      rw [if_neg (by omega), if_pos ⟨e, rfl⟩] at h
      exact swap_v3 hlen hl hft htl hk hy ⟨h0, rfl, by omega⟩ hkl hyl hv H h
  · have e : ¬ k' = [] := fun e => h0 (by rw [e]; rfl)
    rw [if_neg (fun q => e q.1), if_neg (fun q => e q.1)] at h
    exact swap_v1 hlen hl hft htl hk hy ⟨by omega, hky⟩ hkl hyl hv H h
end
end Go.Proofs.YtojiffhknddleaaGreatDoor

/-
  node.Join, by a walk: regions whose order is drawn. It proves no statement by itself.
-/
namespace Go.Proofs.YtojiffhknddleaaGreatDoor
open Go.RowKit Go.Lib
set_option linter.unusedSimpArgs false
set_option linter.unusedVariables false
set_option linter.unusedSectionVars false
theorem eight {A B C D A' B' C' D' : Prop} (h : A ∧ B ∧ C ∧ D) (k : A' ∧ B' ∧ C' ∧ D') : A ∧ B ∧ C ∧ D ∧ A' ∧ B' ∧ C' ∧ D' := ⟨h.1, h.2.1, h.2.2.1, h.2.2.2, k⟩
theorem eight_up {W : World} {b b' : Nat} {x y z u x' y' z' u' : Value} {ob : Obj} (h : W.cell? ⟨b, 0, none⟩ = some x ∧ W.cell? ⟨b, 1, none⟩ = some y ∧ W.cell? ⟨b, 2, none⟩ = some z ∧ W.cell? ⟨b, 3, none⟩ = some u ∧ W.cell? ⟨b', 0, none⟩ = some x' ∧ W.cell? ⟨b', 1, none⟩ = some y' ∧ W.cell? ⟨b', 2, none⟩ = some z' ∧ W.cell? ⟨b', 3, none⟩ = some u') :
    (W.alloc ob).cell? ⟨b, 0, none⟩ = some x ∧ (W.alloc ob).cell? ⟨b, 1, none⟩ = some y ∧ (W.alloc ob).cell? ⟨b, 2, none⟩ = some z ∧ (W.alloc ob).cell? ⟨b, 3, none⟩ = some u ∧ (W.alloc ob).cell? ⟨b', 0, none⟩ = some x' ∧ (W.alloc ob).cell? ⟨b', 1, none⟩ = some y' ∧ (W.alloc ob).cell? ⟨b', 2, none⟩ = some z' ∧ (W.alloc ob).cell? ⟨b', 3, none⟩ = some u' := by
  obtain ⟨h0, h1, h2, h3, h4, h5, h6, h7⟩ := h
  simp [h0, h1, h2, h3, h4, h5, h6, h7, World.cell?_alloc_some]
theorem eight_d {W : World} {b b' : Nat} {x y z u x' y' z' u' : Value} {ob : Obj} (h : W.drew.cell? ⟨b, 0, none⟩ = some x ∧ W.drew.cell? ⟨b, 1, none⟩ = some y ∧ W.drew.cell? ⟨b, 2, none⟩ = some z ∧ W.drew.cell? ⟨b, 3, none⟩ = some u ∧ W.drew.cell? ⟨b', 0, none⟩ = some x' ∧ W.drew.cell? ⟨b', 1, none⟩ = some y' ∧ W.drew.cell? ⟨b', 2, none⟩ = some z' ∧ W.drew.cell? ⟨b', 3, none⟩ = some u') :
    (W.alloc ob).drew.cell? ⟨b, 0, none⟩ = some x ∧ (W.alloc ob).drew.cell? ⟨b, 1, none⟩ = some y ∧ (W.alloc ob).drew.cell? ⟨b, 2, none⟩ = some z ∧ (W.alloc ob).drew.cell? ⟨b, 3, none⟩ = some u ∧ (W.alloc ob).drew.cell? ⟨b', 0, none⟩ = some x' ∧ (W.alloc ob).drew.cell? ⟨b', 1, none⟩ = some y' ∧ (W.alloc ob).drew.cell? ⟨b', 2, none⟩ = some z' ∧ (W.alloc ob).drew.cell? ⟨b', 3, none⟩ = some u' := eight_up (W := W.drew) (ob := ob) h
theorem eight_s {W : World} {b b' b'' : Nat} {x y z u x' y' z' u' p q r s : Value} (hb : b'' ≠ b) (hb' : b'' ≠ b') (h : W.cell? ⟨b, 0, none⟩ = some x ∧ W.cell? ⟨b, 1, none⟩ = some y ∧ W.cell? ⟨b, 2, none⟩ = some z ∧ W.cell? ⟨b, 3, none⟩ = some u ∧ W.cell? ⟨b', 0, none⟩ = some x' ∧ W.cell? ⟨b', 1, none⟩ = some y' ∧ W.cell? ⟨b', 2, none⟩ = some z' ∧ W.cell? ⟨b', 3, none⟩ = some u') :
    ((((W.setCell ⟨b'', 0, none⟩ p).setCell ⟨b'', 1, none⟩ q).setCell ⟨b'', 2, none⟩ r).setCell ⟨b'', 3, none⟩ s).cell? ⟨b, 0, none⟩ = some x ∧ ((((W.setCell ⟨b'', 0, none⟩ p).setCell ⟨b'', 1, none⟩ q).setCell ⟨b'', 2, none⟩ r).setCell ⟨b'', 3, none⟩ s).cell? ⟨b, 1, none⟩ = some y ∧ ((((W.setCell ⟨b'', 0, none⟩ p).setCell ⟨b'', 1, none⟩ q).setCell ⟨b'', 2, none⟩ r).setCell ⟨b'', 3, none⟩ s).cell? ⟨b, 2, none⟩ = some z ∧ ((((W.setCell ⟨b'', 0, none⟩ p).setCell ⟨b'', 1, none⟩ q).setCell ⟨b'', 2, none⟩ r).setCell ⟨b'', 3, none⟩ s).cell? ⟨b, 3, none⟩ = some u ∧ ((((W.setCell ⟨b'', 0, none⟩ p).setCell ⟨b'', 1, none⟩ q).setCell ⟨b'', 2, none⟩ r).setCell ⟨b'', 3, none⟩ s).cell? ⟨b', 0, none⟩ = some x' ∧ ((((W.setCell ⟨b'', 0, none⟩ p).setCell ⟨b'', 1, none⟩ q).setCell ⟨b'', 2, none⟩ r).setCell ⟨b'', 3, none⟩ s).cell? ⟨b', 1, none⟩ = some y' ∧ ((((W.setCell ⟨b'', 0, none⟩ p).setCell ⟨b'', 1, none⟩ q).setCell ⟨b'', 2, none⟩ r).setCell ⟨b'', 3, none⟩ s).cell? ⟨b', 2, none⟩ = some z' ∧ ((((W.setCell ⟨b'', 0, none⟩ p).setCell ⟨b'', 1, none⟩ q).setCell ⟨b'', 2, none⟩ r).setCell ⟨b'', 3, none⟩ s).cell? ⟨b', 3, none⟩ = some u' := by
  obtain ⟨h0, h1, h2, h3, h4, h5, h6, h7⟩ := h
  simp [h0, h1, h2, h3, h4, h5, h6, h7, hb, hb', World.cell?_setCell_far]
section
variable {F : Asn} {w : World} {R : Ending → World → Prop}
set_option maxRecDepth 100000 in
set_option maxHeartbeats 40000000 in
theorem join_leaf {es es' : List Ky.En} {v u : Value} (y : ByteArray) (hl : es.length ≤ 5000 ∧ es'.length ≤ 5000) (hv : NdV F v (Ky.lf es)) (hu : NdV F u (Ky.lf es')) (H : Sat F w)
    (h : ∀ G v' w', NdV G v' (Ky.lf (es ++ es')) → Sat (G * F) w' → Io w w' → R (.returned v') w') :
    Calls Tryz.prog 128 #[v, .string y, u] w R := by
  obtain ⟨se, sk, sx, rfl, hh⟩ := hv
  dsimp only [Ky.inn, Ky.lf] at hh
  obtain ⟨⟨h1, s1⟩, ⟨h3, s3⟩, h5, s5⟩ := hh
  obtain ⟨te, tk, tx, rfl, hh⟩ := hu
  dsimp only [Ky.inn, Ky.lf] at hh
  obtain ⟨⟨g1, t1⟩, ⟨g3, t3⟩, g5, t5⟩ := hh
  obtain ⟨a1, c1, rfl, -⟩ := reads_shape h1
  obtain ⟨a3, c3, rfl, -⟩ := reads_shape h3
  obtain ⟨a5, c5, rfl, -⟩ := reads_shape h5
  obtain ⟨e1, d1, rfl, -⟩ := reads_shape g1
  obtain ⟨e3, d3, rfl, -⟩ := reads_shape g3
  obtain ⟨e5, d5, rfl, -⟩ := reads_shape g5
  have HH := Lib.hid h
  have R1 := Lib.hid h1
  have R3 := Lib.hid h3
  have R5 := Lib.hid h5
  have T1 := Lib.hid g1
  have T3 := Lib.hid g3
  have T5 := Lib.hid g5
  obtain ⟨n1, hn1⟩ : ∃ n, n = es.length := ⟨_, rfl⟩
  obtain ⟨l1, hl1⟩ : ∃ n, n = es'.length := ⟨_, rfl⟩
  rw [← hn1] at R1
  rw [← hl1] at T1
  simp only [Ky.lf, ← hn1, ← hl1]
  have Q1 : Hid (es.length ≤ 10000) := Lib.hid (by omega)
  have V1 : Hid (es'.length ≤ 10000) := Lib.hid (by omega)
  have Q3 : Hid (([] : List Int).length ≤ 10000) := Lib.hid (by simp)
  have Q5 : Hid (([] : List Ky.Nm).length ≤ 10000) := Lib.hid (by simp)
  have B1 : Hid ((es ++ es').length ≤ 1000000) := Lib.hid (by rw [List.length_append]; omega)
  have B3 : Hid ((([] : List Int) ++ []).length ≤ 1000000) := Lib.hid (by simp)
  have B5 : Hid ((([] : List Ky.Nm) ++ []).length ≤ 1000000) := Lib.hid (by simp)
  clear hn1 hl1
  have I := (((Io.refl w).alloc (.cells #[.bool true, .slice a1 n1 c1, .slice a3 0 c3, .slice a5 0 c5] 140)).alloc (.cells #[.bool true, .slice e1 l1 d1, .slice e3 0 d3, .slice e5 0 d5] 140)).alloc (.cells #[.bool false, .slice none 0 0, .slice none 0 0, .slice none 0 0] 140)
  have H := (((H.new (.cells #[.bool true, .slice a1 n1 c1, .slice a3 0 c3, .slice a5 0 c5] 140)).new (.cells #[.bool true, .slice e1 l1 d1, .slice e3 0 d3, .slice e5 0 d5] 140)).new (.cells #[.bool false, .slice none 0 0, .slice none 0 0, .slice none 0 0] 140)).in_emp
  simp only [heap_alloc, Nat.add_assoc, Nat.reduceAdd] at H
  change Calls Tryz.prog 128 #[.agg #[.bool true, .slice a1 n1 c1, .slice a3 0 c3, .slice a5 0 c5], .string y, .agg #[.bool true, .slice e1 l1 d1, .slice e3 0 d3, .slice e5 0 d5]] w R
  clear h h1 s1 h3 s3 h5 s5 g1 t1 g3 t3 g5 t5 hl
  go_enter Tryz.func128, Tryz.ntmps128
  go_upto_region 1 with fail
  generalize (((w.alloc (.cells #[.bool true, .slice a1 n1 c1, .slice a3 0 c3, .slice a5 0 c5] 140)).alloc (.cells #[.bool true, .slice e1 l1 d1, .slice e3 0 d3, .slice e5 0 d5] 140)).alloc (.cells #[.bool false, .slice none 0 0, .slice none 0 0, .slice none 0 0] 140)) = w1 at *
  generalize hb : w.heap.size = b at *
  simp only [Nat.add_assoc, Nat.reduceAdd]
  have hb1 : b + 2 ≠ b := by omega
  have hb2 : b + 2 ≠ b + 1 := by omega
  obtain ⟨q0, q1, q2, q3⟩ := nd4 H.right.right.right
  obtain ⟨p0, p1, p2, p3⟩ := nd4 H.right.right
  go_upto_region 4 with fail
  have Zu := eight (nd4 H.right.right.right) (nd4 H.right.right)
  replace I := I.drew
  replace H := H.drew
  clear q0 q1 q2 q3 p0 p1 p2 p3
  have Z := eight (nd4 H.right.right.right) (nd4 H.right.right)
  have Y := nd4 H.right
  have Yf := nd4f H.right
  go_region_held3 (fun W => W.cell? ⟨b, 0, none⟩ = some (.bool true) ∧ W.cell? ⟨b, 1, none⟩ = some (.slice a1 n1 c1) ∧ W.cell? ⟨b, 2, none⟩ = some (.slice a3 0 c3) ∧ W.cell? ⟨b, 3, none⟩ = some (.slice a5 0 c5) ∧ W.cell? ⟨b + 1, 0, none⟩ = some (.bool true) ∧ W.cell? ⟨b + 1, 1, none⟩ = some (.slice e1 l1 d1) ∧ W.cell? ⟨b + 1, 2, none⟩ = some (.slice e3 0 d3) ∧ W.cell? ⟨b + 1, 3, none⟩ = some (.slice e5 0 d5)) ((with_reducible (first | exact Z | (refine eight_d ?_; assumption) | (refine eight_up ?_; assumption) | (refine eight_s hb1 hb2 ?_; assumption)))) ((first
    | (go_at_call 121; (with_reducible (first | refine with_si H I (fun HS IS => ?_) | refine with_si (H.n1 _) (I.alloc _) (fun HS IS => ?_) | refine with_si ((H.n1 _).n1 _) ((I.alloc _).alloc _) (fun HS IS => ?_) | refine with_si (((H.n1 _).n1 _).n1 _) (((I.alloc _).alloc _).alloc _) (fun HS IS => ?_) | refine with_si ((((H.n1 _).n1 _).n1 _).n1 _) ((((I.alloc _).alloc _).alloc _).alloc _) (fun HS IS => ?_))); (try simp only [heap_alloc, Nat.add_assoc, Nat.reduceAdd] at HS); (with_reducible (first | refine glueE2_any (R1.out.imp (fun _ hw => hw.right.right.right.right)) Q1.out (T1.out.imp (fun _ hw => hw.right.right.right.right)) V1.out HS.p1 ?_ | refine glueE2_any (R1.out.imp (fun _ hw => hw.right.right.right.right)) Q1.out (T1.out.imp (fun _ hw => hw.right.right.right.right)) V1.out HS.p2 ?_ | refine glueE2_any (R1.out.imp (fun _ hw => hw.right.right.right.right)) Q1.out (T1.out.imp (fun _ hw => hw.right.right.right.right)) V1.out HS.p3 ?_ | refine glueE2_any (R1.out.imp (fun _ hw => hw.right.right.right.right)) Q1.out (T1.out.imp (fun _ hw => hw.right.right.right.right)) V1.out HS.p4 ?_ | refine glueE2_any (R1.out.imp (fun _ hw => hw.right.right.right.right)) Q1.out (T1.out.imp (fun _ hw => hw.right.right.right.right)) V1.out HS.p5 ?_ | refine glueE2_any (R1.out.imp (fun _ hw => hw.right.right.right.right)) Q1.out (T1.out.imp (fun _ hw => hw.right.right.right.right)) V1.out HS.p6 ?_ | refine glueE2_any (R1.out.imp (fun _ hw => hw.right.right.right.right)) Q1.out (T1.out.imp (fun _ hw => hw.right.right.right.right)) V1.out HS.p7 ?_ | refine glueE2_any (R1.out.imp (fun _ hw => hw.right.right.right.right)) Q1.out (T1.out.imp (fun _ hw => hw.right.right.right.right)) V1.out HS.p8 ?_)); clear H I Z Y Yf; (try clear Zu); intro vA wA H5 I5; obtain ⟨aA, mA, cA, rfl⟩ := rowOf_form3 H5; have RA := Lib.hid (Reads.of_row (emp_r H5.left) B1.out); have SA := Lib.hid (slOk_row H5); have H := H5.push; have I := IS.trans I5; clear H5 I5 HS IS; have Z := eight (nd4 H.right.right.right) (nd4 H.right.right); have Y := nd4 H.right; have Yf := nd4f H.right)
    | (go_at_call 122; (with_reducible (first | refine with_si H I (fun HS IS => ?_) | refine with_si (H.n1 _) (I.alloc _) (fun HS IS => ?_) | refine with_si ((H.n1 _).n1 _) ((I.alloc _).alloc _) (fun HS IS => ?_) | refine with_si (((H.n1 _).n1 _).n1 _) (((I.alloc _).alloc _).alloc _) (fun HS IS => ?_) | refine with_si ((((H.n1 _).n1 _).n1 _).n1 _) ((((I.alloc _).alloc _).alloc _).alloc _) (fun HS IS => ?_))); (try simp only [heap_alloc, Nat.add_assoc, Nat.reduceAdd] at HS); (with_reducible (first | refine glueNu2_any (R3.out.imp (fun _ hw => hw.right.right.right.right)) Q3.out (T3.out.imp (fun _ hw => hw.right.right.right.right)) Q3.out HS.p1 ?_ | refine glueNu2_any (R3.out.imp (fun _ hw => hw.right.right.right.right)) Q3.out (T3.out.imp (fun _ hw => hw.right.right.right.right)) Q3.out HS.p2 ?_ | refine glueNu2_any (R3.out.imp (fun _ hw => hw.right.right.right.right)) Q3.out (T3.out.imp (fun _ hw => hw.right.right.right.right)) Q3.out HS.p3 ?_ | refine glueNu2_any (R3.out.imp (fun _ hw => hw.right.right.right.right)) Q3.out (T3.out.imp (fun _ hw => hw.right.right.right.right)) Q3.out HS.p4 ?_ | refine glueNu2_any (R3.out.imp (fun _ hw => hw.right.right.right.right)) Q3.out (T3.out.imp (fun _ hw => hw.right.right.right.right)) Q3.out HS.p5 ?_ | refine glueNu2_any (R3.out.imp (fun _ hw => hw.right.right.right.right)) Q3.out (T3.out.imp (fun _ hw => hw.right.right.right.right)) Q3.out HS.p6 ?_ | refine glueNu2_any (R3.out.imp (fun _ hw => hw.right.right.right.right)) Q3.out (T3.out.imp (fun _ hw => hw.right.right.right.right)) Q3.out HS.p7 ?_ | refine glueNu2_any (R3.out.imp (fun _ hw => hw.right.right.right.right)) Q3.out (T3.out.imp (fun _ hw => hw.right.right.right.right)) Q3.out HS.p8 ?_)); clear H I Z Y Yf; (try clear Zu); intro vB wB H5 I5; obtain ⟨aB, mB, cB, rfl⟩ := rowOf_form3 H5; have RB := Lib.hid (Reads.of_row (emp_r H5.left) B3.out); have SB := Lib.hid (slOk_row H5); have H := H5.push; have I := IS.trans I5; clear H5 I5 HS IS; have Z := eight (nd4 H.right.right.right) (nd4 H.right.right); have Y := nd4 H.right; have Yf := nd4f H.right)
    | (go_at_call 123; (with_reducible (first | refine with_si H I (fun HS IS => ?_) | refine with_si (H.n1 _) (I.alloc _) (fun HS IS => ?_) | refine with_si ((H.n1 _).n1 _) ((I.alloc _).alloc _) (fun HS IS => ?_) | refine with_si (((H.n1 _).n1 _).n1 _) (((I.alloc _).alloc _).alloc _) (fun HS IS => ?_) | refine with_si ((((H.n1 _).n1 _).n1 _).n1 _) ((((I.alloc _).alloc _).alloc _).alloc _) (fun HS IS => ?_))); (try simp only [heap_alloc, Nat.add_assoc, Nat.reduceAdd] at HS); (with_reducible (first | refine glueTx2_any (R5.out.imp (fun _ hw => hw.right.right.right.right)) Q5.out (T5.out.imp (fun _ hw => hw.right.right.right.right)) Q5.out HS.p1 ?_ | refine glueTx2_any (R5.out.imp (fun _ hw => hw.right.right.right.right)) Q5.out (T5.out.imp (fun _ hw => hw.right.right.right.right)) Q5.out HS.p2 ?_ | refine glueTx2_any (R5.out.imp (fun _ hw => hw.right.right.right.right)) Q5.out (T5.out.imp (fun _ hw => hw.right.right.right.right)) Q5.out HS.p3 ?_ | refine glueTx2_any (R5.out.imp (fun _ hw => hw.right.right.right.right)) Q5.out (T5.out.imp (fun _ hw => hw.right.right.right.right)) Q5.out HS.p4 ?_ | refine glueTx2_any (R5.out.imp (fun _ hw => hw.right.right.right.right)) Q5.out (T5.out.imp (fun _ hw => hw.right.right.right.right)) Q5.out HS.p5 ?_ | refine glueTx2_any (R5.out.imp (fun _ hw => hw.right.right.right.right)) Q5.out (T5.out.imp (fun _ hw => hw.right.right.right.right)) Q5.out HS.p6 ?_ | refine glueTx2_any (R5.out.imp (fun _ hw => hw.right.right.right.right)) Q5.out (T5.out.imp (fun _ hw => hw.right.right.right.right)) Q5.out HS.p7 ?_ | refine glueTx2_any (R5.out.imp (fun _ hw => hw.right.right.right.right)) Q5.out (T5.out.imp (fun _ hw => hw.right.right.right.right)) Q5.out HS.p8 ?_)); clear H I Z Y Yf; (try clear Zu); intro vC wC H5 I5; obtain ⟨aC, mC, cC, rfl⟩ := rowOf_form3 H5; have RC := Lib.hid (Reads.of_row (emp_r H5.left) B5.out); have SC := Lib.hid (slOk_row H5); have H := H5.push; have I := IS.trans I5; clear H5 I5 HS IS; have Z := eight (nd4 H.right.right.right) (nd4 H.right.right); have Y := nd4 H.right; have Yf := nd4f H.right)))
  all_goals (
    have K := (H.sw).cells4 (x' := .bool true) (y' := .slice aA mA cA) (z' := .slice aB mB cB) (u' := .slice aC mC cC)
    have J := (((I.setCell ⟨b + 2, 0, none⟩ (.bool true)).setCell ⟨b + 2, 1, none⟩ (.slice aA mA cA)).setCell ⟨b + 2, 2, none⟩ (.slice aB mB cB)).setCell ⟨b + 2, 3, none⟩ (.slice aC mC cC)
    go_wp2_with fail
    generalize ((((wC.setCell ⟨b + 2, 0, none⟩ (.bool true)).setCell ⟨b + 2, 1, none⟩ (.slice aA mA cA)).setCell ⟨b + 2, 2, none⟩ (.slice aB mB cB)).setCell ⟨b + 2, 3, none⟩ (.slice aC mC cC)) = W at *
    clear Z Y Yf
    obtain ⟨y0, y1, y2, y3⟩ := nd4 K
    exact bodyPost_ret (v := .agg #[.bool true, .slice aA mA cA, .slice aB mB cB, .slice aC mC cC]) (by simp [results, Tryz.results128, go_sem, y0, y1, y2, y3]) rfl (HH.out _ _ _ ⟨_, _, _, rfl, ⟨(RA.out.imp (fun _ hw => (by with_reducible first | exact emp_r hw.right.right.left | exact emp_r hw.right.right.right.left))), SA.out⟩, ⟨(RB.out.imp (fun _ hw => (by with_reducible first | exact emp_r hw.right.left | exact emp_r hw.right.right.left))), SB.out⟩, (RC.out.imp (fun _ hw => emp_r hw.left)), SC.out⟩ K.right.drop2 J))
end
end Go.Proofs.YtojiffhknddleaaGreatDoor
