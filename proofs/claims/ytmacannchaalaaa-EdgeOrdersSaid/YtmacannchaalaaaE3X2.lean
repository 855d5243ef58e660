/-
  Edges: the statement of orders, by its walk. It proves no statement by itself.
-/
import Derived.Test.YtmacannchaalaaaE3U
import Derived.Test.YtmacannchaalaaaE3w
namespace Go.Proofs.Ytmacannchaalaaa
open Go.RowKit
set_option linter.unusedSimpArgs false
set_option linter.unusedVariables false

section
variable {F : Asn} {w : World} {R : Ending → World → Prop}
set_option maxRecDepth 100000 in
set_option maxHeartbeats 4000000 in
theorem edgeOrders_any (a b : Pr) (H : Sat F w) (h : ∀ w', Sat F w' → Io w w' → R (.returned (.bool true)) w') : Calls Try.prog 5 #[.agg #[.int .i64 a.1, .int .i64 a.2], .agg #[.int .i64 b.1, .int .i64 b.2]] w R := by
  have HH := Lib.hid h
  clear h
  have vc := cmpP_val a b
  obtain ⟨c, hc⟩ : ∃ c, Hid (c = cmpP a b) := ⟨_, Lib.hid rfl⟩
  obtain ⟨p, hp⟩ : ∃ p, Hid (p = Eg.less a b) := ⟨_, Lib.hid rfl⟩
  obtain ⟨q, hq⟩ : ∃ q, Hid (q = Eg.less b a) := ⟨_, Lib.hid rfl⟩
  rw [← hc.out, ← hp.out, ← hq.out] at vc
  have hpq : ¬ (p = true ∧ q = true) := by
    rintro ⟨h1, h2⟩
    have := Eg.less_asym (a := a) (b := b) (by rw [← hp.out]; exact h1)
    rw [← hq.out, h2] at this
    cases this
  obtain ⟨k, hk⟩ : ∃ k, keyS a.1 a.2 = k := ⟨_, rfl⟩
  obtain ⟨m, hm⟩ : ∃ m, keyS b.1 b.2 = m := ⟨_, rfl⟩
  obtain ⟨e, he⟩ : ∃ e, keyE a.1 a.2 = e := ⟨_, rfl⟩
  obtain ⟨f, hf⟩ : ∃ f, keyE b.1 b.2 = f := ⟨_, rfl⟩
  have LS : e = 0 → f = 0 → Op.bytesLess k.toList m.toList = p ∧ (k.toList == m.toList) = decide (c = 0) := fun h1 h2 => by
    rw [← hk, ← hm, key_less (he.trans h1) (hf.trans h2), key_same (he.trans h1) (hf.trans h2), hp.out, hc.out]
    exact ⟨rfl, by rw [decide_eq_decide]; exact (cmpP_zero a b).symm⟩
  have HK := Lib.hid hk
  have HM := Lib.hid hm
  have HE := Lib.hid he
  have HF := Lib.hid hf
  clear hk hm he hf
  obtain ⟨a1, a2⟩ := a
  obtain ⟨b1, b2⟩ := b
  have A := H.new (.cells #[.int .i64 a1, .int .i64 a2] 25)
  have B := A.new (.cells #[.int .i64 b1, .int .i64 b2] 25)
  have IB := ((Io.refl w).alloc (.cells #[.int .i64 a1, .int .i64 a2] 25)).alloc (.cells #[.int .i64 b1, .int .i64 b2] 25)
  have zs : (w.alloc (.cells #[.int .i64 a1, .int .i64 a2] 25)).heap.size = w.heap.size + 1 := by simp
  rw [zs] at B
  have C := B
  generalize hw0 : (w.alloc (.cells #[.int .i64 a1, .int .i64 a2] 25)).alloc (.cells #[.int .i64 b1, .int .i64 b2] 25) = w0 at B IB C
  have HW0 := Lib.hid hw0
  generalize hg : w.heap.size = g at B C
  clear zs A hw0
  have cells : ∀ W, Sat (pts (g + 1) (.cells #[.int .i64 b1, .int .i64 b2] 25 (0, 0)) * (pts g (.cells #[.int .i64 a1, .int .i64 a2] 25 (0, 0)) * F)) W →
      (W.cell? ⟨g, 0, none⟩ = some (.int .i64 a1) ∧ W.cell? ⟨g, 1, none⟩ = some (.int .i64 a2)) ∧ (W.cell? ⟨g + 1, 0, none⟩ = some (.int .i64 b1) ∧ W.cell? ⟨g + 1, 1, none⟩ = some (.int .i64 b2)) := fun W HW => ⟨box_cells HW.right, box_cells HW⟩
  have CL := Lib.hid cells
  clear cells
  have key : c = (if p = true then -1 else if q = true then 1 else 0) := vc
  by_cases h0 : e = 0
  · by_cases h1 : f = 0
    · subst h0
      subst h1
      obtain ⟨l1, l2⟩ := LS rfl rfl
      cases p with
      | true =>
        have hqf : q = false := by cases q <;> simp_all
        subst hqf
        obtain rfl : c = -1 := by simpa using key
        simp only [Int.reduceNeg, reduceCtorEq, decide_false, Int.reduceEq] at l2
        clear key vc hpq LS
        go_enter Try.func5, Try.ntmps5
        go_wp2_with fail
        rw [HW0.out]
        refine works_any C ?_
        intro w1 H1 I1
        obtain ⟨⟨y0, y1⟩, ⟨y2, y3⟩⟩ := CL.out w1 H1
        go_wp2_with (first
          | (go_at_call 18; with_reducible refine cmp_d (a1, a2) (b1, b2) hc H1 ?_; intro w2 H2 I2; obtain ⟨⟨x0, x1⟩, ⟨x2, x3⟩⟩ := CL.out w2 H2)
          | (go_at_call 19; first
            | (with_reducible refine rless_d (a1, a2) (b1, b2) hp H2 ?_; intro w3 H3 I3; obtain ⟨⟨u0, u1⟩, ⟨u2, u3⟩⟩ := CL.out w3 H3)
            | (with_reducible refine rless_d (b1, b2) (a1, a2) hq H3 ?_; intro w4 H4 I4; obtain ⟨⟨s0, s1⟩, ⟨s2, s3⟩⟩ := CL.out w4 H4))
          | (go_at_call 15; first
            | (with_reducible refine key_d H4 a1 a2 HK HE ?_; intro w5 H5 I5; obtain ⟨⟨t0, t1⟩, ⟨t2, t3⟩⟩ := CL.out w5 H5)
            | (with_reducible refine key_d H5 b1 b2 HM HF ?_; intro w6 H6 I6)))
        exact HH.out _ H6.right.right ((((((IB.trans I1).trans I2).trans I3).trans I4).trans I5).trans I6)
      | false =>
        cases q with
        | true =>
          obtain rfl : c = 1 := by simpa using key
          simp only [Int.reduceNeg, reduceCtorEq, decide_false, Int.reduceEq] at l2
          clear key vc hpq LS
          go_enter Try.func5, Try.ntmps5
          go_wp2_with fail
          rw [HW0.out]
          refine works_any C ?_
          intro w1 H1 I1
          obtain ⟨⟨y0, y1⟩, ⟨y2, y3⟩⟩ := CL.out w1 H1
          go_wp2_with (first
            | (go_at_call 18; with_reducible refine cmp_d (a1, a2) (b1, b2) hc H1 ?_; intro w2 H2 I2; obtain ⟨⟨x0, x1⟩, ⟨x2, x3⟩⟩ := CL.out w2 H2)
            | (go_at_call 19; first
              | (with_reducible refine rless_d (a1, a2) (b1, b2) hp H2 ?_; intro w3 H3 I3; obtain ⟨⟨u0, u1⟩, ⟨u2, u3⟩⟩ := CL.out w3 H3)
              | (with_reducible refine rless_d (b1, b2) (a1, a2) hq H3 ?_; intro w4 H4 I4; obtain ⟨⟨s0, s1⟩, ⟨s2, s3⟩⟩ := CL.out w4 H4))
            | (go_at_call 15; first
              | (with_reducible refine key_d H4 a1 a2 HK HE ?_; intro w5 H5 I5; obtain ⟨⟨t0, t1⟩, ⟨t2, t3⟩⟩ := CL.out w5 H5)
              | (with_reducible refine key_d H5 b1 b2 HM HF ?_; intro w6 H6 I6)))
          exact HH.out _ H6.right.right ((((((IB.trans I1).trans I2).trans I3).trans I4).trans I5).trans I6)
        | false =>
          obtain rfl : c = 0 := by simpa using key
          simp only [decide_true] at l2
          clear key vc hpq LS
          go_enter Try.func5, Try.ntmps5
          go_wp2_with fail
          rw [HW0.out]
          refine works_any C ?_
          intro w1 H1 I1
          obtain ⟨⟨y0, y1⟩, ⟨y2, y3⟩⟩ := CL.out w1 H1
          go_wp2_with (first
            | (go_at_call 18; with_reducible refine cmp_d (a1, a2) (b1, b2) hc H1 ?_; intro w2 H2 I2; obtain ⟨⟨x0, x1⟩, ⟨x2, x3⟩⟩ := CL.out w2 H2)
            | (go_at_call 19; first
              | (with_reducible refine rless_d (a1, a2) (b1, b2) hp H2 ?_; intro w3 H3 I3; obtain ⟨⟨u0, u1⟩, ⟨u2, u3⟩⟩ := CL.out w3 H3)
              | (with_reducible refine rless_d (b1, b2) (a1, a2) hq H3 ?_; intro w4 H4 I4; obtain ⟨⟨s0, s1⟩, ⟨s2, s3⟩⟩ := CL.out w4 H4))
            | (go_at_call 15; first
              | (with_reducible refine key_d H4 a1 a2 HK HE ?_; intro w5 H5 I5; obtain ⟨⟨t0, t1⟩, ⟨t2, t3⟩⟩ := CL.out w5 H5)
              | (with_reducible refine key_d H5 b1 b2 HM HF ?_; intro w6 H6 I6)))
          exact HH.out _ H6.right.right ((((((IB.trans I1).trans I2).trans I3).trans I4).trans I5).trans I6)
    · subst h0
      have f1 : (f != 0) = true := by simpa using h1
      cases p with
      | true =>
        have hqf : q = false := by cases q <;> simp_all
        subst hqf
        obtain rfl : c = -1 := by simpa using key
        clear key vc hpq LS
        go_enter Try.func5, Try.ntmps5
        go_wp2_with fail
        rw [HW0.out]
        refine works_any C ?_
        intro w1 H1 I1
        obtain ⟨⟨y0, y1⟩, ⟨y2, y3⟩⟩ := CL.out w1 H1
        go_wp2_with (first
          | (go_at_call 18; with_reducible refine cmp_d (a1, a2) (b1, b2) hc H1 ?_; intro w2 H2 I2; obtain ⟨⟨x0, x1⟩, ⟨x2, x3⟩⟩ := CL.out w2 H2)
          | (go_at_call 19; first
            | (with_reducible refine rless_d (a1, a2) (b1, b2) hp H2 ?_; intro w3 H3 I3; obtain ⟨⟨u0, u1⟩, ⟨u2, u3⟩⟩ := CL.out w3 H3)
            | (with_reducible refine rless_d (b1, b2) (a1, a2) hq H3 ?_; intro w4 H4 I4; obtain ⟨⟨s0, s1⟩, ⟨s2, s3⟩⟩ := CL.out w4 H4))
          | (go_at_call 15; first
            | (with_reducible refine key_d H4 a1 a2 HK HE ?_; intro w5 H5 I5; obtain ⟨⟨t0, t1⟩, ⟨t2, t3⟩⟩ := CL.out w5 H5)
            | (with_reducible refine key_d H5 b1 b2 HM HF ?_; intro w6 H6 I6)))
        exact HH.out _ H6.right.right ((((((IB.trans I1).trans I2).trans I3).trans I4).trans I5).trans I6)
      | false =>
        cases q with
        | true =>
          obtain rfl : c = 1 := by simpa using key
          clear key vc hpq LS
          go_enter Try.func5, Try.ntmps5
          go_wp2_with fail
          rw [HW0.out]
          refine works_any C ?_
          intro w1 H1 I1
          obtain ⟨⟨y0, y1⟩, ⟨y2, y3⟩⟩ := CL.out w1 H1
          go_wp2_with (first
            | (go_at_call 18; with_reducible refine cmp_d (a1, a2) (b1, b2) hc H1 ?_; intro w2 H2 I2; obtain ⟨⟨x0, x1⟩, ⟨x2, x3⟩⟩ := CL.out w2 H2)
            | (go_at_call 19; first
              | (with_reducible refine rless_d (a1, a2) (b1, b2) hp H2 ?_; intro w3 H3 I3; obtain ⟨⟨u0, u1⟩, ⟨u2, u3⟩⟩ := CL.out w3 H3)
              | (with_reducible refine rless_d (b1, b2) (a1, a2) hq H3 ?_; intro w4 H4 I4; obtain ⟨⟨s0, s1⟩, ⟨s2, s3⟩⟩ := CL.out w4 H4))
            | (go_at_call 15; first
              | (with_reducible refine key_d H4 a1 a2 HK HE ?_; intro w5 H5 I5; obtain ⟨⟨t0, t1⟩, ⟨t2, t3⟩⟩ := CL.out w5 H5)
              | (with_reducible refine key_d H5 b1 b2 HM HF ?_; intro w6 H6 I6)))
          exact HH.out _ H6.right.right ((((((IB.trans I1).trans I2).trans I3).trans I4).trans I5).trans I6)
        | false =>
          obtain rfl : c = 0 := by simpa using key
          clear key vc hpq LS
          go_enter Try.func5, Try.ntmps5
          go_wp2_with fail
          rw [HW0.out]
          refine works_any C ?_
          intro w1 H1 I1
          obtain ⟨⟨y0, y1⟩, ⟨y2, y3⟩⟩ := CL.out w1 H1
          go_wp2_with (first
            | (go_at_call 18; with_reducible refine cmp_d (a1, a2) (b1, b2) hc H1 ?_; intro w2 H2 I2; obtain ⟨⟨x0, x1⟩, ⟨x2, x3⟩⟩ := CL.out w2 H2)
            | (go_at_call 19; first
              | (with_reducible refine rless_d (a1, a2) (b1, b2) hp H2 ?_; intro w3 H3 I3; obtain ⟨⟨u0, u1⟩, ⟨u2, u3⟩⟩ := CL.out w3 H3)
              | (with_reducible refine rless_d (b1, b2) (a1, a2) hq H3 ?_; intro w4 H4 I4; obtain ⟨⟨s0, s1⟩, ⟨s2, s3⟩⟩ := CL.out w4 H4))
            | (go_at_call 15; first
              | (with_reducible refine key_d H4 a1 a2 HK HE ?_; intro w5 H5 I5; obtain ⟨⟨t0, t1⟩, ⟨t2, t3⟩⟩ := CL.out w5 H5)
              | (with_reducible refine key_d H5 b1 b2 HM HF ?_; intro w6 H6 I6)))
          exact HH.out _ H6.right.right ((((((IB.trans I1).trans I2).trans I3).trans I4).trans I5).trans I6)
  · have e1 : (e != 0) = true := by simpa using h0
    cases p with
    | true =>
      have hqf : q = false := by cases q <;> simp_all
      subst hqf
      obtain rfl : c = -1 := by simpa using key
      clear key vc hpq LS
      go_enter Try.func5, Try.ntmps5
      go_wp2_with fail
      rw [HW0.out]
      refine works_any C ?_
      intro w1 H1 I1
      obtain ⟨⟨y0, y1⟩, ⟨y2, y3⟩⟩ := CL.out w1 H1
      go_wp2_with (first
        | (go_at_call 18; with_reducible refine cmp_d (a1, a2) (b1, b2) hc H1 ?_; intro w2 H2 I2; obtain ⟨⟨x0, x1⟩, ⟨x2, x3⟩⟩ := CL.out w2 H2)
        | (go_at_call 19; first
          | (with_reducible refine rless_d (a1, a2) (b1, b2) hp H2 ?_; intro w3 H3 I3; obtain ⟨⟨u0, u1⟩, ⟨u2, u3⟩⟩ := CL.out w3 H3)
          | (with_reducible refine rless_d (b1, b2) (a1, a2) hq H3 ?_; intro w4 H4 I4; obtain ⟨⟨s0, s1⟩, ⟨s2, s3⟩⟩ := CL.out w4 H4))
        | (go_at_call 15; first
          | (with_reducible refine key_d H4 a1 a2 HK HE ?_; intro w5 H5 I5; obtain ⟨⟨t0, t1⟩, ⟨t2, t3⟩⟩ := CL.out w5 H5)
          | (with_reducible refine key_d H5 b1 b2 HM HF ?_; intro w6 H6 I6)))
      exact HH.out _ H6.right.right ((((((IB.trans I1).trans I2).trans I3).trans I4).trans I5).trans I6)
    | false =>
      cases q with
      | true =>
        obtain rfl : c = 1 := by simpa using key
        clear key vc hpq LS
        go_enter Try.func5, Try.ntmps5
        go_wp2_with fail
        rw [HW0.out]
        refine works_any C ?_
        intro w1 H1 I1
        obtain ⟨⟨y0, y1⟩, ⟨y2, y3⟩⟩ := CL.out w1 H1
        go_wp2_with (first
          | (go_at_call 18; with_reducible refine cmp_d (a1, a2) (b1, b2) hc H1 ?_; intro w2 H2 I2; obtain ⟨⟨x0, x1⟩, ⟨x2, x3⟩⟩ := CL.out w2 H2)
          | (go_at_call 19; first
            | (with_reducible refine rless_d (a1, a2) (b1, b2) hp H2 ?_; intro w3 H3 I3; obtain ⟨⟨u0, u1⟩, ⟨u2, u3⟩⟩ := CL.out w3 H3)
            | (with_reducible refine rless_d (b1, b2) (a1, a2) hq H3 ?_; intro w4 H4 I4; obtain ⟨⟨s0, s1⟩, ⟨s2, s3⟩⟩ := CL.out w4 H4))
          | (go_at_call 15; first
            | (with_reducible refine key_d H4 a1 a2 HK HE ?_; intro w5 H5 I5; obtain ⟨⟨t0, t1⟩, ⟨t2, t3⟩⟩ := CL.out w5 H5)
            | (with_reducible refine key_d H5 b1 b2 HM HF ?_; intro w6 H6 I6)))
        exact HH.out _ H6.right.right ((((((IB.trans I1).trans I2).trans I3).trans I4).trans I5).trans I6)
      | false =>
        obtain rfl : c = 0 := by simpa using key
        clear key vc hpq LS
        go_enter Try.func5, Try.ntmps5
        go_wp2_with fail
        rw [HW0.out]
        refine works_any C ?_
        intro w1 H1 I1
        obtain ⟨⟨y0, y1⟩, ⟨y2, y3⟩⟩ := CL.out w1 H1
        go_wp2_with (first
          | (go_at_call 18; with_reducible refine cmp_d (a1, a2) (b1, b2) hc H1 ?_; intro w2 H2 I2; obtain ⟨⟨x0, x1⟩, ⟨x2, x3⟩⟩ := CL.out w2 H2)
          | (go_at_call 19; first
            | (with_reducible refine rless_d (a1, a2) (b1, b2) hp H2 ?_; intro w3 H3 I3; obtain ⟨⟨u0, u1⟩, ⟨u2, u3⟩⟩ := CL.out w3 H3)
            | (with_reducible refine rless_d (b1, b2) (a1, a2) hq H3 ?_; intro w4 H4 I4; obtain ⟨⟨s0, s1⟩, ⟨s2, s3⟩⟩ := CL.out w4 H4))
          | (go_at_call 15; first
            | (with_reducible refine key_d H4 a1 a2 HK HE ?_; intro w5 H5 I5; obtain ⟨⟨t0, t1⟩, ⟨t2, t3⟩⟩ := CL.out w5 H5)
            | (with_reducible refine key_d H5 b1 b2 HM HF ?_; intro w6 H6 I6)))
        exact HH.out _ H6.right.right ((((((IB.trans I1).trans I2).trans I3).trans I4).trans I5).trans I6)
end
end Go.Proofs.Ytmacannchaalaaa
