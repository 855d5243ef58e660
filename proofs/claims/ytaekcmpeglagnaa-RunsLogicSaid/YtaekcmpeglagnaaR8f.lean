/-
  Runs: RunsLogic, case by case, by its walk. It proves no statement by itself.
-/
import Derived.Test.YtaekcmpeglagnaaRw8
import Derived.Test.YtaekcmpeglagnaaR8c
namespace Go.Proofs.Ytaekcmpeglagnaa
open Go.RowKit Go.Lib
set_option linter.unusedSimpArgs false
set_option linter.unusedVariables false

section
variable {F : Asn} {w : World} {R : Ending → World → Prop}
set_option maxRecDepth 100000 in
set_option maxHeartbeats 8000000 in
theorem runsLogic_ff_in1 {a b : List Rn} {aa ba : Option Addr} {ac bc : Nat} (n m : Int) (hx : ¬ Rs.Has a n) (hy : ¬ Rs.Has b n) (hn0 : 0 ≤ n) (hn1 : n ≤ 4294967295) (he : n = m) (ha : ReadsR F (.slice aa a.length ac) a) (hb : ReadsR F (.slice ba b.length bc) b) (am : (a.length : Int) ≤ 9223372036854775807) (bm' : (b.length : Int) ≤ 9223372036854775807) (qa : ¬ (40 : Int) < (a.length : Int)) (qb : ¬ (40 : Int) < (b.length : Int)) (H : Sat F w) (h : ∀ w', Sat F w' → Io w w' → R (.returned (.bool true)) w') : Calls Try.prog 8 #[.slice aa a.length ac, .slice ba b.length bc, .int .i64 n, .int .i64 m] w R := by
  have HH := Lib.hid h
  clear h
  have hn : 0 ≤ n ∧ n ≤ Rs.most := ⟨hn0, hn1⟩
  subst he
  have l1 := Rs.minus_len a b
  have l2 := Rs.union_len a b
  have l4 := Rs.meet_len a b
  have l7 := Rs.union_len a [(n, n)]
  have l9 := Rs.minus_len a [(n, n)]
  simp only [List.length_cons, List.length_nil, Nat.zero_add] at l7 l9
  have NX : Hid (false = decide (Rs.Has a n)) := Lib.hid (by simp [hx])
  have NY : Hid (false = decide (Rs.Has b n)) := Lib.hid (by simp [hy])
  have NU : Hid (false = decide (Rs.Has (Rs.union a b) n)) := Lib.hid (by simp [Rs.has_union, Rs.has_minus, Rs.has_meet, Rs.has_one, hx, hy, hn])
  have NM : Hid (false = decide (Rs.Has (Rs.minus a b) n)) := Lib.hid (by simp [Rs.has_union, Rs.has_minus, Rs.has_meet, Rs.has_one, hx, hy, hn])
  have NI : Hid (false = decide (Rs.Has (Rs.meet a b) n)) := Lib.hid (by simp [Rs.has_union, Rs.has_minus, Rs.has_meet, Rs.has_one, hx, hy, hn])
  have NA : Hid (true = decide (Rs.Has (Rs.union a [(n, n)]) n)) := Lib.hid (by simp [Rs.has_union, Rs.has_minus, Rs.has_meet, Rs.has_one, hx, hy, hn])
  have NR : Hid (false = decide (Rs.Has (Rs.minus a [(n, n)]) n)) := Lib.hid (by simp [Rs.has_union, Rs.has_minus, Rs.has_meet, Rs.has_one, hx, hy, hn])
  obtain ⟨cu, CU⟩ : ∃ c, Hid (c = Rs.count (Rs.union a b)) := ⟨_, Lib.hid rfl⟩
  obtain ⟨cm, CM⟩ : ∃ c, Hid (c = Rs.count (Rs.meet a b)) := ⟨_, Lib.hid rfl⟩
  obtain ⟨ca, CA⟩ : ∃ c, Hid (c = Rs.count a) := ⟨_, Lib.hid rfl⟩
  obtain ⟨cb, CB⟩ : ∃ c, Hid (c = Rs.count b) := ⟨_, Lib.hid rfl⟩
  have ec : cu + cm = ca + cb := by rw [CU.out, CM.out, CA.out, CB.out]; exact Rs.count_both a b
  have bu := Rs.count_range (Rs.union a b)
  have bm := Rs.count_range (Rs.meet a b)
  have ba := Rs.count_range a
  have bb := Rs.count_range b
  rw [← CU.out] at bu
  rw [← CM.out] at bm
  rw [← CA.out] at ba
  rw [← CB.out] at bb
  simp only [Rs.most] at bu bm ba bb
  obtain ⟨bu0, bu1⟩ := bu
  obtain ⟨bm0, bm1⟩ := bm
  obtain ⟨ba0, ba1⟩ := ba
  obtain ⟨bb0, bb1⟩ := bb
  have HX := Lib.hid hx
  have HY := Lib.hid hy
  clear hx hy
  go_enter Try.func8, Try.ntmps8
  go_wp2_with (first
    | (go_at_call 9; with_reducible refine works_any H ?_; intro w1 H1 I1)
    | (go_at_call 12; first
      | (with_reducible refine has_any ha n NX H1 ?_; intro w2 H2 I2)
      | (with_reducible refine has_any hb n NY H2 ?_; intro w3 H3 I3)
      | (with_reducible refine has_any r4 n NU H4 ?_; intro w5 H5 I5; have G5 := H5.right)
      | (with_reducible refine has_any r6 n NM H6 ?_; intro w7 H7 I7; have G7 := H7.right)
      | (with_reducible refine has_any r8 n NI H8 ?_; intro w9 H9 I9; have G9 := H9.right)
      | (with_reducible refine has_any r10 n NA H10 ?_; intro w11 H11 I11; have G11 := H11.right)
      | (with_reducible refine has_any r12 n NR H12 ?_; intro w13 H13 I13; have G13 := H13.right))
    | (go_at_call 18; first
      | (with_reducible refine union_any ha (by omega) hb (by omega) H3 ?_; intro v4 w4 H4 I4; have r4 := Reads.of_row H4 (by omega))
      | (with_reducible refine union_any ha (by omega) hb (by omega) G13 ?_; intro v14 w14 H14 I14; have r14 := Reads.of_row H14 (by omega)))
    | (go_at_call 20; first
      | (with_reducible refine minusr_any ha (by omega) hb (by omega) G5 ?_; intro v6 w6 H6 I6; have r6 := Reads.of_row H6 (by omega)))
    | (go_at_call 21; first
      | (with_reducible refine meet_any ha (by omega) hb (by omega) G7 ?_; intro v8 w8 H8 I8; have r8 := Reads.of_row H8 (by omega))
      | (with_reducible refine meet_any ha (by omega) hb (by omega) G15 ?_; intro v16 w16 H16 I16; have r16 := Reads.of_row H16 (by omega)))
    | (go_at_call 25; first
      | (with_reducible refine add_any ha (by omega) n G9 ?_; intro v10 w10 H10 I10; have r10 := Reads.of_row H10 (by omega)))
    | (go_at_call 23; first
      | (with_reducible refine remove_any ha (by omega) n G11 ?_; intro v12 w12 H12 I12; have r12 := Reads.of_row H12 (by omega)))
    | (go_at_call 14; first
      | (with_reducible refine count_any r14 (by omega) CU H14 ?_; intro w15 H15 I15; have G15 := H15.right)
      | (with_reducible refine count_any r16 (by omega) CM H16 ?_; intro w17 H17 I17; have G17 := H17.right)
      | (with_reducible refine count_any ha (by omega) CA G17 ?_; intro w18 H18 I18)
      | (with_reducible refine count_any hb (by omega) CB H18 ?_; intro w19 H19 I19)))
  have fin := HH.out _ H19 (((((((((((((((((((I1).trans I2).trans I3).trans I4).trans I5).trans I6).trans I7).trans I8).trans I9).trans I10).trans I11).trans I12).trans I13).trans I14).trans I15).trans I16).trans I17).trans I18).trans I19)
  exact fin
set_option maxRecDepth 100000 in
set_option maxHeartbeats 8000000 in
theorem runsLogic_ff_in0 {a b : List Rn} {aa ba : Option Addr} {ac bc : Nat} (n m : Int) (hx : ¬ Rs.Has a n) (hy : ¬ Rs.Has b n) (hn0 : 0 ≤ n) (hn1 : n ≤ 4294967295) (he : ¬ n = m) (ha : ReadsR F (.slice aa a.length ac) a) (hb : ReadsR F (.slice ba b.length bc) b) (am : (a.length : Int) ≤ 9223372036854775807) (bm' : (b.length : Int) ≤ 9223372036854775807) (qa : ¬ (40 : Int) < (a.length : Int)) (qb : ¬ (40 : Int) < (b.length : Int)) (H : Sat F w) (h : ∀ w', Sat F w' → Io w w' → R (.returned (.bool true)) w') : Calls Try.prog 8 #[.slice aa a.length ac, .slice ba b.length bc, .int .i64 n, .int .i64 m] w R := by
  have HH := Lib.hid h
  clear h
  have hn : 0 ≤ n ∧ n ≤ Rs.most := ⟨hn0, hn1⟩
  have l1 := Rs.minus_len a b
  have l2 := Rs.union_len a b
  have l4 := Rs.meet_len a b
  have l7 := Rs.union_len a [(m, m)]
  have l9 := Rs.minus_len a [(m, m)]
  simp only [List.length_cons, List.length_nil, Nat.zero_add] at l7 l9
  have NX : Hid (false = decide (Rs.Has a n)) := Lib.hid (by simp [hx])
  have NY : Hid (false = decide (Rs.Has b n)) := Lib.hid (by simp [hy])
  have NU : Hid (false = decide (Rs.Has (Rs.union a b) n)) := Lib.hid (by simp [Rs.has_union, Rs.has_minus, Rs.has_meet, Rs.has_one, hx, hy, hn, he])
  have NM : Hid (false = decide (Rs.Has (Rs.minus a b) n)) := Lib.hid (by simp [Rs.has_union, Rs.has_minus, Rs.has_meet, Rs.has_one, hx, hy, hn, he])
  have NI : Hid (false = decide (Rs.Has (Rs.meet a b) n)) := Lib.hid (by simp [Rs.has_union, Rs.has_minus, Rs.has_meet, Rs.has_one, hx, hy, hn, he])
  have NA : Hid (false = decide (Rs.Has (Rs.union a [(m, m)]) n)) := Lib.hid (by simp [Rs.has_union, Rs.has_minus, Rs.has_meet, Rs.has_one, hx, hy, hn, he])
  have NR : Hid (false = decide (Rs.Has (Rs.minus a [(m, m)]) n)) := Lib.hid (by simp [Rs.has_union, Rs.has_minus, Rs.has_meet, Rs.has_one, hx, hy, hn, he])
  obtain ⟨cu, CU⟩ : ∃ c, Hid (c = Rs.count (Rs.union a b)) := ⟨_, Lib.hid rfl⟩
  obtain ⟨cm, CM⟩ : ∃ c, Hid (c = Rs.count (Rs.meet a b)) := ⟨_, Lib.hid rfl⟩
  obtain ⟨ca, CA⟩ : ∃ c, Hid (c = Rs.count a) := ⟨_, Lib.hid rfl⟩
  obtain ⟨cb, CB⟩ : ∃ c, Hid (c = Rs.count b) := ⟨_, Lib.hid rfl⟩
  have ec : cu + cm = ca + cb := by rw [CU.out, CM.out, CA.out, CB.out]; exact Rs.count_both a b
  have bu := Rs.count_range (Rs.union a b)
  have bm := Rs.count_range (Rs.meet a b)
  have ba := Rs.count_range a
  have bb := Rs.count_range b
  rw [← CU.out] at bu
  rw [← CM.out] at bm
  rw [← CA.out] at ba
  rw [← CB.out] at bb
  simp only [Rs.most] at bu bm ba bb
  obtain ⟨bu0, bu1⟩ := bu
  obtain ⟨bm0, bm1⟩ := bm
  obtain ⟨ba0, ba1⟩ := ba
  obtain ⟨bb0, bb1⟩ := bb
  have HX := Lib.hid hx
  have HY := Lib.hid hy
  clear hx hy
  go_enter Try.func8, Try.ntmps8
  go_wp2_with (first
    | (go_at_call 9; with_reducible refine works_any H ?_; intro w1 H1 I1)
    | (go_at_call 12; first
      | (with_reducible refine has_any ha n NX H1 ?_; intro w2 H2 I2)
      | (with_reducible refine has_any hb n NY H2 ?_; intro w3 H3 I3)
      | (with_reducible refine has_any r4 n NU H4 ?_; intro w5 H5 I5; have G5 := H5.right)
      | (with_reducible refine has_any r6 n NM H6 ?_; intro w7 H7 I7; have G7 := H7.right)
      | (with_reducible refine has_any r8 n NI H8 ?_; intro w9 H9 I9; have G9 := H9.right)
      | (with_reducible refine has_any r10 n NA H10 ?_; intro w11 H11 I11; have G11 := H11.right)
      | (with_reducible refine has_any r12 n NR H12 ?_; intro w13 H13 I13; have G13 := H13.right))
    | (go_at_call 18; first
      | (with_reducible refine union_any ha (by omega) hb (by omega) H3 ?_; intro v4 w4 H4 I4; have r4 := Reads.of_row H4 (by omega))
      | (with_reducible refine union_any ha (by omega) hb (by omega) G13 ?_; intro v14 w14 H14 I14; have r14 := Reads.of_row H14 (by omega)))
    | (go_at_call 20; first
      | (with_reducible refine minusr_any ha (by omega) hb (by omega) G5 ?_; intro v6 w6 H6 I6; have r6 := Reads.of_row H6 (by omega)))
    | (go_at_call 21; first
      | (with_reducible refine meet_any ha (by omega) hb (by omega) G7 ?_; intro v8 w8 H8 I8; have r8 := Reads.of_row H8 (by omega))
      | (with_reducible refine meet_any ha (by omega) hb (by omega) G15 ?_; intro v16 w16 H16 I16; have r16 := Reads.of_row H16 (by omega)))
    | (go_at_call 25; first
      | (with_reducible refine add_any ha (by omega) m G9 ?_; intro v10 w10 H10 I10; have r10 := Reads.of_row H10 (by omega)))
    | (go_at_call 23; first
      | (with_reducible refine remove_any ha (by omega) m G11 ?_; intro v12 w12 H12 I12; have r12 := Reads.of_row H12 (by omega)))
    | (go_at_call 14; first
      | (with_reducible refine count_any r14 (by omega) CU H14 ?_; intro w15 H15 I15; have G15 := H15.right)
      | (with_reducible refine count_any r16 (by omega) CM H16 ?_; intro w17 H17 I17; have G17 := H17.right)
      | (with_reducible refine count_any ha (by omega) CA G17 ?_; intro w18 H18 I18)
      | (with_reducible refine count_any hb (by omega) CB H18 ?_; intro w19 H19 I19)))
  have fin := HH.out _ H19 (((((((((((((((((((I1).trans I2).trans I3).trans I4).trans I5).trans I6).trans I7).trans I8).trans I9).trans I10).trans I11).trans I12).trans I13).trans I14).trans I15).trans I16).trans I17).trans I18).trans I19)
  have g2 : (n != m) = true := bne_iff_ne.2 (by omega)
  first | exact fin | (simp only [g2]; exact fin)
set_option maxRecDepth 100000 in
set_option maxHeartbeats 8000000 in
theorem runsLogic_ff_lo1 {a b : List Rn} {aa ba : Option Addr} {ac bc : Nat} (n m : Int) (hx : ¬ Rs.Has a n) (hy : ¬ Rs.Has b n) (hn0 : ¬ 0 ≤ n) (he : n = m) (ha : ReadsR F (.slice aa a.length ac) a) (hb : ReadsR F (.slice ba b.length bc) b) (am : (a.length : Int) ≤ 9223372036854775807) (bm' : (b.length : Int) ≤ 9223372036854775807) (qa : ¬ (40 : Int) < (a.length : Int)) (qb : ¬ (40 : Int) < (b.length : Int)) (H : Sat F w) (h : ∀ w', Sat F w' → Io w w' → R (.returned (.bool true)) w') : Calls Try.prog 8 #[.slice aa a.length ac, .slice ba b.length bc, .int .i64 n, .int .i64 m] w R := by
  have HH := Lib.hid h
  clear h
  have hn : ¬ (0 ≤ n ∧ n ≤ Rs.most) := fun k => hn0 k.1
  subst he
  have l1 := Rs.minus_len a b
  have l2 := Rs.union_len a b
  have l4 := Rs.meet_len a b
  have l7 := Rs.union_len a [(n, n)]
  have l9 := Rs.minus_len a [(n, n)]
  simp only [List.length_cons, List.length_nil, Nat.zero_add] at l7 l9
  have NX : Hid (false = decide (Rs.Has a n)) := Lib.hid (by simp [hx])
  have NY : Hid (false = decide (Rs.Has b n)) := Lib.hid (by simp [hy])
  have NU : Hid (false = decide (Rs.Has (Rs.union a b) n)) := Lib.hid (by simp [Rs.has_union, Rs.has_minus, Rs.has_meet, Rs.has_one, hx, hy, hn])
  have NM : Hid (false = decide (Rs.Has (Rs.minus a b) n)) := Lib.hid (by simp [Rs.has_union, Rs.has_minus, Rs.has_meet, Rs.has_one, hx, hy, hn])
  have NI : Hid (false = decide (Rs.Has (Rs.meet a b) n)) := Lib.hid (by simp [Rs.has_union, Rs.has_minus, Rs.has_meet, Rs.has_one, hx, hy, hn])
  have NA : Hid (false = decide (Rs.Has (Rs.union a [(n, n)]) n)) := Lib.hid (by simp [Rs.has_union, Rs.has_minus, Rs.has_meet, Rs.has_one, hx, hy, hn])
  have NR : Hid (false = decide (Rs.Has (Rs.minus a [(n, n)]) n)) := Lib.hid (by simp [Rs.has_union, Rs.has_minus, Rs.has_meet, Rs.has_one, hx, hy, hn])
  obtain ⟨cu, CU⟩ : ∃ c, Hid (c = Rs.count (Rs.union a b)) := ⟨_, Lib.hid rfl⟩
  obtain ⟨cm, CM⟩ : ∃ c, Hid (c = Rs.count (Rs.meet a b)) := ⟨_, Lib.hid rfl⟩
  obtain ⟨ca, CA⟩ : ∃ c, Hid (c = Rs.count a) := ⟨_, Lib.hid rfl⟩
  obtain ⟨cb, CB⟩ : ∃ c, Hid (c = Rs.count b) := ⟨_, Lib.hid rfl⟩
  have ec : cu + cm = ca + cb := by rw [CU.out, CM.out, CA.out, CB.out]; exact Rs.count_both a b
  have bu := Rs.count_range (Rs.union a b)
  have bm := Rs.count_range (Rs.meet a b)
  have ba := Rs.count_range a
  have bb := Rs.count_range b
  rw [← CU.out] at bu
  rw [← CM.out] at bm
  rw [← CA.out] at ba
  rw [← CB.out] at bb
  simp only [Rs.most] at bu bm ba bb
  obtain ⟨bu0, bu1⟩ := bu
  obtain ⟨bm0, bm1⟩ := bm
  obtain ⟨ba0, ba1⟩ := ba
  obtain ⟨bb0, bb1⟩ := bb
  have HX := Lib.hid hx
  have HY := Lib.hid hy
  clear hx hy
  go_enter Try.func8, Try.ntmps8
  go_wp2_with (first
    | (go_at_call 9; with_reducible refine works_any H ?_; intro w1 H1 I1)
    | (go_at_call 12; first
      | (with_reducible refine has_any ha n NX H1 ?_; intro w2 H2 I2)
      | (with_reducible refine has_any hb n NY H2 ?_; intro w3 H3 I3)
      | (with_reducible refine has_any r4 n NU H4 ?_; intro w5 H5 I5; have G5 := H5.right)
      | (with_reducible refine has_any r6 n NM H6 ?_; intro w7 H7 I7; have G7 := H7.right)
      | (with_reducible refine has_any r8 n NI H8 ?_; intro w9 H9 I9; have G9 := H9.right)
      | (with_reducible refine has_any r10 n NA H10 ?_; intro w11 H11 I11; have G11 := H11.right)
      | (with_reducible refine has_any r12 n NR H12 ?_; intro w13 H13 I13; have G13 := H13.right))
    | (go_at_call 18; first
      | (with_reducible refine union_any ha (by omega) hb (by omega) H3 ?_; intro v4 w4 H4 I4; have r4 := Reads.of_row H4 (by omega))
      | (with_reducible refine union_any ha (by omega) hb (by omega) G13 ?_; intro v14 w14 H14 I14; have r14 := Reads.of_row H14 (by omega)))
    | (go_at_call 20; first
      | (with_reducible refine minusr_any ha (by omega) hb (by omega) G5 ?_; intro v6 w6 H6 I6; have r6 := Reads.of_row H6 (by omega)))
    | (go_at_call 21; first
      | (with_reducible refine meet_any ha (by omega) hb (by omega) G7 ?_; intro v8 w8 H8 I8; have r8 := Reads.of_row H8 (by omega))
      | (with_reducible refine meet_any ha (by omega) hb (by omega) G15 ?_; intro v16 w16 H16 I16; have r16 := Reads.of_row H16 (by omega)))
    | (go_at_call 25; first
      | (with_reducible refine add_any ha (by omega) n G9 ?_; intro v10 w10 H10 I10; have r10 := Reads.of_row H10 (by omega)))
    | (go_at_call 23; first
      | (with_reducible refine remove_any ha (by omega) n G11 ?_; intro v12 w12 H12 I12; have r12 := Reads.of_row H12 (by omega)))
    | (go_at_call 14; first
      | (with_reducible refine count_any r14 (by omega) CU H14 ?_; intro w15 H15 I15; have G15 := H15.right)
      | (with_reducible refine count_any r16 (by omega) CM H16 ?_; intro w17 H17 I17; have G17 := H17.right)
      | (with_reducible refine count_any ha (by omega) CA G17 ?_; intro w18 H18 I18)
      | (with_reducible refine count_any hb (by omega) CB H18 ?_; intro w19 H19 I19)))
  have fin := HH.out _ H19 (((((((((((((((((((I1).trans I2).trans I3).trans I4).trans I5).trans I6).trans I7).trans I8).trans I9).trans I10).trans I11).trans I12).trans I13).trans I14).trans I15).trans I16).trans I17).trans I18).trans I19)
  exact fin
set_option maxRecDepth 100000 in
set_option maxHeartbeats 8000000 in
theorem runsLogic_ff_lo0 {a b : List Rn} {aa ba : Option Addr} {ac bc : Nat} (n m : Int) (hx : ¬ Rs.Has a n) (hy : ¬ Rs.Has b n) (hn0 : ¬ 0 ≤ n) (he : ¬ n = m) (ha : ReadsR F (.slice aa a.length ac) a) (hb : ReadsR F (.slice ba b.length bc) b) (am : (a.length : Int) ≤ 9223372036854775807) (bm' : (b.length : Int) ≤ 9223372036854775807) (qa : ¬ (40 : Int) < (a.length : Int)) (qb : ¬ (40 : Int) < (b.length : Int)) (H : Sat F w) (h : ∀ w', Sat F w' → Io w w' → R (.returned (.bool true)) w') : Calls Try.prog 8 #[.slice aa a.length ac, .slice ba b.length bc, .int .i64 n, .int .i64 m] w R := by
  have HH := Lib.hid h
  clear h
  have hn : ¬ (0 ≤ n ∧ n ≤ Rs.most) := fun k => hn0 k.1
  have l1 := Rs.minus_len a b
  have l2 := Rs.union_len a b
  have l4 := Rs.meet_len a b
  have l7 := Rs.union_len a [(m, m)]
  have l9 := Rs.minus_len a [(m, m)]
  simp only [List.length_cons, List.length_nil, Nat.zero_add] at l7 l9
  have NX : Hid (false = decide (Rs.Has a n)) := Lib.hid (by simp [hx])
  have NY : Hid (false = decide (Rs.Has b n)) := Lib.hid (by simp [hy])
  have NU : Hid (false = decide (Rs.Has (Rs.union a b) n)) := Lib.hid (by simp [Rs.has_union, Rs.has_minus, Rs.has_meet, Rs.has_one, hx, hy, hn, he])
  have NM : Hid (false = decide (Rs.Has (Rs.minus a b) n)) := Lib.hid (by simp [Rs.has_union, Rs.has_minus, Rs.has_meet, Rs.has_one, hx, hy, hn, he])
  have NI : Hid (false = decide (Rs.Has (Rs.meet a b) n)) := Lib.hid (by simp [Rs.has_union, Rs.has_minus, Rs.has_meet, Rs.has_one, hx, hy, hn, he])
  have NA : Hid (false = decide (Rs.Has (Rs.union a [(m, m)]) n)) := Lib.hid (by simp [Rs.has_union, Rs.has_minus, Rs.has_meet, Rs.has_one, hx, hy, hn, he])
  have NR : Hid (false = decide (Rs.Has (Rs.minus a [(m, m)]) n)) := Lib.hid (by simp [Rs.has_union, Rs.has_minus, Rs.has_meet, Rs.has_one, hx, hy, hn, he])
  obtain ⟨cu, CU⟩ : ∃ c, Hid (c = Rs.count (Rs.union a b)) := ⟨_, Lib.hid rfl⟩
  obtain ⟨cm, CM⟩ : ∃ c, Hid (c = Rs.count (Rs.meet a b)) := ⟨_, Lib.hid rfl⟩
  obtain ⟨ca, CA⟩ : ∃ c, Hid (c = Rs.count a) := ⟨_, Lib.hid rfl⟩
  obtain ⟨cb, CB⟩ : ∃ c, Hid (c = Rs.count b) := ⟨_, Lib.hid rfl⟩
  have ec : cu + cm = ca + cb := by rw [CU.out, CM.out, CA.out, CB.out]; exact Rs.count_both a b
  have bu := Rs.count_range (Rs.union a b)
  have bm := Rs.count_range (Rs.meet a b)
  have ba := Rs.count_range a
  have bb := Rs.count_range b
  rw [← CU.out] at bu
  rw [← CM.out] at bm
  rw [← CA.out] at ba
  rw [← CB.out] at bb
  simp only [Rs.most] at bu bm ba bb
  obtain ⟨bu0, bu1⟩ := bu
  obtain ⟨bm0, bm1⟩ := bm
  obtain ⟨ba0, ba1⟩ := ba
  obtain ⟨bb0, bb1⟩ := bb
  have HX := Lib.hid hx
  have HY := Lib.hid hy
  clear hx hy
  go_enter Try.func8, Try.ntmps8
  go_wp2_with (first
    | (go_at_call 9; with_reducible refine works_any H ?_; intro w1 H1 I1)
    | (go_at_call 12; first
      | (with_reducible refine has_any ha n NX H1 ?_; intro w2 H2 I2)
      | (with_reducible refine has_any hb n NY H2 ?_; intro w3 H3 I3)
      | (with_reducible refine has_any r4 n NU H4 ?_; intro w5 H5 I5; have G5 := H5.right)
      | (with_reducible refine has_any r6 n NM H6 ?_; intro w7 H7 I7; have G7 := H7.right)
      | (with_reducible refine has_any r8 n NI H8 ?_; intro w9 H9 I9; have G9 := H9.right)
      | (with_reducible refine has_any r10 n NA H10 ?_; intro w11 H11 I11; have G11 := H11.right)
      | (with_reducible refine has_any r12 n NR H12 ?_; intro w13 H13 I13; have G13 := H13.right))
    | (go_at_call 18; first
      | (with_reducible refine union_any ha (by omega) hb (by omega) H3 ?_; intro v4 w4 H4 I4; have r4 := Reads.of_row H4 (by omega))
      | (with_reducible refine union_any ha (by omega) hb (by omega) G13 ?_; intro v14 w14 H14 I14; have r14 := Reads.of_row H14 (by omega)))
    | (go_at_call 20; first
      | (with_reducible refine minusr_any ha (by omega) hb (by omega) G5 ?_; intro v6 w6 H6 I6; have r6 := Reads.of_row H6 (by omega)))
    | (go_at_call 21; first
      | (with_reducible refine meet_any ha (by omega) hb (by omega) G7 ?_; intro v8 w8 H8 I8; have r8 := Reads.of_row H8 (by omega))
      | (with_reducible refine meet_any ha (by omega) hb (by omega) G15 ?_; intro v16 w16 H16 I16; have r16 := Reads.of_row H16 (by omega)))
    | (go_at_call 25; first
      | (with_reducible refine add_any ha (by omega) m G9 ?_; intro v10 w10 H10 I10; have r10 := Reads.of_row H10 (by omega)))
    | (go_at_call 23; first
      | (with_reducible refine remove_any ha (by omega) m G11 ?_; intro v12 w12 H12 I12; have r12 := Reads.of_row H12 (by omega)))
    | (go_at_call 14; first
      | (with_reducible refine count_any r14 (by omega) CU H14 ?_; intro w15 H15 I15; have G15 := H15.right)
      | (with_reducible refine count_any r16 (by omega) CM H16 ?_; intro w17 H17 I17; have G17 := H17.right)
      | (with_reducible refine count_any ha (by omega) CA G17 ?_; intro w18 H18 I18)
      | (with_reducible refine count_any hb (by omega) CB H18 ?_; intro w19 H19 I19)))
  have fin := HH.out _ H19 (((((((((((((((((((I1).trans I2).trans I3).trans I4).trans I5).trans I6).trans I7).trans I8).trans I9).trans I10).trans I11).trans I12).trans I13).trans I14).trans I15).trans I16).trans I17).trans I18).trans I19)
  have g2 : (n != m) = true := bne_iff_ne.2 (by omega)
  first | exact fin | (simp only [g2]; exact fin)
set_option maxRecDepth 100000 in
set_option maxHeartbeats 8000000 in
theorem runsLogic_ff_hi1 {a b : List Rn} {aa ba : Option Addr} {ac bc : Nat} (n m : Int) (hx : ¬ Rs.Has a n) (hy : ¬ Rs.Has b n) (hn0 : 0 ≤ n) (hn1 : ¬ n ≤ 4294967295) (he : n = m) (ha : ReadsR F (.slice aa a.length ac) a) (hb : ReadsR F (.slice ba b.length bc) b) (am : (a.length : Int) ≤ 9223372036854775807) (bm' : (b.length : Int) ≤ 9223372036854775807) (qa : ¬ (40 : Int) < (a.length : Int)) (qb : ¬ (40 : Int) < (b.length : Int)) (H : Sat F w) (h : ∀ w', Sat F w' → Io w w' → R (.returned (.bool true)) w') : Calls Try.prog 8 #[.slice aa a.length ac, .slice ba b.length bc, .int .i64 n, .int .i64 m] w R := by
  have HH := Lib.hid h
  clear h
  have hn : ¬ (0 ≤ n ∧ n ≤ Rs.most) := fun k => hn1 k.2
  subst he
  have l1 := Rs.minus_len a b
  have l2 := Rs.union_len a b
  have l4 := Rs.meet_len a b
  have l7 := Rs.union_len a [(n, n)]
  have l9 := Rs.minus_len a [(n, n)]
  simp only [List.length_cons, List.length_nil, Nat.zero_add] at l7 l9
  have NX : Hid (false = decide (Rs.Has a n)) := Lib.hid (by simp [hx])
  have NY : Hid (false = decide (Rs.Has b n)) := Lib.hid (by simp [hy])
  have NU : Hid (false = decide (Rs.Has (Rs.union a b) n)) := Lib.hid (by simp [Rs.has_union, Rs.has_minus, Rs.has_meet, Rs.has_one, hx, hy, hn])
  have NM : Hid (false = decide (Rs.Has (Rs.minus a b) n)) := Lib.hid (by simp [Rs.has_union, Rs.has_minus, Rs.has_meet, Rs.has_one, hx, hy, hn])
  have NI : Hid (false = decide (Rs.Has (Rs.meet a b) n)) := Lib.hid (by simp [Rs.has_union, Rs.has_minus, Rs.has_meet, Rs.has_one, hx, hy, hn])
  have NA : Hid (false = decide (Rs.Has (Rs.union a [(n, n)]) n)) := Lib.hid (by simp [Rs.has_union, Rs.has_minus, Rs.has_meet, Rs.has_one, hx, hy, hn])
  have NR : Hid (false = decide (Rs.Has (Rs.minus a [(n, n)]) n)) := Lib.hid (by simp [Rs.has_union, Rs.has_minus, Rs.has_meet, Rs.has_one, hx, hy, hn])
  obtain ⟨cu, CU⟩ : ∃ c, Hid (c = Rs.count (Rs.union a b)) := ⟨_, Lib.hid rfl⟩
  obtain ⟨cm, CM⟩ : ∃ c, Hid (c = Rs.count (Rs.meet a b)) := ⟨_, Lib.hid rfl⟩
  obtain ⟨ca, CA⟩ : ∃ c, Hid (c = Rs.count a) := ⟨_, Lib.hid rfl⟩
  obtain ⟨cb, CB⟩ : ∃ c, Hid (c = Rs.count b) := ⟨_, Lib.hid rfl⟩
  have ec : cu + cm = ca + cb := by rw [CU.out, CM.out, CA.out, CB.out]; exact Rs.count_both a b
  have bu := Rs.count_range (Rs.union a b)
  have bm := Rs.count_range (Rs.meet a b)
  have ba := Rs.count_range a
  have bb := Rs.count_range b
  rw [← CU.out] at bu
  rw [← CM.out] at bm
  rw [← CA.out] at ba
  rw [← CB.out] at bb
  simp only [Rs.most] at bu bm ba bb
  obtain ⟨bu0, bu1⟩ := bu
  obtain ⟨bm0, bm1⟩ := bm
  obtain ⟨ba0, ba1⟩ := ba
  obtain ⟨bb0, bb1⟩ := bb
  have HX := Lib.hid hx
  have HY := Lib.hid hy
  clear hx hy
  go_enter Try.func8, Try.ntmps8
  go_wp2_with (first
    | (go_at_call 9; with_reducible refine works_any H ?_; intro w1 H1 I1)
    | (go_at_call 12; first
      | (with_reducible refine has_any ha n NX H1 ?_; intro w2 H2 I2)
      | (with_reducible refine has_any hb n NY H2 ?_; intro w3 H3 I3)
      | (with_reducible refine has_any r4 n NU H4 ?_; intro w5 H5 I5; have G5 := H5.right)
      | (with_reducible refine has_any r6 n NM H6 ?_; intro w7 H7 I7; have G7 := H7.right)
      | (with_reducible refine has_any r8 n NI H8 ?_; intro w9 H9 I9; have G9 := H9.right)
      | (with_reducible refine has_any r10 n NA H10 ?_; intro w11 H11 I11; have G11 := H11.right)
      | (with_reducible refine has_any r12 n NR H12 ?_; intro w13 H13 I13; have G13 := H13.right))
    | (go_at_call 18; first
      | (with_reducible refine union_any ha (by omega) hb (by omega) H3 ?_; intro v4 w4 H4 I4; have r4 := Reads.of_row H4 (by omega))
      | (with_reducible refine union_any ha (by omega) hb (by omega) G13 ?_; intro v14 w14 H14 I14; have r14 := Reads.of_row H14 (by omega)))
    | (go_at_call 20; first
      | (with_reducible refine minusr_any ha (by omega) hb (by omega) G5 ?_; intro v6 w6 H6 I6; have r6 := Reads.of_row H6 (by omega)))
    | (go_at_call 21; first
      | (with_reducible refine meet_any ha (by omega) hb (by omega) G7 ?_; intro v8 w8 H8 I8; have r8 := Reads.of_row H8 (by omega))
      | (with_reducible refine meet_any ha (by omega) hb (by omega) G15 ?_; intro v16 w16 H16 I16; have r16 := Reads.of_row H16 (by omega)))
    | (go_at_call 25; first
      | (with_reducible refine add_any ha (by omega) n G9 ?_; intro v10 w10 H10 I10; have r10 := Reads.of_row H10 (by omega)))
    | (go_at_call 23; first
      | (with_reducible refine remove_any ha (by omega) n G11 ?_; intro v12 w12 H12 I12; have r12 := Reads.of_row H12 (by omega)))
    | (go_at_call 14; first
      | (with_reducible refine count_any r14 (by omega) CU H14 ?_; intro w15 H15 I15; have G15 := H15.right)
      | (with_reducible refine count_any r16 (by omega) CM H16 ?_; intro w17 H17 I17; have G17 := H17.right)
      | (with_reducible refine count_any ha (by omega) CA G17 ?_; intro w18 H18 I18)
      | (with_reducible refine count_any hb (by omega) CB H18 ?_; intro w19 H19 I19)))
  have fin := HH.out _ H19 (((((((((((((((((((I1).trans I2).trans I3).trans I4).trans I5).trans I6).trans I7).trans I8).trans I9).trans I10).trans I11).trans I12).trans I13).trans I14).trans I15).trans I16).trans I17).trans I18).trans I19)
  have g1 : decide (n ≤ 4294967295) = false := decide_eq_false (by omega)
  first | exact fin | (simp only [g1]; exact fin)
set_option maxRecDepth 100000 in
set_option maxHeartbeats 8000000 in
theorem runsLogic_ff_hi0 {a b : List Rn} {aa ba : Option Addr} {ac bc : Nat} (n m : Int) (hx : ¬ Rs.Has a n) (hy : ¬ Rs.Has b n) (hn0 : 0 ≤ n) (hn1 : ¬ n ≤ 4294967295) (he : ¬ n = m) (ha : ReadsR F (.slice aa a.length ac) a) (hb : ReadsR F (.slice ba b.length bc) b) (am : (a.length : Int) ≤ 9223372036854775807) (bm' : (b.length : Int) ≤ 9223372036854775807) (qa : ¬ (40 : Int) < (a.length : Int)) (qb : ¬ (40 : Int) < (b.length : Int)) (H : Sat F w) (h : ∀ w', Sat F w' → Io w w' → R (.returned (.bool true)) w') : Calls Try.prog 8 #[.slice aa a.length ac, .slice ba b.length bc, .int .i64 n, .int .i64 m] w R := by
  have HH := Lib.hid h
  clear h
  have hn : ¬ (0 ≤ n ∧ n ≤ Rs.most) := fun k => hn1 k.2
  have l1 := Rs.minus_len a b
  have l2 := Rs.union_len a b
  have l4 := Rs.meet_len a b
  have l7 := Rs.union_len a [(m, m)]
  have l9 := Rs.minus_len a [(m, m)]
  simp only [List.length_cons, List.length_nil, Nat.zero_add] at l7 l9
  have NX : Hid (false = decide (Rs.Has a n)) := Lib.hid (by simp [hx])
  have NY : Hid (false = decide (Rs.Has b n)) := Lib.hid (by simp [hy])
  have NU : Hid (false = decide (Rs.Has (Rs.union a b) n)) := Lib.hid (by simp [Rs.has_union, Rs.has_minus, Rs.has_meet, Rs.has_one, hx, hy, hn, he])
  have NM : Hid (false = decide (Rs.Has (Rs.minus a b) n)) := Lib.hid (by simp [Rs.has_union, Rs.has_minus, Rs.has_meet, Rs.has_one, hx, hy, hn, he])
  have NI : Hid (false = decide (Rs.Has (Rs.meet a b) n)) := Lib.hid (by simp [Rs.has_union, Rs.has_minus, Rs.has_meet, Rs.has_one, hx, hy, hn, he])
  have NA : Hid (false = decide (Rs.Has (Rs.union a [(m, m)]) n)) := Lib.hid (by simp [Rs.has_union, Rs.has_minus, Rs.has_meet, Rs.has_one, hx, hy, hn, he])
  have NR : Hid (false = decide (Rs.Has (Rs.minus a [(m, m)]) n)) := Lib.hid (by simp [Rs.has_union, Rs.has_minus, Rs.has_meet, Rs.has_one, hx, hy, hn, he])
  obtain ⟨cu, CU⟩ : ∃ c, Hid (c = Rs.count (Rs.union a b)) := ⟨_, Lib.hid rfl⟩
  obtain ⟨cm, CM⟩ : ∃ c, Hid (c = Rs.count (Rs.meet a b)) := ⟨_, Lib.hid rfl⟩
  obtain ⟨ca, CA⟩ : ∃ c, Hid (c = Rs.count a) := ⟨_, Lib.hid rfl⟩
  obtain ⟨cb, CB⟩ : ∃ c, Hid (c = Rs.count b) := ⟨_, Lib.hid rfl⟩
  have ec : cu + cm = ca + cb := by rw [CU.out, CM.out, CA.out, CB.out]; exact Rs.count_both a b
  have bu := Rs.count_range (Rs.union a b)
  have bm := Rs.count_range (Rs.meet a b)
  have ba := Rs.count_range a
  have bb := Rs.count_range b
  rw [← CU.out] at bu
  rw [← CM.out] at bm
  rw [← CA.out] at ba
  rw [← CB.out] at bb
  simp only [Rs.most] at bu bm ba bb
  obtain ⟨bu0, bu1⟩ := bu
  obtain ⟨bm0, bm1⟩ := bm
  obtain ⟨ba0, ba1⟩ := ba
  obtain ⟨bb0, bb1⟩ := bb
  have HX := Lib.hid hx
  have HY := Lib.hid hy
  clear hx hy
  go_enter Try.func8, Try.ntmps8
  go_wp2_with (first
    | (go_at_call 9; with_reducible refine works_any H ?_; intro w1 H1 I1)
    | (go_at_call 12; first
      | (with_reducible refine has_any ha n NX H1 ?_; intro w2 H2 I2)
      | (with_reducible refine has_any hb n NY H2 ?_; intro w3 H3 I3)
      | (with_reducible refine has_any r4 n NU H4 ?_; intro w5 H5 I5; have G5 := H5.right)
      | (with_reducible refine has_any r6 n NM H6 ?_; intro w7 H7 I7; have G7 := H7.right)
      | (with_reducible refine has_any r8 n NI H8 ?_; intro w9 H9 I9; have G9 := H9.right)
      | (with_reducible refine has_any r10 n NA H10 ?_; intro w11 H11 I11; have G11 := H11.right)
      | (with_reducible refine has_any r12 n NR H12 ?_; intro w13 H13 I13; have G13 := H13.right))
    | (go_at_call 18; first
      | (with_reducible refine union_any ha (by omega) hb (by omega) H3 ?_; intro v4 w4 H4 I4; have r4 := Reads.of_row H4 (by omega))
      | (with_reducible refine union_any ha (by omega) hb (by omega) G13 ?_; intro v14 w14 H14 I14; have r14 := Reads.of_row H14 (by omega)))
    | (go_at_call 20; first
      | (with_reducible refine minusr_any ha (by omega) hb (by omega) G5 ?_; intro v6 w6 H6 I6; have r6 := Reads.of_row H6 (by omega)))
    | (go_at_call 21; first
      | (with_reducible refine meet_any ha (by omega) hb (by omega) G7 ?_; intro v8 w8 H8 I8; have r8 := Reads.of_row H8 (by omega))
      | (with_reducible refine meet_any ha (by omega) hb (by omega) G15 ?_; intro v16 w16 H16 I16; have r16 := Reads.of_row H16 (by omega)))
    | (go_at_call 25; first
      | (with_reducible refine add_any ha (by omega) m G9 ?_; intro v10 w10 H10 I10; have r10 := Reads.of_row H10 (by omega)))
    | (go_at_call 23; first
      | (with_reducible refine remove_any ha (by omega) m G11 ?_; intro v12 w12 H12 I12; have r12 := Reads.of_row H12 (by omega)))
    | (go_at_call 14; first
      | (with_reducible refine count_any r14 (by omega) CU H14 ?_; intro w15 H15 I15; have G15 := H15.right)
      | (with_reducible refine count_any r16 (by omega) CM H16 ?_; intro w17 H17 I17; have G17 := H17.right)
      | (with_reducible refine count_any ha (by omega) CA G17 ?_; intro w18 H18 I18)
      | (with_reducible refine count_any hb (by omega) CB H18 ?_; intro w19 H19 I19)))
  have fin := HH.out _ H19 (((((((((((((((((((I1).trans I2).trans I3).trans I4).trans I5).trans I6).trans I7).trans I8).trans I9).trans I10).trans I11).trans I12).trans I13).trans I14).trans I15).trans I16).trans I17).trans I18).trans I19)
  have g1 : decide (n ≤ 4294967295) = false := decide_eq_false (by omega)
  first | exact fin | (simp only [g1]; exact fin)
set_option maxRecDepth 100000 in
set_option maxHeartbeats 8000000 in
theorem runsLogic_ft_in1 {a b : List Rn} {aa ba : Option Addr} {ac bc : Nat} (n m : Int) (hx : ¬ Rs.Has a n) (hy : Rs.Has b n) (hn0 : 0 ≤ n) (hn1 : n ≤ 4294967295) (he : n = m) (ha : ReadsR F (.slice aa a.length ac) a) (hb : ReadsR F (.slice ba b.length bc) b) (am : (a.length : Int) ≤ 9223372036854775807) (bm' : (b.length : Int) ≤ 9223372036854775807) (qa : ¬ (40 : Int) < (a.length : Int)) (qb : ¬ (40 : Int) < (b.length : Int)) (H : Sat F w) (h : ∀ w', Sat F w' → Io w w' → R (.returned (.bool true)) w') : Calls Try.prog 8 #[.slice aa a.length ac, .slice ba b.length bc, .int .i64 n, .int .i64 m] w R := by
  have HH := Lib.hid h
  clear h
  have hn : 0 ≤ n ∧ n ≤ Rs.most := ⟨hn0, hn1⟩
  subst he
  have l1 := Rs.minus_len a b
  have l2 := Rs.union_len a b
  have l4 := Rs.meet_len a b
  have l7 := Rs.union_len a [(n, n)]
  have l9 := Rs.minus_len a [(n, n)]
  simp only [List.length_cons, List.length_nil, Nat.zero_add] at l7 l9
  have NX : Hid (false = decide (Rs.Has a n)) := Lib.hid (by simp [hx])
  have NY : Hid (true = decide (Rs.Has b n)) := Lib.hid (by simp [hy])
  have NU : Hid (true = decide (Rs.Has (Rs.union a b) n)) := Lib.hid (by simp [Rs.has_union, Rs.has_minus, Rs.has_meet, Rs.has_one, hx, hy, hn])
  have NM : Hid (false = decide (Rs.Has (Rs.minus a b) n)) := Lib.hid (by simp [Rs.has_union, Rs.has_minus, Rs.has_meet, Rs.has_one, hx, hy, hn])
  have NI : Hid (false = decide (Rs.Has (Rs.meet a b) n)) := Lib.hid (by simp [Rs.has_union, Rs.has_minus, Rs.has_meet, Rs.has_one, hx, hy, hn])
  have NA : Hid (true = decide (Rs.Has (Rs.union a [(n, n)]) n)) := Lib.hid (by simp [Rs.has_union, Rs.has_minus, Rs.has_meet, Rs.has_one, hx, hy, hn])
  have NR : Hid (false = decide (Rs.Has (Rs.minus a [(n, n)]) n)) := Lib.hid (by simp [Rs.has_union, Rs.has_minus, Rs.has_meet, Rs.has_one, hx, hy, hn])
  obtain ⟨cu, CU⟩ : ∃ c, Hid (c = Rs.count (Rs.union a b)) := ⟨_, Lib.hid rfl⟩
  obtain ⟨cm, CM⟩ : ∃ c, Hid (c = Rs.count (Rs.meet a b)) := ⟨_, Lib.hid rfl⟩
  obtain ⟨ca, CA⟩ : ∃ c, Hid (c = Rs.count a) := ⟨_, Lib.hid rfl⟩
  obtain ⟨cb, CB⟩ : ∃ c, Hid (c = Rs.count b) := ⟨_, Lib.hid rfl⟩
  have ec : cu + cm = ca + cb := by rw [CU.out, CM.out, CA.out, CB.out]; exact Rs.count_both a b
  have bu := Rs.count_range (Rs.union a b)
  have bm := Rs.count_range (Rs.meet a b)
  have ba := Rs.count_range a
  have bb := Rs.count_range b
  rw [← CU.out] at bu
  rw [← CM.out] at bm
  rw [← CA.out] at ba
  rw [← CB.out] at bb
  simp only [Rs.most] at bu bm ba bb
  obtain ⟨bu0, bu1⟩ := bu
  obtain ⟨bm0, bm1⟩ := bm
  obtain ⟨ba0, ba1⟩ := ba
  obtain ⟨bb0, bb1⟩ := bb
  have HX := Lib.hid hx
  have HY := Lib.hid hy
  clear hx hy
  go_enter Try.func8, Try.ntmps8
  go_wp2_with (first
    | (go_at_call 9; with_reducible refine works_any H ?_; intro w1 H1 I1)
    | (go_at_call 12; first
      | (with_reducible refine has_any ha n NX H1 ?_; intro w2 H2 I2)
      | (with_reducible refine has_any hb n NY H2 ?_; intro w3 H3 I3)
      | (with_reducible refine has_any r4 n NU H4 ?_; intro w5 H5 I5; have G5 := H5.right)
      | (with_reducible refine has_any r6 n NM H6 ?_; intro w7 H7 I7; have G7 := H7.right)
      | (with_reducible refine has_any r8 n NI H8 ?_; intro w9 H9 I9; have G9 := H9.right)
      | (with_reducible refine has_any r10 n NA H10 ?_; intro w11 H11 I11; have G11 := H11.right)
      | (with_reducible refine has_any r12 n NR H12 ?_; intro w13 H13 I13; have G13 := H13.right))
    | (go_at_call 18; first
      | (with_reducible refine union_any ha (by omega) hb (by omega) H3 ?_; intro v4 w4 H4 I4; have r4 := Reads.of_row H4 (by omega))
      | (with_reducible refine union_any ha (by omega) hb (by omega) G13 ?_; intro v14 w14 H14 I14; have r14 := Reads.of_row H14 (by omega)))
    | (go_at_call 20; first
      | (with_reducible refine minusr_any ha (by omega) hb (by omega) G5 ?_; intro v6 w6 H6 I6; have r6 := Reads.of_row H6 (by omega)))
    | (go_at_call 21; first
      | (with_reducible refine meet_any ha (by omega) hb (by omega) G7 ?_; intro v8 w8 H8 I8; have r8 := Reads.of_row H8 (by omega))
      | (with_reducible refine meet_any ha (by omega) hb (by omega) G15 ?_; intro v16 w16 H16 I16; have r16 := Reads.of_row H16 (by omega)))
    | (go_at_call 25; first
      | (with_reducible refine add_any ha (by omega) n G9 ?_; intro v10 w10 H10 I10; have r10 := Reads.of_row H10 (by omega)))
    | (go_at_call 23; first
      | (with_reducible refine remove_any ha (by omega) n G11 ?_; intro v12 w12 H12 I12; have r12 := Reads.of_row H12 (by omega)))
    | (go_at_call 14; first
      | (with_reducible refine count_any r14 (by omega) CU H14 ?_; intro w15 H15 I15; have G15 := H15.right)
      | (with_reducible refine count_any r16 (by omega) CM H16 ?_; intro w17 H17 I17; have G17 := H17.right)
      | (with_reducible refine count_any ha (by omega) CA G17 ?_; intro w18 H18 I18)
      | (with_reducible refine count_any hb (by omega) CB H18 ?_; intro w19 H19 I19)))
  have fin := HH.out _ H19 (((((((((((((((((((I1).trans I2).trans I3).trans I4).trans I5).trans I6).trans I7).trans I8).trans I9).trans I10).trans I11).trans I12).trans I13).trans I14).trans I15).trans I16).trans I17).trans I18).trans I19)
  exact fin
set_option maxRecDepth 100000 in
set_option maxHeartbeats 8000000 in
theorem runsLogic_ft_in0 {a b : List Rn} {aa ba : Option Addr} {ac bc : Nat} (n m : Int) (hx : ¬ Rs.Has a n) (hy : Rs.Has b n) (hn0 : 0 ≤ n) (hn1 : n ≤ 4294967295) (he : ¬ n = m) (ha : ReadsR F (.slice aa a.length ac) a) (hb : ReadsR F (.slice ba b.length bc) b) (am : (a.length : Int) ≤ 9223372036854775807) (bm' : (b.length : Int) ≤ 9223372036854775807) (qa : ¬ (40 : Int) < (a.length : Int)) (qb : ¬ (40 : Int) < (b.length : Int)) (H : Sat F w) (h : ∀ w', Sat F w' → Io w w' → R (.returned (.bool true)) w') : Calls Try.prog 8 #[.slice aa a.length ac, .slice ba b.length bc, .int .i64 n, .int .i64 m] w R := by
  have HH := Lib.hid h
  clear h
  have hn : 0 ≤ n ∧ n ≤ Rs.most := ⟨hn0, hn1⟩
  have l1 := Rs.minus_len a b
  have l2 := Rs.union_len a b
  have l4 := Rs.meet_len a b
  have l7 := Rs.union_len a [(m, m)]
  have l9 := Rs.minus_len a [(m, m)]
  simp only [List.length_cons, List.length_nil, Nat.zero_add] at l7 l9
  have NX : Hid (false = decide (Rs.Has a n)) := Lib.hid (by simp [hx])
  have NY : Hid (true = decide (Rs.Has b n)) := Lib.hid (by simp [hy])
  have NU : Hid (true = decide (Rs.Has (Rs.union a b) n)) := Lib.hid (by simp [Rs.has_union, Rs.has_minus, Rs.has_meet, Rs.has_one, hx, hy, hn, he])
  have NM : Hid (false = decide (Rs.Has (Rs.minus a b) n)) := Lib.hid (by simp [Rs.has_union, Rs.has_minus, Rs.has_meet, Rs.has_one, hx, hy, hn, he])
  have NI : Hid (false = decide (Rs.Has (Rs.meet a b) n)) := Lib.hid (by simp [Rs.has_union, Rs.has_minus, Rs.has_meet, Rs.has_one, hx, hy, hn, he])
  have NA : Hid (false = decide (Rs.Has (Rs.union a [(m, m)]) n)) := Lib.hid (by simp [Rs.has_union, Rs.has_minus, Rs.has_meet, Rs.has_one, hx, hy, hn, he])
  have NR : Hid (false = decide (Rs.Has (Rs.minus a [(m, m)]) n)) := Lib.hid (by simp [Rs.has_union, Rs.has_minus, Rs.has_meet, Rs.has_one, hx, hy, hn, he])
  obtain ⟨cu, CU⟩ : ∃ c, Hid (c = Rs.count (Rs.union a b)) := ⟨_, Lib.hid rfl⟩
  obtain ⟨cm, CM⟩ : ∃ c, Hid (c = Rs.count (Rs.meet a b)) := ⟨_, Lib.hid rfl⟩
  obtain ⟨ca, CA⟩ : ∃ c, Hid (c = Rs.count a) := ⟨_, Lib.hid rfl⟩
  obtain ⟨cb, CB⟩ : ∃ c, Hid (c = Rs.count b) := ⟨_, Lib.hid rfl⟩
  have ec : cu + cm = ca + cb := by rw [CU.out, CM.out, CA.out, CB.out]; exact Rs.count_both a b
  have bu := Rs.count_range (Rs.union a b)
  have bm := Rs.count_range (Rs.meet a b)
  have ba := Rs.count_range a
  have bb := Rs.count_range b
  rw [← CU.out] at bu
  rw [← CM.out] at bm
  rw [← CA.out] at ba
  rw [← CB.out] at bb
  simp only [Rs.most] at bu bm ba bb
  obtain ⟨bu0, bu1⟩ := bu
  obtain ⟨bm0, bm1⟩ := bm
  obtain ⟨ba0, ba1⟩ := ba
  obtain ⟨bb0, bb1⟩ := bb
  have HX := Lib.hid hx
  have HY := Lib.hid hy
  clear hx hy
  go_enter Try.func8, Try.ntmps8
  go_wp2_with (first
    | (go_at_call 9; with_reducible refine works_any H ?_; intro w1 H1 I1)
    | (go_at_call 12; first
      | (with_reducible refine has_any ha n NX H1 ?_; intro w2 H2 I2)
      | (with_reducible refine has_any hb n NY H2 ?_; intro w3 H3 I3)
      | (with_reducible refine has_any r4 n NU H4 ?_; intro w5 H5 I5; have G5 := H5.right)
      | (with_reducible refine has_any r6 n NM H6 ?_; intro w7 H7 I7; have G7 := H7.right)
      | (with_reducible refine has_any r8 n NI H8 ?_; intro w9 H9 I9; have G9 := H9.right)
      | (with_reducible refine has_any r10 n NA H10 ?_; intro w11 H11 I11; have G11 := H11.right)
      | (with_reducible refine has_any r12 n NR H12 ?_; intro w13 H13 I13; have G13 := H13.right))
    | (go_at_call 18; first
      | (with_reducible refine union_any ha (by omega) hb (by omega) H3 ?_; intro v4 w4 H4 I4; have r4 := Reads.of_row H4 (by omega))
      | (with_reducible refine union_any ha (by omega) hb (by omega) G13 ?_; intro v14 w14 H14 I14; have r14 := Reads.of_row H14 (by omega)))
    | (go_at_call 20; first
      | (with_reducible refine minusr_any ha (by omega) hb (by omega) G5 ?_; intro v6 w6 H6 I6; have r6 := Reads.of_row H6 (by omega)))
    | (go_at_call 21; first
      | (with_reducible refine meet_any ha (by omega) hb (by omega) G7 ?_; intro v8 w8 H8 I8; have r8 := Reads.of_row H8 (by omega))
      | (with_reducible refine meet_any ha (by omega) hb (by omega) G15 ?_; intro v16 w16 H16 I16; have r16 := Reads.of_row H16 (by omega)))
    | (go_at_call 25; first
      | (with_reducible refine add_any ha (by omega) m G9 ?_; intro v10 w10 H10 I10; have r10 := Reads.of_row H10 (by omega)))
    | (go_at_call 23; first
      | (with_reducible refine remove_any ha (by omega) m G11 ?_; intro v12 w12 H12 I12; have r12 := Reads.of_row H12 (by omega)))
    | (go_at_call 14; first
      | (with_reducible refine count_any r14 (by omega) CU H14 ?_; intro w15 H15 I15; have G15 := H15.right)
      | (with_reducible refine count_any r16 (by omega) CM H16 ?_; intro w17 H17 I17; have G17 := H17.right)
      | (with_reducible refine count_any ha (by omega) CA G17 ?_; intro w18 H18 I18)
      | (with_reducible refine count_any hb (by omega) CB H18 ?_; intro w19 H19 I19)))
  have fin := HH.out _ H19 (((((((((((((((((((I1).trans I2).trans I3).trans I4).trans I5).trans I6).trans I7).trans I8).trans I9).trans I10).trans I11).trans I12).trans I13).trans I14).trans I15).trans I16).trans I17).trans I18).trans I19)
  have g2 : (n != m) = true := bne_iff_ne.2 (by omega)
  first | exact fin | (simp only [g2]; exact fin)
set_option maxRecDepth 100000 in
set_option maxHeartbeats 8000000 in
theorem runsLogic_tf_in1 {a b : List Rn} {aa ba : Option Addr} {ac bc : Nat} (n m : Int) (hx : Rs.Has a n) (hy : ¬ Rs.Has b n) (hn0 : 0 ≤ n) (hn1 : n ≤ 4294967295) (he : n = m) (ha : ReadsR F (.slice aa a.length ac) a) (hb : ReadsR F (.slice ba b.length bc) b) (am : (a.length : Int) ≤ 9223372036854775807) (bm' : (b.length : Int) ≤ 9223372036854775807) (qa : ¬ (40 : Int) < (a.length : Int)) (qb : ¬ (40 : Int) < (b.length : Int)) (H : Sat F w) (h : ∀ w', Sat F w' → Io w w' → R (.returned (.bool true)) w') : Calls Try.prog 8 #[.slice aa a.length ac, .slice ba b.length bc, .int .i64 n, .int .i64 m] w R := by
  have HH := Lib.hid h
  clear h
  have hn : 0 ≤ n ∧ n ≤ Rs.most := ⟨hn0, hn1⟩
  subst he
  have l1 := Rs.minus_len a b
  have l2 := Rs.union_len a b
  have l4 := Rs.meet_len a b
  have l7 := Rs.union_len a [(n, n)]
  have l9 := Rs.minus_len a [(n, n)]
  simp only [List.length_cons, List.length_nil, Nat.zero_add] at l7 l9
  have NX : Hid (true = decide (Rs.Has a n)) := Lib.hid (by simp [hx])
  have NY : Hid (false = decide (Rs.Has b n)) := Lib.hid (by simp [hy])
  have NU : Hid (true = decide (Rs.Has (Rs.union a b) n)) := Lib.hid (by simp [Rs.has_union, Rs.has_minus, Rs.has_meet, Rs.has_one, hx, hy, hn])
  have NM : Hid (true = decide (Rs.Has (Rs.minus a b) n)) := Lib.hid (by simp [Rs.has_union, Rs.has_minus, Rs.has_meet, Rs.has_one, hx, hy, hn])
  have NI : Hid (false = decide (Rs.Has (Rs.meet a b) n)) := Lib.hid (by simp [Rs.has_union, Rs.has_minus, Rs.has_meet, Rs.has_one, hx, hy, hn])
  have NA : Hid (true = decide (Rs.Has (Rs.union a [(n, n)]) n)) := Lib.hid (by simp [Rs.has_union, Rs.has_minus, Rs.has_meet, Rs.has_one, hx, hy, hn])
  have NR : Hid (false = decide (Rs.Has (Rs.minus a [(n, n)]) n)) := Lib.hid (by simp [Rs.has_union, Rs.has_minus, Rs.has_meet, Rs.has_one, hx, hy, hn])
  obtain ⟨cu, CU⟩ : ∃ c, Hid (c = Rs.count (Rs.union a b)) := ⟨_, Lib.hid rfl⟩
  obtain ⟨cm, CM⟩ : ∃ c, Hid (c = Rs.count (Rs.meet a b)) := ⟨_, Lib.hid rfl⟩
  obtain ⟨ca, CA⟩ : ∃ c, Hid (c = Rs.count a) := ⟨_, Lib.hid rfl⟩
  obtain ⟨cb, CB⟩ : ∃ c, Hid (c = Rs.count b) := ⟨_, Lib.hid rfl⟩
  have ec : cu + cm = ca + cb := by rw [CU.out, CM.out, CA.out, CB.out]; exact Rs.count_both a b
  have bu := Rs.count_range (Rs.union a b)
  have bm := Rs.count_range (Rs.meet a b)
  have ba := Rs.count_range a
  have bb := Rs.count_range b
  rw [← CU.out] at bu
  rw [← CM.out] at bm
  rw [← CA.out] at ba
  rw [← CB.out] at bb
  simp only [Rs.most] at bu bm ba bb
  obtain ⟨bu0, bu1⟩ := bu
  obtain ⟨bm0, bm1⟩ := bm
  obtain ⟨ba0, ba1⟩ := ba
  obtain ⟨bb0, bb1⟩ := bb
  have HX := Lib.hid hx
  have HY := Lib.hid hy
  clear hx hy
  go_enter Try.func8, Try.ntmps8
  go_wp2_with (first
    | (go_at_call 9; with_reducible refine works_any H ?_; intro w1 H1 I1)
    | (go_at_call 12; first
      | (with_reducible refine has_any ha n NX H1 ?_; intro w2 H2 I2)
      | (with_reducible refine has_any hb n NY H2 ?_; intro w3 H3 I3)
      | (with_reducible refine has_any r4 n NU H4 ?_; intro w5 H5 I5; have G5 := H5.right)
      | (with_reducible refine has_any r6 n NM H6 ?_; intro w7 H7 I7; have G7 := H7.right)
      | (with_reducible refine has_any r8 n NI H8 ?_; intro w9 H9 I9; have G9 := H9.right)
      | (with_reducible refine has_any r10 n NA H10 ?_; intro w11 H11 I11; have G11 := H11.right)
      | (with_reducible refine has_any r12 n NR H12 ?_; intro w13 H13 I13; have G13 := H13.right))
    | (go_at_call 18; first
      | (with_reducible refine union_any ha (by omega) hb (by omega) H3 ?_; intro v4 w4 H4 I4; have r4 := Reads.of_row H4 (by omega))
      | (with_reducible refine union_any ha (by omega) hb (by omega) G13 ?_; intro v14 w14 H14 I14; have r14 := Reads.of_row H14 (by omega)))
    | (go_at_call 20; first
      | (with_reducible refine minusr_any ha (by omega) hb (by omega) G5 ?_; intro v6 w6 H6 I6; have r6 := Reads.of_row H6 (by omega)))
    | (go_at_call 21; first
      | (with_reducible refine meet_any ha (by omega) hb (by omega) G7 ?_; intro v8 w8 H8 I8; have r8 := Reads.of_row H8 (by omega))
      | (with_reducible refine meet_any ha (by omega) hb (by omega) G15 ?_; intro v16 w16 H16 I16; have r16 := Reads.of_row H16 (by omega)))
    | (go_at_call 25; first
      | (with_reducible refine add_any ha (by omega) n G9 ?_; intro v10 w10 H10 I10; have r10 := Reads.of_row H10 (by omega)))
    | (go_at_call 23; first
      | (with_reducible refine remove_any ha (by omega) n G11 ?_; intro v12 w12 H12 I12; have r12 := Reads.of_row H12 (by omega)))
    | (go_at_call 14; first
      | (with_reducible refine count_any r14 (by omega) CU H14 ?_; intro w15 H15 I15; have G15 := H15.right)
      | (with_reducible refine count_any r16 (by omega) CM H16 ?_; intro w17 H17 I17; have G17 := H17.right)
      | (with_reducible refine count_any ha (by omega) CA G17 ?_; intro w18 H18 I18)
      | (with_reducible refine count_any hb (by omega) CB H18 ?_; intro w19 H19 I19)))
  have fin := HH.out _ H19 (((((((((((((((((((I1).trans I2).trans I3).trans I4).trans I5).trans I6).trans I7).trans I8).trans I9).trans I10).trans I11).trans I12).trans I13).trans I14).trans I15).trans I16).trans I17).trans I18).trans I19)
  exact fin
set_option maxRecDepth 100000 in
set_option maxHeartbeats 8000000 in
theorem runsLogic_tf_in0 {a b : List Rn} {aa ba : Option Addr} {ac bc : Nat} (n m : Int) (hx : Rs.Has a n) (hy : ¬ Rs.Has b n) (hn0 : 0 ≤ n) (hn1 : n ≤ 4294967295) (he : ¬ n = m) (ha : ReadsR F (.slice aa a.length ac) a) (hb : ReadsR F (.slice ba b.length bc) b) (am : (a.length : Int) ≤ 9223372036854775807) (bm' : (b.length : Int) ≤ 9223372036854775807) (qa : ¬ (40 : Int) < (a.length : Int)) (qb : ¬ (40 : Int) < (b.length : Int)) (H : Sat F w) (h : ∀ w', Sat F w' → Io w w' → R (.returned (.bool true)) w') : Calls Try.prog 8 #[.slice aa a.length ac, .slice ba b.length bc, .int .i64 n, .int .i64 m] w R := by
  have HH := Lib.hid h
  clear h
  have hn : 0 ≤ n ∧ n ≤ Rs.most := ⟨hn0, hn1⟩
  have l1 := Rs.minus_len a b
  have l2 := Rs.union_len a b
  have l4 := Rs.meet_len a b
  have l7 := Rs.union_len a [(m, m)]
  have l9 := Rs.minus_len a [(m, m)]
  simp only [List.length_cons, List.length_nil, Nat.zero_add] at l7 l9
  have NX : Hid (true = decide (Rs.Has a n)) := Lib.hid (by simp [hx])
  have NY : Hid (false = decide (Rs.Has b n)) := Lib.hid (by simp [hy])
  have NU : Hid (true = decide (Rs.Has (Rs.union a b) n)) := Lib.hid (by simp [Rs.has_union, Rs.has_minus, Rs.has_meet, Rs.has_one, hx, hy, hn, he])
  have NM : Hid (true = decide (Rs.Has (Rs.minus a b) n)) := Lib.hid (by simp [Rs.has_union, Rs.has_minus, Rs.has_meet, Rs.has_one, hx, hy, hn, he])
  have NI : Hid (false = decide (Rs.Has (Rs.meet a b) n)) := Lib.hid (by simp [Rs.has_union, Rs.has_minus, Rs.has_meet, Rs.has_one, hx, hy, hn, he])
  have NA : Hid (true = decide (Rs.Has (Rs.union a [(m, m)]) n)) := Lib.hid (by simp [Rs.has_union, Rs.has_minus, Rs.has_meet, Rs.has_one, hx, hy, hn, he])
  have NR : Hid (true = decide (Rs.Has (Rs.minus a [(m, m)]) n)) := Lib.hid (by simp [Rs.has_union, Rs.has_minus, Rs.has_meet, Rs.has_one, hx, hy, hn, he])
  obtain ⟨cu, CU⟩ : ∃ c, Hid (c = Rs.count (Rs.union a b)) := ⟨_, Lib.hid rfl⟩
  obtain ⟨cm, CM⟩ : ∃ c, Hid (c = Rs.count (Rs.meet a b)) := ⟨_, Lib.hid rfl⟩
  obtain ⟨ca, CA⟩ : ∃ c, Hid (c = Rs.count a) := ⟨_, Lib.hid rfl⟩
  obtain ⟨cb, CB⟩ : ∃ c, Hid (c = Rs.count b) := ⟨_, Lib.hid rfl⟩
  have ec : cu + cm = ca + cb := by rw [CU.out, CM.out, CA.out, CB.out]; exact Rs.count_both a b
  have bu := Rs.count_range (Rs.union a b)
  have bm := Rs.count_range (Rs.meet a b)
  have ba := Rs.count_range a
  have bb := Rs.count_range b
  rw [← CU.out] at bu
  rw [← CM.out] at bm
  rw [← CA.out] at ba
  rw [← CB.out] at bb
  simp only [Rs.most] at bu bm ba bb
  obtain ⟨bu0, bu1⟩ := bu
  obtain ⟨bm0, bm1⟩ := bm
  obtain ⟨ba0, ba1⟩ := ba
  obtain ⟨bb0, bb1⟩ := bb
  have HX := Lib.hid hx
  have HY := Lib.hid hy
  clear hx hy
  go_enter Try.func8, Try.ntmps8
  go_wp2_with (first
    | (go_at_call 9; with_reducible refine works_any H ?_; intro w1 H1 I1)
    | (go_at_call 12; first
      | (with_reducible refine has_any ha n NX H1 ?_; intro w2 H2 I2)
      | (with_reducible refine has_any hb n NY H2 ?_; intro w3 H3 I3)
      | (with_reducible refine has_any r4 n NU H4 ?_; intro w5 H5 I5; have G5 := H5.right)
      | (with_reducible refine has_any r6 n NM H6 ?_; intro w7 H7 I7; have G7 := H7.right)
      | (with_reducible refine has_any r8 n NI H8 ?_; intro w9 H9 I9; have G9 := H9.right)
      | (with_reducible refine has_any r10 n NA H10 ?_; intro w11 H11 I11; have G11 := H11.right)
      | (with_reducible refine has_any r12 n NR H12 ?_; intro w13 H13 I13; have G13 := H13.right))
    | (go_at_call 18; first
      | (with_reducible refine union_any ha (by omega) hb (by omega) H3 ?_; intro v4 w4 H4 I4; have r4 := Reads.of_row H4 (by omega))
      | (with_reducible refine union_any ha (by omega) hb (by omega) G13 ?_; intro v14 w14 H14 I14; have r14 := Reads.of_row H14 (by omega)))
    | (go_at_call 20; first
      | (with_reducible refine minusr_any ha (by omega) hb (by omega) G5 ?_; intro v6 w6 H6 I6; have r6 := Reads.of_row H6 (by omega)))
    | (go_at_call 21; first
      | (with_reducible refine meet_any ha (by omega) hb (by omega) G7 ?_; intro v8 w8 H8 I8; have r8 := Reads.of_row H8 (by omega))
      | (with_reducible refine meet_any ha (by omega) hb (by omega) G15 ?_; intro v16 w16 H16 I16; have r16 := Reads.of_row H16 (by omega)))
    | (go_at_call 25; first
      | (with_reducible refine add_any ha (by omega) m G9 ?_; intro v10 w10 H10 I10; have r10 := Reads.of_row H10 (by omega)))
    | (go_at_call 23; first
      | (with_reducible refine remove_any ha (by omega) m G11 ?_; intro v12 w12 H12 I12; have r12 := Reads.of_row H12 (by omega)))
    | (go_at_call 14; first
      | (with_reducible refine count_any r14 (by omega) CU H14 ?_; intro w15 H15 I15; have G15 := H15.right)
      | (with_reducible refine count_any r16 (by omega) CM H16 ?_; intro w17 H17 I17; have G17 := H17.right)
      | (with_reducible refine count_any ha (by omega) CA G17 ?_; intro w18 H18 I18)
      | (with_reducible refine count_any hb (by omega) CB H18 ?_; intro w19 H19 I19)))
  have fin := HH.out _ H19 (((((((((((((((((((I1).trans I2).trans I3).trans I4).trans I5).trans I6).trans I7).trans I8).trans I9).trans I10).trans I11).trans I12).trans I13).trans I14).trans I15).trans I16).trans I17).trans I18).trans I19)
  have g2 : (n != m) = true := bne_iff_ne.2 (by omega)
  first | exact fin | (simp only [g2]; exact fin)
set_option maxRecDepth 100000 in
set_option maxHeartbeats 8000000 in
theorem runsLogic_tt_in1 {a b : List Rn} {aa ba : Option Addr} {ac bc : Nat} (n m : Int) (hx : Rs.Has a n) (hy : Rs.Has b n) (hn0 : 0 ≤ n) (hn1 : n ≤ 4294967295) (he : n = m) (ha : ReadsR F (.slice aa a.length ac) a) (hb : ReadsR F (.slice ba b.length bc) b) (am : (a.length : Int) ≤ 9223372036854775807) (bm' : (b.length : Int) ≤ 9223372036854775807) (qa : ¬ (40 : Int) < (a.length : Int)) (qb : ¬ (40 : Int) < (b.length : Int)) (H : Sat F w) (h : ∀ w', Sat F w' → Io w w' → R (.returned (.bool true)) w') : Calls Try.prog 8 #[.slice aa a.length ac, .slice ba b.length bc, .int .i64 n, .int .i64 m] w R := by
  have HH := Lib.hid h
  clear h
  have hn : 0 ≤ n ∧ n ≤ Rs.most := ⟨hn0, hn1⟩
  subst he
  have l1 := Rs.minus_len a b
  have l2 := Rs.union_len a b
  have l4 := Rs.meet_len a b
  have l7 := Rs.union_len a [(n, n)]
  have l9 := Rs.minus_len a [(n, n)]
  simp only [List.length_cons, List.length_nil, Nat.zero_add] at l7 l9
  have NX : Hid (true = decide (Rs.Has a n)) := Lib.hid (by simp [hx])
  have NY : Hid (true = decide (Rs.Has b n)) := Lib.hid (by simp [hy])
  have NU : Hid (true = decide (Rs.Has (Rs.union a b) n)) := Lib.hid (by simp [Rs.has_union, Rs.has_minus, Rs.has_meet, Rs.has_one, hx, hy, hn])
  have NM : Hid (false = decide (Rs.Has (Rs.minus a b) n)) := Lib.hid (by simp [Rs.has_union, Rs.has_minus, Rs.has_meet, Rs.has_one, hx, hy, hn])
  have NI : Hid (true = decide (Rs.Has (Rs.meet a b) n)) := Lib.hid (by simp [Rs.has_union, Rs.has_minus, Rs.has_meet, Rs.has_one, hx, hy, hn])
  have NA : Hid (true = decide (Rs.Has (Rs.union a [(n, n)]) n)) := Lib.hid (by simp [Rs.has_union, Rs.has_minus, Rs.has_meet, Rs.has_one, hx, hy, hn])
  have NR : Hid (false = decide (Rs.Has (Rs.minus a [(n, n)]) n)) := Lib.hid (by simp [Rs.has_union, Rs.has_minus, Rs.has_meet, Rs.has_one, hx, hy, hn])
  obtain ⟨cu, CU⟩ : ∃ c, Hid (c = Rs.count (Rs.union a b)) := ⟨_, Lib.hid rfl⟩
  obtain ⟨cm, CM⟩ : ∃ c, Hid (c = Rs.count (Rs.meet a b)) := ⟨_, Lib.hid rfl⟩
  obtain ⟨ca, CA⟩ : ∃ c, Hid (c = Rs.count a) := ⟨_, Lib.hid rfl⟩
  obtain ⟨cb, CB⟩ : ∃ c, Hid (c = Rs.count b) := ⟨_, Lib.hid rfl⟩
  have ec : cu + cm = ca + cb := by rw [CU.out, CM.out, CA.out, CB.out]; exact Rs.count_both a b
  have bu := Rs.count_range (Rs.union a b)
  have bm := Rs.count_range (Rs.meet a b)
  have ba := Rs.count_range a
  have bb := Rs.count_range b
  rw [← CU.out] at bu
  rw [← CM.out] at bm
  rw [← CA.out] at ba
  rw [← CB.out] at bb
  simp only [Rs.most] at bu bm ba bb
  obtain ⟨bu0, bu1⟩ := bu
  obtain ⟨bm0, bm1⟩ := bm
  obtain ⟨ba0, ba1⟩ := ba
  obtain ⟨bb0, bb1⟩ := bb
  have HX := Lib.hid hx
  have HY := Lib.hid hy
  clear hx hy
  go_enter Try.func8, Try.ntmps8
  go_wp2_with (first
    | (go_at_call 9; with_reducible refine works_any H ?_; intro w1 H1 I1)
    | (go_at_call 12; first
      | (with_reducible refine has_any ha n NX H1 ?_; intro w2 H2 I2)
      | (with_reducible refine has_any hb n NY H2 ?_; intro w3 H3 I3)
      | (with_reducible refine has_any r4 n NU H4 ?_; intro w5 H5 I5; have G5 := H5.right)
      | (with_reducible refine has_any r6 n NM H6 ?_; intro w7 H7 I7; have G7 := H7.right)
      | (with_reducible refine has_any r8 n NI H8 ?_; intro w9 H9 I9; have G9 := H9.right)
      | (with_reducible refine has_any r10 n NA H10 ?_; intro w11 H11 I11; have G11 := H11.right)
      | (with_reducible refine has_any r12 n NR H12 ?_; intro w13 H13 I13; have G13 := H13.right))
    | (go_at_call 18; first
      | (with_reducible refine union_any ha (by omega) hb (by omega) H3 ?_; intro v4 w4 H4 I4; have r4 := Reads.of_row H4 (by omega))
      | (with_reducible refine union_any ha (by omega) hb (by omega) G13 ?_; intro v14 w14 H14 I14; have r14 := Reads.of_row H14 (by omega)))
    | (go_at_call 20; first
      | (with_reducible refine minusr_any ha (by omega) hb (by omega) G5 ?_; intro v6 w6 H6 I6; have r6 := Reads.of_row H6 (by omega)))
    | (go_at_call 21; first
      | (with_reducible refine meet_any ha (by omega) hb (by omega) G7 ?_; intro v8 w8 H8 I8; have r8 := Reads.of_row H8 (by omega))
      | (with_reducible refine meet_any ha (by omega) hb (by omega) G15 ?_; intro v16 w16 H16 I16; have r16 := Reads.of_row H16 (by omega)))
    | (go_at_call 25; first
      | (with_reducible refine add_any ha (by omega) n G9 ?_; intro v10 w10 H10 I10; have r10 := Reads.of_row H10 (by omega)))
    | (go_at_call 23; first
      | (with_reducible refine remove_any ha (by omega) n G11 ?_; intro v12 w12 H12 I12; have r12 := Reads.of_row H12 (by omega)))
    | (go_at_call 14; first
      | (with_reducible refine count_any r14 (by omega) CU H14 ?_; intro w15 H15 I15; have G15 := H15.right)
      | (with_reducible refine count_any r16 (by omega) CM H16 ?_; intro w17 H17 I17; have G17 := H17.right)
      | (with_reducible refine count_any ha (by omega) CA G17 ?_; intro w18 H18 I18)
      | (with_reducible refine count_any hb (by omega) CB H18 ?_; intro w19 H19 I19)))
  have fin := HH.out _ H19 (((((((((((((((((((I1).trans I2).trans I3).trans I4).trans I5).trans I6).trans I7).trans I8).trans I9).trans I10).trans I11).trans I12).trans I13).trans I14).trans I15).trans I16).trans I17).trans I18).trans I19)
  exact fin
set_option maxRecDepth 100000 in
set_option maxHeartbeats 8000000 in
theorem runsLogic_tt_in0 {a b : List Rn} {aa ba : Option Addr} {ac bc : Nat} (n m : Int) (hx : Rs.Has a n) (hy : Rs.Has b n) (hn0 : 0 ≤ n) (hn1 : n ≤ 4294967295) (he : ¬ n = m) (ha : ReadsR F (.slice aa a.length ac) a) (hb : ReadsR F (.slice ba b.length bc) b) (am : (a.length : Int) ≤ 9223372036854775807) (bm' : (b.length : Int) ≤ 9223372036854775807) (qa : ¬ (40 : Int) < (a.length : Int)) (qb : ¬ (40 : Int) < (b.length : Int)) (H : Sat F w) (h : ∀ w', Sat F w' → Io w w' → R (.returned (.bool true)) w') : Calls Try.prog 8 #[.slice aa a.length ac, .slice ba b.length bc, .int .i64 n, .int .i64 m] w R := by
  have HH := Lib.hid h
  clear h
  have hn : 0 ≤ n ∧ n ≤ Rs.most := ⟨hn0, hn1⟩
  have l1 := Rs.minus_len a b
  have l2 := Rs.union_len a b
  have l4 := Rs.meet_len a b
  have l7 := Rs.union_len a [(m, m)]
  have l9 := Rs.minus_len a [(m, m)]
  simp only [List.length_cons, List.length_nil, Nat.zero_add] at l7 l9
  have NX : Hid (true = decide (Rs.Has a n)) := Lib.hid (by simp [hx])
  have NY : Hid (true = decide (Rs.Has b n)) := Lib.hid (by simp [hy])
  have NU : Hid (true = decide (Rs.Has (Rs.union a b) n)) := Lib.hid (by simp [Rs.has_union, Rs.has_minus, Rs.has_meet, Rs.has_one, hx, hy, hn, he])
  have NM : Hid (false = decide (Rs.Has (Rs.minus a b) n)) := Lib.hid (by simp [Rs.has_union, Rs.has_minus, Rs.has_meet, Rs.has_one, hx, hy, hn, he])
  have NI : Hid (true = decide (Rs.Has (Rs.meet a b) n)) := Lib.hid (by simp [Rs.has_union, Rs.has_minus, Rs.has_meet, Rs.has_one, hx, hy, hn, he])
  have NA : Hid (true = decide (Rs.Has (Rs.union a [(m, m)]) n)) := Lib.hid (by simp [Rs.has_union, Rs.has_minus, Rs.has_meet, Rs.has_one, hx, hy, hn, he])
  have NR : Hid (true = decide (Rs.Has (Rs.minus a [(m, m)]) n)) := Lib.hid (by simp [Rs.has_union, Rs.has_minus, Rs.has_meet, Rs.has_one, hx, hy, hn, he])
  obtain ⟨cu, CU⟩ : ∃ c, Hid (c = Rs.count (Rs.union a b)) := ⟨_, Lib.hid rfl⟩
  obtain ⟨cm, CM⟩ : ∃ c, Hid (c = Rs.count (Rs.meet a b)) := ⟨_, Lib.hid rfl⟩
  obtain ⟨ca, CA⟩ : ∃ c, Hid (c = Rs.count a) := ⟨_, Lib.hid rfl⟩
  obtain ⟨cb, CB⟩ : ∃ c, Hid (c = Rs.count b) := ⟨_, Lib.hid rfl⟩
  have ec : cu + cm = ca + cb := by rw [CU.out, CM.out, CA.out, CB.out]; exact Rs.count_both a b
  have bu := Rs.count_range (Rs.union a b)
  have bm := Rs.count_range (Rs.meet a b)
  have ba := Rs.count_range a
  have bb := Rs.count_range b
  rw [← CU.out] at bu
  rw [← CM.out] at bm
  rw [← CA.out] at ba
  rw [← CB.out] at bb
  simp only [Rs.most] at bu bm ba bb
  obtain ⟨bu0, bu1⟩ := bu
  obtain ⟨bm0, bm1⟩ := bm
  obtain ⟨ba0, ba1⟩ := ba
  obtain ⟨bb0, bb1⟩ := bb
  have HX := Lib.hid hx
  have HY := Lib.hid hy
  clear hx hy
  go_enter Try.func8, Try.ntmps8
  go_wp2_with (first
    | (go_at_call 9; with_reducible refine works_any H ?_; intro w1 H1 I1)
    | (go_at_call 12; first
      | (with_reducible refine has_any ha n NX H1 ?_; intro w2 H2 I2)
      | (with_reducible refine has_any hb n NY H2 ?_; intro w3 H3 I3)
      | (with_reducible refine has_any r4 n NU H4 ?_; intro w5 H5 I5; have G5 := H5.right)
      | (with_reducible refine has_any r6 n NM H6 ?_; intro w7 H7 I7; have G7 := H7.right)
      | (with_reducible refine has_any r8 n NI H8 ?_; intro w9 H9 I9; have G9 := H9.right)
      | (with_reducible refine has_any r10 n NA H10 ?_; intro w11 H11 I11; have G11 := H11.right)
      | (with_reducible refine has_any r12 n NR H12 ?_; intro w13 H13 I13; have G13 := H13.right))
    | (go_at_call 18; first
      | (with_reducible refine union_any ha (by omega) hb (by omega) H3 ?_; intro v4 w4 H4 I4; have r4 := Reads.of_row H4 (by omega))
      | (with_reducible refine union_any ha (by omega) hb (by omega) G13 ?_; intro v14 w14 H14 I14; have r14 := Reads.of_row H14 (by omega)))
    | (go_at_call 20; first
      | (with_reducible refine minusr_any ha (by omega) hb (by omega) G5 ?_; intro v6 w6 H6 I6; have r6 := Reads.of_row H6 (by omega)))
    | (go_at_call 21; first
      | (with_reducible refine meet_any ha (by omega) hb (by omega) G7 ?_; intro v8 w8 H8 I8; have r8 := Reads.of_row H8 (by omega))
      | (with_reducible refine meet_any ha (by omega) hb (by omega) G15 ?_; intro v16 w16 H16 I16; have r16 := Reads.of_row H16 (by omega)))
    | (go_at_call 25; first
      | (with_reducible refine add_any ha (by omega) m G9 ?_; intro v10 w10 H10 I10; have r10 := Reads.of_row H10 (by omega)))
    | (go_at_call 23; first
      | (with_reducible refine remove_any ha (by omega) m G11 ?_; intro v12 w12 H12 I12; have r12 := Reads.of_row H12 (by omega)))
    | (go_at_call 14; first
      | (with_reducible refine count_any r14 (by omega) CU H14 ?_; intro w15 H15 I15; have G15 := H15.right)
      | (with_reducible refine count_any r16 (by omega) CM H16 ?_; intro w17 H17 I17; have G17 := H17.right)
      | (with_reducible refine count_any ha (by omega) CA G17 ?_; intro w18 H18 I18)
      | (with_reducible refine count_any hb (by omega) CB H18 ?_; intro w19 H19 I19)))
  have fin := HH.out _ H19 (((((((((((((((((((I1).trans I2).trans I3).trans I4).trans I5).trans I6).trans I7).trans I8).trans I9).trans I10).trans I11).trans I12).trans I13).trans I14).trans I15).trans I16).trans I17).trans I18).trans I19)
  have g2 : (n != m) = true := bne_iff_ne.2 (by omega)
  first | exact fin | (simp only [g2]; exact fin)
set_option maxRecDepth 100000 in
set_option maxHeartbeats 8000000 in
theorem runsLogic_any {a b : List Rn} {va vb : Value} (n m : Int) (ha : ReadsR F va a) (hb : ReadsR F vb b) (H : Sat F w) (h : ∀ w', Sat F w' → Io w w' → R (.returned (.bool true)) w') : Calls Try.prog 8 #[va, vb, .int .i64 n, .int .i64 m] w R := by
  have HH := Lib.hid h
  clear h
  obtain ⟨aa, ac, rfl, am⟩ := readsR_len ha
  obtain ⟨ba, bc, rfl, bm⟩ := readsR_len hb
  by_cases len_a : a.length ≤ 40
  · by_cases len_b : b.length ≤ 40
    · have qa : ¬ (40 : Int) < (a.length : Int) := by omega
      have qb : ¬ (40 : Int) < (b.length : Int) := by omega
      by_cases hx : Rs.Has a n
      · by_cases hy : Rs.Has b n
        · obtain ⟨hn0, hn1, _⟩ := id hx
          simp only [Rs.most] at hn1
          by_cases he : n = m
          · exact runsLogic_tt_in1 n m hx hy hn0 hn1 he ha hb am bm qa qb H HH.out
          · exact runsLogic_tt_in0 n m hx hy hn0 hn1 he ha hb am bm qa qb H HH.out
        · obtain ⟨hn0, hn1, _⟩ := id hx
          simp only [Rs.most] at hn1
          by_cases he : n = m
          · exact runsLogic_tf_in1 n m hx hy hn0 hn1 he ha hb am bm qa qb H HH.out
          · exact runsLogic_tf_in0 n m hx hy hn0 hn1 he ha hb am bm qa qb H HH.out
      · by_cases hy : Rs.Has b n
        · obtain ⟨hn0, hn1, _⟩ := id hy
          simp only [Rs.most] at hn1
          by_cases he : n = m
          · exact runsLogic_ft_in1 n m hx hy hn0 hn1 he ha hb am bm qa qb H HH.out
          · exact runsLogic_ft_in0 n m hx hy hn0 hn1 he ha hb am bm qa qb H HH.out
        · by_cases hn0 : 0 ≤ n
          · by_cases hn1 : n ≤ 4294967295
            · by_cases he : n = m
              · exact runsLogic_ff_in1 n m hx hy hn0 hn1 he ha hb am bm qa qb H HH.out
              · exact runsLogic_ff_in0 n m hx hy hn0 hn1 he ha hb am bm qa qb H HH.out
            · by_cases he : n = m
              · exact runsLogic_ff_hi1 n m hx hy hn0 hn1 he ha hb am bm qa qb H HH.out
              · exact runsLogic_ff_hi0 n m hx hy hn0 hn1 he ha hb am bm qa qb H HH.out
          · by_cases he : n = m
            · exact runsLogic_ff_lo1 n m hx hy hn0 he ha hb am bm qa qb H HH.out
            · exact runsLogic_ff_lo0 n m hx hy hn0 he ha hb am bm qa qb H HH.out
    · have qb : (40 : Int) < (b.length : Int) := by omega
      have qa : ¬ (40 : Int) < (a.length : Int) := by omega
      go_enter Try.func8, Try.ntmps8
      go_wp2_with (go_at_call 9; with_reducible refine works_any H ?_; intro w1 H1 I1)
      exact HH.out _ H1 I1
  · have qa : (40 : Int) < (a.length : Int) := by omega
    go_enter Try.func8, Try.ntmps8
    go_wp2_with (go_at_call 9; with_reducible refine works_any H ?_; intro w1 H1 I1)
    exact HH.out _ H1 I1
end
end Go.Proofs.Ytaekcmpeglagnaa
