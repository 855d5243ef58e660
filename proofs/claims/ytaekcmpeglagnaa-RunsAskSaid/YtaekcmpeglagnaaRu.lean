/-
  Runs: slices.Grow, slices.Concat of two rows, Union, Meet, Minus, Add, Remove, by their walks. It proves no statement by itself.
-/
import Derived.Test.YtaekcmpeglagnaaRh
namespace Go.Proofs.Ytaekcmpeglagnaa
open Go.RowKit Go.Lib
set_option linter.unusedSimpArgs false
set_option linter.unusedVariables false

section
variable {F : Asn} {w : World} {R : Ending → World → Prop} {l m : List Rn} {v u : Value}
/-- 'append(nil, make(S, m)...)': a new row. -/
theorem run_make_nil {P : Program} {e t tn ty : TypeId} {i : TypeInfo} {z : Value} {kn : IntKind} {sz bytes : Nat} (ht : P.underlying t = some (.slice e)) (htn : P.underlying tn = some (.int kn)) (hi : P.info? e = some i) (hz : i.zero = some z) (hs : i.size = sz) (hb : i.bytes = bytes) (hzs : z.cells.size = sz) (h0 : 0 < sz)
    {G : Asn} (HG : Sat G w) (m : Nat) (hm : 0 < m) (h63 : m ≤ maxLen) (hbytes : m * bytes ≤ 140737488355328) (kq : IntKind) :
    ∃ g' c' w', (Builtin.append_ #[t, tn] ty #[.slice none 0 0, .int kq (m : Int)]).run P w = .ok (.slice (some ⟨g', 0, none⟩) m c') w' ∧ Sat (Row e sz (.slice (some ⟨g', 0, none⟩) m c') m (Builtin.zeroCells z.cells m).toList * G) w' ∧ Io w w' := by
  subst hs
  subst hb
  have hsmall : m ≤ 9223372036854775807 := by simp only [maxLen] at h63; omega
  have hold : (Builtin.firstCells i.size 0 (.slice none 0 0)).run P w.drew = .ok #[] w.drew := by simp [Builtin.firstCells, loadCells, loadCellsFrom]
  have hr := Lib.run_append_grow_zeros (P := P) w t tn ty e i z kq kn ht htn hi hz none 0 0 [] hold m hm h0 (by omega) (by omega) (by omega) (by rw [Nat.zero_add]; exact growslice_fits (by omega) hbytes)
  rw [Nat.zero_add] at hr
  have hge := grownCap_ge w m 0 e
  refine ⟨_, _, _, hr, sat_row.2 ⟨?_, .inr ⟨w.heap.size, _, _, rfl, hge, grownCap_le_maxLen w m 0 e h63, ?_, ?_, (Sat.drew HG).new _⟩⟩, ((Io.refl w).drew).alloc _⟩
  · rw [Array.length_toList, size_zeroCells, hzs]
  · simp only [Array.size_append, List.size_toArray, List.length_nil, size_zeroCells, hzs]
    have e1 := Nat.add_mul m (grownCap w m 0 e - m) i.size
    have e2 : m + (grownCap w m 0 e - m) = grownCap w m 0 e := by omega
    rw [e2] at e1
    omega
  · simp only [Array.toList_append, List.nil_append]
    exact List.take_left' (by rw [Array.length_toList, size_zeroCells, hzs])
set_option maxRecDepth 100000 in
set_option maxHeartbeats 2000000 in
theorem grow_any (n : Nat) (hn : n ≤ 1000000) (H : Sat F w) (h : ∀ v' w', Sat (RowR v' [] * F) w' → Io w w' → R (.returned v') w') :
    Calls Try.prog 37 #[.slice none 0 0, .int .i64 (n : Int)] w R := by
  have HH := Lib.hid h
  clear h
  cases n with
  | zero =>
    go_enter Try.func37, Try.ntmps37
    go_wp2_with fail
    exact HH.out _ _ (row_nilR H) (Io.refl _)
  | succ n =>
    obtain ⟨i0, z, hi, hz0, hz1, hz2, hz3⟩ := Try.rowR.parts
    obtain ⟨g, c, w3, hr, H3, I3⟩ := run_make_nil (P := Try.prog) (t := 22) (tn := 3) (ty := 22) (kn := .i64) Try.underlying22 Try.underlying3 hi hz0 hz1 hz2 hz3 (by omega) H (n + 1) (by omega) (by unfold maxLen; omega) (by omega) .i64
    have hcap := (row_cap H3).2
    have H4 := row_shrink H3 (k := 0) (by omega)
    have q1 : (0 : Int) < ((n + 1 : Nat) : Int) := by omega
    have q2 : (0 : Int) ≤ (c : Int) := by omega
    have q3 : (c : Int) ≤ 9223372036854775807 := by unfold maxLen at hcap; omega
    have q4 : ((n + 1 : Nat) : Int) ≤ 1000000 := by omega
    have fin : Hid (Sat (RowR (.slice (some ⟨g, 0, none⟩) 0 c) [] * F) w3) := Lib.hid (by
      refine H4.of_eq ?_
      unfold RowR RowOf
      rw [Nat.zero_mul, List.take_zero]
      rfl)
    generalize hN : ((n + 1 : Nat) : Int) = N at *
    clear H H3 H4
    go_enter Try.func37, Try.ntmps37
    go_wp2_with (at_builtin; refine Lib.wpList_append_run _ rfl _ _ _ _ rfl _ _ rfl rfl _ _ hr ?_)
    exact HH.out _ _ fin.out I3
theorem grow_at (N : Int) (n : Nat) (hN : N = (n : Int)) (hn : n ≤ 1000000) (H : Sat F w) (h : ∀ v' w', Sat (RowR v' [] * F) w' → Io w w' → R (.returned v') w') :
    Calls Try.prog 37 #[.slice none 0 0, .int .i64 N] w R := by
  subst hN
  exact grow_any n hn H h
set_option maxRecDepth 100000 in
set_option maxHeartbeats 4000000 in
theorem concat_any {bb : Nat} (hv : ReadsR F v l) (hl : l.length ≤ 10000) (hu : ReadsR F u m) (hm0 : m.length ≤ 10000) (H : Sat (pts bb (.cells #[v, u] 22 (0, 0)) * F) w) (h : ∀ v' w', Sat (RowR v' (l ++ m) * F) w' → Io w w' → R (.returned v') w') :
    Calls Try.prog 30 #[.slice (some ⟨bb, 0, none⟩) 2 2] w R := by
  obtain ⟨a, c, rfl, hm⟩ := readsR_len hv
  obtain ⟨a', c', rfl, hm'⟩ := readsR_len hu
  have HH := Lib.hid h
  have hv' := Lib.hid (hv.with (G := pts bb (.cells #[.slice a l.length c, .slice a' m.length c'] 22 (0, 0))))
  have hu' := Lib.hid (hu.with (G := pts bb (.cells #[.slice a l.length c, .slice a' m.length c'] 22 (0, 0))))
  obtain ⟨c0, c1⟩ := box_cells H
  have q1 : (0 : Int) ≤ (l.length : Int) := by omega
  have q2 : (l.length : Int) ≤ 10000 := by omega
  have q3 : (m.length : Int) ≤ 10000 := by omega
  have q4 : (0 : Int) ≤ (l.length : Int) + (m.length : Int) := by omega
  have LL := Lib.hid hl
  have LM := Lib.hid hm0
  clear h hv hu hl hm0
  go_enter Try.func30, Try.ntmps30
  go_wp2_with fail
  refine wp_loop_rounds 3 ?_
  rw [rounds_succ]
  go_wp2_with fail
  rw [rounds_succ]
  go_wp2_with fail
  rw [rounds_succ]
  go_wp2_with (go_at_call 37; with_reducible refine grow_at _ (l.length + m.length) (by omega) (by have := LL.out; have := LM.out; omega) H ?_; intro v3 w3 H3 I3; obtain ⟨d0, d1⟩ := box_cells H3.right)
  refine wp_loop_rounds 3 ?_
  rw [rounds_succ]
  go_wp2_with (at_builtin; refine wpList_append_recs Try.rowR encR_ok rfl (.tmp 31) (.tmp 32) rfl rfl H3 (by simp) (by have := LL.out; omega) rfl hv'.out ?_; intro v4 w4 H4 I4; obtain ⟨e0, e1⟩ := box_cells H4.right)
  rw [rounds_succ]
  go_wp2_with (at_builtin; refine wpList_append_recs Try.rowR encR_ok rfl (.tmp 31) (.tmp 32) rfl rfl H4 (by have := LL.out; simp; omega) (by have := LM.out; omega) rfl hu'.out ?_; intro v5 w5 H5 I5)
  rw [rounds_succ]
  go_wp2_with fail
  rw [List.nil_append] at H5
  exact HH.out _ _ H5.mid ((I3.trans I4).trans I5)
set_option maxRecDepth 100000 in
set_option maxHeartbeats 1000000 in
theorem union_any (hv : ReadsR F v l) (hl : l.length ≤ 5000) (hu : ReadsR F u m) (hm0 : m.length ≤ 5000) (H : Sat F w) (h : ∀ v' w', Sat (RowR v' (Rs.union l m) * F) w' → Io w w' → R (.returned v') w') :
    Calls Try.prog 18 #[v, u] w R := by
  obtain ⟨a, c, rfl, hm⟩ := readsR_len hv
  obtain ⟨a', c', rfl, hm'⟩ := readsR_len hu
  have HH := Lib.hid h
  have HB := H.new (.cells #[.slice a l.length c, .slice a' m.length c'] 22)
  have IB := (Io.refl w).alloc (.cells #[.slice a l.length c, .slice a' m.length c'] 22)
  clear h
  go_enter Try.func18, Try.ntmps18
  go_wp2_with (first
    | (go_at_call 30; with_reducible refine concat_any hv (by omega) hu (by omega) HB ?_; intro v2 w2 H2 I2)
    | (go_at_call 19; with_reducible refine norm_any (Reads.of_row H2 (by rw [List.length_append]; omega)) (by rw [List.length_append]; omega) H2 ?_; intro v3 w3 H3 I3))
  exact HH.out _ _ H3.mid ((IB.trans I2).trans I3)
theorem union_e (hv : ReadsR F v l) (hl : l.length ≤ 5000) (hu : ReadsR F u m) (hm0 : m.length ≤ 5000) {o : List Rn} (ho : Hid (o = Rs.union l m)) (H : Sat F w) (h : ∀ v' w', Sat (RowR v' o * F) w' → Io w w' → R (.returned v') w') :
    Calls Try.prog 18 #[v, u] w R := union_any hv hl hu hm0 H (by rw [← ho.out]; exact h)
set_option maxRecDepth 100000 in
set_option maxHeartbeats 1000000 in
theorem meet_any (hv : ReadsR F v l) (hl : l.length ≤ 2000) (hu : ReadsR F u m) (hm0 : m.length ≤ 2000) (H : Sat F w) (h : ∀ v' w', Sat (RowR v' (Rs.meet l m) * F) w' → Io w w' → R (.returned v') w') :
    Calls Try.prog 21 #[v, u] w R := by
  have HH := Lib.hid h
  have n1 := Rs.rest_len l
  have n2 := Rs.rest_len m
  have n3 := Rs.union_len (Rs.rest l) (Rs.rest m)
  clear h
  go_enter Try.func21, Try.ntmps21
  go_wp2_with (first
    | (go_at_call 34; first
      | (with_reducible refine rest_any hv (by omega) H ?_; intro v2 w2 H2 I2)
      | (with_reducible refine rest_any hu.with (by omega) H2 ?_; intro v3 w3 H3 I3)
      | (with_reducible refine rest_any (Reads.of_row H4 (by omega)) (by omega) H4 ?_; intro v5 w5 H5 I5))
    | (go_at_call 18; with_reducible refine union_any (Reads.of_row H2 (by omega)).with (by omega) (Reads.of_row H3 (by omega)) (by omega) H3 ?_; intro v4 w4 H4 I4))
  exact HH.out _ _ H5.mid.mid.mid (((I2.trans I3).trans I4).trans I5)
set_option maxRecDepth 100000 in
set_option maxHeartbeats 1000000 in
theorem minusr_any (hv : ReadsR F v l) (hl : l.length ≤ 1000) (hu : ReadsR F u m) (hm0 : m.length ≤ 1000) (H : Sat F w) (h : ∀ v' w', Sat (RowR v' (Rs.minus l m) * F) w' → Io w w' → R (.returned v') w') :
    Calls Try.prog 20 #[v, u] w R := by
  have HH := Lib.hid h
  have n2 := Rs.rest_len m
  have E := Lib.hid (Rs.pminus_eq l m)
  clear h
  go_enter Try.func20, Try.ntmps20
  go_wp2_with (first
    | (go_at_call 34; with_reducible refine rest_any hu (by omega) H ?_; intro v2 w2 H2 I2)
    | (go_at_call 21; with_reducible refine meet_any hv.with (by omega) (Reads.of_row H2 (by omega)) (by omega) H2 ?_; intro v3 w3 H3 I3))
  refine HH.out _ _ ?_ (I2.trans I3)
  rw [← E.out]
  exact H3.mid
theorem reads_one {b : Nat} (x1 x2 : Int) : ReadsR (pts b (.cells #[.int .i64 x1, .int .i64 x2] 28 (0, 0)) * F) (.slice (some ⟨b, 0, none⟩) 1 1) [(x1, x2)] :=
  ⟨_, 1, rfl, by simp, .inr ⟨b, 0, rfl, fun w hw j u hu => by rw [Nat.zero_add, Sat.read hw.left.at j, List.getElem?_toArray]; exact hu⟩⟩
set_option maxRecDepth 100000 in
set_option maxHeartbeats 1000000 in
theorem add_any (hv : ReadsR F v l) (hl : l.length ≤ 1000) (n : Int) (H : Sat F w) (h : ∀ v' w', Sat (RowR v' (Rs.union l [(n, n)]) * F) w' → Io w w' → R (.returned v') w') :
    Calls Try.prog 25 #[v, .int .i64 n] w R := by
  have HH := Lib.hid h
  have HB := H.new (.cells #[.int .i64 n, .int .i64 n] 28)
  have IB := (Io.refl w).alloc (.cells #[.int .i64 n, .int .i64 n] 28)
  clear h
  go_enter Try.func25, Try.ntmps25
  go_wp2_with (go_at_call 18; with_reducible refine union_any hv.with (by omega) (reads_one n n) (by simp) HB ?_; intro v2 w2 H2 I2)
  exact HH.out _ _ H2.mid (IB.trans I2)
set_option maxRecDepth 100000 in
set_option maxHeartbeats 1000000 in
theorem remove_any (hv : ReadsR F v l) (hl : l.length ≤ 1000) (n : Int) (H : Sat F w) (h : ∀ v' w', Sat (RowR v' (Rs.minus l [(n, n)]) * F) w' → Io w w' → R (.returned v') w') :
    Calls Try.prog 23 #[v, .int .i64 n] w R := by
  have HH := Lib.hid h
  have HB := H.new (.cells #[.int .i64 n, .int .i64 n] 28)
  have IB := (Io.refl w).alloc (.cells #[.int .i64 n, .int .i64 n] 28)
  clear h
  go_enter Try.func23, Try.ntmps23
  go_wp2_with (go_at_call 20; with_reducible refine minusr_any hv.with (by omega) (reads_one n n) (by simp) HB ?_; intro v2 w2 H2 I2)
  exact HH.out _ _ H2.mid (IB.trans I2)
end
end Go.Proofs.Ytaekcmpeglagnaa
