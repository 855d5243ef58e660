/-
  adj.Parse of any entry, the document's Wrong, Pair, Key, Parse, by walks. It proves no statement by itself.
-/
import Derived.Test.YthbbdicdcmjpiaaGreatDoorQ42
namespace Go.Proofs.YthbbdicdcmjpiaaGreatDoor
open Go.RowKit Go.Lib
set_option linter.unusedSimpArgs false
set_option linter.unusedVariables false
set_option linter.unusedSectionVars false
section
variable {F : Asn} {w : World} {R : Ending → World → Prop}
set_option maxRecDepth 100000 in
theorem rvtx_any (v : Int) (H : Sat F w) {d : Bool} (hd : Hid (d = Md.vtx v)) (h : ∀ w', Sat F w' → Io w w' → R (.returned (.bool d)) w') : Calls Tryz.prog 39 #[.int .i64 v] w R := by
  have hx := hd.out
  unfold Md.vtx at hx
  have HH := Lib.hid h
  clear h hd
  by_cases h0 : 0 ≤ v
  · by_cases h1 : v < 1048576
    · rw [decide_eq_true ⟨h0, h1⟩] at hx
      subst hx
      go_enter Tryz.func39, Tryz.ntmps39
      go_wp2_with fail
      exact HH.out _ H (Io.refl _)
    · rw [decide_eq_false (fun h => h1 h.2)] at hx
      subst hx
      go_enter Tryz.func39, Tryz.ntmps39
      go_wp2_with fail
      exact HH.out _ H (Io.refl _)
  · rw [decide_eq_false (fun h => h0 h.1)] at hx
    subst hx
    go_enter Tryz.func39, Tryz.ntmps39
    go_wp2_with fail
    exact HH.out _ H (Io.refl _)
set_option maxRecDepth 100000 in
theorem rwrong_any (u v : Int) (H : Sat F w) {e : Int} (he : Hid (e = Md.wrong u v)) (h : ∀ w', Sat F w' → Io w w' → R (.returned (.int .i64 e)) w') : Calls Tryz.prog 10 #[.int .i64 u, .int .i64 v] w R := by
  have hx := he.out
  have HH := Lib.hid h
  obtain ⟨d1, h1⟩ : ∃ d, d = Md.vtx u := ⟨_, rfl⟩
  obtain ⟨d2, h2⟩ : ∃ d, d = Md.vtx v := ⟨_, rfl⟩
  have HD1 := Lib.hid h1
  have HD2 := Lib.hid h2
  unfold Md.wrong at hx
  rw [← h1, ← h2] at hx
  clear h he h1 h2
  cases d1 with
  | false =>
    simp only [Bool.false_and, Bool.false_eq_true, if_false] at hx
    subst hx
    go_enter Tryz.func10, Tryz.ntmps10
    go_wp2_with (go_at_call 39; with_reducible refine rvtx_any u H HD1 ?_; intro w1 H1 I1)
    exact HH.out _ H1 I1
  | true =>
    cases d2 with
    | false =>
      simp only [Bool.and_false, Bool.false_eq_true, if_false] at hx
      subst hx
      go_enter Tryz.func10, Tryz.ntmps10
      go_wp2_with (go_at_call 39; first | (with_reducible refine rvtx_any u H HD1 ?_; intro w1 H1 I1) | (with_reducible refine rvtx_any v H1 HD2 ?_; intro w2 H2 I2))
      exact HH.out _ H2 (I1.trans I2)
    | true =>
      simp only [Bool.and_self, if_true] at hx
      by_cases e2 : u = v
      · rw [if_pos e2] at hx
        subst e2
        subst hx
        go_enter Tryz.func10, Tryz.ntmps10
        go_wp2_with (go_at_call 39; first | (with_reducible refine rvtx_any u H1 HD2 ?_; intro w2 H2 I2) | (with_reducible refine rvtx_any u H HD1 ?_; intro w1 H1 I1))
        exact HH.out _ H2 (I1.trans I2)
      · rw [if_neg e2] at hx
        subst hx
        go_enter Tryz.func10, Tryz.ntmps10
        go_wp2_with (go_at_call 39; first | (with_reducible refine rvtx_any u H HD1 ?_; intro w1 H1 I1) | (with_reducible refine rvtx_any v H1 HD2 ?_; intro w2 H2 I2))
        exact HH.out _ H2 (I1.trans I2)
set_option maxRecDepth 100000 in
theorem rpair_any (u v : Int) (H : Sat F w) {a b : Int} (he : Hid (Md.pair u v = (a, b))) (h : ∀ w', Sat F w' → Io w w' → R (.returned (.agg #[.int .i64 a, .int .i64 b])) w') : Calls Tryz.prog 9 #[.int .i64 u, .int .i64 v] w R := by
  have hx := he.out
  unfold Md.pair at hx
  simp only [Prod.mk.injEq] at hx
  obtain ⟨hx1, hx2⟩ := hx
  have HH := Lib.hid h
  have H1 : Sat (pts w.heap.size (.cells #[.int .i64 a, .int .i64 b] 35 (0, 0)) * F) (w.alloc (.cells #[.int .i64 a, .int .i64 b] 35)) := H.new _
  have I1 := (Io.refl w).alloc (.cells #[.int .i64 a, .int .i64 b] 35)
  clear he h
  subst hx1 hx2
  go_enter Tryz.func9, Tryz.ntmps9
  go_wp2_with fail
  obtain ⟨q0, q1⟩ := (⟨Sat.read H1.left.at 0, Sat.read H1.left.at 1⟩ : (w.alloc (.cells #[.int .i64 (min u v), .int .i64 (max u v)] 35)).cell? ⟨w.heap.size, 0, none⟩ = some (.int .i64 (min u v)) ∧ (w.alloc (.cells #[.int .i64 (min u v), .int .i64 (max u v)] 35)).cell? ⟨w.heap.size, 1, none⟩ = some (.int .i64 (max u v)))
  exact bodyPost_ret (v := .agg #[.int .i64 (min u v), .int .i64 (max u v)]) (by simp [results, Tryz.results9, go_sem, q0, q1]) rfl (HH.out _ H1.right I1)
end
namespace Aj
open Ky
abbrev Pt := Int × Int × Bool × Bool
/-- What an entry says, or that it says nothing. -/
def pr (k v : Nm) : Pt := if isA k = true ∧ prsE (cut k) = 0 ∧ prsU (cut k) ≠ prsV (cut k) ∧ (v = vt true ∨ v = vt false) then (prsU (cut k), prsV (cut k), decide (v = vt true), true) else (0, 0, false, false)
theorem prsE_wrong {s : Nm} (h : prsE s = 0) (hne : prsU s ≠ prsV s) : Md.wrong (prsU s) (prsV s) = 0 ∧ keyS (prsU s) (prsV s) = s := by
  obtain ⟨h1, h2⟩ := prs_back h
  refine ⟨?_, h2⟩
  rw [← mkE_wrong]
  unfold keyE at h1
  unfold mkE
  by_cases hu : verE (prsU s) = 0 <;> by_cases hv : verE (prsV s) = 0 <;> simp_all
theorem pr_yes {k v : Nm} (h : isA k = true ∧ prsE (cut k) = 0 ∧ prsU (cut k) ≠ prsV (cut k) ∧ (v = vt true ∨ v = vt false)) :
    Md.wrong (prsU (cut k)) (prsV (cut k)) = 0 ∧ k = ks (prsU (cut k)) (prsV (cut k)) ∧ v = vt (decide (v = vt true)) := by
  obtain ⟨h1, h2, h3, h4⟩ := h
  obtain ⟨w1, w2⟩ := prsE_wrong h2 h3
  refine ⟨w1, ?_, ?_⟩
  · rw [ks_eq w1, w2]; exact (isA_cut h1).1
  · rcases h4 with h4 | h4
    · rw [h4]; simp
    · rw [h4]; congr 1
end Aj
section
variable {F : Asn} {w : World} {R : Ending → World → Prop}
set_option maxRecDepth 100000 in
set_option maxHeartbeats 4000000 in
theorem ajparse_a {k val : ByteArray} (hk : Hid (k.size ≤ 1000)) (h0 : Hid (Aj.isA k = false)) (H : Sat F w) (h : ∀ w', Sat F w' → Io w w' → R (.returned (.tuple #[.int .i64 0, .int .i64 0, .bool false, .bool false])) w') :
    Calls Tryz.prog 20 #[.agg #[.string k, .string val]] w R := by
  have HH := Lib.hid h
  obtain ⟨r, hr⟩ : ∃ r, Aj.cut k = r := ⟨_, rfl⟩
  have C2 := Lib.hid hr
  have HZ : Hid (r.size ≤ 9223372036854775807) := Lib.hid (by
    rw [← hr]
    unfold Aj.cut Lib.trimPrefix
    have h1 : Lib.hasPrefix k.data.toList Aj.pA.data.toList = false := h0.out
    rw [h1]
    have := hk.out
    show k.data.toList.toArray.size ≤ _
    rw [Array.toArray_toList]
    exact Nat.le_trans this (by decide))
  have H1 := H.new (.cells #[.string k, .string val] 49)
  have I1 := (Io.refl w).alloc (.cells #[.string k, .string val] 49)
  obtain ⟨q0, q1⟩ := nd2 H1
  clear h hr
  by_cases he : prsE r = 0
  · obtain ⟨x, hx⟩ : ∃ x, prsU r = x := ⟨_, rfl⟩
    obtain ⟨y, hy⟩ : ∃ y, prsV r = y := ⟨_, rfl⟩
    have P0 := Lib.hid he
    have P1 := Lib.hid hx
    have P2 := Lib.hid hy
    clear he hx hy
    go_enter Tryz.func20, Tryz.ntmps20
    go_wp2_with (first
      | (go_at_call 48; (with_reducible refine cut2_any k h0 C2 ?_))
      | (go_at_call 49; (with_reducible refine eparse_yes H1 r HZ P0 P1 P2 ?_); intro w2 H2 I2; obtain ⟨q0, q1⟩ := nd2 H2))
    exact bodyPost_ret (v := .tuple #[.int .i64 0, .int .i64 0, .bool false, .bool false]) (by simp [results, Tryz.results20, go_sem]) rfl (HH.out _ H2.right (I1.trans I2))
  · have P0 := Lib.hid he
    clear he
    go_enter Tryz.func20, Tryz.ntmps20
    go_wp2_with (first
      | (go_at_call 48; (with_reducible refine cut2_any k h0 C2 ?_))
      | (go_at_call 49; (with_reducible refine eparse_no H1 r HZ P0 ?_); intro w2 H2 I2; obtain ⟨q0, q1⟩ := nd2 H2))
    exact bodyPost_ret (v := .tuple #[.int .i64 0, .int .i64 0, .bool false, .bool false]) (by simp [results, Tryz.results20, go_sem]) rfl (HH.out _ H2.right (I1.trans I2))
set_option maxRecDepth 100000 in
set_option maxHeartbeats 4000000 in
theorem ajparse_b {k val : ByteArray} (hk : Hid (k.size ≤ 1000)) (h0 : Hid (Aj.isA k = true)) (he : Hid (prsE (Aj.cut k) ≠ 0)) (H : Sat F w) (h : ∀ w', Sat F w' → Io w w' → R (.returned (.tuple #[.int .i64 0, .int .i64 0, .bool false, .bool false])) w') :
    Calls Tryz.prog 20 #[.agg #[.string k, .string val]] w R := by
  have HH := Lib.hid h
  have hz := (Aj.isA_cut h0.out).2.2
  have hx := he.out
  obtain ⟨r, hr⟩ : ∃ r, Aj.cut k = r := ⟨_, rfl⟩
  rw [hr] at hz hx
  have C2 := Lib.hid hr
  have HZ : Hid (r.size ≤ 9223372036854775807) := Lib.hid (by have := hk.out; omega)
  have P0 := Lib.hid hx
  have H1 := H.new (.cells #[.string k, .string val] 49)
  have I1 := (Io.refl w).alloc (.cells #[.string k, .string val] 49)
  obtain ⟨q0, q1⟩ := nd2 H1
  clear h hr hz hx he
  go_enter Tryz.func20, Tryz.ntmps20
  go_wp2_with (first
    | (go_at_call 48; (with_reducible refine cut2_any k h0 C2 ?_))
    | (go_at_call 49; (with_reducible refine eparse_no H1 r HZ P0 ?_); intro w2 H2 I2; obtain ⟨q0, q1⟩ := nd2 H2))
  exact bodyPost_ret (v := .tuple #[.int .i64 0, .int .i64 0, .bool false, .bool false]) (by simp [results, Tryz.results20, go_sem]) rfl (HH.out _ H2.right (I1.trans I2))
set_option maxRecDepth 100000 in
set_option maxHeartbeats 4000000 in
theorem ajparse_c {k val : ByteArray} (hk : Hid (k.size ≤ 1000)) (hv : Hid (val.size ≤ 1000)) (h0 : Hid (Aj.isA k = true)) (he : Hid (prsE (Aj.cut k) = 0)) (hd : Hid (prsU (Aj.cut k) = prsV (Aj.cut k) ∨ ¬ (val = Aj.vt true ∨ val = Aj.vt false))) (H : Sat F w) (h : ∀ w', Sat F w' → Io w w' → R (.returned (.tuple #[.int .i64 0, .int .i64 0, .bool false, .bool false])) w') :
    Calls Tryz.prog 20 #[.agg #[.string k, .string val]] w R := by
  have HH := Lib.hid h
  have hz := (Aj.isA_cut h0.out).2.2
  have hx := he.out
  have hc := hd.out
  obtain ⟨r, hr⟩ : ∃ r, Aj.cut k = r := ⟨_, rfl⟩
  rw [hr] at hz hx hc
  have C2 := Lib.hid hr
  have HZ : Hid (r.size ≤ 9223372036854775807) := Lib.hid (by have := hk.out; omega)
  obtain ⟨x, hx1⟩ : ∃ x, prsU r = x := ⟨_, rfl⟩
  obtain ⟨y, hy1⟩ : ∃ y, prsV r = y := ⟨_, rfl⟩
  rw [hx1, hy1] at hc
  have P0 := Lib.hid hx
  have P1 := Lib.hid hx1
  have P2 := Lib.hid hy1
  have H1 := H.new (.cells #[.string k, .string val] 49)
  have I1 := (Io.refl w).alloc (.cells #[.string k, .string val] 49)
  obtain ⟨q0, q1⟩ := nd2 H1
  clear h hr hz hx he hx1 hy1 hd
  by_cases hxy : x = y
  · subst hxy
    clear hc
    go_enter Tryz.func20, Tryz.ntmps20
    go_wp2_with (first
      | (go_at_call 48; (with_reducible refine cut2_any k h0 C2 ?_))
      | (go_at_call 49; (with_reducible refine eparse_yes H1 r HZ P0 P1 P2 ?_); intro w2 H2 I2; obtain ⟨q0, q1⟩ := nd2 H2))
    exact bodyPost_ret (v := .tuple #[.int .i64 0, .int .i64 0, .bool false, .bool false]) (by simp [results, Tryz.results20, go_sem]) rfl (HH.out _ H2.right (I1.trans I2))
  · have huv : (x == y) = false := beq_eq_false_iff_ne.2 hxy
    have hvv : ¬ (val = ⟨#[116]⟩ ∨ val = ⟨#[110]⟩) := by rcases hc with hc | hc; exact absurd hc hxy; exact hc
    have t3 : (val.toList == [116]) = false := beq_eq_false_iff_ne.2 (fun e => hvv (.inl (nm_ext (by rw [e, ByteArray.toList_eq]))))
    have t4 : (val.toList == [110]) = false := beq_eq_false_iff_ne.2 (fun e => hvv (.inr (nm_ext (by rw [e, ByteArray.toList_eq]))))
    clear hc hvv
    go_enter Tryz.func20, Tryz.ntmps20
    go_wp2_with (first
      | (go_at_call 48; (with_reducible refine cut2_any k h0 C2 ?_))
      | (go_at_call 49; (with_reducible refine eparse_yes H1 r HZ P0 P1 P2 ?_); intro w2 H2 I2; obtain ⟨q0, q1⟩ := nd2 H2))
    exact bodyPost_ret (v := .tuple #[.int .i64 0, .int .i64 0, .bool false, .bool false]) (by simp [results, Tryz.results20, go_sem]) rfl (HH.out _ H2.right (I1.trans I2))
/-- WHAT AN ENTRY SAYS. -/
theorem ajparse_any {k val : ByteArray} {u v : Int} {s o : Bool} (hp : Hid (Aj.pr k val = (u, v, s, o))) (hk : Hid (k.size ≤ 1000)) (hv : Hid (val.size ≤ 1000)) (H : Sat F w) (h : ∀ w', Sat F w' → Io w w' → R (.returned (.tuple #[.int .i64 u, .int .i64 v, .bool s, .bool o])) w') :
    Calls Tryz.prog 20 #[.agg #[.string k, .string val]] w R := by
  have hx := hp.out
  unfold Aj.pr at hx
  by_cases hc : Aj.isA k = true ∧ prsE (Aj.cut k) = 0 ∧ prsU (Aj.cut k) ≠ prsV (Aj.cut k) ∧ (val = Aj.vt true ∨ val = Aj.vt false)
  · rw [if_pos hc] at hx
    obtain ⟨w1, w2, w3⟩ := Aj.pr_yes hc
    cases hx
    exact ajparse_yes (Lib.hid w2) (Lib.hid w3) (Lib.hid w1) H h
  · rw [if_neg hc] at hx
    cases hx
    by_cases ha : Aj.isA k = true
    · by_cases he : prsE (Aj.cut k) = 0
      · exact ajparse_c hk hv (Lib.hid ha) (Lib.hid he) (Lib.hid (Classical.byContradiction fun q => hc ⟨ha, he, fun e => q (.inl e), Classical.byContradiction fun q2 => q (.inr q2)⟩)) H h
      · exact ajparse_b hk (Lib.hid ha) (Lib.hid he) H h
    · exact ajparse_a hk (Lib.hid (by simpa using ha)) H h
end
end Go.Proofs.YthbbdicdcmjpiaaGreatDoor

/-
  The document's Key and Parse of edges' entries, by walks. It proves no statement by itself.
-/
namespace Go.Proofs.YthbbdicdcmjpiaaGreatDoor
open Go.RowKit Go.Lib
set_option linter.unusedSimpArgs false
set_option linter.unusedVariables false
set_option linter.unusedSectionVars false
namespace Aj
open Ky
theorem pr_short {k v : Nm} (h : k.size ≠ 9) : pr k v = (0, 0, false, false) := by
  unfold pr
  rw [if_neg]
  rintro ⟨h1, h2, _⟩
  have h3 := (isA_cut h1)
  have : prsF (cut k) ≠ 0 := prs_short _ (by omega)
  unfold prsE at h2
  rw [if_pos (.inl this)] at h2
  exact absurd h2 (by decide)
theorem isA_head {k : Nm} (h : isA k = true) : ∃ r, k.data.toList = 65 :: r ∧ cut k = ⟨r.toArray⟩ := by
  have h1 : [65] <+: k.data.toList := List.isPrefixOf_iff_prefix.1 h
  obtain ⟨r, hr⟩ := h1
  refine ⟨r, hr.symm, ?_⟩
  unfold cut Lib.trimPrefix
  have h2 : Lib.hasPrefix k.data.toList pA.data.toList = true := h
  rw [h2]
  simp only [if_true]
  rw [← hr]
  rfl
theorem pr_other {k v : Nm} {c : UInt8} {r : List UInt8} (h : k.data.toList = c :: r) (hc : c ≠ 65) : pr k v = (0, 0, false, false) := by
  unfold pr
  rw [if_neg]
  rintro ⟨h1, _⟩
  obtain ⟨r2, h2, _⟩ := isA_head h1
  rw [h] at h2
  cases h2
  exact hc rfl
theorem pr_val {k v : Nm} (h : ¬ (v = vt true ∨ v = vt false)) : pr k v = (0, 0, false, false) := by
  unfold pr
  rw [if_neg]
  rintro ⟨_, _, _, h1⟩
  exact h h1
theorem wrong_prs {s : Nm} (h : prsF s = 0) : (prsE s = 0 ∧ prsU s ≠ prsV s) ↔ Md.wrong (prsU s) (prsV s) = 0 := by
  rw [← mkE_wrong]
  unfold prsE mkE
  by_cases hu : verE (prsU s) = 0 <;> by_cases hv : verE (prsV s) = 0 <;> by_cases h3 : prsU s = prsV s <;> simp_all
theorem pr_nine {k v : Nm} {r : List UInt8} (h : k.data.toList = 65 :: r) (hr : r.length = 8) (hv : v = vt true ∨ v = vt false) :
    pr k v = if Md.wrong (un (k.extract 1 5).data.toList : Nat) (un (k.extract 5 9).data.toList : Nat) = 0 then (((un (k.extract 1 5).data.toList : Nat) : Int), ((un (k.extract 5 9).data.toList : Nat) : Int), decide (v = vt true), true) else (0, 0, false, false) := by
  have hA : isA k = true := by
    unfold isA
    apply List.isPrefixOf_iff_prefix.2
    rw [h]
    exact ⟨r, rfl⟩
  obtain ⟨r2, h2, hcut⟩ := isA_head hA
  rw [h] at h2
  obtain rfl : r = r2 := by cases h2; rfl
  obtain ⟨e1, e2, e3⟩ := prs_eight r hr
  have ht : tx r = cut k := hcut.symm
  rw [ht] at e1 e2 e3
  have x1 : (k.extract 1 5).data.toList = r.take 4 := by
    rw [ByteArray.data_extract, Array.toList_extract, h]; rfl
  have x2 : (k.extract 5 9).data.toList = r.drop 4 := by
    rw [ByteArray.data_extract, Array.toList_extract, h]
    show ((r.drop 4).take 4) = _
    rw [List.take_of_length_le (by rw [List.length_drop]; omega)]
  rw [x1, x2, ← e2, ← e3]
  unfold pr
  have hw := wrong_prs e1
  by_cases hx : Md.wrong (prsU (cut k)) (prsV (cut k)) = 0
  · rw [if_pos hx, if_pos ⟨hA, (hw.2 hx).1, (hw.2 hx).2, hv⟩]
  · rw [if_neg hx, if_neg]
    rintro ⟨_, a, b, _⟩
    exact hx (hw.1 ⟨a, b⟩)
end Aj
section
variable {F : Asn} {w : World} {R : Ending → World → Prop}
theorem rkey_w (H : Sat F w) (u v : Int) {k : ByteArray} (hk : Hid (keyS u v = k)) (he : Hid (keyE u v = 0)) (h : ∀ w', Sat F w' → Io w w' → R (.returned (.string k)) w') :
    Calls Tryz.prog 51 #[.int .i64 u, .int .i64 v] w R := rkey_any H u v he.out (by rw [hk.out]; exact h)
set_option maxRecDepth 100000 in
set_option maxHeartbeats 4000000 in
/-- The document's key of an edge. -/
theorem rajkey_any (u v : Int) {k : ByteArray} (hk : Hid (k = Aj.ks u v)) (H : Sat F w) (h : ∀ w', Sat F w' → Io w w' → R (.returned (.string k)) w') :
    Calls Tryz.prog 22 #[.int .i64 u, .int .i64 v] w R := by
  have HH := Lib.hid h
  obtain ⟨e, he⟩ : ∃ e, e = Md.wrong u v := ⟨_, rfl⟩
  have HE := Lib.hid he
  have hx := hk.out
  unfold Aj.ks at hx
  by_cases h0 : Md.wrong u v = 0
  · rw [if_pos h0] at hx
    obtain rfl : e = 0 := by rw [he, h0]
    have KE := Lib.hid (Aj.wrong_keyE h0)
    obtain ⟨k8, hk8⟩ : ∃ k8, keyS u v = k8 := ⟨_, rfl⟩
    have K8 := Lib.hid hk8
    have z8 : k8.size = 8 := by rw [← hk8]; exact Aj.keyS_size (Aj.wrong_keyE h0)
    rw [hk8] at hx
    subst hx
    clear h hk he h0 hk8
    go_enter Tryz.func22, Tryz.ntmps22
    go_wp2_with (first
      | (go_at_call 10; (with_reducible refine rwrong_any u v H HE ?_); intro w2 H2 I2)
      | (go_at_call 51; (with_reducible refine rkey_w H2 u v K8 KE ?_); intro w3 H3 I3))
    exact HH.out _ H3 (I2.trans I3)
  · rw [if_neg h0] at hx
    subst hx
    have hb : (e != 0) = true := by rw [he]; simp [h0]
    have hb2 : ¬ e = 0 := by rw [he]; exact h0
    clear h hk he h0
    go_enter Tryz.func22, Tryz.ntmps22
    go_wp2_with (go_at_call 10; (with_reducible refine rwrong_any u v H HE ?_); intro w2 H2 I2)
    exact HH.out _ H2 I2
set_option maxRecDepth 100000 in
set_option maxHeartbeats 4000000 in
theorem rparse_a {k val : ByteArray} (hk : Hid (k.size ≠ 9)) (hk2 : k.size ≤ 1000) (H : Sat F w) (h : ∀ w', Sat F w' → Io w w' → R (.returned (.tuple #[.int .i64 0, .int .i64 0, .bool false, .bool false])) w') :
    Calls Tryz.prog 21 #[.agg #[.string k, .string val]] w R := by
  have HH := Lib.hid h
  have h9 : ((k.size : Int) != 9) = true := by have := hk.out; simp; omega
  have hs : (k.size : Int) ≤ 1000 := by omega
  have H1 := H.new (.cells #[.string k, .string val] 49)
  have I1 := (Io.refl w).alloc (.cells #[.string k, .string val] 49)
  obtain ⟨q0, q1⟩ := nd2 H1
  clear h
  go_enter Tryz.func21, Tryz.ntmps21
  go_wp2_with fail
  exact bodyPost_ret (v := .tuple #[.int .i64 0, .int .i64 0, .bool false, .bool false]) (by simp [results, Tryz.results21, go_sem]) rfl (HH.out _ H1.right I1)
theorem idx0 {k : ByteArray} {c : UInt8} {r : List UInt8} (hk : k.size = 9) (hc : k.data.toList = c :: r) (W : World) : (Instr.index 9 (.string k) (.int .i64 0)).run Tryz.prog W = .ok (.int .u8 (c.toNat : Int)) W := by
  have e := run_index_string (P := Tryz.prog) W 9 k .i64 0 Tryz.underlying9
  rw [dif_pos ⟨by omega, by omega⟩] at e
  have e8 : k[0]'(by omega) = c := by
    have h1 : (k.data.toList)[0]? = some c := by rw [hc]; rfl
    rw [Array.getElem?_toList] at h1
    have h2 : k.data[0]? = some (k.data[0]'(by show 0 < k.size; omega)) := Array.getElem?_eq_getElem _
    rw [h2] at h1
    exact Option.some.inj h1
  rw [e]
  show Result.ok (Value.int IntKind.u8 ((k[0]'(by omega)).toNat : Int)) W = _
  rw [e8]
set_option maxRecDepth 100000 in
set_option maxHeartbeats 4000000 in
theorem rparse_b {k val : ByteArray} {c : UInt8} {r : List UInt8} (hk : k.size = 9) (hc : k.data.toList = c :: r) (hv : c ≠ 65) (H : Sat F w) (h : ∀ w', Sat F w' → Io w w' → R (.returned (.tuple #[.int .i64 0, .int .i64 0, .bool false, .bool false])) w') :
    Calls Tryz.prog 21 #[.agg #[.string k, .string val]] w R := by
  have HH := Lib.hid h
  have H1 := H.new (.cells #[.string k, .string val] 49)
  have I1 := (Io.refl w).alloc (.cells #[.string k, .string val] 49)
  obtain ⟨q0, q1⟩ := nd2 H1
  have kx := idx0 hk hc
  have hks : (k.size : Int) = 9 := by omega
  have hn : ¬ ((c.toNat : Int) = 65) := fun e => hv (by apply UInt8.toNat_inj.1; show c.toNat = 65; omega)
  clear h hv hc
  go_enter Tryz.func21, Tryz.ntmps21
  go_wp2_with fail
  exact bodyPost_ret (v := .tuple #[.int .i64 0, .int .i64 0, .bool false, .bool false]) (by simp [results, Tryz.results21, go_sem]) rfl (HH.out _ H1.right I1)
set_option maxRecDepth 100000 in
set_option maxHeartbeats 4000000 in
theorem rparse_c {k val : ByteArray} {r : List UInt8} (hk : k.size = 9) (hc : k.data.toList = 65 :: r) (hv : ¬ (val = Aj.vt true ∨ val = Aj.vt false)) (H : Sat F w) (h : ∀ w', Sat F w' → Io w w' → R (.returned (.tuple #[.int .i64 0, .int .i64 0, .bool false, .bool false])) w') :
    Calls Tryz.prog 21 #[.agg #[.string k, .string val]] w R := by
  have HH := Lib.hid h
  have H1 := H.new (.cells #[.string k, .string val] 49)
  have I1 := (Io.refl w).alloc (.cells #[.string k, .string val] 49)
  obtain ⟨q0, q1⟩ := nd2 H1
  have kx : ∀ W, (Instr.index 9 (.string k) (.int .i64 0)).run Tryz.prog W = .ok (.int .u8 65) W := idx0 hk hc
  have hks : (k.size : Int) = 9 := by omega
  have hvv : ¬ (val = ⟨#[116]⟩ ∨ val = ⟨#[110]⟩) := hv
  have t3 : (val.toList == [116]) = false := beq_eq_false_iff_ne.2 (fun e => hvv (.inl (nm_ext (by rw [e, ByteArray.toList_eq]))))
  have t4 : (val.toList == [110]) = false := beq_eq_false_iff_ne.2 (fun e => hvv (.inr (nm_ext (by rw [e, ByteArray.toList_eq]))))
  clear h hv hc hvv
  go_enter Tryz.func21, Tryz.ntmps21
  go_wp2_with fail
  exact bodyPost_ret (v := .tuple #[.int .i64 0, .int .i64 0, .bool false, .bool false]) (by simp [results, Tryz.results21, go_sem]) rfl (HH.out _ H1.right I1)
theorem rint_e (s : ByteArray) {n : Int} (hn : Hid (((un s.data.toList : Nat) : Int) = n)) (hs : Hid (s.size ≤ 4)) (h : R (.returned (.int .i64 n)) w) : Calls Tryz.prog 50 #[.string s] w R := rint_any s hs.out (by rw [hn.out]; exact h)
set_option maxRecDepth 100000 in
set_option maxHeartbeats 4000000 in
theorem rparse_d {k val : ByteArray} {t : Bool} {r : List UInt8} {x y : Int} (hk : k.size = 9) (hc : k.data.toList = 65 :: r) (hv : val = Aj.vt t) (hx : Hid (((un (k.extract 1 5).data.toList : Nat) : Int) = x)) (hy : Hid (((un (k.extract 5 9).data.toList : Nat) : Int) = y)) (H : Sat F w)
    (h : ∀ w', Sat F w' → Io w w' → R (.returned (if Md.wrong x y = 0 then (.tuple #[.int .i64 x, .int .i64 y, .bool t, .bool true]) else (.tuple #[.int .i64 0, .int .i64 0, .bool false, .bool false]))) w') :
    Calls Tryz.prog 21 #[.agg #[.string k, .string val]] w R := by
  have hs1 : Hid ((k.extract 1 5).size ≤ 4) := Lib.hid (by rw [ByteArray.size_extract]; omega)
  have hs2 : Hid ((k.extract 5 9).size ≤ 4) := Lib.hid (by rw [ByteArray.size_extract]; omega)
  have kx : ∀ W, (Instr.index 9 (.string k) (.int .i64 0)).run Tryz.prog W = .ok (.int .u8 65) W := idx0 hk hc
  have hks : (k.size : Int) = 9 := by omega
  obtain ⟨e, he⟩ : ∃ e, e = Md.wrong x y := ⟨_, rfl⟩
  have HE := Lib.hid he
  have H1 := H.new (.cells #[.string k, .string val] 49)
  have I1 := (Io.refl w).alloc (.cells #[.string k, .string val] 49)
  have Q := nd2 H1
  rw [← he] at h
  by_cases h0 : e = 0
  · subst h0
    rw [if_pos rfl] at h
    have HH := Lib.hid h
    cases t with
    | true =>
      have ev : val = ⟨#[116]⟩ := hv
      subst ev
      obtain ⟨q0, q1⟩ := Q
      clear h hv hc he
      go_enter Tryz.func21, Tryz.ntmps21
      go_wp2_with (first
        | (go_at_call 50; with_reducible refine rint_e _ hx hs1 ?_)
        | (go_at_call 50; with_reducible refine rint_e _ hy hs2 ?_)
        | (go_at_call 10; (with_reducible refine rwrong_any x y H1 HE ?_); intro w2 H2 I2; obtain ⟨q0, q1⟩ := nd2 H2))
      go_quiet (fail)
      go_wp2_with fail
      exact bodyPost_ret (v := .tuple #[.int .i64 x, .int .i64 y, .bool true, .bool true]) (by simp [results, Tryz.results21, go_sem]) rfl (HH.out _ (H2.right.drewN _) (((I1.trans I2)).drewN _))
    | false =>
      have ev : val = ⟨#[110]⟩ := hv
      subst ev
      obtain ⟨q0, q1⟩ := Q
      clear h hv hc he
      go_enter Tryz.func21, Tryz.ntmps21
      go_wp2_with (first
        | (go_at_call 50; with_reducible refine rint_e _ hx hs1 ?_)
        | (go_at_call 50; with_reducible refine rint_e _ hy hs2 ?_)
        | (go_at_call 10; (with_reducible refine rwrong_any x y H1 HE ?_); intro w2 H2 I2; obtain ⟨q0, q1⟩ := nd2 H2))
      go_quiet (fail)
      go_wp2_with fail
      exact bodyPost_ret (v := .tuple #[.int .i64 x, .int .i64 y, .bool false, .bool true]) (by simp [results, Tryz.results21, go_sem]) rfl (HH.out _ (H2.right.drewN _) (((I1.trans I2)).drewN _))
  · rw [if_neg h0] at h
    have HH := Lib.hid h
    have hb : (e != 0) = true := by simp [h0]
    cases t with
    | true =>
      have ev : val = ⟨#[116]⟩ := hv
      subst ev
      obtain ⟨q0, q1⟩ := Q
      clear h hv hc he
      go_enter Tryz.func21, Tryz.ntmps21
      go_wp2_with (first
        | (go_at_call 50; with_reducible refine rint_e _ hx hs1 ?_)
        | (go_at_call 50; with_reducible refine rint_e _ hy hs2 ?_)
        | (go_at_call 10; (with_reducible refine rwrong_any x y H1 HE ?_); intro w2 H2 I2; obtain ⟨q0, q1⟩ := nd2 H2))
      exact bodyPost_ret (v := .tuple #[.int .i64 0, .int .i64 0, .bool false, .bool false]) (by simp [results, Tryz.results21, go_sem]) rfl (HH.out _ H2.right (I1.trans I2))
    | false =>
      have ev : val = ⟨#[110]⟩ := hv
      subst ev
      obtain ⟨q0, q1⟩ := Q
      clear h hv hc he
      go_enter Tryz.func21, Tryz.ntmps21
      go_wp2_with (first
        | (go_at_call 50; with_reducible refine rint_e _ hx hs1 ?_)
        | (go_at_call 50; with_reducible refine rint_e _ hy hs2 ?_)
        | (go_at_call 10; (with_reducible refine rwrong_any x y H1 HE ?_); intro w2 H2 I2; obtain ⟨q0, q1⟩ := nd2 H2))
      exact bodyPost_ret (v := .tuple #[.int .i64 0, .int .i64 0, .bool false, .bool false]) (by simp [results, Tryz.results21, go_sem]) rfl (HH.out _ H2.right (I1.trans I2))
/-- WHAT AN ENTRY SAYS, as the document says. -/
theorem rparse_any {k val : ByteArray} {u v : Int} {s o : Bool} (hp : Hid (Aj.pr k val = (u, v, s, o))) (hk : Hid (k.size ≤ 1000)) (H : Sat F w) (h : ∀ w', Sat F w' → Io w w' → R (.returned (.tuple #[.int .i64 u, .int .i64 v, .bool s, .bool o])) w') :
    Calls Tryz.prog 21 #[.agg #[.string k, .string val]] w R := by
  have hx := hp.out
  by_cases h9 : k.size = 9
  · obtain ⟨c, r, hc⟩ : ∃ c r, k.data.toList = c :: r := by
      have hl : k.data.toList.length = 9 := h9
      match hq : k.data.toList with
      | [] => rw [hq] at hl; simp at hl
      | c :: r => exact ⟨c, r, rfl⟩
    by_cases h65 : c = 65
    · subst h65
      have hr : r.length = 8 := by
        have hl : k.data.toList.length = 9 := h9
        rw [hc] at hl
        simpa using hl
      by_cases hv : val = Aj.vt true ∨ val = Aj.vt false
      · rw [Aj.pr_nine hc hr hv] at hx
        have ht : val = Aj.vt (decide (val = Aj.vt true)) := by
          rcases hv with hv | hv
          · rw [hv]; simp
          · rw [hv]; congr 1
        refine rparse_d h9 hc ht (Lib.hid rfl) (Lib.hid rfl) H fun w' H' I => ?_
        split
        · rename_i h0
          rw [if_pos h0] at hx
          cases hx
          exact h w' H' I
        · rename_i h0
          rw [if_neg h0] at hx
          cases hx
          exact h w' H' I
      · rw [Aj.pr_val hv] at hx
        cases hx
        exact rparse_c h9 hc hv H h
    · rw [Aj.pr_other hc h65] at hx
      cases hx
      exact rparse_b h9 hc h65 H h
  · rw [Aj.pr_short h9] at hx
    cases hx
    exact rparse_a (Lib.hid h9) hk.out H h
end
end Go.Proofs.YthbbdicdcmjpiaaGreatDoor
