/-
  The document's model: Do, by its walk. It proves no statement by itself.
-/
import Derived.Test.YtabpgejjnphfcaaGreatKD12
import Derived.Test.YtabpgejjnphfcaaGreatQ38
namespace Go.Proofs.YtabpgejjnphfcaaGreat
open Go.RowKit
open Go.Lib
open Md (Nm St)
set_option linter.unusedSimpArgs false
set_option linter.unusedVariables false
set_option linter.unusedSectionVars false
theorem reads_one {α : Type} {enc : α → List Value} {F : Asn} {v : Value} {l : List α} (h : Reads enc F v l) : v.oneCell' = true := by
  obtain ⟨a, c, rfl, _⟩ := h
  rfl
theorem readsP_one {F : Asn} {v : Value} {l : List Pr} (h : ReadsP F v l) : v.oneCell' = true := by
  obtain ⟨a, c, rfl, _⟩ := h
  rfl
theorem DReads.fit {X : Asn} {A : Md.An} {s : Sl4} (h : DReads X A s) : s.Fit := ⟨reads_one h.1, readsP_one h.2.1, reads_one h.2.2.1, reads_one h.2.2.2⟩
theorem DReads.imp {X Y : Asn} {A : Md.An} {s : Sl4} (h : DReads X A s) (k : ∀ w, Sat Y w → Sat X w) : DReads Y A s := ⟨h.1.imp k, readsP_imp h.2.1 k, h.2.2.1.imp k, h.2.2.2.imp k⟩
theorem fail_nil (e : Int) : (Md.fail e).changes = [] ∧ (Md.fail e).pairs = [] ∧ (Md.fail e).versions = [] ∧ (Md.fail e).branches = [] := ⟨rfl, rfl, rfl, rfl⟩
theorem mdo_chg_nil (S : St) {o : Md.Op} (hk : o.kind = 1 ∨ o.kind = 2) : (Md.mdo S o).2.changes = [] ∧ (Md.mdo S o).2.pairs = [] ∧ (Md.mdo S o).2.versions = [] ∧ (Md.mdo S o).2.branches = [] := by
  by_cases hn : (aget S.heads o.name).isSome = true
  · rw [mdo_chg hk hn]; exact change_nil S o
  · rw [mdo_none (by omega) hn]; exact fail_nil _
theorem mdo_com_nil (S : St) {o : Md.Op} (hk : o.kind = 3) : (Md.mdo S o).2.changes = [] ∧ (Md.mdo S o).2.pairs = [] ∧ (Md.mdo S o).2.versions = [] ∧ (Md.mdo S o).2.branches = [] := by
  by_cases hn : (aget S.heads o.name).isSome = true
  · rw [mdo_com hk hn]; exact commit_nil S o.name
  · rw [mdo_none (by omega) hn]; exact fail_nil _
theorem mdo_abo {S : St} {o : Md.Op} (hk : o.kind = 4) (hn : (aget S.heads o.name).isSome = true) : Md.mdo S o = (Md.abort S o.name, {}) := by
  rw [Md.mdo_k S o (by omega), if_neg (by simp [hn])]
  unfold Md.onB
  rw [if_neg (by omega), if_pos hk]
theorem mdo_hea {S : St} {o : Md.Op} (hk : o.kind = 12) (hn : (aget S.heads o.name).isSome = true) : Md.mdo S o = (S, { version := Md.hget S o.name }) := by
  rw [Md.mdo_k S o (by omega), if_neg (by simp [hn])]
  unfold Md.onB
  rw [if_neg (by omega), if_neg (by omega), if_pos hk]
section
variable {F : Asn} {w : World} {R : Ending → World → Prop} {x : Dx} {S : St} {p : Pl} {j : Nat}
theorem DocOk.abort (h : DocOk j S p x) {n : Nm} (hn : (aget S.heads n).isSome = true) : DocOk (j + 1) (Md.abort S n) p { x with D := x.D.set (Md.bplace x.B n) false } where
  inv := (Md.inv_abort h.inv n).mono (by omega)
  sim := h.sim.abort h.inv hn
  ok := ⟨h.ok.e, h.ok.q⟩
  ne := h.ne
theorem rask_any (y : OpX) (hk : y.op.kind = 8 ∨ y.op.kind = 9 ∨ y.op.kind = 10 ∨ y.op.kind = 11) (hj : j ≤ 300) (ok : DocOk j S p x) {A : Md.An} (hm : Hid (Md.ask S y.op = A)) (H : Sat (DAt x * (Pool p * F)) w)
    (hh : ∀ (G : Asn) (s : Sl4) w', Sat (G * (DAt x * (Pool p * F))) w' → DReads (G * (DAt x * Pool p)) A s → Io w w' → R (.returned (ansV A s)) w') :
    Calls Tryz.prog 57 #[x.ptr, opV y] w R := by
  by_cases ha : (aget S.vers y.op.a).isSome = true
  · rcases hk with h | h | h | h
    · by_cases hb : (aget S.vers y.op.b).isSome = true
      · exact rask_8 y h ha hb hj ok hm H hh
      · exact rask_nb y h ha hb hj ok hm H hh
    · exact rask_9 y h ha hj ok hm H hh
    · exact rask_10 y h ha hj ok hm H hh
    · exact rask_11 y h ha hj ok hm H hh
  · exact rask_na y ha hj ok hm H hh
set_option maxRecDepth 100000 in
set_option maxHeartbeats 16000000 in
theorem rdo_12 (y : OpX) (hk : y.op.kind = 1 ∨ y.op.kind = 2) (hsz : y.op.name.size ≤ 1000000) (hj : j ≤ 300) (ok : DocOk j S p x) {S' : St} {A : Md.An} (hm : Hid (Md.mdo S y.op = (S', A))) (H : Sat (DAt x * (Pool p * F)) w)
    (hh : ∀ x' p' (G : Asn) (s : Sl4) w', x'.b = x.b → DocOk (j + 1) S' p' x' → Sat (G * (DAt x' * (Pool p' * F))) w' → DReads (G * (DAt x' * Pool p')) A s → Io w w' → R (.returned (ansV A s)) w') :
    Calls Tryz.prog 26 #[x.ptr, opV y] w R := by
  have HH := Lib.hid hh
  clear hh
  have OK := Lib.hid ok
  have HDN : Hid (x.D ≠ [] → ∃ g c, x.vd = .slice (some ⟨g, 0, none⟩) x.D.length c) := Lib.hid (fun hne => DAt.shD_ne hne H)
  have H00 : Sat (OpAt w.heap.size y * (DAt x * (Pool p * F))) (w.alloc (.cells (opC y) 41)) := H.new _
  have I00 : Io w (w.alloc (.cells (opC y) 41)) := (Io.refl w).alloc _
  have H0 := ansZ_new H00
  have I0 := I00.trans (io_ansZ _)
  have hr : (w.alloc (.cells (opC y) 41)).heap.size = w.heap.size + 1 := by simp
  rw [hr] at H0
  clear H00 I00 hr
  have FX := Lib.hid (ok.fit (by omega))
  have HNE := Lib.hid ok.ne
  have f2 := FX.out.b
  obtain ⟨bi, hbi⟩ : ∃ r, r = Md.bnum x.B y.op.name := ⟨_, rfl⟩
  have HBI := Lib.hid hbi
  rw [ok.bnum] at hbi
  have HBJ := Lib.hid hbi
  clear hbi
  have HZ := Lib.hid (fun (o : Nat) (G : Asn) W (hW : Sat (DAt x * (OpAt o y * G)) W) => (⟨(DAt.cells hW).1, (op_reads hW.right).2.1⟩ : W.cell? ⟨x.b, 0, none⟩ = some (lptr x.l) ∧ W.cell? ⟨o, 1, none⟩ = some (.string y.op.name)))
  go_enter Tryz.func26, Tryz.ntmps26
  go_upto_region 1 with fail
  generalize (w.alloc (.cells (opC y) 41)).alloc (.cells #[.int .i64 0, .int .i64 0, .bool false, .int .i64 0, .slice none 0 0, .slice none 0 0, .slice none 0 0, .slice none 0 0] 37) = w0 at *
  generalize w.heap.size + 1 = r at *
  generalize w.heap.size = o at *
  have H1 : Sat (DAt x * (OpAt o y * (ansZ r * (Pool p * F)))) w0 := H0.of_eq (by ac_rfl)
  have Z0 := HZ.out _ _ _ H1.drew
  have LL := DAt.asL H1.drew
  clear H0
  go_region_held3 (fun W => W.cell? ⟨x.b, 0, none⟩ = some (lptr x.l) ∧ W.cell? ⟨o, 1, none⟩ = some (.string y.op.name)) (first | exact Z0 | exact Z1) ((go_at_call 52; with_reducible refine rbranch_any y.op.name (by omega) LL HBI ?_; intro w1 H2 I2; have K2 := DAt.ofL H2; have Z1 := HZ.out _ _ _ K2))
  all_goals
    clear Z0 Z1 LL H1 H2 HBI HZ
    have I3 := I0.drew.trans I2
    have K4 : Sat (ansZ r * (OpAt o y * (DAt x * (Pool p * F)))) w1 := K2.of_eq (by ac_rfl)
    have D4 : Sat (DAt x * (Pool p * (ansZ r * (OpAt o y * F)))) w1 := K2.of_eq (by ac_rfl)
    obtain ⟨x0, x1, x2, x3, x4, x5, x6, x7, x8, x9⟩ := op_reads K4.right
    clear I0 I2
    have hk3 : ¬ y.op.kind = 3 := by omega
    have hk3b : (y.op.kind == 3) = false := by simp [hk3]
    have hk4 : ¬ y.op.kind = 4 := by omega
    have hk4b : (y.op.kind == 4) = false := by simp [hk4]
    have hk5 : ¬ y.op.kind = 5 := by omega
    have hk5b : (y.op.kind == 5) = false := by simp [hk5]
    have hk6 : ¬ y.op.kind = 6 := by omega
    have hk6b : (y.op.kind == 6) = false := by simp [hk6]
    have hk7 : ¬ y.op.kind = 7 := by omega
    have hk7b : (y.op.kind == 7) = false := by simp [hk7]
    have hk8 : ¬ y.op.kind = 8 := by omega
    have hk8b : (y.op.kind == 8) = false := by simp [hk8]
    have hk9 : ¬ y.op.kind = 9 := by omega
    have hk9b : (y.op.kind == 9) = false := by simp [hk9]
    have hk10 : ¬ y.op.kind = 10 := by omega
    have hk10b : (y.op.kind == 10) = false := by simp [hk10]
    have hk11 : ¬ y.op.kind = 11 := by omega
    have hk11b : (y.op.kind == 11) = false := by simp [hk11]
    have hk12 : ¬ y.op.kind = 12 := by omega
    have hk12b : (y.op.kind == 12) = false := by simp [hk12]
    have hk13 : ¬ y.op.kind = 13 := by omega
    have hk13b : (y.op.kind == 13) = false := by simp [hk13]
    have HNL : Hid (A.changes = [] ∧ A.pairs = [] ∧ A.versions = [] ∧ A.branches = []) := Lib.hid (by have := mdo_chg_nil S hk; rw [hm.out] at this; exact this)
    clear K2 K4
    rcases hk with hkk | hkk
    · have hkb : (y.op.kind == 1) = true := by simp [hkk]
      have HK := Lib.hid hkk
      clear hkk
      go_wp2_with (first
        | (go_at_call 53; with_reducible refine rchange_any y (.inl HK.out) hj OK.out hm D4 ?_; intro x' p' w5 hb' okk H5 I5; have K5 : Sat (ansZ r * (OpAt o y * (DAt x' * (Pool p' * F)))) w5 := H5.of_eq (by ac_rfl))
        | (with_reducible refine store_ans (A := A) rfl (.tmp 4) (.tmp 20) rfl rfl nil4_fit K5 rfl ?_; intro w6 H6 I6; obtain ⟨d0, d1, d2, d3, d4, d5, d6, d7⟩ := ansA_reads H6))
      exact bodyPost_ret (v := ansV A nil4) (by simp [results, Tryz.results26, go_sem, d0, d1, d2, d3, d4, d5, d6, d7]) rfl (HH.out x' p' (ansA r A nil4 * OpAt o y) nil4 _ hb' okk (H6.of_eq (by ac_rfl)) (dreads_nil _ HNL.out.1 HNL.out.2.1 HNL.out.2.2.1 HNL.out.2.2.2) ((I3.trans I5).trans I6))
    · have hkb : (y.op.kind == 2) = true := by simp [hkk]
      have HK := Lib.hid hkk
      have hk1 : ¬ y.op.kind = 1 := by omega
      have hk1b : (y.op.kind == 1) = false := by simp [hk1]
      clear hkk
      go_wp2_with (first
        | (go_at_call 53; with_reducible refine rchange_any y (.inr HK.out) hj OK.out hm D4 ?_; intro x' p' w5 hb' okk H5 I5; have K5 : Sat (ansZ r * (OpAt o y * (DAt x' * (Pool p' * F)))) w5 := H5.of_eq (by ac_rfl))
        | (with_reducible refine store_ans (A := A) rfl (.tmp 4) (.tmp 20) rfl rfl nil4_fit K5 rfl ?_; intro w6 H6 I6; obtain ⟨d0, d1, d2, d3, d4, d5, d6, d7⟩ := ansA_reads H6))
      exact bodyPost_ret (v := ansV A nil4) (by simp [results, Tryz.results26, go_sem, d0, d1, d2, d3, d4, d5, d6, d7]) rfl (HH.out x' p' (ansA r A nil4 * OpAt o y) nil4 _ hb' okk (H6.of_eq (by ac_rfl)) (dreads_nil _ HNL.out.1 HNL.out.2.1 HNL.out.2.2.1 HNL.out.2.2.2) ((I3.trans I5).trans I6))

set_option maxRecDepth 100000 in
set_option maxHeartbeats 16000000 in
theorem rdo_3 (y : OpX) (hk : y.op.kind = 3) (hsz : y.op.name.size ≤ 1000000) (hj : j ≤ 300) (ok : DocOk j S p x) {S' : St} {A : Md.An} (hm : Hid (Md.mdo S y.op = (S', A))) (H : Sat (DAt x * (Pool p * F)) w)
    (hh : ∀ x' p' (G : Asn) (s : Sl4) w', x'.b = x.b → DocOk (j + 1) S' p' x' → Sat (G * (DAt x' * (Pool p' * F))) w' → DReads (G * (DAt x' * Pool p')) A s → Io w w' → R (.returned (ansV A s)) w') :
    Calls Tryz.prog 26 #[x.ptr, opV y] w R := by
  have HH := Lib.hid hh
  clear hh
  have OK := Lib.hid ok
  have HDN : Hid (x.D ≠ [] → ∃ g c, x.vd = .slice (some ⟨g, 0, none⟩) x.D.length c) := Lib.hid (fun hne => DAt.shD_ne hne H)
  have H00 : Sat (OpAt w.heap.size y * (DAt x * (Pool p * F))) (w.alloc (.cells (opC y) 41)) := H.new _
  have I00 : Io w (w.alloc (.cells (opC y) 41)) := (Io.refl w).alloc _
  have H0 := ansZ_new H00
  have I0 := I00.trans (io_ansZ _)
  have hr : (w.alloc (.cells (opC y) 41)).heap.size = w.heap.size + 1 := by simp
  rw [hr] at H0
  clear H00 I00 hr
  have FX := Lib.hid (ok.fit (by omega))
  have HNE := Lib.hid ok.ne
  have f2 := FX.out.b
  obtain ⟨bi, hbi⟩ : ∃ r, r = Md.bnum x.B y.op.name := ⟨_, rfl⟩
  have HBI := Lib.hid hbi
  rw [ok.bnum] at hbi
  have HBJ := Lib.hid hbi
  clear hbi
  have HZ := Lib.hid (fun (o : Nat) (G : Asn) W (hW : Sat (DAt x * (OpAt o y * G)) W) => (⟨(DAt.cells hW).1, (op_reads hW.right).2.1⟩ : W.cell? ⟨x.b, 0, none⟩ = some (lptr x.l) ∧ W.cell? ⟨o, 1, none⟩ = some (.string y.op.name)))
  go_enter Tryz.func26, Tryz.ntmps26
  go_upto_region 1 with fail
  generalize (w.alloc (.cells (opC y) 41)).alloc (.cells #[.int .i64 0, .int .i64 0, .bool false, .int .i64 0, .slice none 0 0, .slice none 0 0, .slice none 0 0, .slice none 0 0] 37) = w0 at *
  generalize w.heap.size + 1 = r at *
  generalize w.heap.size = o at *
  have H1 : Sat (DAt x * (OpAt o y * (ansZ r * (Pool p * F)))) w0 := H0.of_eq (by ac_rfl)
  have Z0 := HZ.out _ _ _ H1.drew
  have LL := DAt.asL H1.drew
  clear H0
  go_region_held3 (fun W => W.cell? ⟨x.b, 0, none⟩ = some (lptr x.l) ∧ W.cell? ⟨o, 1, none⟩ = some (.string y.op.name)) (first | exact Z0 | exact Z1) ((go_at_call 52; with_reducible refine rbranch_any y.op.name (by omega) LL HBI ?_; intro w1 H2 I2; have K2 := DAt.ofL H2; have Z1 := HZ.out _ _ _ K2))
  all_goals
    clear Z0 Z1 LL H1 H2 HBI HZ
    have I3 := I0.drew.trans I2
    have K4 : Sat (ansZ r * (OpAt o y * (DAt x * (Pool p * F)))) w1 := K2.of_eq (by ac_rfl)
    have D4 : Sat (DAt x * (Pool p * (ansZ r * (OpAt o y * F)))) w1 := K2.of_eq (by ac_rfl)
    obtain ⟨x0, x1, x2, x3, x4, x5, x6, x7, x8, x9⟩ := op_reads K4.right
    clear I0 I2
    have hk1 : ¬ y.op.kind = 1 := by omega
    have hk1b : (y.op.kind == 1) = false := by simp [hk1]
    have hk2 : ¬ y.op.kind = 2 := by omega
    have hk2b : (y.op.kind == 2) = false := by simp [hk2]
    have hk4 : ¬ y.op.kind = 4 := by omega
    have hk4b : (y.op.kind == 4) = false := by simp [hk4]
    have hk5 : ¬ y.op.kind = 5 := by omega
    have hk5b : (y.op.kind == 5) = false := by simp [hk5]
    have hk6 : ¬ y.op.kind = 6 := by omega
    have hk6b : (y.op.kind == 6) = false := by simp [hk6]
    have hk7 : ¬ y.op.kind = 7 := by omega
    have hk7b : (y.op.kind == 7) = false := by simp [hk7]
    have hk8 : ¬ y.op.kind = 8 := by omega
    have hk8b : (y.op.kind == 8) = false := by simp [hk8]
    have hk9 : ¬ y.op.kind = 9 := by omega
    have hk9b : (y.op.kind == 9) = false := by simp [hk9]
    have hk10 : ¬ y.op.kind = 10 := by omega
    have hk10b : (y.op.kind == 10) = false := by simp [hk10]
    have hk11 : ¬ y.op.kind = 11 := by omega
    have hk11b : (y.op.kind == 11) = false := by simp [hk11]
    have hk12 : ¬ y.op.kind = 12 := by omega
    have hk12b : (y.op.kind == 12) = false := by simp [hk12]
    have hk13 : ¬ y.op.kind = 13 := by omega
    have hk13b : (y.op.kind == 13) = false := by simp [hk13]
    have HNL : Hid (A.changes = [] ∧ A.pairs = [] ∧ A.versions = [] ∧ A.branches = []) := Lib.hid (by have := mdo_com_nil S hk; rw [hm.out] at this; exact this)
    clear K2 K4
    have hkb : (y.op.kind == 3) = true := by simp [hk]
    have HK := Lib.hid hk
    clear hk
    go_wp2_with (first
      | (go_at_call 54; with_reducible refine rcommit_any y HK.out hj OK.out hm D4 ?_; intro x' p' w5 hb' okk H5 I5; have K5 : Sat (ansZ r * (OpAt o y * (DAt x' * (Pool p' * F)))) w5 := H5.of_eq (by ac_rfl))
      | (with_reducible refine store_ans (A := A) rfl (.tmp 4) (.tmp 25) rfl rfl nil4_fit K5 rfl ?_; intro w6 H6 I6; obtain ⟨d0, d1, d2, d3, d4, d5, d6, d7⟩ := ansA_reads H6))
    exact bodyPost_ret (v := ansV A nil4) (by simp [results, Tryz.results26, go_sem, d0, d1, d2, d3, d4, d5, d6, d7]) rfl (HH.out x' p' (ansA r A nil4 * OpAt o y) nil4 _ hb' okk (H6.of_eq (by ac_rfl)) (dreads_nil _ HNL.out.1 HNL.out.2.1 HNL.out.2.2.1 HNL.out.2.2.2) ((I3.trans I5).trans I6))

set_option maxRecDepth 100000 in
set_option maxHeartbeats 16000000 in
theorem rdo_5 (y : OpX) (hk : y.op.kind = 5) (hsz : y.op.name.size ≤ 1000000) (hj : j ≤ 300) (ok : DocOk j S p x) {S' : St} {A : Md.An} (hm : Hid (Md.mdo S y.op = (S', A))) (H : Sat (DAt x * (Pool p * F)) w)
    (hh : ∀ x' p' (G : Asn) (s : Sl4) w', x'.b = x.b → DocOk (j + 1) S' p' x' → Sat (G * (DAt x' * (Pool p' * F))) w' → DReads (G * (DAt x' * Pool p')) A s → Io w w' → R (.returned (ansV A s)) w') :
    Calls Tryz.prog 26 #[x.ptr, opV y] w R := by
  have HH := Lib.hid hh
  clear hh
  have OK := Lib.hid ok
  have HDN : Hid (x.D ≠ [] → ∃ g c, x.vd = .slice (some ⟨g, 0, none⟩) x.D.length c) := Lib.hid (fun hne => DAt.shD_ne hne H)
  have H00 : Sat (OpAt w.heap.size y * (DAt x * (Pool p * F))) (w.alloc (.cells (opC y) 41)) := H.new _
  have I00 : Io w (w.alloc (.cells (opC y) 41)) := (Io.refl w).alloc _
  have H0 := ansZ_new H00
  have I0 := I00.trans (io_ansZ _)
  have hr : (w.alloc (.cells (opC y) 41)).heap.size = w.heap.size + 1 := by simp
  rw [hr] at H0
  clear H00 I00 hr
  have FX := Lib.hid (ok.fit (by omega))
  have HNE := Lib.hid ok.ne
  have f2 := FX.out.b
  obtain ⟨bi, hbi⟩ : ∃ r, r = Md.bnum x.B y.op.name := ⟨_, rfl⟩
  have HBI := Lib.hid hbi
  rw [ok.bnum] at hbi
  have HBJ := Lib.hid hbi
  clear hbi
  have HZ := Lib.hid (fun (o : Nat) (G : Asn) W (hW : Sat (DAt x * (OpAt o y * G)) W) => (⟨(DAt.cells hW).1, (op_reads hW.right).2.1⟩ : W.cell? ⟨x.b, 0, none⟩ = some (lptr x.l) ∧ W.cell? ⟨o, 1, none⟩ = some (.string y.op.name)))
  go_enter Tryz.func26, Tryz.ntmps26
  go_upto_region 1 with fail
  generalize (w.alloc (.cells (opC y) 41)).alloc (.cells #[.int .i64 0, .int .i64 0, .bool false, .int .i64 0, .slice none 0 0, .slice none 0 0, .slice none 0 0, .slice none 0 0] 37) = w0 at *
  generalize w.heap.size + 1 = r at *
  generalize w.heap.size = o at *
  have H1 : Sat (DAt x * (OpAt o y * (ansZ r * (Pool p * F)))) w0 := H0.of_eq (by ac_rfl)
  have Z0 := HZ.out _ _ _ H1.drew
  have LL := DAt.asL H1.drew
  clear H0
  go_region_held3 (fun W => W.cell? ⟨x.b, 0, none⟩ = some (lptr x.l) ∧ W.cell? ⟨o, 1, none⟩ = some (.string y.op.name)) (first | exact Z0 | exact Z1) ((go_at_call 52; with_reducible refine rbranch_any y.op.name (by omega) LL HBI ?_; intro w1 H2 I2; have K2 := DAt.ofL H2; have Z1 := HZ.out _ _ _ K2))
  all_goals
    clear Z0 Z1 LL H1 H2 HBI HZ
    have I3 := I0.drew.trans I2
    have K4 : Sat (ansZ r * (OpAt o y * (DAt x * (Pool p * F)))) w1 := K2.of_eq (by ac_rfl)
    have D4 : Sat (DAt x * (Pool p * (ansZ r * (OpAt o y * F)))) w1 := K2.of_eq (by ac_rfl)
    obtain ⟨x0, x1, x2, x3, x4, x5, x6, x7, x8, x9⟩ := op_reads K4.right
    clear I0 I2
    have hk1 : ¬ y.op.kind = 1 := by omega
    have hk1b : (y.op.kind == 1) = false := by simp [hk1]
    have hk2 : ¬ y.op.kind = 2 := by omega
    have hk2b : (y.op.kind == 2) = false := by simp [hk2]
    have hk3 : ¬ y.op.kind = 3 := by omega
    have hk3b : (y.op.kind == 3) = false := by simp [hk3]
    have hk4 : ¬ y.op.kind = 4 := by omega
    have hk4b : (y.op.kind == 4) = false := by simp [hk4]
    have hk6 : ¬ y.op.kind = 6 := by omega
    have hk6b : (y.op.kind == 6) = false := by simp [hk6]
    have hk7 : ¬ y.op.kind = 7 := by omega
    have hk7b : (y.op.kind == 7) = false := by simp [hk7]
    have hk8 : ¬ y.op.kind = 8 := by omega
    have hk8b : (y.op.kind == 8) = false := by simp [hk8]
    have hk9 : ¬ y.op.kind = 9 := by omega
    have hk9b : (y.op.kind == 9) = false := by simp [hk9]
    have hk10 : ¬ y.op.kind = 10 := by omega
    have hk10b : (y.op.kind == 10) = false := by simp [hk10]
    have hk11 : ¬ y.op.kind = 11 := by omega
    have hk11b : (y.op.kind == 11) = false := by simp [hk11]
    have hk12 : ¬ y.op.kind = 12 := by omega
    have hk12b : (y.op.kind == 12) = false := by simp [hk12]
    have hk13 : ¬ y.op.kind = 13 := by omega
    have hk13b : (y.op.kind == 13) = false := by simp [hk13]
    have HB : Hid (Md.branch S y.op = (S', A)) := Lib.hid (by rw [← mdo_5 hk]; exact hm.out)
    have HNL : Hid (A.changes = [] ∧ A.pairs = [] ∧ A.versions = [] ∧ A.branches = []) := Lib.hid (by have := branch_nil S y.op; rw [HB.out] at this; exact this)
    clear K2 K4
    have hkb : (y.op.kind == 5) = true := by simp [hk]
    clear hk
    go_wp2_with (first
      | (go_at_call 55; with_reducible refine rmbranch_any y hsz hj OK.out HB D4 ?_; intro x' w5 hb' okk H5 I5; have K5 : Sat (ansZ r * (OpAt o y * (DAt x' * (Pool p * F)))) w5 := H5.of_eq (by ac_rfl))
      | (with_reducible refine store_ans (A := A) rfl (.tmp 4) (.tmp 30) rfl rfl nil4_fit K5 rfl ?_; intro w6 H6 I6; obtain ⟨d0, d1, d2, d3, d4, d5, d6, d7⟩ := ansA_reads H6))
    exact bodyPost_ret (v := ansV A nil4) (by simp [results, Tryz.results26, go_sem, d0, d1, d2, d3, d4, d5, d6, d7]) rfl (HH.out x' p (ansA r A nil4 * OpAt o y) nil4 _ hb' okk (H6.of_eq (by ac_rfl)) (dreads_nil _ HNL.out.1 HNL.out.2.1 HNL.out.2.2.1 HNL.out.2.2.2) ((I3.trans I5).trans I6))

set_option maxRecDepth 100000 in
set_option maxHeartbeats 16000000 in
theorem rdo_6 (y : OpX) (hk : y.op.kind = 6) (hsz : y.op.name.size ≤ 1000000) (hj : j ≤ 300) (ok : DocOk j S p x) {S' : St} {A : Md.An} (hm : Hid (Md.mdo S y.op = (S', A))) (H : Sat (DAt x * (Pool p * F)) w)
    (hh : ∀ x' p' (G : Asn) (s : Sl4) w', x'.b = x.b → DocOk (j + 1) S' p' x' → Sat (G * (DAt x' * (Pool p' * F))) w' → DReads (G * (DAt x' * Pool p')) A s → Io w w' → R (.returned (ansV A s)) w') :
    Calls Tryz.prog 26 #[x.ptr, opV y] w R := by
  have HH := Lib.hid hh
  clear hh
  have OK := Lib.hid ok
  have HDN : Hid (x.D ≠ [] → ∃ g c, x.vd = .slice (some ⟨g, 0, none⟩) x.D.length c) := Lib.hid (fun hne => DAt.shD_ne hne H)
  have H00 : Sat (OpAt w.heap.size y * (DAt x * (Pool p * F))) (w.alloc (.cells (opC y) 41)) := H.new _
  have I00 : Io w (w.alloc (.cells (opC y) 41)) := (Io.refl w).alloc _
  have H0 := ansZ_new H00
  have I0 := I00.trans (io_ansZ _)
  have hr : (w.alloc (.cells (opC y) 41)).heap.size = w.heap.size + 1 := by simp
  rw [hr] at H0
  clear H00 I00 hr
  have FX := Lib.hid (ok.fit (by omega))
  have HNE := Lib.hid ok.ne
  have f2 := FX.out.b
  obtain ⟨bi, hbi⟩ : ∃ r, r = Md.bnum x.B y.op.name := ⟨_, rfl⟩
  have HBI := Lib.hid hbi
  rw [ok.bnum] at hbi
  have HBJ := Lib.hid hbi
  clear hbi
  have HZ := Lib.hid (fun (o : Nat) (G : Asn) W (hW : Sat (DAt x * (OpAt o y * G)) W) => (⟨(DAt.cells hW).1, (op_reads hW.right).2.1⟩ : W.cell? ⟨x.b, 0, none⟩ = some (lptr x.l) ∧ W.cell? ⟨o, 1, none⟩ = some (.string y.op.name)))
  go_enter Tryz.func26, Tryz.ntmps26
  go_upto_region 1 with fail
  generalize (w.alloc (.cells (opC y) 41)).alloc (.cells #[.int .i64 0, .int .i64 0, .bool false, .int .i64 0, .slice none 0 0, .slice none 0 0, .slice none 0 0, .slice none 0 0] 37) = w0 at *
  generalize w.heap.size + 1 = r at *
  generalize w.heap.size = o at *
  have H1 : Sat (DAt x * (OpAt o y * (ansZ r * (Pool p * F)))) w0 := H0.of_eq (by ac_rfl)
  have Z0 := HZ.out _ _ _ H1.drew
  have LL := DAt.asL H1.drew
  clear H0
  go_region_held3 (fun W => W.cell? ⟨x.b, 0, none⟩ = some (lptr x.l) ∧ W.cell? ⟨o, 1, none⟩ = some (.string y.op.name)) (first | exact Z0 | exact Z1) ((go_at_call 52; with_reducible refine rbranch_any y.op.name (by omega) LL HBI ?_; intro w1 H2 I2; have K2 := DAt.ofL H2; have Z1 := HZ.out _ _ _ K2))
  all_goals
    clear Z0 Z1 LL H1 H2 HBI HZ
    have I3 := I0.drew.trans I2
    have K4 : Sat (ansZ r * (OpAt o y * (DAt x * (Pool p * F)))) w1 := K2.of_eq (by ac_rfl)
    have D4 : Sat (DAt x * (Pool p * (ansZ r * (OpAt o y * F)))) w1 := K2.of_eq (by ac_rfl)
    obtain ⟨x0, x1, x2, x3, x4, x5, x6, x7, x8, x9⟩ := op_reads K4.right
    clear I0 I2
    have hk1 : ¬ y.op.kind = 1 := by omega
    have hk1b : (y.op.kind == 1) = false := by simp [hk1]
    have hk2 : ¬ y.op.kind = 2 := by omega
    have hk2b : (y.op.kind == 2) = false := by simp [hk2]
    have hk3 : ¬ y.op.kind = 3 := by omega
    have hk3b : (y.op.kind == 3) = false := by simp [hk3]
    have hk4 : ¬ y.op.kind = 4 := by omega
    have hk4b : (y.op.kind == 4) = false := by simp [hk4]
    have hk5 : ¬ y.op.kind = 5 := by omega
    have hk5b : (y.op.kind == 5) = false := by simp [hk5]
    have hk7 : ¬ y.op.kind = 7 := by omega
    have hk7b : (y.op.kind == 7) = false := by simp [hk7]
    have hk8 : ¬ y.op.kind = 8 := by omega
    have hk8b : (y.op.kind == 8) = false := by simp [hk8]
    have hk9 : ¬ y.op.kind = 9 := by omega
    have hk9b : (y.op.kind == 9) = false := by simp [hk9]
    have hk10 : ¬ y.op.kind = 10 := by omega
    have hk10b : (y.op.kind == 10) = false := by simp [hk10]
    have hk11 : ¬ y.op.kind = 11 := by omega
    have hk11b : (y.op.kind == 11) = false := by simp [hk11]
    have hk12 : ¬ y.op.kind = 12 := by omega
    have hk12b : (y.op.kind == 12) = false := by simp [hk12]
    have hk13 : ¬ y.op.kind = 13 := by omega
    have hk13b : (y.op.kind == 13) = false := by simp [hk13]
    have HB : Hid (Md.drop S y.op.a = (S', A)) := Lib.hid (by rw [← mdo_6 hk]; exact hm.out)
    have HNL : Hid (A.changes = [] ∧ A.pairs = [] ∧ A.versions = [] ∧ A.branches = []) := Lib.hid (by have := drop_nil S y.op.a; rw [HB.out] at this; exact this)
    clear K2 K4
    have hkb : (y.op.kind == 6) = true := by simp [hk]
    clear hk
    go_wp2_with (first
      | (go_at_call 56; with_reducible refine rmdrop_any y.op.a hj OK.out HB D4 ?_; intro x' w5 hb' okk H5 I5; have K5 : Sat (ansZ r * (OpAt o y * (DAt x' * (Pool p * F)))) w5 := H5.of_eq (by ac_rfl))
      | (with_reducible refine store_ans (A := A) rfl (.tmp 4) (.tmp 36) rfl rfl nil4_fit K5 rfl ?_; intro w6 H6 I6; obtain ⟨d0, d1, d2, d3, d4, d5, d6, d7⟩ := ansA_reads H6))
    exact bodyPost_ret (v := ansV A nil4) (by simp [results, Tryz.results26, go_sem, d0, d1, d2, d3, d4, d5, d6, d7]) rfl (HH.out x' p (ansA r A nil4 * OpAt o y) nil4 _ hb' (okk.mono (by omega)) (H6.of_eq (by ac_rfl)) (dreads_nil _ HNL.out.1 HNL.out.2.1 HNL.out.2.2.1 HNL.out.2.2.2) ((I3.trans I5).trans I6))

set_option maxRecDepth 100000 in
set_option maxHeartbeats 16000000 in
theorem rdo_7 (y : OpX) (hk : y.op.kind = 7) (hsz : y.op.name.size ≤ 1000000) (hj : j ≤ 300) (ok : DocOk j S p x) {S' : St} {A : Md.An} (hm : Hid (Md.mdo S y.op = (S', A))) (H : Sat (DAt x * (Pool p * F)) w)
    (hh : ∀ x' p' (G : Asn) (s : Sl4) w', x'.b = x.b → DocOk (j + 1) S' p' x' → Sat (G * (DAt x' * (Pool p' * F))) w' → DReads (G * (DAt x' * Pool p')) A s → Io w w' → R (.returned (ansV A s)) w') :
    Calls Tryz.prog 26 #[x.ptr, opV y] w R := by
  have HH := Lib.hid hh
  clear hh
  have OK := Lib.hid ok
  have HDN : Hid (x.D ≠ [] → ∃ g c, x.vd = .slice (some ⟨g, 0, none⟩) x.D.length c) := Lib.hid (fun hne => DAt.shD_ne hne H)
  have H00 : Sat (OpAt w.heap.size y * (DAt x * (Pool p * F))) (w.alloc (.cells (opC y) 41)) := H.new _
  have I00 : Io w (w.alloc (.cells (opC y) 41)) := (Io.refl w).alloc _
  have H0 := ansZ_new H00
  have I0 := I00.trans (io_ansZ _)
  have hr : (w.alloc (.cells (opC y) 41)).heap.size = w.heap.size + 1 := by simp
  rw [hr] at H0
  clear H00 I00 hr
  have FX := Lib.hid (ok.fit (by omega))
  have HNE := Lib.hid ok.ne
  have f2 := FX.out.b
  obtain ⟨bi, hbi⟩ : ∃ r, r = Md.bnum x.B y.op.name := ⟨_, rfl⟩
  have HBI := Lib.hid hbi
  rw [ok.bnum] at hbi
  have HBJ := Lib.hid hbi
  clear hbi
  have HZ := Lib.hid (fun (o : Nat) (G : Asn) W (hW : Sat (DAt x * (OpAt o y * G)) W) => (⟨(DAt.cells hW).1, (op_reads hW.right).2.1⟩ : W.cell? ⟨x.b, 0, none⟩ = some (lptr x.l) ∧ W.cell? ⟨o, 1, none⟩ = some (.string y.op.name)))
  go_enter Tryz.func26, Tryz.ntmps26
  go_upto_region 1 with fail
  generalize (w.alloc (.cells (opC y) 41)).alloc (.cells #[.int .i64 0, .int .i64 0, .bool false, .int .i64 0, .slice none 0 0, .slice none 0 0, .slice none 0 0, .slice none 0 0] 37) = w0 at *
  generalize w.heap.size + 1 = r at *
  generalize w.heap.size = o at *
  have H1 : Sat (DAt x * (OpAt o y * (ansZ r * (Pool p * F)))) w0 := H0.of_eq (by ac_rfl)
  have Z0 := HZ.out _ _ _ H1.drew
  have LL := DAt.asL H1.drew
  clear H0
  go_region_held3 (fun W => W.cell? ⟨x.b, 0, none⟩ = some (lptr x.l) ∧ W.cell? ⟨o, 1, none⟩ = some (.string y.op.name)) (first | exact Z0 | exact Z1) ((go_at_call 52; with_reducible refine rbranch_any y.op.name (by omega) LL HBI ?_; intro w1 H2 I2; have K2 := DAt.ofL H2; have Z1 := HZ.out _ _ _ K2))
  all_goals
    clear Z0 Z1 LL H1 H2 HBI HZ
    have I3 := I0.drew.trans I2
    have K4 : Sat (ansZ r * (OpAt o y * (DAt x * (Pool p * F)))) w1 := K2.of_eq (by ac_rfl)
    have D4 : Sat (DAt x * (Pool p * (ansZ r * (OpAt o y * F)))) w1 := K2.of_eq (by ac_rfl)
    obtain ⟨x0, x1, x2, x3, x4, x5, x6, x7, x8, x9⟩ := op_reads K4.right
    clear I0 I2
    have hk1 : ¬ y.op.kind = 1 := by omega
    have hk1b : (y.op.kind == 1) = false := by simp [hk1]
    have hk2 : ¬ y.op.kind = 2 := by omega
    have hk2b : (y.op.kind == 2) = false := by simp [hk2]
    have hk3 : ¬ y.op.kind = 3 := by omega
    have hk3b : (y.op.kind == 3) = false := by simp [hk3]
    have hk4 : ¬ y.op.kind = 4 := by omega
    have hk4b : (y.op.kind == 4) = false := by simp [hk4]
    have hk5 : ¬ y.op.kind = 5 := by omega
    have hk5b : (y.op.kind == 5) = false := by simp [hk5]
    have hk6 : ¬ y.op.kind = 6 := by omega
    have hk6b : (y.op.kind == 6) = false := by simp [hk6]
    have hk8 : ¬ y.op.kind = 8 := by omega
    have hk8b : (y.op.kind == 8) = false := by simp [hk8]
    have hk9 : ¬ y.op.kind = 9 := by omega
    have hk9b : (y.op.kind == 9) = false := by simp [hk9]
    have hk10 : ¬ y.op.kind = 10 := by omega
    have hk10b : (y.op.kind == 10) = false := by simp [hk10]
    have hk11 : ¬ y.op.kind = 11 := by omega
    have hk11b : (y.op.kind == 11) = false := by simp [hk11]
    have hk12 : ¬ y.op.kind = 12 := by omega
    have hk12b : (y.op.kind == 12) = false := by simp [hk12]
    have hk13 : ¬ y.op.kind = 13 := by omega
    have hk13b : (y.op.kind == 13) = false := by simp [hk13]
    obtain ⟨rfl, rfl⟩ : S' = S ∧ A = {} := by have e := hm.out; rw [mdo_7 hk] at e; cases e; exact ⟨rfl, rfl⟩
    have hkb : (y.op.kind == 7) = true := by simp [hk]
    clear K2 D4
    go_wp2_with (with_reducible refine store_ans (A := {}) rfl (.tmp 4) (.tmp 39) rfl rfl nil4_fit K4 rfl ?_; intro w6 H6 I6; obtain ⟨d0, d1, d2, d3, d4, d5, d6, d7⟩ := ansA_reads H6)
    exact bodyPost_ret (v := ansV {} nil4) (by simp [results, Tryz.results26, go_sem, d0, d1, d2, d3, d4, d5, d6, d7]) rfl (HH.out x p (ansA r {} nil4 * OpAt o y) nil4 _ rfl (OK.out.mono (by omega)) (H6.of_eq (by ac_rfl)) (dreads_nil _ rfl rfl rfl rfl) (I3.trans I6))

set_option maxRecDepth 100000 in
set_option maxHeartbeats 16000000 in
theorem rdo_8 (y : OpX) (hk : y.op.kind = 8 ∨ y.op.kind = 9 ∨ y.op.kind = 10 ∨ y.op.kind = 11) (hsz : y.op.name.size ≤ 1000000) (hj : j ≤ 300) (ok : DocOk j S p x) {S' : St} {A : Md.An} (hm : Hid (Md.mdo S y.op = (S', A))) (H : Sat (DAt x * (Pool p * F)) w)
    (hh : ∀ x' p' (G : Asn) (s : Sl4) w', x'.b = x.b → DocOk (j + 1) S' p' x' → Sat (G * (DAt x' * (Pool p' * F))) w' → DReads (G * (DAt x' * Pool p')) A s → Io w w' → R (.returned (ansV A s)) w') :
    Calls Tryz.prog 26 #[x.ptr, opV y] w R := by
  have HH := Lib.hid hh
  clear hh
  have OK := Lib.hid ok
  have HDN : Hid (x.D ≠ [] → ∃ g c, x.vd = .slice (some ⟨g, 0, none⟩) x.D.length c) := Lib.hid (fun hne => DAt.shD_ne hne H)
  have H00 : Sat (OpAt w.heap.size y * (DAt x * (Pool p * F))) (w.alloc (.cells (opC y) 41)) := H.new _
  have I00 : Io w (w.alloc (.cells (opC y) 41)) := (Io.refl w).alloc _
  have H0 := ansZ_new H00
  have I0 := I00.trans (io_ansZ _)
  have hr : (w.alloc (.cells (opC y) 41)).heap.size = w.heap.size + 1 := by simp
  rw [hr] at H0
  clear H00 I00 hr
  have FX := Lib.hid (ok.fit (by omega))
  have HNE := Lib.hid ok.ne
  have f2 := FX.out.b
  obtain ⟨bi, hbi⟩ : ∃ r, r = Md.bnum x.B y.op.name := ⟨_, rfl⟩
  have HBI := Lib.hid hbi
  rw [ok.bnum] at hbi
  have HBJ := Lib.hid hbi
  clear hbi
  have HZ := Lib.hid (fun (o : Nat) (G : Asn) W (hW : Sat (DAt x * (OpAt o y * G)) W) => (⟨(DAt.cells hW).1, (op_reads hW.right).2.1⟩ : W.cell? ⟨x.b, 0, none⟩ = some (lptr x.l) ∧ W.cell? ⟨o, 1, none⟩ = some (.string y.op.name)))
  go_enter Tryz.func26, Tryz.ntmps26
  go_upto_region 1 with fail
  generalize (w.alloc (.cells (opC y) 41)).alloc (.cells #[.int .i64 0, .int .i64 0, .bool false, .int .i64 0, .slice none 0 0, .slice none 0 0, .slice none 0 0, .slice none 0 0] 37) = w0 at *
  generalize w.heap.size + 1 = r at *
  generalize w.heap.size = o at *
  have H1 : Sat (DAt x * (OpAt o y * (ansZ r * (Pool p * F)))) w0 := H0.of_eq (by ac_rfl)
  have Z0 := HZ.out _ _ _ H1.drew
  have LL := DAt.asL H1.drew
  clear H0
  go_region_held3 (fun W => W.cell? ⟨x.b, 0, none⟩ = some (lptr x.l) ∧ W.cell? ⟨o, 1, none⟩ = some (.string y.op.name)) (first | exact Z0 | exact Z1) ((go_at_call 52; with_reducible refine rbranch_any y.op.name (by omega) LL HBI ?_; intro w1 H2 I2; have K2 := DAt.ofL H2; have Z1 := HZ.out _ _ _ K2))
  all_goals
    clear Z0 Z1 LL H1 H2 HBI HZ
    have I3 := I0.drew.trans I2
    have K4 : Sat (ansZ r * (OpAt o y * (DAt x * (Pool p * F)))) w1 := K2.of_eq (by ac_rfl)
    have D4 : Sat (DAt x * (Pool p * (ansZ r * (OpAt o y * F)))) w1 := K2.of_eq (by ac_rfl)
    obtain ⟨x0, x1, x2, x3, x4, x5, x6, x7, x8, x9⟩ := op_reads K4.right
    clear I0 I2
    have hk1 : ¬ y.op.kind = 1 := by omega
    have hk1b : (y.op.kind == 1) = false := by simp [hk1]
    have hk2 : ¬ y.op.kind = 2 := by omega
    have hk2b : (y.op.kind == 2) = false := by simp [hk2]
    have hk3 : ¬ y.op.kind = 3 := by omega
    have hk3b : (y.op.kind == 3) = false := by simp [hk3]
    have hk4 : ¬ y.op.kind = 4 := by omega
    have hk4b : (y.op.kind == 4) = false := by simp [hk4]
    have hk5 : ¬ y.op.kind = 5 := by omega
    have hk5b : (y.op.kind == 5) = false := by simp [hk5]
    have hk6 : ¬ y.op.kind = 6 := by omega
    have hk6b : (y.op.kind == 6) = false := by simp [hk6]
    have hk7 : ¬ y.op.kind = 7 := by omega
    have hk7b : (y.op.kind == 7) = false := by simp [hk7]
    have hk12 : ¬ y.op.kind = 12 := by omega
    have hk12b : (y.op.kind == 12) = false := by simp [hk12]
    have hk13 : ¬ y.op.kind = 13 := by omega
    have hk13b : (y.op.kind == 13) = false := by simp [hk13]
    have hmq := Md.mdo_q S y.op hk
    obtain ⟨rfl, rfl⟩ : S' = S ∧ A = Md.ask S y.op := by have e := hm.out; rw [hmq] at e; cases e; exact ⟨rfl, rfl⟩
    obtain ⟨A, hA⟩ : ∃ A, A = Md.ask S' y.op := ⟨_, rfl⟩
    have HA := Lib.hid hA.symm
    rw [← hA] at HH
    clear hA hm hmq K2 K4
    rcases hk with hk | hk | hk | hk
    · have hkb : (y.op.kind == 8) = true := by simp [hk]
      have HK := Lib.hid hk
      have hk9 : ¬ y.op.kind = 9 := by omega
      have hk9b : (y.op.kind == 9) = false := by simp [hk9]
      have hk10 : ¬ y.op.kind = 10 := by omega
      have hk10b : (y.op.kind == 10) = false := by simp [hk10]
      have hk11 : ¬ y.op.kind = 11 := by omega
      have hk11b : (y.op.kind == 11) = false := by simp [hk11]
      clear hk
      go_wp2_with (first
        | (go_at_call 57; with_reducible refine rask_any y (by have := HK.out; omega) hj OK.out HA D4 ?_; intro G s w5 H5 hr I5; have K5 : Sat (ansZ r * (G * (OpAt o y * (DAt x * (Pool p * F))))) w5 := H5.of_eq (by ac_rfl); have HR := Lib.hid hr; clear hr)
        | (with_reducible refine store_ans (A := A) (s := s) rfl (.tmp 4) (.tmp 47) rfl rfl HR.out.fit K5 rfl ?_; intro w6 H6 I6; obtain ⟨d0, d1, d2, d3, d4, d5, d6, d7⟩ := ansA_reads H6))
      have hr2 : DReads ((ansA r A s * (G * OpAt o y)) * (DAt x * Pool p)) A s := HR.out.imp fun W hW => (hW.of_eq (show _ = (ansA r A s * OpAt o y) * (G * (DAt x * Pool p)) from by ac_rfl)).right
      exact bodyPost_ret (v := ansV A s) (by simp [results, Tryz.results26, go_sem, d0, d1, d2, d3, d4, d5, d6, d7]) rfl (HH.out x p (ansA r A s * (G * OpAt o y)) s _ rfl (OK.out.mono (by omega)) (H6.of_eq (by ac_rfl)) hr2 ((I3.trans I5).trans I6))
    · have hkb : (y.op.kind == 9) = true := by simp [hk]
      have HK := Lib.hid hk
      have hk8 : ¬ y.op.kind = 8 := by omega
      have hk8b : (y.op.kind == 8) = false := by simp [hk8]
      have hk10 : ¬ y.op.kind = 10 := by omega
      have hk10b : (y.op.kind == 10) = false := by simp [hk10]
      have hk11 : ¬ y.op.kind = 11 := by omega
      have hk11b : (y.op.kind == 11) = false := by simp [hk11]
      clear hk
      go_wp2_with (first
        | (go_at_call 57; with_reducible refine rask_any y (by have := HK.out; omega) hj OK.out HA D4 ?_; intro G s w5 H5 hr I5; have K5 : Sat (ansZ r * (G * (OpAt o y * (DAt x * (Pool p * F))))) w5 := H5.of_eq (by ac_rfl); have HR := Lib.hid hr; clear hr)
        | (with_reducible refine store_ans (A := A) (s := s) rfl (.tmp 4) (.tmp 47) rfl rfl HR.out.fit K5 rfl ?_; intro w6 H6 I6; obtain ⟨d0, d1, d2, d3, d4, d5, d6, d7⟩ := ansA_reads H6))
      have hr2 : DReads ((ansA r A s * (G * OpAt o y)) * (DAt x * Pool p)) A s := HR.out.imp fun W hW => (hW.of_eq (show _ = (ansA r A s * OpAt o y) * (G * (DAt x * Pool p)) from by ac_rfl)).right
      exact bodyPost_ret (v := ansV A s) (by simp [results, Tryz.results26, go_sem, d0, d1, d2, d3, d4, d5, d6, d7]) rfl (HH.out x p (ansA r A s * (G * OpAt o y)) s _ rfl (OK.out.mono (by omega)) (H6.of_eq (by ac_rfl)) hr2 ((I3.trans I5).trans I6))
    · have hkb : (y.op.kind == 10) = true := by simp [hk]
      have HK := Lib.hid hk
      have hk8 : ¬ y.op.kind = 8 := by omega
      have hk8b : (y.op.kind == 8) = false := by simp [hk8]
      have hk9 : ¬ y.op.kind = 9 := by omega
      have hk9b : (y.op.kind == 9) = false := by simp [hk9]
      have hk11 : ¬ y.op.kind = 11 := by omega
      have hk11b : (y.op.kind == 11) = false := by simp [hk11]
      clear hk
      go_wp2_with (first
        | (go_at_call 57; with_reducible refine rask_any y (by have := HK.out; omega) hj OK.out HA D4 ?_; intro G s w5 H5 hr I5; have K5 : Sat (ansZ r * (G * (OpAt o y * (DAt x * (Pool p * F))))) w5 := H5.of_eq (by ac_rfl); have HR := Lib.hid hr; clear hr)
        | (with_reducible refine store_ans (A := A) (s := s) rfl (.tmp 4) (.tmp 47) rfl rfl HR.out.fit K5 rfl ?_; intro w6 H6 I6; obtain ⟨d0, d1, d2, d3, d4, d5, d6, d7⟩ := ansA_reads H6))
      have hr2 : DReads ((ansA r A s * (G * OpAt o y)) * (DAt x * Pool p)) A s := HR.out.imp fun W hW => (hW.of_eq (show _ = (ansA r A s * OpAt o y) * (G * (DAt x * Pool p)) from by ac_rfl)).right
      exact bodyPost_ret (v := ansV A s) (by simp [results, Tryz.results26, go_sem, d0, d1, d2, d3, d4, d5, d6, d7]) rfl (HH.out x p (ansA r A s * (G * OpAt o y)) s _ rfl (OK.out.mono (by omega)) (H6.of_eq (by ac_rfl)) hr2 ((I3.trans I5).trans I6))
    · have hkb : (y.op.kind == 11) = true := by simp [hk]
      have HK := Lib.hid hk
      have hk8 : ¬ y.op.kind = 8 := by omega
      have hk8b : (y.op.kind == 8) = false := by simp [hk8]
      have hk9 : ¬ y.op.kind = 9 := by omega
      have hk9b : (y.op.kind == 9) = false := by simp [hk9]
      have hk10 : ¬ y.op.kind = 10 := by omega
      have hk10b : (y.op.kind == 10) = false := by simp [hk10]
      clear hk
      go_wp2_with (first
        | (go_at_call 57; with_reducible refine rask_any y (by have := HK.out; omega) hj OK.out HA D4 ?_; intro G s w5 H5 hr I5; have K5 : Sat (ansZ r * (G * (OpAt o y * (DAt x * (Pool p * F))))) w5 := H5.of_eq (by ac_rfl); have HR := Lib.hid hr; clear hr)
        | (with_reducible refine store_ans (A := A) (s := s) rfl (.tmp 4) (.tmp 47) rfl rfl HR.out.fit K5 rfl ?_; intro w6 H6 I6; obtain ⟨d0, d1, d2, d3, d4, d5, d6, d7⟩ := ansA_reads H6))
      have hr2 : DReads ((ansA r A s * (G * OpAt o y)) * (DAt x * Pool p)) A s := HR.out.imp fun W hW => (hW.of_eq (show _ = (ansA r A s * OpAt o y) * (G * (DAt x * Pool p)) from by ac_rfl)).right
      exact bodyPost_ret (v := ansV A s) (by simp [results, Tryz.results26, go_sem, d0, d1, d2, d3, d4, d5, d6, d7]) rfl (HH.out x p (ansA r A s * (G * OpAt o y)) s _ rfl (OK.out.mono (by omega)) (H6.of_eq (by ac_rfl)) hr2 ((I3.trans I5).trans I6))

set_option maxRecDepth 100000 in
set_option maxHeartbeats 16000000 in
theorem rdo_13 (y : OpX) (hk : y.op.kind = 13) (hsz : y.op.name.size ≤ 1000000) (hj : j ≤ 300) (ok : DocOk j S p x) {S' : St} {A : Md.An} (hm : Hid (Md.mdo S y.op = (S', A))) (H : Sat (DAt x * (Pool p * F)) w)
    (hh : ∀ x' p' (G : Asn) (s : Sl4) w', x'.b = x.b → DocOk (j + 1) S' p' x' → Sat (G * (DAt x' * (Pool p' * F))) w' → DReads (G * (DAt x' * Pool p')) A s → Io w w' → R (.returned (ansV A s)) w') :
    Calls Tryz.prog 26 #[x.ptr, opV y] w R := by
  have HH := Lib.hid hh
  clear hh
  have OK := Lib.hid ok
  have HDN : Hid (x.D ≠ [] → ∃ g c, x.vd = .slice (some ⟨g, 0, none⟩) x.D.length c) := Lib.hid (fun hne => DAt.shD_ne hne H)
  have H00 : Sat (OpAt w.heap.size y * (DAt x * (Pool p * F))) (w.alloc (.cells (opC y) 41)) := H.new _
  have I00 : Io w (w.alloc (.cells (opC y) 41)) := (Io.refl w).alloc _
  have H0 := ansZ_new H00
  have I0 := I00.trans (io_ansZ _)
  have hr : (w.alloc (.cells (opC y) 41)).heap.size = w.heap.size + 1 := by simp
  rw [hr] at H0
  clear H00 I00 hr
  have FX := Lib.hid (ok.fit (by omega))
  have HNE := Lib.hid ok.ne
  have f2 := FX.out.b
  obtain ⟨bi, hbi⟩ : ∃ r, r = Md.bnum x.B y.op.name := ⟨_, rfl⟩
  have HBI := Lib.hid hbi
  rw [ok.bnum] at hbi
  have HBJ := Lib.hid hbi
  clear hbi
  have HZ := Lib.hid (fun (o : Nat) (G : Asn) W (hW : Sat (DAt x * (OpAt o y * G)) W) => (⟨(DAt.cells hW).1, (op_reads hW.right).2.1⟩ : W.cell? ⟨x.b, 0, none⟩ = some (lptr x.l) ∧ W.cell? ⟨o, 1, none⟩ = some (.string y.op.name)))
  go_enter Tryz.func26, Tryz.ntmps26
  go_upto_region 1 with fail
  generalize (w.alloc (.cells (opC y) 41)).alloc (.cells #[.int .i64 0, .int .i64 0, .bool false, .int .i64 0, .slice none 0 0, .slice none 0 0, .slice none 0 0, .slice none 0 0] 37) = w0 at *
  generalize w.heap.size + 1 = r at *
  generalize w.heap.size = o at *
  have H1 : Sat (DAt x * (OpAt o y * (ansZ r * (Pool p * F)))) w0 := H0.of_eq (by ac_rfl)
  have Z0 := HZ.out _ _ _ H1.drew
  have LL := DAt.asL H1.drew
  clear H0
  go_region_held3 (fun W => W.cell? ⟨x.b, 0, none⟩ = some (lptr x.l) ∧ W.cell? ⟨o, 1, none⟩ = some (.string y.op.name)) (first | exact Z0 | exact Z1) ((go_at_call 52; with_reducible refine rbranch_any y.op.name (by omega) LL HBI ?_; intro w1 H2 I2; have K2 := DAt.ofL H2; have Z1 := HZ.out _ _ _ K2))
  all_goals
    clear Z0 Z1 LL H1 H2 HBI HZ
    have I3 := I0.drew.trans I2
    have K4 : Sat (ansZ r * (OpAt o y * (DAt x * (Pool p * F)))) w1 := K2.of_eq (by ac_rfl)
    have D4 : Sat (DAt x * (Pool p * (ansZ r * (OpAt o y * F)))) w1 := K2.of_eq (by ac_rfl)
    obtain ⟨x0, x1, x2, x3, x4, x5, x6, x7, x8, x9⟩ := op_reads K4.right
    clear I0 I2
    have hk1 : ¬ y.op.kind = 1 := by omega
    have hk1b : (y.op.kind == 1) = false := by simp [hk1]
    have hk2 : ¬ y.op.kind = 2 := by omega
    have hk2b : (y.op.kind == 2) = false := by simp [hk2]
    have hk3 : ¬ y.op.kind = 3 := by omega
    have hk3b : (y.op.kind == 3) = false := by simp [hk3]
    have hk4 : ¬ y.op.kind = 4 := by omega
    have hk4b : (y.op.kind == 4) = false := by simp [hk4]
    have hk5 : ¬ y.op.kind = 5 := by omega
    have hk5b : (y.op.kind == 5) = false := by simp [hk5]
    have hk6 : ¬ y.op.kind = 6 := by omega
    have hk6b : (y.op.kind == 6) = false := by simp [hk6]
    have hk7 : ¬ y.op.kind = 7 := by omega
    have hk7b : (y.op.kind == 7) = false := by simp [hk7]
    have hk8 : ¬ y.op.kind = 8 := by omega
    have hk8b : (y.op.kind == 8) = false := by simp [hk8]
    have hk9 : ¬ y.op.kind = 9 := by omega
    have hk9b : (y.op.kind == 9) = false := by simp [hk9]
    have hk10 : ¬ y.op.kind = 10 := by omega
    have hk10b : (y.op.kind == 10) = false := by simp [hk10]
    have hk11 : ¬ y.op.kind = 11 := by omega
    have hk11b : (y.op.kind == 11) = false := by simp [hk11]
    have hk12 : ¬ y.op.kind = 12 := by omega
    have hk12b : (y.op.kind == 12) = false := by simp [hk12]
    obtain ⟨rfl, rfl⟩ : S' = S ∧ A = { versions := x.V, branches := x.B } := by
      have e := hm.out
      rw [Md.mdo_list S y.op hk] at e
      have e1 : x.V = Md.vlist S := OK.out.sim.v
      have e2 : x.B = Md.blist S := OK.out.sim.b
      cases e
      rw [e1, e2]
      exact ⟨rfl, rfl⟩
    have hkb : (y.op.kind == 13) = true := by simp [hk]
    clear hk
    obtain ⟨va, vc, hvv⟩ := DAt.shV D4
    obtain ⟨ba, bc, hvb⟩ := DAt.shB D4
    have M4 : Sat (DAt x * Pool p) w1 := (D4.of_eq (show _ = (DAt x * Pool p) * (ansZ r * (OpAt o y * F)) from by ac_rfl)).left
    have f1 := FX.out.v
    have RV : Hid (ReadsV (DAt x * Pool p) (.slice va x.V.length vc) x.V) := Lib.hid (by rw [← hvv]; exact (LAt.readV (DAt.asL M4) (by omega)).imp fun _ h => DAt.asL h)
    have RB : Hid (ReadsB (DAt x * Pool p) (.slice ba x.B.length bc) x.B) := Lib.hid (by rw [← hvb]; exact (LAt.readB (DAt.asL M4) (by omega)).imp fun _ h => DAt.asL h)
    obtain ⟨c0, c1, c2, c3, c4⟩ := DAt.cells D4
    obtain ⟨l0, l1⟩ := DAt.lcells D4
    rw [hvv] at l0
    rw [hvb] at l1
    have HVV := Lib.hid hvv
    have HVB := Lib.hid hvb
    clear hvv hvb M4 K2
    go_upto_region 20 with fail
    have K5 := K4.drew
    have I5 := I3.drew
    clear c0 c1 c2 c3 c4 l0 l1 x0 x1 x2 x3 x4 x5 x6 x7 x8 x9
    obtain ⟨c0, c1, c2, c3, c4⟩ := DAt.cells D4.drew
    obtain ⟨l0, l1⟩ := DAt.lcells D4.drew
    rw [HVV.out] at l0
    rw [HVB.out] at l1
    refine region_tail 15 (by kernel_rfl) (by kernel_rfl) ?_
    simp only [List.take_succ_cons, List.take_zero, List.drop_succ_cons, List.drop_zero]
    repeat still_step
    refine wpStill_nil ?_
    go_wp2_with (with_reducible refine store_ans (A := { versions := x.V, branches := x.B }) (s := ⟨.slice none 0 0, .slice none 0 0, .slice va x.V.length vc, .slice ba x.B.length bc⟩) rfl (.tmp 4) (.tmp 64) rfl rfl ⟨rfl, rfl, rfl, rfl⟩ K5 rfl ?_; intro w6 H6 I6; obtain ⟨d0, d1, d2, d3, d4, d5, d6, d7⟩ := ansA_reads H6)
    exact bodyPost_ret (v := ansV { versions := x.V, branches := x.B } ⟨.slice none 0 0, .slice none 0 0, .slice va x.V.length vc, .slice ba x.B.length bc⟩) (by simp [results, Tryz.results26, go_sem, d0, d1, d2, d3, d4, d5, d6, d7]) rfl (HH.out x p (ansA r { versions := x.V, branches := x.B } ⟨.slice none 0 0, .slice none 0 0, .slice va x.V.length vc, .slice ba x.B.length bc⟩ * OpAt o y) ⟨.slice none 0 0, .slice none 0 0, .slice va x.V.length vc, .slice ba x.B.length bc⟩ _ rfl (OK.out.mono (by omega)) (H6.of_eq (by ac_rfl)) ⟨readsC_nil _, readsP_nil _, RV.out.with, RB.out.with⟩ (I5.trans I6))

set_option maxRecDepth 100000 in
set_option maxHeartbeats 16000000 in
theorem rdo_4 (y : OpX) (hk : y.op.kind = 4) (hsz : y.op.name.size ≤ 1000000) (hj : j ≤ 300) (ok : DocOk j S p x) {S' : St} {A : Md.An} (hm : Hid (Md.mdo S y.op = (S', A))) (H : Sat (DAt x * (Pool p * F)) w)
    (hh : ∀ x' p' (G : Asn) (s : Sl4) w', x'.b = x.b → DocOk (j + 1) S' p' x' → Sat (G * (DAt x' * (Pool p' * F))) w' → DReads (G * (DAt x' * Pool p')) A s → Io w w' → R (.returned (ansV A s)) w') :
    Calls Tryz.prog 26 #[x.ptr, opV y] w R := by
  have HH := Lib.hid hh
  clear hh
  have OK := Lib.hid ok
  have HDN : Hid (x.D ≠ [] → ∃ g c, x.vd = .slice (some ⟨g, 0, none⟩) x.D.length c) := Lib.hid (fun hne => DAt.shD_ne hne H)
  have H00 : Sat (OpAt w.heap.size y * (DAt x * (Pool p * F))) (w.alloc (.cells (opC y) 41)) := H.new _
  have I00 : Io w (w.alloc (.cells (opC y) 41)) := (Io.refl w).alloc _
  have H0 := ansZ_new H00
  have I0 := I00.trans (io_ansZ _)
  have hr : (w.alloc (.cells (opC y) 41)).heap.size = w.heap.size + 1 := by simp
  rw [hr] at H0
  clear H00 I00 hr
  have FX := Lib.hid (ok.fit (by omega))
  have HNE := Lib.hid ok.ne
  have f2 := FX.out.b
  obtain ⟨bi, hbi⟩ : ∃ r, r = Md.bnum x.B y.op.name := ⟨_, rfl⟩
  have HBI := Lib.hid hbi
  rw [ok.bnum] at hbi
  have HBJ := Lib.hid hbi
  clear hbi
  have HZ := Lib.hid (fun (o : Nat) (G : Asn) W (hW : Sat (DAt x * (OpAt o y * G)) W) => (⟨(DAt.cells hW).1, (op_reads hW.right).2.1⟩ : W.cell? ⟨x.b, 0, none⟩ = some (lptr x.l) ∧ W.cell? ⟨o, 1, none⟩ = some (.string y.op.name)))
  go_enter Tryz.func26, Tryz.ntmps26
  go_upto_region 1 with fail
  generalize (w.alloc (.cells (opC y) 41)).alloc (.cells #[.int .i64 0, .int .i64 0, .bool false, .int .i64 0, .slice none 0 0, .slice none 0 0, .slice none 0 0, .slice none 0 0] 37) = w0 at *
  generalize w.heap.size + 1 = r at *
  generalize w.heap.size = o at *
  have H1 : Sat (DAt x * (OpAt o y * (ansZ r * (Pool p * F)))) w0 := H0.of_eq (by ac_rfl)
  have Z0 := HZ.out _ _ _ H1.drew
  have LL := DAt.asL H1.drew
  clear H0
  go_region_held3 (fun W => W.cell? ⟨x.b, 0, none⟩ = some (lptr x.l) ∧ W.cell? ⟨o, 1, none⟩ = some (.string y.op.name)) (first | exact Z0 | exact Z1) ((go_at_call 52; with_reducible refine rbranch_any y.op.name (by omega) LL HBI ?_; intro w1 H2 I2; have K2 := DAt.ofL H2; have Z1 := HZ.out _ _ _ K2))
  all_goals
    clear Z0 Z1 LL H1 H2 HBI HZ
    have I3 := I0.drew.trans I2
    have K4 : Sat (ansZ r * (OpAt o y * (DAt x * (Pool p * F)))) w1 := K2.of_eq (by ac_rfl)
    have D4 : Sat (DAt x * (Pool p * (ansZ r * (OpAt o y * F)))) w1 := K2.of_eq (by ac_rfl)
    obtain ⟨x0, x1, x2, x3, x4, x5, x6, x7, x8, x9⟩ := op_reads K4.right
    clear I0 I2
    have hk1 : ¬ y.op.kind = 1 := by omega
    have hk1b : (y.op.kind == 1) = false := by simp [hk1]
    have hk2 : ¬ y.op.kind = 2 := by omega
    have hk2b : (y.op.kind == 2) = false := by simp [hk2]
    have hk3 : ¬ y.op.kind = 3 := by omega
    have hk3b : (y.op.kind == 3) = false := by simp [hk3]
    have hk5 : ¬ y.op.kind = 5 := by omega
    have hk5b : (y.op.kind == 5) = false := by simp [hk5]
    have hk6 : ¬ y.op.kind = 6 := by omega
    have hk6b : (y.op.kind == 6) = false := by simp [hk6]
    have hk7 : ¬ y.op.kind = 7 := by omega
    have hk7b : (y.op.kind == 7) = false := by simp [hk7]
    have hk8 : ¬ y.op.kind = 8 := by omega
    have hk8b : (y.op.kind == 8) = false := by simp [hk8]
    have hk9 : ¬ y.op.kind = 9 := by omega
    have hk9b : (y.op.kind == 9) = false := by simp [hk9]
    have hk10 : ¬ y.op.kind = 10 := by omega
    have hk10b : (y.op.kind == 10) = false := by simp [hk10]
    have hk11 : ¬ y.op.kind = 11 := by omega
    have hk11b : (y.op.kind == 11) = false := by simp [hk11]
    have hk12 : ¬ y.op.kind = 12 := by omega
    have hk12b : (y.op.kind == 12) = false := by simp [hk12]
    have hk13 : ¬ y.op.kind = 13 := by omega
    have hk13b : (y.op.kind == 13) = false := by simp [hk13]
    have hkb : (y.op.kind == 4) = true := by simp [hk]
    have HK := Lib.hid hk
    clear hk
    have hbi := HBJ.out
    by_cases hn : (aget S.heads y.op.name).isSome = true
    · rw [if_pos hn] at hbi
      obtain ⟨i, hidef⟩ : ∃ i, i = Md.bplace x.B y.op.name := ⟨_, rfl⟩
      have HID := Lib.hid hidef
      have hi := (OK.out.bsome y.op.name).2 hn
      rw [← hidef] at hbi hi
      have HN := Lib.hid hn
      clear hidef hn
      subst hbi
      have hi0 : ¬ (i : Int) < 0 := by omega
      have hi1 : (0 : Int) ≤ (i : Int) := by omega
      obtain ⟨c0, c1, c2, c3, c4⟩ := DAt.cells D4
      obtain ⟨g2, gc2, hvd⟩ := HDN.out (by intro e; have := FX.out.d; rw [e] at this; exact HNE.out (List.eq_nil_of_length_eq_zero (by simpa using this.symm)))
      rw [hvd] at c3
      have hid : i < x.D.length := by have := FX.out.d; omega
      have hidi : (i : Int) < (x.D.length : Int) := by omega
      have rd := DAt.readD hvd D4 i hid
      have fd := DAt.freeD hvd D4 i
      have M5 := DAt.storeD hvd D4 i hid false
      have K5 := M5.of_eq (show _ = ansZ r * (OpAt o y * (DAt { x with D := x.D.set i false } * (Pool p * F))) from by ac_rfl)
      have I5 := I3.setCell ⟨g2, i, none⟩ (.bool false)
      obtain ⟨rfl, rfl⟩ : S' = Md.abort S y.op.name ∧ A = {} := by have e := hm.out; rw [mdo_abo HK.out HN.out] at e; cases e; exact ⟨rfl, rfl⟩
      have okk := OK.out.abort HN.out
      rw [← HID.out] at okk
      have OKK := Lib.hid okk
      clear okk hvd K2 M5 D4
      go_wp2_with (with_reducible refine store_ans (A := {}) rfl (.tmp 4) (.tmp 76) rfl rfl nil4_fit K5 rfl ?_; intro w6 H6 I6; obtain ⟨d0, d1, d2, d3, d4, d5, d6, d7⟩ := ansA_reads H6)
      exact bodyPost_ret (v := ansV {} nil4) (by simp [results, Tryz.results26, go_sem, d0, d1, d2, d3, d4, d5, d6, d7]) rfl (HH.out { x with D := x.D.set i false } p (ansA r {} nil4 * OpAt o y) nil4 _ rfl OKK.out (H6.of_eq (by ac_rfl)) (dreads_nil _ rfl rfl rfl rfl) (I5.trans I6))
    · rw [if_neg hn] at hbi
      subst hbi
      obtain ⟨rfl, rfl⟩ : S' = S ∧ A = Md.fail 191 := by have e := hm.out; rw [mdo_none (by have := HK.out; omega) hn] at e; cases e; exact ⟨rfl, rfl⟩
      clear K2 D4
      go_wp2_with (first
        | (go_at_call 58; with_reducible refine rfail_any 191 K4 ?_; intro w7 H7 I7)
        | (with_reducible refine store_ans (A := Md.fail 191) rfl (.tmp 4) (.tmp 69) rfl rfl nil4_fit H7 rfl ?_; intro w6 H6 I6; obtain ⟨d0, d1, d2, d3, d4, d5, d6, d7⟩ := ansA_reads H6))
      exact bodyPost_ret (v := ansV (Md.fail 191) nil4) (by simp [results, Tryz.results26, go_sem, d0, d1, d2, d3, d4, d5, d6, d7]) rfl (HH.out x p (ansA r (Md.fail 191) nil4 * OpAt o y) nil4 _ rfl (OK.out.mono (by omega)) (H6.of_eq (by ac_rfl)) (dreads_nil _ rfl rfl rfl rfl) ((I3.trans I7).trans I6))

set_option maxRecDepth 100000 in
set_option maxHeartbeats 16000000 in
theorem rdo_h (y : OpX) (hk : y.op.kind = 12) (hsz : y.op.name.size ≤ 1000000) (hj : j ≤ 300) (ok : DocOk j S p x) {S' : St} {A : Md.An} (hm : Hid (Md.mdo S y.op = (S', A))) (H : Sat (DAt x * (Pool p * F)) w)
    (hh : ∀ x' p' (G : Asn) (s : Sl4) w', x'.b = x.b → DocOk (j + 1) S' p' x' → Sat (G * (DAt x' * (Pool p' * F))) w' → DReads (G * (DAt x' * Pool p')) A s → Io w w' → R (.returned (ansV A s)) w') :
    Calls Tryz.prog 26 #[x.ptr, opV y] w R := by
  have HH := Lib.hid hh
  clear hh
  have OK := Lib.hid ok
  have HDN : Hid (x.D ≠ [] → ∃ g c, x.vd = .slice (some ⟨g, 0, none⟩) x.D.length c) := Lib.hid (fun hne => DAt.shD_ne hne H)
  have H00 : Sat (OpAt w.heap.size y * (DAt x * (Pool p * F))) (w.alloc (.cells (opC y) 41)) := H.new _
  have I00 : Io w (w.alloc (.cells (opC y) 41)) := (Io.refl w).alloc _
  have H0 := ansZ_new H00
  have I0 := I00.trans (io_ansZ _)
  have hr : (w.alloc (.cells (opC y) 41)).heap.size = w.heap.size + 1 := by simp
  rw [hr] at H0
  clear H00 I00 hr
  have FX := Lib.hid (ok.fit (by omega))
  have HNE := Lib.hid ok.ne
  have f2 := FX.out.b
  obtain ⟨bi, hbi⟩ : ∃ r, r = Md.bnum x.B y.op.name := ⟨_, rfl⟩
  have HBI := Lib.hid hbi
  rw [ok.bnum] at hbi
  have HBJ := Lib.hid hbi
  clear hbi
  have HZ := Lib.hid (fun (o : Nat) (G : Asn) W (hW : Sat (DAt x * (OpAt o y * G)) W) => (⟨(DAt.cells hW).1, (op_reads hW.right).2.1⟩ : W.cell? ⟨x.b, 0, none⟩ = some (lptr x.l) ∧ W.cell? ⟨o, 1, none⟩ = some (.string y.op.name)))
  go_enter Tryz.func26, Tryz.ntmps26
  go_upto_region 1 with fail
  generalize (w.alloc (.cells (opC y) 41)).alloc (.cells #[.int .i64 0, .int .i64 0, .bool false, .int .i64 0, .slice none 0 0, .slice none 0 0, .slice none 0 0, .slice none 0 0] 37) = w0 at *
  generalize w.heap.size + 1 = r at *
  generalize w.heap.size = o at *
  have H1 : Sat (DAt x * (OpAt o y * (ansZ r * (Pool p * F)))) w0 := H0.of_eq (by ac_rfl)
  have Z0 := HZ.out _ _ _ H1.drew
  have LL := DAt.asL H1.drew
  clear H0
  go_region_held3 (fun W => W.cell? ⟨x.b, 0, none⟩ = some (lptr x.l) ∧ W.cell? ⟨o, 1, none⟩ = some (.string y.op.name)) (first | exact Z0 | exact Z1) ((go_at_call 52; with_reducible refine rbranch_any y.op.name (by omega) LL HBI ?_; intro w1 H2 I2; have K2 := DAt.ofL H2; have Z1 := HZ.out _ _ _ K2))
  all_goals
    clear Z0 Z1 LL H1 H2 HBI HZ
    have I3 := I0.drew.trans I2
    have K4 : Sat (ansZ r * (OpAt o y * (DAt x * (Pool p * F)))) w1 := K2.of_eq (by ac_rfl)
    have D4 : Sat (DAt x * (Pool p * (ansZ r * (OpAt o y * F)))) w1 := K2.of_eq (by ac_rfl)
    obtain ⟨x0, x1, x2, x3, x4, x5, x6, x7, x8, x9⟩ := op_reads K4.right
    clear I0 I2
    have hk1 : ¬ y.op.kind = 1 := by omega
    have hk1b : (y.op.kind == 1) = false := by simp [hk1]
    have hk2 : ¬ y.op.kind = 2 := by omega
    have hk2b : (y.op.kind == 2) = false := by simp [hk2]
    have hk3 : ¬ y.op.kind = 3 := by omega
    have hk3b : (y.op.kind == 3) = false := by simp [hk3]
    have hk4 : ¬ y.op.kind = 4 := by omega
    have hk4b : (y.op.kind == 4) = false := by simp [hk4]
    have hk5 : ¬ y.op.kind = 5 := by omega
    have hk5b : (y.op.kind == 5) = false := by simp [hk5]
    have hk6 : ¬ y.op.kind = 6 := by omega
    have hk6b : (y.op.kind == 6) = false := by simp [hk6]
    have hk7 : ¬ y.op.kind = 7 := by omega
    have hk7b : (y.op.kind == 7) = false := by simp [hk7]
    have hk8 : ¬ y.op.kind = 8 := by omega
    have hk8b : (y.op.kind == 8) = false := by simp [hk8]
    have hk9 : ¬ y.op.kind = 9 := by omega
    have hk9b : (y.op.kind == 9) = false := by simp [hk9]
    have hk10 : ¬ y.op.kind = 10 := by omega
    have hk10b : (y.op.kind == 10) = false := by simp [hk10]
    have hk11 : ¬ y.op.kind = 11 := by omega
    have hk11b : (y.op.kind == 11) = false := by simp [hk11]
    have hk13 : ¬ y.op.kind = 13 := by omega
    have hk13b : (y.op.kind == 13) = false := by simp [hk13]
    have hkb : (y.op.kind == 12) = true := by simp [hk]
    have HK := Lib.hid hk
    clear hk
    have hbi := HBJ.out
    by_cases hn : (aget S.heads y.op.name).isSome = true
    · rw [if_pos hn] at hbi
      obtain ⟨i, hidef⟩ : ∃ i, i = Md.bplace x.B y.op.name := ⟨_, rfl⟩
      have HID := Lib.hid hidef
      have hi := (OK.out.bsome y.op.name).2 hn
      rw [← hidef] at hbi hi
      have HN := Lib.hid hn
      clear hidef hn
      subst hbi
      have hi0 : ¬ (i : Int) < 0 := by omega
      have hi1 : (0 : Int) ≤ (i : Int) := by omega
      obtain ⟨c0, c1, c2, c3, c4⟩ := DAt.cells D4
      obtain ⟨bb, ob, cb, hvb, hgb⟩ := DAt.getB D4 (by omega) i hi
      obtain ⟨l0, l1⟩ := DAt.lcells D4
      rw [hvb] at l1
      have gb := hgb _ D4
      have hiB : (i : Int) < (x.B.length : Int) := by omega
      obtain ⟨hd, hhd⟩ : ∃ h, h = (x.B[i]'hi).head := ⟨_, rfl⟩
      rw [← hhd] at gb
      have HHD : Hid (hd = Md.hget S y.op.name) := Lib.hid (by
        have h0 := (OK.out.bsome y.op.name).2 HN.out
        have := OK.out.sim.head OK.out.inv (n := y.op.name) h0
        rw [hhd, ← this]
        simp only [HID.out]
        rfl)
      obtain ⟨rfl, rfl⟩ : S' = S ∧ A = { version := hd } := by have e := hm.out; rw [mdo_hea HK.out HN.out, ← HHD.out] at e; cases e; exact ⟨rfl, rfl⟩
      clear hgb hvb hhd K2 D4
      go_wp2_with (with_reducible refine store_ans (A := { version := hd }) rfl (.tmp 4) (.tmp 93) rfl rfl nil4_fit K4 rfl ?_; intro w6 H6 I6; obtain ⟨d0, d1, d2, d3, d4, d5, d6, d7⟩ := ansA_reads H6)
      exact bodyPost_ret (v := ansV { version := hd } nil4) (by simp [results, Tryz.results26, go_sem, d0, d1, d2, d3, d4, d5, d6, d7]) rfl (HH.out x p (ansA r { version := hd } nil4 * OpAt o y) nil4 _ rfl (OK.out.mono (by omega)) (H6.of_eq (by ac_rfl)) (dreads_nil _ rfl rfl rfl rfl) (I3.trans I6))
    · rw [if_neg hn] at hbi
      subst hbi
      obtain ⟨rfl, rfl⟩ : S' = S ∧ A = Md.fail 191 := by have e := hm.out; rw [mdo_none (by have := HK.out; omega) hn] at e; cases e; exact ⟨rfl, rfl⟩
      clear K2 D4
      go_wp2_with (first
        | (go_at_call 58; with_reducible refine rfail_any 191 K4 ?_; intro w7 H7 I7)
        | (with_reducible refine store_ans (A := Md.fail 191) rfl (.tmp 4) (.tmp 81) rfl rfl nil4_fit H7 rfl ?_; intro w6 H6 I6; obtain ⟨d0, d1, d2, d3, d4, d5, d6, d7⟩ := ansA_reads H6))
      exact bodyPost_ret (v := ansV (Md.fail 191) nil4) (by simp [results, Tryz.results26, go_sem, d0, d1, d2, d3, d4, d5, d6, d7]) rfl (HH.out x p (ansA r (Md.fail 191) nil4 * OpAt o y) nil4 _ rfl (OK.out.mono (by omega)) (H6.of_eq (by ac_rfl)) (dreads_nil _ rfl rfl rfl rfl) ((I3.trans I7).trans I6))

set_option maxRecDepth 100000 in
set_option maxHeartbeats 16000000 in
theorem rdo_e (y : OpX) (hk : ¬ (1 ≤ y.op.kind ∧ y.op.kind ≤ 13)) (hsz : y.op.name.size ≤ 1000000) (hj : j ≤ 300) (ok : DocOk j S p x) {S' : St} {A : Md.An} (hm : Hid (Md.mdo S y.op = (S', A))) (H : Sat (DAt x * (Pool p * F)) w)
    (hh : ∀ x' p' (G : Asn) (s : Sl4) w', x'.b = x.b → DocOk (j + 1) S' p' x' → Sat (G * (DAt x' * (Pool p' * F))) w' → DReads (G * (DAt x' * Pool p')) A s → Io w w' → R (.returned (ansV A s)) w') :
    Calls Tryz.prog 26 #[x.ptr, opV y] w R := by
  have HH := Lib.hid hh
  clear hh
  have OK := Lib.hid ok
  have HDN : Hid (x.D ≠ [] → ∃ g c, x.vd = .slice (some ⟨g, 0, none⟩) x.D.length c) := Lib.hid (fun hne => DAt.shD_ne hne H)
  have H00 : Sat (OpAt w.heap.size y * (DAt x * (Pool p * F))) (w.alloc (.cells (opC y) 41)) := H.new _
  have I00 : Io w (w.alloc (.cells (opC y) 41)) := (Io.refl w).alloc _
  have H0 := ansZ_new H00
  have I0 := I00.trans (io_ansZ _)
  have hr : (w.alloc (.cells (opC y) 41)).heap.size = w.heap.size + 1 := by simp
  rw [hr] at H0
  clear H00 I00 hr
  have FX := Lib.hid (ok.fit (by omega))
  have HNE := Lib.hid ok.ne
  have f2 := FX.out.b
  obtain ⟨bi, hbi⟩ : ∃ r, r = Md.bnum x.B y.op.name := ⟨_, rfl⟩
  have HBI := Lib.hid hbi
  rw [ok.bnum] at hbi
  have HBJ := Lib.hid hbi
  clear hbi
  have HZ := Lib.hid (fun (o : Nat) (G : Asn) W (hW : Sat (DAt x * (OpAt o y * G)) W) => (⟨(DAt.cells hW).1, (op_reads hW.right).2.1⟩ : W.cell? ⟨x.b, 0, none⟩ = some (lptr x.l) ∧ W.cell? ⟨o, 1, none⟩ = some (.string y.op.name)))
  go_enter Tryz.func26, Tryz.ntmps26
  go_upto_region 1 with fail
  generalize (w.alloc (.cells (opC y) 41)).alloc (.cells #[.int .i64 0, .int .i64 0, .bool false, .int .i64 0, .slice none 0 0, .slice none 0 0, .slice none 0 0, .slice none 0 0] 37) = w0 at *
  generalize w.heap.size + 1 = r at *
  generalize w.heap.size = o at *
  have H1 : Sat (DAt x * (OpAt o y * (ansZ r * (Pool p * F)))) w0 := H0.of_eq (by ac_rfl)
  have Z0 := HZ.out _ _ _ H1.drew
  have LL := DAt.asL H1.drew
  clear H0
  go_region_held3 (fun W => W.cell? ⟨x.b, 0, none⟩ = some (lptr x.l) ∧ W.cell? ⟨o, 1, none⟩ = some (.string y.op.name)) (first | exact Z0 | exact Z1) ((go_at_call 52; with_reducible refine rbranch_any y.op.name (by omega) LL HBI ?_; intro w1 H2 I2; have K2 := DAt.ofL H2; have Z1 := HZ.out _ _ _ K2))
  all_goals
    clear Z0 Z1 LL H1 H2 HBI HZ
    have I3 := I0.drew.trans I2
    have K4 : Sat (ansZ r * (OpAt o y * (DAt x * (Pool p * F)))) w1 := K2.of_eq (by ac_rfl)
    have D4 : Sat (DAt x * (Pool p * (ansZ r * (OpAt o y * F)))) w1 := K2.of_eq (by ac_rfl)
    obtain ⟨x0, x1, x2, x3, x4, x5, x6, x7, x8, x9⟩ := op_reads K4.right
    clear I0 I2
    have hk1 : ¬ y.op.kind = 1 := by omega
    have hk1b : (y.op.kind == 1) = false := by simp [hk1]
    have hk2 : ¬ y.op.kind = 2 := by omega
    have hk2b : (y.op.kind == 2) = false := by simp [hk2]
    have hk3 : ¬ y.op.kind = 3 := by omega
    have hk3b : (y.op.kind == 3) = false := by simp [hk3]
    have hk4 : ¬ y.op.kind = 4 := by omega
    have hk4b : (y.op.kind == 4) = false := by simp [hk4]
    have hk5 : ¬ y.op.kind = 5 := by omega
    have hk5b : (y.op.kind == 5) = false := by simp [hk5]
    have hk6 : ¬ y.op.kind = 6 := by omega
    have hk6b : (y.op.kind == 6) = false := by simp [hk6]
    have hk7 : ¬ y.op.kind = 7 := by omega
    have hk7b : (y.op.kind == 7) = false := by simp [hk7]
    have hk8 : ¬ y.op.kind = 8 := by omega
    have hk8b : (y.op.kind == 8) = false := by simp [hk8]
    have hk9 : ¬ y.op.kind = 9 := by omega
    have hk9b : (y.op.kind == 9) = false := by simp [hk9]
    have hk10 : ¬ y.op.kind = 10 := by omega
    have hk10b : (y.op.kind == 10) = false := by simp [hk10]
    have hk11 : ¬ y.op.kind = 11 := by omega
    have hk11b : (y.op.kind == 11) = false := by simp [hk11]
    have hk12 : ¬ y.op.kind = 12 := by omega
    have hk12b : (y.op.kind == 12) = false := by simp [hk12]
    have hk13 : ¬ y.op.kind = 13 := by omega
    have hk13b : (y.op.kind == 13) = false := by simp [hk13]
    obtain ⟨rfl, rfl⟩ : S' = S ∧ A = Md.fail 1 := by have e := hm.out; rw [mdo_e hk] at e; cases e; exact ⟨rfl, rfl⟩
    clear hk K2 D4
    go_wp2_with (first
      | (go_at_call 58; with_reducible refine rfail_any 1 K4 ?_; intro w7 H7 I7)
      | (with_reducible refine store_ans (A := Md.fail 1) rfl (.tmp 4) (.tmp 94) rfl rfl nil4_fit H7 rfl ?_; intro w6 H6 I6; obtain ⟨d0, d1, d2, d3, d4, d5, d6, d7⟩ := ansA_reads H6))
    exact bodyPost_ret (v := ansV (Md.fail 1) nil4) (by simp [results, Tryz.results26, go_sem, d0, d1, d2, d3, d4, d5, d6, d7]) rfl (HH.out x p (ansA r (Md.fail 1) nil4 * OpAt o y) nil4 _ rfl (OK.out.mono (by omega)) (H6.of_eq (by ac_rfl)) (dreads_nil _ rfl rfl rfl rfl) ((I3.trans I7).trans I6))

theorem rdo_any (y : OpX) (hsz : y.op.name.size ≤ 1000000) (hj : j ≤ 300) (ok : DocOk j S p x) {S' : St} {A : Md.An} (hm : Hid (Md.mdo S y.op = (S', A))) (H : Sat (DAt x * (Pool p * F)) w)
    (hh : ∀ x' p' (G : Asn) (s : Sl4) w', x'.b = x.b → DocOk (j + 1) S' p' x' → Sat (G * (DAt x' * (Pool p' * F))) w' → DReads (G * (DAt x' * Pool p')) A s → Io w w' → R (.returned (ansV A s)) w') :
    Calls Tryz.prog 26 #[x.ptr, opV y] w R := by
  by_cases h : 1 ≤ y.op.kind ∧ y.op.kind ≤ 13
  · obtain ⟨h1, h2⟩ := h
    by_cases k12 : y.op.kind = 1 ∨ y.op.kind = 2
    · exact rdo_12 y k12 hsz hj ok hm H hh
    · by_cases k3 : y.op.kind = 3
      · exact rdo_3 y k3 hsz hj ok hm H hh
      · by_cases k4 : y.op.kind = 4
        · exact rdo_4 y k4 hsz hj ok hm H hh
        · by_cases k5 : y.op.kind = 5
          · exact rdo_5 y k5 hsz hj ok hm H hh
          · by_cases k6 : y.op.kind = 6
            · exact rdo_6 y k6 hsz hj ok hm H hh
            · by_cases k7 : y.op.kind = 7
              · exact rdo_7 y k7 hsz hj ok hm H hh
              · by_cases k8 : y.op.kind = 8 ∨ y.op.kind = 9 ∨ y.op.kind = 10 ∨ y.op.kind = 11
                · exact rdo_8 y k8 hsz hj ok hm H hh
                · by_cases k13 : y.op.kind = 13
                  · exact rdo_13 y k13 hsz hj ok hm H hh
                  · exact rdo_h y (by omega) hsz hj ok hm H hh
  · exact rdo_e y h hsz hj ok hm H hh
end
end Go.Proofs.YtabpgejjnphfcaaGreat
