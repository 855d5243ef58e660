/-
  The model of the index: Do, by its walk. It proves no statement by itself.
-/
import Derived.Test.YtabpgejjnphfcaaGreatQ36
import Derived.Test.YtabpgejjnphfcaaGreatQ37
namespace Go.Proofs.YtabpgejjnphfcaaGreat
open Go.RowKit Go.Lib Go.MapKept
open Md (Nm St)
set_option linter.unusedSimpArgs false
set_option linter.unusedVariables false
set_option linter.unusedSectionVars false
section
variable {F : Asn} {w : World} {R : Ending → World → Prop} {p : Pl} {h : Mh} {S : MV} {j : Nat}
theorem drop_blk {A B C D : Asn} {w : World} (H : Sat (A * (B * (C * D))) w) : Sat (B * D) w := (H.of_eq (show _ = (A * C) * (B * D) from by ac_rfl)).right
theorem commit_nil (S : St) (n : Nm) : (Md.commit S n).2.changes = [] ∧ (Md.commit S n).2.pairs = [] ∧ (Md.commit S n).2.versions = [] ∧ (Md.commit S n).2.branches = [] := by
  unfold Md.commit; split <;> exact ⟨rfl, rfl, rfl, rfl⟩
theorem branch_nil (S : St) (o : Md.Op) : (Md.branch S o).2.changes = [] ∧ (Md.branch S o).2.pairs = [] ∧ (Md.branch S o).2.versions = [] ∧ (Md.branch S o).2.branches = [] := by
  unfold Md.branch; repeat' split
  all_goals exact ⟨rfl, rfl, rfl, rfl⟩
theorem drop_nil (S : St) (i : Int) : (Md.drop S i).2.changes = [] ∧ (Md.drop S i).2.pairs = [] ∧ (Md.drop S i).2.versions = [] ∧ (Md.drop S i).2.branches = [] := by
  unfold Md.drop; repeat' split
  all_goals exact ⟨rfl, rfl, rfl, rfl⟩
theorem change_nil (S : St) (o : Md.Op) : (Md.change S o).2.changes = [] ∧ (Md.change S o).2.pairs = [] ∧ (Md.change S o).2.versions = [] ∧ (Md.change S o).2.branches = [] := by
  unfold Md.change; repeat' split
  all_goals exact ⟨rfl, rfl, rfl, rfl⟩
theorem mdo_5 {S : St} {o : Md.Op} (h : o.kind = 5) : Md.mdo S o = Md.branch S o := by unfold Md.mdo; rw [if_pos h]
theorem mdo_6 {S : St} {o : Md.Op} (h : o.kind = 6) : Md.mdo S o = Md.drop S o.a := by unfold Md.mdo; rw [if_neg (by omega), if_pos h]
theorem mdo_7 {S : St} {o : Md.Op} (h : o.kind = 7) : Md.mdo S o = (S, {}) := by unfold Md.mdo; rw [if_neg (by omega), if_neg (by omega), if_pos h]
theorem mdo_e {S : St} {o : Md.Op} (h : ¬ (1 ≤ o.kind ∧ o.kind ≤ 13)) : Md.mdo S o = (S, Md.fail 1) := by
  unfold Md.mdo
  rw [if_neg (by omega), if_neg (by omega), if_neg (by omega), if_neg (by omega), if_neg (by omega), if_neg (by omega)]
theorem kept_st {S T : MV} {c : Prop} [Decidable c] {p : Pl} (hS : S.Ok p) (hT : T.Ok p) : (if c then S else T).Ok p := by split <;> assumption
set_option maxRecDepth 100000 in
set_option maxHeartbeats 8000000 in
theorem do_5 (x : OpX) (hk : x.op.kind = 5) (hsz : x.op.name.size ≤ 1000000) (hj : j ≤ 1000) (hS : S.Ok p) (hI : Md.Inv j S.st) {A : Md.An} (hA : Hid (A = (Md.mdo S.st x.op).2)) (H : Sat (ModelAt h S * (Pool p * F)) w)
    (hh : ∀ S' p' s w', S'.st = (Md.mdo S.st x.op).1 → S'.Ok p' → (∀ e ∈ p, e ∈ p') → s.Fit → Sat (AnsAt A s * (ModelAt h S' * (Pool p' * F))) w' → Io w w' → R (.returned (ansV A s)) w') :
    Calls Tryz.prog 17 #[h.ptr, opV x] w R := by
  have HH := Lib.hid hh
  clear hh
  have H00 : Sat (OpAt w.heap.size x * (ModelAt h S * (Pool p * F))) (w.alloc (.cells (opC x) 41)) := H.new _
  have I00 : Io w (w.alloc (.cells (opC x) 41)) := (Io.refl w).alloc _
  have H0 := ansZ_new H00
  have I0 := I00.trans (io_ansZ _)
  have hr : (w.alloc (.cells (opC x) 41)).heap.size = w.heap.size + 1 := by simp
  rw [hr] at H0
  clear H00 I00 hr
  have lS := inv_len hI
  have nS := hI.next
  have hnx : S.st.next = S.next := rfl
  rw [hnx] at nS
  clear hnx
  have hsl := hS.sl H.right
  go_enter Tryz.func17, Tryz.ntmps17
  go_upto_region 1 with fail
  generalize (w.alloc (.cells (opC x) 41)).alloc (.cells #[.int .i64 0, .int .i64 0, .bool false, .int .i64 0, .slice none 0 0, .slice none 0 0, .slice none 0 0, .slice none 0 0] 37) = w0 at *
  generalize w.heap.size + 1 = r at *
  generalize w.heap.size = o at *
  have H1 : Sat (ModelAt h S * (Pool p * (ansZ r * (OpAt o x * F)))) w0 := H0.of_eq (by ac_rfl)
  obtain ⟨x0, x1, x2, x3, x4, x5, x6, x7, x8, x9⟩ := op_reads H0.right
  have hb : (x.op.kind == 5) = true := by simp [hk]
  have HKK := Lib.hid hk
  clear hk
  have HA : Hid ((Md.branch S.st x.op).2 = A) := Lib.hid (by rw [hA.out, mdo_5 HKK.out])
  have HN : Hid (A.changes = [] ∧ A.pairs = [] ∧ A.versions = [] ∧ A.branches = []) := Lib.hid (by rw [hA.out, mdo_5 HKK.out]; exact branch_nil _ _)
  have HS2 : Hid ((S.branch x.op).st = (Md.mdo S.st x.op).1 ∧ (S.branch x.op).Ok p) := Lib.hid ⟨by rw [mdo_5 HKK.out]; exact S.branch_st x.op, MV.branch_ok hS⟩
  clear H0
  go_wp2_with (first
    | (go_at_call 31; with_reducible refine branch_any x (by omega) hsl (by omega) H1 ?_; rw [HA.out]; intro w2 H2 I2; have K2 : Sat (ansZ r * (ModelAt h (S.branch x.op) * (Pool p * (OpAt o x * F)))) w2 := H2.of_eq (by ac_rfl))
    | (with_reducible refine store_ans (A := A) rfl (.tmp 4) (.tmp 13) rfl rfl nil4_fit K2 rfl ?_; intro w6 H6 I6; obtain ⟨d0, d1, d2, d3, d4, d5, d6, d7⟩ := ansA_reads H6))
  have K7 : Sat (ModelAt h (S.branch x.op) * (Pool p * F)) w6 := (H6.of_eq (show _ = (ansA r A nil4 * OpAt o x) * (ModelAt h (S.branch x.op) * (Pool p * F)) from by ac_rfl)).right
  exact bodyPost_ret (v := ansV A nil4) (by simp [results, Tryz.results17, go_sem, d0, d1, d2, d3, d4, d5, d6, d7]) rfl (HH.out (S.branch x.op) p nil4 _ HS2.out.1 HS2.out.2 (fun _ h => h) nil4_fit (ansAt_nil HN.out.1 HN.out.2.1 HN.out.2.2.1 HN.out.2.2.2 K7) ((I0.trans I2).trans I6))
set_option maxRecDepth 100000 in
set_option maxHeartbeats 8000000 in
theorem do_6 (x : OpX) (hk : x.op.kind = 6) (hsz : x.op.name.size ≤ 1000000) (hj : j ≤ 1000) (hS : S.Ok p) (hI : Md.Inv j S.st) {A : Md.An} (hA : Hid (A = (Md.mdo S.st x.op).2)) (H : Sat (ModelAt h S * (Pool p * F)) w)
    (hh : ∀ S' p' s w', S'.st = (Md.mdo S.st x.op).1 → S'.Ok p' → (∀ e ∈ p, e ∈ p') → s.Fit → Sat (AnsAt A s * (ModelAt h S' * (Pool p' * F))) w' → Io w w' → R (.returned (ansV A s)) w') :
    Calls Tryz.prog 17 #[h.ptr, opV x] w R := by
  have HH := Lib.hid hh
  clear hh
  have H00 : Sat (OpAt w.heap.size x * (ModelAt h S * (Pool p * F))) (w.alloc (.cells (opC x) 41)) := H.new _
  have I00 : Io w (w.alloc (.cells (opC x) 41)) := (Io.refl w).alloc _
  have H0 := ansZ_new H00
  have I0 := I00.trans (io_ansZ _)
  have hr : (w.alloc (.cells (opC x) 41)).heap.size = w.heap.size + 1 := by simp
  rw [hr] at H0
  clear H00 I00 hr
  have lS := inv_len hI
  have nS := hI.next
  have hnx : S.st.next = S.next := rfl
  rw [hnx] at nS
  clear hnx
  have hsl := hS.sl H.right
  go_enter Tryz.func17, Tryz.ntmps17
  go_upto_region 1 with fail
  generalize (w.alloc (.cells (opC x) 41)).alloc (.cells #[.int .i64 0, .int .i64 0, .bool false, .int .i64 0, .slice none 0 0, .slice none 0 0, .slice none 0 0, .slice none 0 0] 37) = w0 at *
  generalize w.heap.size + 1 = r at *
  generalize w.heap.size = o at *
  have H1 : Sat (ModelAt h S * (Pool p * (ansZ r * (OpAt o x * F)))) w0 := H0.of_eq (by ac_rfl)
  obtain ⟨x0, x1, x2, x3, x4, x5, x6, x7, x8, x9⟩ := op_reads H0.right
  have q5 : ¬ x.op.kind = 5 := by omega
  have hb : (x.op.kind == 6) = true := by simp [hk]
  have HKK := Lib.hid hk
  clear hk
  have HA : Hid ((Md.drop S.st x.op.a).2 = A) := Lib.hid (by rw [hA.out, mdo_6 HKK.out])
  have HN : Hid (A.changes = [] ∧ A.pairs = [] ∧ A.versions = [] ∧ A.branches = []) := Lib.hid (by rw [hA.out, mdo_6 HKK.out]; exact drop_nil _ _)
  have HS2 : Hid ((S.drop x.op.a).st = (Md.mdo S.st x.op).1 ∧ (S.drop x.op.a).Ok p) := Lib.hid ⟨by rw [mdo_6 HKK.out]; exact S.drop_st x.op.a, MV.drop_ok hS⟩
  clear H0
  go_wp2_with (first
    | (go_at_call 32; with_reducible refine drop_any x.op.a hsl H1 ?_; rw [HA.out]; intro w2 H2 I2; have K2 : Sat (ansZ r * (ModelAt h (S.drop x.op.a) * (Pool p * (OpAt o x * F)))) w2 := H2.of_eq (by ac_rfl))
    | (with_reducible refine store_ans (A := A) rfl (.tmp 4) (.tmp 19) rfl rfl nil4_fit K2 rfl ?_; intro w6 H6 I6; obtain ⟨d0, d1, d2, d3, d4, d5, d6, d7⟩ := ansA_reads H6))
  have K7 : Sat (ModelAt h (S.drop x.op.a) * (Pool p * F)) w6 := (H6.of_eq (show _ = (ansA r A nil4 * OpAt o x) * (ModelAt h (S.drop x.op.a) * (Pool p * F)) from by ac_rfl)).right
  exact bodyPost_ret (v := ansV A nil4) (by simp [results, Tryz.results17, go_sem, d0, d1, d2, d3, d4, d5, d6, d7]) rfl (HH.out (S.drop x.op.a) p nil4 _ HS2.out.1 HS2.out.2 (fun _ h => h) nil4_fit (ansAt_nil HN.out.1 HN.out.2.1 HN.out.2.2.1 HN.out.2.2.2 K7) ((I0.trans I2).trans I6))
set_option maxRecDepth 100000 in
set_option maxHeartbeats 8000000 in
theorem do_7 (x : OpX) (hk : x.op.kind = 7) (hsz : x.op.name.size ≤ 1000000) (hj : j ≤ 1000) (hS : S.Ok p) (hI : Md.Inv j S.st) {A : Md.An} (hA : Hid (A = (Md.mdo S.st x.op).2)) (H : Sat (ModelAt h S * (Pool p * F)) w)
    (hh : ∀ S' p' s w', S'.st = (Md.mdo S.st x.op).1 → S'.Ok p' → (∀ e ∈ p, e ∈ p') → s.Fit → Sat (AnsAt A s * (ModelAt h S' * (Pool p' * F))) w' → Io w w' → R (.returned (ansV A s)) w') :
    Calls Tryz.prog 17 #[h.ptr, opV x] w R := by
  have HH := Lib.hid hh
  clear hh
  have H00 : Sat (OpAt w.heap.size x * (ModelAt h S * (Pool p * F))) (w.alloc (.cells (opC x) 41)) := H.new _
  have I00 : Io w (w.alloc (.cells (opC x) 41)) := (Io.refl w).alloc _
  have H0 := ansZ_new H00
  have I0 := I00.trans (io_ansZ _)
  have hr : (w.alloc (.cells (opC x) 41)).heap.size = w.heap.size + 1 := by simp
  rw [hr] at H0
  clear H00 I00 hr
  have lS := inv_len hI
  have nS := hI.next
  have hnx : S.st.next = S.next := rfl
  rw [hnx] at nS
  clear hnx
  have hsl := hS.sl H.right
  go_enter Tryz.func17, Tryz.ntmps17
  go_upto_region 1 with fail
  generalize (w.alloc (.cells (opC x) 41)).alloc (.cells #[.int .i64 0, .int .i64 0, .bool false, .int .i64 0, .slice none 0 0, .slice none 0 0, .slice none 0 0, .slice none 0 0] 37) = w0 at *
  generalize w.heap.size + 1 = r at *
  generalize w.heap.size = o at *
  have H1 : Sat (ModelAt h S * (Pool p * (ansZ r * (OpAt o x * F)))) w0 := H0.of_eq (by ac_rfl)
  obtain ⟨x0, x1, x2, x3, x4, x5, x6, x7, x8, x9⟩ := op_reads H0.right
  have q5 : ¬ x.op.kind = 5 := by omega
  have q6 : ¬ x.op.kind = 6 := by omega
  have hb : (x.op.kind == 7) = true := by simp [hk]
  have HKK := Lib.hid hk
  clear hk
  have HA : A = {} := by rw [hA.out, mdo_7 HKK.out]
  subst HA
  clear hA
  have HS2 : Hid (S.st = (Md.mdo S.st x.op).1) := Lib.hid (by rw [mdo_7 HKK.out])
  have K2 : Sat (ansZ r * (ModelAt h S * (Pool p * (OpAt o x * F)))) w0 := H1.of_eq (by ac_rfl)
  go_wp2_with (with_reducible refine store_ans (A := {}) rfl (.tmp 4) (.tmp 22) rfl rfl nil4_fit K2 rfl ?_; intro w6 H6 I6; obtain ⟨d0, d1, d2, d3, d4, d5, d6, d7⟩ := ansA_reads H6)
  have K7 : Sat (ModelAt h S * (Pool p * F)) w6 := (H6.of_eq (show _ = (ansA r {} nil4 * OpAt o x) * (ModelAt h S * (Pool p * F)) from by ac_rfl)).right
  exact bodyPost_ret (v := ansV {} nil4) (by simp [results, Tryz.results17, go_sem, d0, d1, d2, d3, d4, d5, d6, d7]) rfl (HH.out S p nil4 _ HS2.out hS (fun _ h => h) nil4_fit (ansAt_nil rfl rfl rfl rfl K7) (I0.trans I6))
set_option maxRecDepth 100000 in
set_option maxHeartbeats 8000000 in
theorem do_e (x : OpX) (hk : ¬ (1 ≤ x.op.kind ∧ x.op.kind ≤ 13)) (hsz : x.op.name.size ≤ 1000000) (hj : j ≤ 1000) (hS : S.Ok p) (hI : Md.Inv j S.st) {A : Md.An} (hA : Hid (A = (Md.mdo S.st x.op).2)) (H : Sat (ModelAt h S * (Pool p * F)) w)
    (hh : ∀ S' p' s w', S'.st = (Md.mdo S.st x.op).1 → S'.Ok p' → (∀ e ∈ p, e ∈ p') → s.Fit → Sat (AnsAt A s * (ModelAt h S' * (Pool p' * F))) w' → Io w w' → R (.returned (ansV A s)) w') :
    Calls Tryz.prog 17 #[h.ptr, opV x] w R := by
  have HH := Lib.hid hh
  clear hh
  have H00 : Sat (OpAt w.heap.size x * (ModelAt h S * (Pool p * F))) (w.alloc (.cells (opC x) 41)) := H.new _
  have I00 : Io w (w.alloc (.cells (opC x) 41)) := (Io.refl w).alloc _
  have H0 := ansZ_new H00
  have I0 := I00.trans (io_ansZ _)
  have hr : (w.alloc (.cells (opC x) 41)).heap.size = w.heap.size + 1 := by simp
  rw [hr] at H0
  clear H00 I00 hr
  have lS := inv_len hI
  have nS := hI.next
  have hnx : S.st.next = S.next := rfl
  rw [hnx] at nS
  clear hnx
  have hsl := hS.sl H.right
  go_enter Tryz.func17, Tryz.ntmps17
  go_upto_region 1 with fail
  generalize (w.alloc (.cells (opC x) 41)).alloc (.cells #[.int .i64 0, .int .i64 0, .bool false, .int .i64 0, .slice none 0 0, .slice none 0 0, .slice none 0 0, .slice none 0 0] 37) = w0 at *
  generalize w.heap.size + 1 = r at *
  generalize w.heap.size = o at *
  have H1 : Sat (ModelAt h S * (Pool p * (ansZ r * (OpAt o x * F)))) w0 := H0.of_eq (by ac_rfl)
  obtain ⟨x0, x1, x2, x3, x4, x5, x6, x7, x8, x9⟩ := op_reads H0.right
  have q1 : ¬ x.op.kind = 1 := by omega
  have q2 : ¬ x.op.kind = 2 := by omega
  have q3 : ¬ x.op.kind = 3 := by omega
  have q4 : ¬ x.op.kind = 4 := by omega
  have q5 : ¬ x.op.kind = 5 := by omega
  have q6 : ¬ x.op.kind = 6 := by omega
  have q7 : ¬ x.op.kind = 7 := by omega
  have q8 : ¬ x.op.kind = 8 := by omega
  have q9 : ¬ x.op.kind = 9 := by omega
  have q10 : ¬ x.op.kind = 10 := by omega
  have q11 : ¬ x.op.kind = 11 := by omega
  have q12 : ¬ x.op.kind = 12 := by omega
  have q13 : ¬ x.op.kind = 13 := by omega
  have HA : A = Md.fail 1 := by rw [hA.out, mdo_e hk]
  subst HA
  clear hA
  have HS2 : Hid (S.st = (Md.mdo S.st x.op).1) := Lib.hid (by rw [mdo_e hk])
  have K2 : Sat (ansZ r * (ModelAt h S * (Pool p * (OpAt o x * F)))) w0 := H1.of_eq (by ac_rfl)
  go_wp2_with (first
    | (go_at_call 35; with_reducible refine fail_any 1 K2 ?_; intro w5 H5 I5)
    | (with_reducible refine store_ans rfl (.tmp 4) (.tmp 57) rfl rfl nil4_fit H5 rfl ?_; intro w6 H6 I6; obtain ⟨d0, d1, d2, d3, d4, d5, d6, d7⟩ := ansA_reads H6))
  have K7 : Sat (ModelAt h S * (Pool p * F)) w6 := (H6.of_eq (show _ = (ansA r (Md.fail 1) nil4 * OpAt o x) * (ModelAt h S * (Pool p * F)) from by ac_rfl)).right
  exact bodyPost_ret (v := ansV (Md.fail 1) nil4) (by simp [results, Tryz.results17, go_sem, d0, d1, d2, d3, d4, d5, d6, d7]) rfl (HH.out S p nil4 _ HS2.out hS (fun _ h => h) nil4_fit (ansAt_nil rfl rfl rfl rfl K7) ((I0.trans I5).trans I6))
set_option maxRecDepth 100000 in
set_option maxHeartbeats 8000000 in
theorem do_13 (x : OpX) (hk : x.op.kind = 13) (hsz : x.op.name.size ≤ 1000000) (hj : j ≤ 1000) (hS : S.Ok p) (hI : Md.Inv j S.st) {A : Md.An} (hA : Hid (A = (Md.mdo S.st x.op).2)) (H : Sat (ModelAt h S * (Pool p * F)) w)
    (hh : ∀ S' p' s w', S'.st = (Md.mdo S.st x.op).1 → S'.Ok p' → (∀ e ∈ p, e ∈ p') → s.Fit → Sat (AnsAt A s * (ModelAt h S' * (Pool p' * F))) w' → Io w w' → R (.returned (ansV A s)) w') :
    Calls Tryz.prog 17 #[h.ptr, opV x] w R := by
  have HH := Lib.hid hh
  clear hh
  have H00 : Sat (OpAt w.heap.size x * (ModelAt h S * (Pool p * F))) (w.alloc (.cells (opC x) 41)) := H.new _
  have I00 : Io w (w.alloc (.cells (opC x) 41)) := (Io.refl w).alloc _
  have H0 := ansZ_new H00
  have I0 := I00.trans (io_ansZ _)
  have hr : (w.alloc (.cells (opC x) 41)).heap.size = w.heap.size + 1 := by simp
  rw [hr] at H0
  clear H00 I00 hr
  have lS := inv_len hI
  have nS := hI.next
  have hnx : S.st.next = S.next := rfl
  rw [hnx] at nS
  clear hnx
  have hsl := hS.sl H.right
  go_enter Tryz.func17, Tryz.ntmps17
  go_upto_region 1 with fail
  generalize (w.alloc (.cells (opC x) 41)).alloc (.cells #[.int .i64 0, .int .i64 0, .bool false, .int .i64 0, .slice none 0 0, .slice none 0 0, .slice none 0 0, .slice none 0 0] 37) = w0 at *
  generalize w.heap.size + 1 = r at *
  generalize w.heap.size = o at *
  have H1 : Sat (ModelAt h S * (Pool p * (ansZ r * (OpAt o x * F)))) w0 := H0.of_eq (by ac_rfl)
  obtain ⟨x0, x1, x2, x3, x4, x5, x6, x7, x8, x9⟩ := op_reads H0.right
  have q5 : ¬ x.op.kind = 5 := by omega
  have q6 : ¬ x.op.kind = 6 := by omega
  have q7 : ¬ x.op.kind = 7 := by omega
  have hb : (x.op.kind == 13) = true := by simp [hk]
  have HKK := Lib.hid hk
  clear hk
  have HA : A = { versions := Md.vlist S.st, branches := Md.blist S.st } := by rw [hA.out, Md.mdo_list _ _ HKK.out]
  have HS2 : Hid (S.st = (Md.mdo S.st x.op).1 ∧ S.Ok p) := Lib.hid ⟨by rw [Md.mdo_list _ _ HKK.out], hS⟩
  have HA2 := Lib.hid HA
  clear HA
  clear hA H0
  go_wp2_with (first
    | (go_at_call 33; with_reducible refine list_any (by omega) hS hI H1 ?_; rw [← HA2.out]; intro s w2 hs H2 I2; have K2 : Sat (ansZ r * (AnsAt A s * (ModelAt h S * (Pool p * (OpAt o x * F))))) w2 := H2.of_eq (by ac_rfl))
    | (with_reducible refine store_ans (A := A) (s := s) rfl (.tmp 4) (.tmp 26) rfl rfl hs K2 rfl ?_; intro w6 H6 I6; obtain ⟨d0, d1, d2, d3, d4, d5, d6, d7⟩ := ansA_reads H6))
  have K7 : Sat (AnsAt A s * (ModelAt h S * (Pool p * F))) w6 := (H6.of_eq (show _ = (ansA r A s * OpAt o x) * (AnsAt A s * (ModelAt h S * (Pool p * F))) from by ac_rfl)).right
  exact bodyPost_ret (v := ansV A s) (by simp [results, Tryz.results17, go_sem, d0, d1, d2, d3, d4, d5, d6, d7]) rfl (HH.out S p s _ HS2.out.1 HS2.out.2 (fun _ h => h) hs K7 ((I0.trans I2).trans I6))
set_option maxRecDepth 100000 in
set_option maxHeartbeats 8000000 in
theorem do_q (x : OpX) (hk : x.op.kind = 8 ∨ x.op.kind = 9 ∨ x.op.kind = 10 ∨ x.op.kind = 11) (hsz : x.op.name.size ≤ 1000000) (hj : j ≤ 1000) (hS : S.Ok p) (hI : Md.Inv j S.st) {A : Md.An} (hA : Hid (A = (Md.mdo S.st x.op).2)) (H : Sat (ModelAt h S * (Pool p * F)) w)
    (hh : ∀ S' p' s w', S'.st = (Md.mdo S.st x.op).1 → S'.Ok p' → (∀ e ∈ p, e ∈ p') → s.Fit → Sat (AnsAt A s * (ModelAt h S' * (Pool p' * F))) w' → Io w w' → R (.returned (ansV A s)) w') :
    Calls Tryz.prog 17 #[h.ptr, opV x] w R := by
  have HH := Lib.hid hh
  clear hh
  have H00 : Sat (OpAt w.heap.size x * (ModelAt h S * (Pool p * F))) (w.alloc (.cells (opC x) 41)) := H.new _
  have I00 : Io w (w.alloc (.cells (opC x) 41)) := (Io.refl w).alloc _
  have H0 := ansZ_new H00
  have I0 := I00.trans (io_ansZ _)
  have hr : (w.alloc (.cells (opC x) 41)).heap.size = w.heap.size + 1 := by simp
  rw [hr] at H0
  clear H00 I00 hr
  have lS := inv_len hI
  have nS := hI.next
  have hnx : S.st.next = S.next := rfl
  rw [hnx] at nS
  clear hnx
  have hsl := hS.sl H.right
  go_enter Tryz.func17, Tryz.ntmps17
  go_upto_region 1 with fail
  generalize (w.alloc (.cells (opC x) 41)).alloc (.cells #[.int .i64 0, .int .i64 0, .bool false, .int .i64 0, .slice none 0 0, .slice none 0 0, .slice none 0 0, .slice none 0 0] 37) = w0 at *
  generalize w.heap.size + 1 = r at *
  generalize w.heap.size = o at *
  have H1 : Sat (ModelAt h S * (Pool p * (ansZ r * (OpAt o x * F)))) w0 := H0.of_eq (by ac_rfl)
  obtain ⟨x0, x1, x2, x3, x4, x5, x6, x7, x8, x9⟩ := op_reads H0.right
  have HA : Hid (A = Md.ask S.st x.op) := Lib.hid (by rw [hA.out, Md.mdo_q _ _ hk])
  have HS2 : Hid (S.st = (Md.mdo S.st x.op).1 ∧ S.Ok p) := Lib.hid ⟨by rw [Md.mdo_q _ _ hk], hS⟩
  have hvv : ∀ id, (S.vv id).2.2.length ≤ 10000 := fun id => by have := inv_vv hI id; omega
  have HVV := Lib.hid hvv
  clear hA H0 hvv
  rcases hk with hk | hk | hk | hk
  · have q5 : ¬ x.op.kind = 5 := by omega
    have q6 : ¬ x.op.kind = 6 := by omega
    have q7 : ¬ x.op.kind = 7 := by omega
    have q13 : ¬ x.op.kind = 13 := by omega
    have hb : (x.op.kind == 8) = true := by simp [hk]
    have HKK := Lib.hid hk
    clear hk
    skip
    go_wp2_with (first
      | (go_at_call 34; with_reducible refine ask_any x hS HVV.out HA H1 ?_; intro s w2 hs H2 I2; have K2 : Sat (ansZ r * (AnsAt A s * (ModelAt h S * (Pool p * (OpAt o x * F))))) w2 := H2.of_eq (by ac_rfl))
      | (with_reducible refine store_ans (A := A) (s := s) rfl (.tmp 4) (.tmp 34) rfl rfl hs K2 rfl ?_; intro w6 H6 I6; obtain ⟨d0, d1, d2, d3, d4, d5, d6, d7⟩ := ansA_reads H6))
    have K7 : Sat (AnsAt A s * (ModelAt h S * (Pool p * F))) w6 := (H6.of_eq (show _ = (ansA r A s * OpAt o x) * (AnsAt A s * (ModelAt h S * (Pool p * F))) from by ac_rfl)).right
    exact bodyPost_ret (v := ansV A s) (by simp [results, Tryz.results17, go_sem, d0, d1, d2, d3, d4, d5, d6, d7]) rfl (HH.out S p s _ HS2.out.1 HS2.out.2 (fun _ h => h) hs K7 ((I0.trans I2).trans I6))
  · have q5 : ¬ x.op.kind = 5 := by omega
    have q6 : ¬ x.op.kind = 6 := by omega
    have q7 : ¬ x.op.kind = 7 := by omega
    have q13 : ¬ x.op.kind = 13 := by omega
    have q8 : ¬ x.op.kind = 8 := by omega
    have hb : (x.op.kind == 9) = true := by simp [hk]
    have HKK := Lib.hid hk
    clear hk
    skip
    go_wp2_with (first
      | (go_at_call 34; with_reducible refine ask_any x hS HVV.out HA H1 ?_; intro s w2 hs H2 I2; have K2 : Sat (ansZ r * (AnsAt A s * (ModelAt h S * (Pool p * (OpAt o x * F))))) w2 := H2.of_eq (by ac_rfl))
      | (with_reducible refine store_ans (A := A) (s := s) rfl (.tmp 4) (.tmp 34) rfl rfl hs K2 rfl ?_; intro w6 H6 I6; obtain ⟨d0, d1, d2, d3, d4, d5, d6, d7⟩ := ansA_reads H6))
    have K7 : Sat (AnsAt A s * (ModelAt h S * (Pool p * F))) w6 := (H6.of_eq (show _ = (ansA r A s * OpAt o x) * (AnsAt A s * (ModelAt h S * (Pool p * F))) from by ac_rfl)).right
    exact bodyPost_ret (v := ansV A s) (by simp [results, Tryz.results17, go_sem, d0, d1, d2, d3, d4, d5, d6, d7]) rfl (HH.out S p s _ HS2.out.1 HS2.out.2 (fun _ h => h) hs K7 ((I0.trans I2).trans I6))
  · have q5 : ¬ x.op.kind = 5 := by omega
    have q6 : ¬ x.op.kind = 6 := by omega
    have q7 : ¬ x.op.kind = 7 := by omega
    have q13 : ¬ x.op.kind = 13 := by omega
    have q8 : ¬ x.op.kind = 8 := by omega
    have q9 : ¬ x.op.kind = 9 := by omega
    have hb : (x.op.kind == 10) = true := by simp [hk]
    have HKK := Lib.hid hk
    clear hk
    skip
    go_wp2_with (first
      | (go_at_call 34; with_reducible refine ask_any x hS HVV.out HA H1 ?_; intro s w2 hs H2 I2; have K2 : Sat (ansZ r * (AnsAt A s * (ModelAt h S * (Pool p * (OpAt o x * F))))) w2 := H2.of_eq (by ac_rfl))
      | (with_reducible refine store_ans (A := A) (s := s) rfl (.tmp 4) (.tmp 34) rfl rfl hs K2 rfl ?_; intro w6 H6 I6; obtain ⟨d0, d1, d2, d3, d4, d5, d6, d7⟩ := ansA_reads H6))
    have K7 : Sat (AnsAt A s * (ModelAt h S * (Pool p * F))) w6 := (H6.of_eq (show _ = (ansA r A s * OpAt o x) * (AnsAt A s * (ModelAt h S * (Pool p * F))) from by ac_rfl)).right
    exact bodyPost_ret (v := ansV A s) (by simp [results, Tryz.results17, go_sem, d0, d1, d2, d3, d4, d5, d6, d7]) rfl (HH.out S p s _ HS2.out.1 HS2.out.2 (fun _ h => h) hs K7 ((I0.trans I2).trans I6))
  · have q5 : ¬ x.op.kind = 5 := by omega
    have q6 : ¬ x.op.kind = 6 := by omega
    have q7 : ¬ x.op.kind = 7 := by omega
    have q13 : ¬ x.op.kind = 13 := by omega
    have q8 : ¬ x.op.kind = 8 := by omega
    have q9 : ¬ x.op.kind = 9 := by omega
    have q10 : ¬ x.op.kind = 10 := by omega
    have hb : (x.op.kind == 11) = true := by simp [hk]
    have HKK := Lib.hid hk
    clear hk
    skip
    go_wp2_with (first
      | (go_at_call 34; with_reducible refine ask_any x hS HVV.out HA H1 ?_; intro s w2 hs H2 I2; have K2 : Sat (ansZ r * (AnsAt A s * (ModelAt h S * (Pool p * (OpAt o x * F))))) w2 := H2.of_eq (by ac_rfl))
      | (with_reducible refine store_ans (A := A) (s := s) rfl (.tmp 4) (.tmp 34) rfl rfl hs K2 rfl ?_; intro w6 H6 I6; obtain ⟨d0, d1, d2, d3, d4, d5, d6, d7⟩ := ansA_reads H6))
    have K7 : Sat (AnsAt A s * (ModelAt h S * (Pool p * F))) w6 := (H6.of_eq (show _ = (ansA r A s * OpAt o x) * (AnsAt A s * (ModelAt h S * (Pool p * F))) from by ac_rfl)).right
    exact bodyPost_ret (v := ansV A s) (by simp [results, Tryz.results17, go_sem, d0, d1, d2, d3, d4, d5, d6, d7]) rfl (HH.out S p s _ HS2.out.1 HS2.out.2 (fun _ h => h) hs K7 ((I0.trans I2).trans I6))
end
end Go.Proofs.YtabpgejjnphfcaaGreat

/-
  The model of the index: Do, by its walk. It proves no statement by itself.
-/
namespace Go.Proofs.YtabpgejjnphfcaaGreat
open Go.RowKit Go.Lib Go.MapKept
open Md (Nm St)
set_option linter.unusedSimpArgs false
set_option linter.unusedVariables false
set_option linter.unusedSectionVars false
section
variable {F : Asn} {w : World} {R : Ending → World → Prop} {p : Pl} {h : Mh} {S : MV} {j : Nat}
set_option maxRecDepth 100000 in
set_option maxHeartbeats 8000000 in
theorem do_kn (x : OpX) (hk : x.op.kind = 1 ∨ x.op.kind = 2 ∨ x.op.kind = 3 ∨ x.op.kind = 4 ∨ x.op.kind = 12) (hfound : (aget S.heads x.op.name).isSome = false) (hsz : x.op.name.size ≤ 1000000) (hj : j ≤ 1000) (hS : S.Ok p) (hI : Md.Inv j S.st) {A : Md.An} (hA : Hid (A = (Md.mdo S.st x.op).2)) (H : Sat (ModelAt h S * (Pool p * F)) w)
    (hh : ∀ S' p' s w', S'.st = (Md.mdo S.st x.op).1 → S'.Ok p' → (∀ e ∈ p, e ∈ p') → s.Fit → Sat (AnsAt A s * (ModelAt h S' * (Pool p' * F))) w' → Io w w' → R (.returned (ansV A s)) w') :
    Calls Tryz.prog 17 #[h.ptr, opV x] w R := by
  have HH := Lib.hid hh
  clear hh
  have H00 : Sat (OpAt w.heap.size x * (ModelAt h S * (Pool p * F))) (w.alloc (.cells (opC x) 41)) := H.new _
  have I00 : Io w (w.alloc (.cells (opC x) 41)) := (Io.refl w).alloc _
  have H0 := ansZ_new H00
  have I0 := I00.trans (io_ansZ _)
  have hr : (w.alloc (.cells (opC x) 41)).heap.size = w.heap.size + 1 := by simp
  rw [hr] at H0
  clear H00 I00 hr
  have lS := inv_len hI
  have nS := hI.next
  have hnx : S.st.next = S.next := rfl
  rw [hnx] at nS
  clear hnx
  have hsl := hS.sl H.right
  go_enter Tryz.func17, Tryz.ntmps17
  go_upto_region 1 with fail
  generalize (w.alloc (.cells (opC x) 41)).alloc (.cells #[.int .i64 0, .int .i64 0, .bool false, .int .i64 0, .slice none 0 0, .slice none 0 0, .slice none 0 0, .slice none 0 0] 37) = w0 at *
  generalize w.heap.size + 1 = r at *
  generalize w.heap.size = o at *
  have H1 : Sat (ModelAt h S * (Pool p * (ansZ r * (OpAt o x * F)))) w0 := H0.of_eq (by ac_rfl)
  obtain ⟨x0, x1, x2, x3, x4, x5, x6, x7, x8, x9⟩ := op_reads H0.right
  have HK := Lib.hid hk
  rcases hk with hk | hk | hk | hk | hk
  · have q5 : ¬ x.op.kind = 5 := by omega
    have q6 : ¬ x.op.kind = 6 := by omega
    have q7 : ¬ x.op.kind = 7 := by omega
    have q13 : ¬ x.op.kind = 13 := by omega
    have q8 : ¬ x.op.kind = 8 := by omega
    have q9 : ¬ x.op.kind = 9 := by omega
    have q10 : ¬ x.op.kind = 10 := by omega
    have q11 : ¬ x.op.kind = 11 := by omega
    have hb : (x.op.kind == 1) = true := by simp [hk]
    have HKK := Lib.hid hk
    clear hk
    have L1 : ∀ (G : Asn) W, Sat (ModelAt h S * G) W → (Instr.lookup 71 (.map (some h.bh)) (.string x.op.name) true).run Tryz.prog W = .ok (.tuple #[.int .i64 (Md.hget S.st x.op.name), .bool false]) W := fun G W hW => by have q := look_head2 hW x.op.name; rw [hfound] at q; exact q
    have HL := Lib.hid L1
    have HF := Lib.hid hfound
    clear L1 hfound
    obtain ⟨hd0, hhd⟩ : ∃ n, n = Md.hget S.st x.op.name := ⟨_, rfl⟩
    rw [← hhd] at HL
    clear hhd
    go_upto_region 20 with fail
    have e1 := fun k => HL.out _ _ (H1.drewN k)
    obtain ⟨c0, c1, c2, c3⟩ := ModelAt.cells H1
    go_quiet (fail)
    have I1 := I0.drewN nq
    replace H1 := H1.drewN nq
    clear e1 c0 c1 c2 c3 x0 x1 x2 x3 x4 x5 x6 x7 x8 x9 H0 HL
    generalize w0.drewN nq = w1 at *
    obtain ⟨x0, x1, x2, x3, x4, x5, x6, x7, x8, x9⟩ := op_reads H1.right.right.right
    have HA : A = Md.fail 191 := by rw [hA.out, show Md.mdo S.st x.op = (S.st, Md.fail 191) from by rw [Md.mdo_k _ _ HK.out, if_pos (show (aget S.st.heads x.op.name).isSome = false from HF.out)]]
    subst HA
    clear hA
    have HS2 : Hid (S.st = (Md.mdo S.st x.op).1) := Lib.hid (by rw [show Md.mdo S.st x.op = (S.st, Md.fail 191) from by rw [Md.mdo_k _ _ HK.out, if_pos (show (aget S.st.heads x.op.name).isSome = false from HF.out)]])
    have K2 : Sat (ansZ r * (ModelAt h S * (Pool p * (OpAt o x * F)))) w1 := H1.of_eq (by ac_rfl)
    go_wp2_with (first
      | (go_at_call 35; with_reducible refine fail_any 191 K2 ?_; intro w5 H5 I5)
      | (with_reducible refine store_ans rfl (.tmp 4) (.tmp 53) rfl rfl nil4_fit H5 rfl ?_; intro w6 H6 I6; obtain ⟨d0, d1, d2, d3, d4, d5, d6, d7⟩ := ansA_reads H6))
    have K7 : Sat (ModelAt h S * (Pool p * F)) w6 := (H6.of_eq (show _ = (ansA r (Md.fail 191) nil4 * OpAt o x) * (ModelAt h S * (Pool p * F)) from by ac_rfl)).right
    exact bodyPost_ret (v := ansV (Md.fail 191) nil4) (by simp [results, Tryz.results17, go_sem, d0, d1, d2, d3, d4, d5, d6, d7]) rfl (HH.out S p nil4 _ HS2.out hS (fun _ h => h) nil4_fit (ansAt_nil rfl rfl rfl rfl K7) ((I1.trans I5).trans I6))
  · have q5 : ¬ x.op.kind = 5 := by omega
    have q6 : ¬ x.op.kind = 6 := by omega
    have q7 : ¬ x.op.kind = 7 := by omega
    have q13 : ¬ x.op.kind = 13 := by omega
    have q8 : ¬ x.op.kind = 8 := by omega
    have q9 : ¬ x.op.kind = 9 := by omega
    have q10 : ¬ x.op.kind = 10 := by omega
    have q11 : ¬ x.op.kind = 11 := by omega
    have q1 : ¬ x.op.kind = 1 := by omega
    have hb : (x.op.kind == 2) = true := by simp [hk]
    have HKK := Lib.hid hk
    clear hk
    have L1 : ∀ (G : Asn) W, Sat (ModelAt h S * G) W → (Instr.lookup 71 (.map (some h.bh)) (.string x.op.name) true).run Tryz.prog W = .ok (.tuple #[.int .i64 (Md.hget S.st x.op.name), .bool false]) W := fun G W hW => by have q := look_head2 hW x.op.name; rw [hfound] at q; exact q
    have HL := Lib.hid L1
    have HF := Lib.hid hfound
    clear L1 hfound
    obtain ⟨hd0, hhd⟩ : ∃ n, n = Md.hget S.st x.op.name := ⟨_, rfl⟩
    rw [← hhd] at HL
    clear hhd
    go_upto_region 20 with fail
    have e1 := fun k => HL.out _ _ (H1.drewN k)
    obtain ⟨c0, c1, c2, c3⟩ := ModelAt.cells H1
    go_quiet (fail)
    have I1 := I0.drewN nq
    replace H1 := H1.drewN nq
    clear e1 c0 c1 c2 c3 x0 x1 x2 x3 x4 x5 x6 x7 x8 x9 H0 HL
    generalize w0.drewN nq = w1 at *
    obtain ⟨x0, x1, x2, x3, x4, x5, x6, x7, x8, x9⟩ := op_reads H1.right.right.right
    have HA : A = Md.fail 191 := by rw [hA.out, show Md.mdo S.st x.op = (S.st, Md.fail 191) from by rw [Md.mdo_k _ _ HK.out, if_pos (show (aget S.st.heads x.op.name).isSome = false from HF.out)]]
    subst HA
    clear hA
    have HS2 : Hid (S.st = (Md.mdo S.st x.op).1) := Lib.hid (by rw [show Md.mdo S.st x.op = (S.st, Md.fail 191) from by rw [Md.mdo_k _ _ HK.out, if_pos (show (aget S.st.heads x.op.name).isSome = false from HF.out)]])
    have K2 : Sat (ansZ r * (ModelAt h S * (Pool p * (OpAt o x * F)))) w1 := H1.of_eq (by ac_rfl)
    go_wp2_with (first
      | (go_at_call 35; with_reducible refine fail_any 191 K2 ?_; intro w5 H5 I5)
      | (with_reducible refine store_ans rfl (.tmp 4) (.tmp 53) rfl rfl nil4_fit H5 rfl ?_; intro w6 H6 I6; obtain ⟨d0, d1, d2, d3, d4, d5, d6, d7⟩ := ansA_reads H6))
    have K7 : Sat (ModelAt h S * (Pool p * F)) w6 := (H6.of_eq (show _ = (ansA r (Md.fail 191) nil4 * OpAt o x) * (ModelAt h S * (Pool p * F)) from by ac_rfl)).right
    exact bodyPost_ret (v := ansV (Md.fail 191) nil4) (by simp [results, Tryz.results17, go_sem, d0, d1, d2, d3, d4, d5, d6, d7]) rfl (HH.out S p nil4 _ HS2.out hS (fun _ h => h) nil4_fit (ansAt_nil rfl rfl rfl rfl K7) ((I1.trans I5).trans I6))
  · have q5 : ¬ x.op.kind = 5 := by omega
    have q6 : ¬ x.op.kind = 6 := by omega
    have q7 : ¬ x.op.kind = 7 := by omega
    have q13 : ¬ x.op.kind = 13 := by omega
    have q8 : ¬ x.op.kind = 8 := by omega
    have q9 : ¬ x.op.kind = 9 := by omega
    have q10 : ¬ x.op.kind = 10 := by omega
    have q11 : ¬ x.op.kind = 11 := by omega
    have q1 : ¬ x.op.kind = 1 := by omega
    have q2 : ¬ x.op.kind = 2 := by omega
    have hb : (x.op.kind == 3) = true := by simp [hk]
    have HKK := Lib.hid hk
    clear hk
    have L1 : ∀ (G : Asn) W, Sat (ModelAt h S * G) W → (Instr.lookup 71 (.map (some h.bh)) (.string x.op.name) true).run Tryz.prog W = .ok (.tuple #[.int .i64 (Md.hget S.st x.op.name), .bool false]) W := fun G W hW => by have q := look_head2 hW x.op.name; rw [hfound] at q; exact q
    have HL := Lib.hid L1
    have HF := Lib.hid hfound
    clear L1 hfound
    obtain ⟨hd0, hhd⟩ : ∃ n, n = Md.hget S.st x.op.name := ⟨_, rfl⟩
    rw [← hhd] at HL
    clear hhd
    go_upto_region 20 with fail
    have e1 := fun k => HL.out _ _ (H1.drewN k)
    obtain ⟨c0, c1, c2, c3⟩ := ModelAt.cells H1
    go_quiet (fail)
    have I1 := I0.drewN nq
    replace H1 := H1.drewN nq
    clear e1 c0 c1 c2 c3 x0 x1 x2 x3 x4 x5 x6 x7 x8 x9 H0 HL
    generalize w0.drewN nq = w1 at *
    obtain ⟨x0, x1, x2, x3, x4, x5, x6, x7, x8, x9⟩ := op_reads H1.right.right.right
    have HA : A = Md.fail 191 := by rw [hA.out, show Md.mdo S.st x.op = (S.st, Md.fail 191) from by rw [Md.mdo_k _ _ HK.out, if_pos (show (aget S.st.heads x.op.name).isSome = false from HF.out)]]
    subst HA
    clear hA
    have HS2 : Hid (S.st = (Md.mdo S.st x.op).1) := Lib.hid (by rw [show Md.mdo S.st x.op = (S.st, Md.fail 191) from by rw [Md.mdo_k _ _ HK.out, if_pos (show (aget S.st.heads x.op.name).isSome = false from HF.out)]])
    have K2 : Sat (ansZ r * (ModelAt h S * (Pool p * (OpAt o x * F)))) w1 := H1.of_eq (by ac_rfl)
    go_wp2_with (first
      | (go_at_call 35; with_reducible refine fail_any 191 K2 ?_; intro w5 H5 I5)
      | (with_reducible refine store_ans rfl (.tmp 4) (.tmp 53) rfl rfl nil4_fit H5 rfl ?_; intro w6 H6 I6; obtain ⟨d0, d1, d2, d3, d4, d5, d6, d7⟩ := ansA_reads H6))
    have K7 : Sat (ModelAt h S * (Pool p * F)) w6 := (H6.of_eq (show _ = (ansA r (Md.fail 191) nil4 * OpAt o x) * (ModelAt h S * (Pool p * F)) from by ac_rfl)).right
    exact bodyPost_ret (v := ansV (Md.fail 191) nil4) (by simp [results, Tryz.results17, go_sem, d0, d1, d2, d3, d4, d5, d6, d7]) rfl (HH.out S p nil4 _ HS2.out hS (fun _ h => h) nil4_fit (ansAt_nil rfl rfl rfl rfl K7) ((I1.trans I5).trans I6))
  · have q5 : ¬ x.op.kind = 5 := by omega
    have q6 : ¬ x.op.kind = 6 := by omega
    have q7 : ¬ x.op.kind = 7 := by omega
    have q13 : ¬ x.op.kind = 13 := by omega
    have q8 : ¬ x.op.kind = 8 := by omega
    have q9 : ¬ x.op.kind = 9 := by omega
    have q10 : ¬ x.op.kind = 10 := by omega
    have q11 : ¬ x.op.kind = 11 := by omega
    have q1 : ¬ x.op.kind = 1 := by omega
    have q2 : ¬ x.op.kind = 2 := by omega
    have q3 : ¬ x.op.kind = 3 := by omega
    have hb : (x.op.kind == 4) = true := by simp [hk]
    have HKK := Lib.hid hk
    clear hk
    have L1 : ∀ (G : Asn) W, Sat (ModelAt h S * G) W → (Instr.lookup 71 (.map (some h.bh)) (.string x.op.name) true).run Tryz.prog W = .ok (.tuple #[.int .i64 (Md.hget S.st x.op.name), .bool false]) W := fun G W hW => by have q := look_head2 hW x.op.name; rw [hfound] at q; exact q
    have HL := Lib.hid L1
    have HF := Lib.hid hfound
    clear L1 hfound
    obtain ⟨hd0, hhd⟩ : ∃ n, n = Md.hget S.st x.op.name := ⟨_, rfl⟩
    rw [← hhd] at HL
    clear hhd
    go_upto_region 20 with fail
    have e1 := fun k => HL.out _ _ (H1.drewN k)
    obtain ⟨c0, c1, c2, c3⟩ := ModelAt.cells H1
    go_quiet (fail)
    have I1 := I0.drewN nq
    replace H1 := H1.drewN nq
    clear e1 c0 c1 c2 c3 x0 x1 x2 x3 x4 x5 x6 x7 x8 x9 H0 HL
    generalize w0.drewN nq = w1 at *
    obtain ⟨x0, x1, x2, x3, x4, x5, x6, x7, x8, x9⟩ := op_reads H1.right.right.right
    have HA : A = Md.fail 191 := by rw [hA.out, show Md.mdo S.st x.op = (S.st, Md.fail 191) from by rw [Md.mdo_k _ _ HK.out, if_pos (show (aget S.st.heads x.op.name).isSome = false from HF.out)]]
    subst HA
    clear hA
    have HS2 : Hid (S.st = (Md.mdo S.st x.op).1) := Lib.hid (by rw [show Md.mdo S.st x.op = (S.st, Md.fail 191) from by rw [Md.mdo_k _ _ HK.out, if_pos (show (aget S.st.heads x.op.name).isSome = false from HF.out)]])
    have K2 : Sat (ansZ r * (ModelAt h S * (Pool p * (OpAt o x * F)))) w1 := H1.of_eq (by ac_rfl)
    go_wp2_with (first
      | (go_at_call 35; with_reducible refine fail_any 191 K2 ?_; intro w5 H5 I5)
      | (with_reducible refine store_ans rfl (.tmp 4) (.tmp 53) rfl rfl nil4_fit H5 rfl ?_; intro w6 H6 I6; obtain ⟨d0, d1, d2, d3, d4, d5, d6, d7⟩ := ansA_reads H6))
    have K7 : Sat (ModelAt h S * (Pool p * F)) w6 := (H6.of_eq (show _ = (ansA r (Md.fail 191) nil4 * OpAt o x) * (ModelAt h S * (Pool p * F)) from by ac_rfl)).right
    exact bodyPost_ret (v := ansV (Md.fail 191) nil4) (by simp [results, Tryz.results17, go_sem, d0, d1, d2, d3, d4, d5, d6, d7]) rfl (HH.out S p nil4 _ HS2.out hS (fun _ h => h) nil4_fit (ansAt_nil rfl rfl rfl rfl K7) ((I1.trans I5).trans I6))
  · have q5 : ¬ x.op.kind = 5 := by omega
    have q6 : ¬ x.op.kind = 6 := by omega
    have q7 : ¬ x.op.kind = 7 := by omega
    have q13 : ¬ x.op.kind = 13 := by omega
    have q8 : ¬ x.op.kind = 8 := by omega
    have q9 : ¬ x.op.kind = 9 := by omega
    have q10 : ¬ x.op.kind = 10 := by omega
    have q11 : ¬ x.op.kind = 11 := by omega
    have q1 : ¬ x.op.kind = 1 := by omega
    have q2 : ¬ x.op.kind = 2 := by omega
    have q3 : ¬ x.op.kind = 3 := by omega
    have q4 : ¬ x.op.kind = 4 := by omega
    have hb : (x.op.kind == 12) = true := by simp [hk]
    have HKK := Lib.hid hk
    clear hk
    have L1 : ∀ (G : Asn) W, Sat (ModelAt h S * G) W → (Instr.lookup 71 (.map (some h.bh)) (.string x.op.name) true).run Tryz.prog W = .ok (.tuple #[.int .i64 (Md.hget S.st x.op.name), .bool false]) W := fun G W hW => by have q := look_head2 hW x.op.name; rw [hfound] at q; exact q
    have HL := Lib.hid L1
    have HF := Lib.hid hfound
    clear L1 hfound
    obtain ⟨hd0, hhd⟩ : ∃ n, n = Md.hget S.st x.op.name := ⟨_, rfl⟩
    rw [← hhd] at HL
    clear hhd
    go_upto_region 20 with fail
    have e1 := fun k => HL.out _ _ (H1.drewN k)
    obtain ⟨c0, c1, c2, c3⟩ := ModelAt.cells H1
    go_quiet (fail)
    have I1 := I0.drewN nq
    replace H1 := H1.drewN nq
    clear e1 c0 c1 c2 c3 x0 x1 x2 x3 x4 x5 x6 x7 x8 x9 H0 HL
    generalize w0.drewN nq = w1 at *
    obtain ⟨x0, x1, x2, x3, x4, x5, x6, x7, x8, x9⟩ := op_reads H1.right.right.right
    have HA : A = Md.fail 191 := by rw [hA.out, show Md.mdo S.st x.op = (S.st, Md.fail 191) from by rw [Md.mdo_k _ _ HK.out, if_pos (show (aget S.st.heads x.op.name).isSome = false from HF.out)]]
    subst HA
    clear hA
    have HS2 : Hid (S.st = (Md.mdo S.st x.op).1) := Lib.hid (by rw [show Md.mdo S.st x.op = (S.st, Md.fail 191) from by rw [Md.mdo_k _ _ HK.out, if_pos (show (aget S.st.heads x.op.name).isSome = false from HF.out)]])
    have K2 : Sat (ansZ r * (ModelAt h S * (Pool p * (OpAt o x * F)))) w1 := H1.of_eq (by ac_rfl)
    go_wp2_with (first
      | (go_at_call 35; with_reducible refine fail_any 191 K2 ?_; intro w5 H5 I5)
      | (with_reducible refine store_ans rfl (.tmp 4) (.tmp 53) rfl rfl nil4_fit H5 rfl ?_; intro w6 H6 I6; obtain ⟨d0, d1, d2, d3, d4, d5, d6, d7⟩ := ansA_reads H6))
    have K7 : Sat (ModelAt h S * (Pool p * F)) w6 := (H6.of_eq (show _ = (ansA r (Md.fail 191) nil4 * OpAt o x) * (ModelAt h S * (Pool p * F)) from by ac_rfl)).right
    exact bodyPost_ret (v := ansV (Md.fail 191) nil4) (by simp [results, Tryz.results17, go_sem, d0, d1, d2, d3, d4, d5, d6, d7]) rfl (HH.out S p nil4 _ HS2.out hS (fun _ h => h) nil4_fit (ansAt_nil rfl rfl rfl rfl K7) ((I1.trans I5).trans I6))
set_option maxRecDepth 100000 in
set_option maxHeartbeats 8000000 in
theorem do_3 (x : OpX) (hk : x.op.kind = 3) (hfound : (aget S.heads x.op.name).isSome = true) (hsz : x.op.name.size ≤ 1000000) (hj : j ≤ 1000) (hS : S.Ok p) (hI : Md.Inv j S.st) {A : Md.An} (hA : Hid (A = (Md.mdo S.st x.op).2)) (H : Sat (ModelAt h S * (Pool p * F)) w)
    (hh : ∀ S' p' s w', S'.st = (Md.mdo S.st x.op).1 → S'.Ok p' → (∀ e ∈ p, e ∈ p') → s.Fit → Sat (AnsAt A s * (ModelAt h S' * (Pool p' * F))) w' → Io w w' → R (.returned (ansV A s)) w') :
    Calls Tryz.prog 17 #[h.ptr, opV x] w R := by
  have HH := Lib.hid hh
  clear hh
  have H00 : Sat (OpAt w.heap.size x * (ModelAt h S * (Pool p * F))) (w.alloc (.cells (opC x) 41)) := H.new _
  have I00 : Io w (w.alloc (.cells (opC x) 41)) := (Io.refl w).alloc _
  have H0 := ansZ_new H00
  have I0 := I00.trans (io_ansZ _)
  have hr : (w.alloc (.cells (opC x) 41)).heap.size = w.heap.size + 1 := by simp
  rw [hr] at H0
  clear H00 I00 hr
  have lS := inv_len hI
  have nS := hI.next
  have hnx : S.st.next = S.next := rfl
  rw [hnx] at nS
  clear hnx
  have hsl := hS.sl H.right
  go_enter Tryz.func17, Tryz.ntmps17
  go_upto_region 1 with fail
  generalize (w.alloc (.cells (opC x) 41)).alloc (.cells #[.int .i64 0, .int .i64 0, .bool false, .int .i64 0, .slice none 0 0, .slice none 0 0, .slice none 0 0, .slice none 0 0] 37) = w0 at *
  generalize w.heap.size + 1 = r at *
  generalize w.heap.size = o at *
  have H1 : Sat (ModelAt h S * (Pool p * (ansZ r * (OpAt o x * F)))) w0 := H0.of_eq (by ac_rfl)
  obtain ⟨x0, x1, x2, x3, x4, x5, x6, x7, x8, x9⟩ := op_reads H0.right
  have hheld := hS.now x.op.name
  have hnl := inv_now hI x.op.name
  obtain ⟨v0, l, hvl⟩ : ∃ v l, (v, l) = S.now x.op.name := ⟨_, _, rfl⟩
  rw [← hvl] at hheld hnl
  simp only at hheld hnl
  obtain ⟨va, vc, rfl⟩ := hheld.slice H.right
  have HVL := Lib.hid hvl
  clear hvl hheld
  have q5 : ¬ x.op.kind = 5 := by omega
  have q6 : ¬ x.op.kind = 6 := by omega
  have q7 : ¬ x.op.kind = 7 := by omega
  have q13 : ¬ x.op.kind = 13 := by omega
  have q8 : ¬ x.op.kind = 8 := by omega
  have q9 : ¬ x.op.kind = 9 := by omega
  have q10 : ¬ x.op.kind = 10 := by omega
  have q11 : ¬ x.op.kind = 11 := by omega
  have q1 : ¬ x.op.kind = 1 := by omega
  have q2 : ¬ x.op.kind = 2 := by omega
  have hb : (x.op.kind == 3) = true := by simp [hk]
  have HKK := Lib.hid hk
  clear hk
  have L1 : ∀ (G : Asn) W, Sat (ModelAt h S * G) W → (Instr.lookup 71 (.map (some h.bh)) (.string x.op.name) true).run Tryz.prog W = .ok (.tuple #[.int .i64 (Md.hget S.st x.op.name), .bool true]) W := fun G W hW => by have q := look_head2 hW x.op.name; rw [hfound] at q; exact q
  have HL := Lib.hid L1
  have HF := Lib.hid hfound
  clear L1 hfound
  obtain ⟨hd0, hhd⟩ : ∃ n, n = Md.hget S.st x.op.name := ⟨_, rfl⟩
  rw [← hhd] at HL
  clear hhd
  go_upto_region 20 with fail
  have e1 := fun k => HL.out _ _ (H1.drewN k)
  obtain ⟨c0, c1, c2, c3⟩ := ModelAt.cells H1
  go_quiet (fail)
  have I1 := I0.drewN nq
  replace H1 := H1.drewN nq
  clear e1 c0 c1 c2 c3 x0 x1 x2 x3 x4 x5 x6 x7 x8 x9 H0 HL
  generalize w0.drewN nq = w1 at *
  obtain ⟨x0, x1, x2, x3, x4, x5, x6, x7, x8, x9⟩ := op_reads H1.right.right.right
  have HM : Hid (Md.mdo S.st x.op = Md.commit S.st x.op.name) := Lib.hid (by rw [Md.mdo_k _ _ (by have := HKK.out; omega), if_neg (by show ¬ (aget S.heads x.op.name).isSome = false; rw [HF.out]; simp), onB_3 HKK.out])
  have HA : Hid ((Md.commit S.st x.op.name).2 = A) := Lib.hid (by rw [hA.out, HM.out])
  have HN : Hid (A.changes = [] ∧ A.pairs = [] ∧ A.versions = [] ∧ A.branches = []) := Lib.hid (by rw [← HA.out]; exact commit_nil _ _)
  have HS2 : Hid ((if 1048576 < S.next then S else S.commit x.op.name).st = (Md.mdo S.st x.op).1 ∧ (if 1048576 < S.next then S else S.commit x.op.name).Ok p) := Lib.hid ⟨by
    rw [HM.out]
    by_cases hn : 1048576 < S.next
    · rw [if_pos hn]; have hn' : 1048576 < S.st.next := hn; unfold Md.commit; rw [if_pos hn']
    · rw [if_neg hn]; exact MV.commit_st hn, kept_st hS (MV.commit_ok hS)⟩
  go_wp2_with (first
    | (go_at_call 36; with_reducible refine on_3 x HKK.out HA HVL ⟨by omega, by omega⟩ H1 ?_; intro w2 H2 I2; have K2 : Sat (ansZ r * (ModelAt h (if 1048576 < S.next then S else S.commit x.op.name) * (Pool p * (OpAt o x * F)))) w2 := H2.of_eq (by ac_rfl))
    | (with_reducible refine store_ans (A := A) rfl (.tmp 4) (.tmp 56) rfl rfl nil4_fit K2 rfl ?_; intro w6 H6 I6; obtain ⟨d0, d1, d2, d3, d4, d5, d6, d7⟩ := ansA_reads H6))
  have K7 : Sat (ModelAt h (if 1048576 < S.next then S else S.commit x.op.name) * (Pool p * F)) w6 := (H6.of_eq (show _ = (ansA r A nil4 * OpAt o x) * (ModelAt h (if 1048576 < S.next then S else S.commit x.op.name) * (Pool p * F)) from by ac_rfl)).right
  exact bodyPost_ret (v := ansV A nil4) (by simp [results, Tryz.results17, go_sem, d0, d1, d2, d3, d4, d5, d6, d7]) rfl (HH.out (if 1048576 < S.next then S else S.commit x.op.name) p nil4 _ HS2.out.1 HS2.out.2 (fun _ h => h) nil4_fit (ansAt_nil HN.out.1 HN.out.2.1 HN.out.2.2.1 HN.out.2.2.2 K7) ((I1.trans I2).trans I6))
set_option maxRecDepth 100000 in
set_option maxHeartbeats 8000000 in
theorem do_4 (x : OpX) (hk : x.op.kind = 4) (hfound : (aget S.heads x.op.name).isSome = true) (hsz : x.op.name.size ≤ 1000000) (hj : j ≤ 1000) (hS : S.Ok p) (hI : Md.Inv j S.st) {A : Md.An} (hA : Hid (A = (Md.mdo S.st x.op).2)) (H : Sat (ModelAt h S * (Pool p * F)) w)
    (hh : ∀ S' p' s w', S'.st = (Md.mdo S.st x.op).1 → S'.Ok p' → (∀ e ∈ p, e ∈ p') → s.Fit → Sat (AnsAt A s * (ModelAt h S' * (Pool p' * F))) w' → Io w w' → R (.returned (ansV A s)) w') :
    Calls Tryz.prog 17 #[h.ptr, opV x] w R := by
  have HH := Lib.hid hh
  clear hh
  have H00 : Sat (OpAt w.heap.size x * (ModelAt h S * (Pool p * F))) (w.alloc (.cells (opC x) 41)) := H.new _
  have I00 : Io w (w.alloc (.cells (opC x) 41)) := (Io.refl w).alloc _
  have H0 := ansZ_new H00
  have I0 := I00.trans (io_ansZ _)
  have hr : (w.alloc (.cells (opC x) 41)).heap.size = w.heap.size + 1 := by simp
  rw [hr] at H0
  clear H00 I00 hr
  have lS := inv_len hI
  have nS := hI.next
  have hnx : S.st.next = S.next := rfl
  rw [hnx] at nS
  clear hnx
  have hsl := hS.sl H.right
  go_enter Tryz.func17, Tryz.ntmps17
  go_upto_region 1 with fail
  generalize (w.alloc (.cells (opC x) 41)).alloc (.cells #[.int .i64 0, .int .i64 0, .bool false, .int .i64 0, .slice none 0 0, .slice none 0 0, .slice none 0 0, .slice none 0 0] 37) = w0 at *
  generalize w.heap.size + 1 = r at *
  generalize w.heap.size = o at *
  have H1 : Sat (ModelAt h S * (Pool p * (ansZ r * (OpAt o x * F)))) w0 := H0.of_eq (by ac_rfl)
  obtain ⟨x0, x1, x2, x3, x4, x5, x6, x7, x8, x9⟩ := op_reads H0.right
  have q5 : ¬ x.op.kind = 5 := by omega
  have q6 : ¬ x.op.kind = 6 := by omega
  have q7 : ¬ x.op.kind = 7 := by omega
  have q13 : ¬ x.op.kind = 13 := by omega
  have q8 : ¬ x.op.kind = 8 := by omega
  have q9 : ¬ x.op.kind = 9 := by omega
  have q10 : ¬ x.op.kind = 10 := by omega
  have q11 : ¬ x.op.kind = 11 := by omega
  have q1 : ¬ x.op.kind = 1 := by omega
  have q2 : ¬ x.op.kind = 2 := by omega
  have q3 : ¬ x.op.kind = 3 := by omega
  have hb : (x.op.kind == 4) = true := by simp [hk]
  have HKK := Lib.hid hk
  clear hk
  have L1 : ∀ (G : Asn) W, Sat (ModelAt h S * G) W → (Instr.lookup 71 (.map (some h.bh)) (.string x.op.name) true).run Tryz.prog W = .ok (.tuple #[.int .i64 (Md.hget S.st x.op.name), .bool true]) W := fun G W hW => by have q := look_head2 hW x.op.name; rw [hfound] at q; exact q
  have HL := Lib.hid L1
  have HF := Lib.hid hfound
  clear L1 hfound
  obtain ⟨hd0, hhd⟩ : ∃ n, n = Md.hget S.st x.op.name := ⟨_, rfl⟩
  rw [← hhd] at HL
  clear hhd
  go_upto_region 20 with fail
  have e1 := fun k => HL.out _ _ (H1.drewN k)
  obtain ⟨c0, c1, c2, c3⟩ := ModelAt.cells H1
  go_quiet (fail)
  have I1 := I0.drewN nq
  replace H1 := H1.drewN nq
  clear e1 c0 c1 c2 c3 x0 x1 x2 x3 x4 x5 x6 x7 x8 x9 H0 HL
  generalize w0.drewN nq = w1 at *
  obtain ⟨x0, x1, x2, x3, x4, x5, x6, x7, x8, x9⟩ := op_reads H1.right.right.right
  have HM : Hid (Md.mdo S.st x.op = (Md.abort S.st x.op.name, {})) := Lib.hid (by rw [Md.mdo_k _ _ (by have := HKK.out; omega), if_neg (by show ¬ (aget S.heads x.op.name).isSome = false; rw [HF.out]; simp), onB_4 HKK.out])
  have HA : A = {} := by rw [hA.out, HM.out]
  subst HA
  have HN : Hid (({} : Md.An).changes = [] ∧ ({} : Md.An).pairs = [] ∧ ({} : Md.An).versions = [] ∧ ({} : Md.An).branches = []) := Lib.hid ⟨rfl, rfl, rfl, rfl⟩
  have HS2 : Hid (({ S with pend := adel S.pend x.op.name } : MV).st = (Md.mdo S.st x.op).1 ∧ ({ S with pend := adel S.pend x.op.name } : MV).Ok p) := Lib.hid ⟨by
    rw [HM.out]
    simp only [MV.st, adel_amap, Md.abort], ⟨hS.v, fun m y e => by
      simp only [Md.aget_del] at e
      split at e
      · cases e
      · exact hS.q m y e⟩⟩
  go_wp2_with (first
    | (go_at_call 36; with_reducible refine on_4 x HKK.out H1 ?_; intro w2 H2 I2; have K2 : Sat (ansZ r * (ModelAt h (({ S with pend := adel S.pend x.op.name } : MV)) * (Pool p * (OpAt o x * F)))) w2 := H2.of_eq (by ac_rfl))
    | (with_reducible refine store_ans (A := {}) rfl (.tmp 4) (.tmp 56) rfl rfl nil4_fit K2 rfl ?_; intro w6 H6 I6; obtain ⟨d0, d1, d2, d3, d4, d5, d6, d7⟩ := ansA_reads H6))
  have K7 : Sat (ModelAt h (({ S with pend := adel S.pend x.op.name } : MV)) * (Pool p * F)) w6 := (H6.of_eq (show _ = (ansA r {} nil4 * OpAt o x) * (ModelAt h (({ S with pend := adel S.pend x.op.name } : MV)) * (Pool p * F)) from by ac_rfl)).right
  exact bodyPost_ret (v := ansV {} nil4) (by simp [results, Tryz.results17, go_sem, d0, d1, d2, d3, d4, d5, d6, d7]) rfl (HH.out (({ S with pend := adel S.pend x.op.name } : MV)) p nil4 _ HS2.out.1 HS2.out.2 (fun _ h => h) nil4_fit (ansAt_nil rfl rfl rfl rfl K7) ((I1.trans I2).trans I6))
set_option maxRecDepth 100000 in
set_option maxHeartbeats 8000000 in
theorem do_12 (x : OpX) (hk : x.op.kind = 12) (hfound : (aget S.heads x.op.name).isSome = true) (hsz : x.op.name.size ≤ 1000000) (hj : j ≤ 1000) (hS : S.Ok p) (hI : Md.Inv j S.st) {A : Md.An} (hA : Hid (A = (Md.mdo S.st x.op).2)) (H : Sat (ModelAt h S * (Pool p * F)) w)
    (hh : ∀ S' p' s w', S'.st = (Md.mdo S.st x.op).1 → S'.Ok p' → (∀ e ∈ p, e ∈ p') → s.Fit → Sat (AnsAt A s * (ModelAt h S' * (Pool p' * F))) w' → Io w w' → R (.returned (ansV A s)) w') :
    Calls Tryz.prog 17 #[h.ptr, opV x] w R := by
  have HH := Lib.hid hh
  clear hh
  have H00 : Sat (OpAt w.heap.size x * (ModelAt h S * (Pool p * F))) (w.alloc (.cells (opC x) 41)) := H.new _
  have I00 : Io w (w.alloc (.cells (opC x) 41)) := (Io.refl w).alloc _
  have H0 := ansZ_new H00
  have I0 := I00.trans (io_ansZ _)
  have hr : (w.alloc (.cells (opC x) 41)).heap.size = w.heap.size + 1 := by simp
  rw [hr] at H0
  clear H00 I00 hr
  have lS := inv_len hI
  have nS := hI.next
  have hnx : S.st.next = S.next := rfl
  rw [hnx] at nS
  clear hnx
  have hsl := hS.sl H.right
  go_enter Tryz.func17, Tryz.ntmps17
  go_upto_region 1 with fail
  generalize (w.alloc (.cells (opC x) 41)).alloc (.cells #[.int .i64 0, .int .i64 0, .bool false, .int .i64 0, .slice none 0 0, .slice none 0 0, .slice none 0 0, .slice none 0 0] 37) = w0 at *
  generalize w.heap.size + 1 = r at *
  generalize w.heap.size = o at *
  have H1 : Sat (ModelAt h S * (Pool p * (ansZ r * (OpAt o x * F)))) w0 := H0.of_eq (by ac_rfl)
  obtain ⟨x0, x1, x2, x3, x4, x5, x6, x7, x8, x9⟩ := op_reads H0.right
  have q5 : ¬ x.op.kind = 5 := by omega
  have q6 : ¬ x.op.kind = 6 := by omega
  have q7 : ¬ x.op.kind = 7 := by omega
  have q13 : ¬ x.op.kind = 13 := by omega
  have q8 : ¬ x.op.kind = 8 := by omega
  have q9 : ¬ x.op.kind = 9 := by omega
  have q10 : ¬ x.op.kind = 10 := by omega
  have q11 : ¬ x.op.kind = 11 := by omega
  have q1 : ¬ x.op.kind = 1 := by omega
  have q2 : ¬ x.op.kind = 2 := by omega
  have q3 : ¬ x.op.kind = 3 := by omega
  have q4 : ¬ x.op.kind = 4 := by omega
  have hb : (x.op.kind == 12) = true := by simp [hk]
  have HKK := Lib.hid hk
  clear hk
  have L1 : ∀ (G : Asn) W, Sat (ModelAt h S * G) W → (Instr.lookup 71 (.map (some h.bh)) (.string x.op.name) true).run Tryz.prog W = .ok (.tuple #[.int .i64 (Md.hget S.st x.op.name), .bool true]) W := fun G W hW => by have q := look_head2 hW x.op.name; rw [hfound] at q; exact q
  have HL := Lib.hid L1
  have HF := Lib.hid hfound
  clear L1 hfound
  obtain ⟨hd0, hhd⟩ : ∃ n, n = Md.hget S.st x.op.name := ⟨_, rfl⟩
  rw [← hhd] at HL
  clear hhd
  go_upto_region 20 with fail
  have e1 := fun k => HL.out _ _ (H1.drewN k)
  obtain ⟨c0, c1, c2, c3⟩ := ModelAt.cells H1
  go_quiet (fail)
  have I1 := I0.drewN nq
  replace H1 := H1.drewN nq
  clear e1 c0 c1 c2 c3 x0 x1 x2 x3 x4 x5 x6 x7 x8 x9 H0 HL
  generalize w0.drewN nq = w1 at *
  obtain ⟨x0, x1, x2, x3, x4, x5, x6, x7, x8, x9⟩ := op_reads H1.right.right.right
  have HM : Hid (Md.mdo S.st x.op = (S.st, { version := Md.hget S.st x.op.name })) := Lib.hid (by rw [Md.mdo_k _ _ (by have := HKK.out; omega), if_neg (by show ¬ (aget S.heads x.op.name).isSome = false; rw [HF.out]; simp), onB_12 HKK.out])
  have HA : Hid ({ version := Md.hget S.st x.op.name } = A) := Lib.hid (by rw [hA.out, HM.out])
  have HN : Hid (A.changes = [] ∧ A.pairs = [] ∧ A.versions = [] ∧ A.branches = []) := Lib.hid (by rw [← HA.out]; exact ⟨rfl, rfl, rfl, rfl⟩)
  have HS2 : Hid (S.st = (Md.mdo S.st x.op).1 ∧ S.Ok p) := Lib.hid ⟨by rw [HM.out], hS⟩
  go_wp2_with (first
    | (go_at_call 36; with_reducible refine on_12 x HKK.out H1 ?_; rw [HA.out]; intro w2 H2 I2; have K2 : Sat (ansZ r * (ModelAt h (S) * (Pool p * (OpAt o x * F)))) w2 := H2.of_eq (by ac_rfl))
    | (with_reducible refine store_ans (A := A) rfl (.tmp 4) (.tmp 56) rfl rfl nil4_fit K2 rfl ?_; intro w6 H6 I6; obtain ⟨d0, d1, d2, d3, d4, d5, d6, d7⟩ := ansA_reads H6))
  have K7 : Sat (ModelAt h (S) * (Pool p * F)) w6 := (H6.of_eq (show _ = (ansA r A nil4 * OpAt o x) * (ModelAt h (S) * (Pool p * F)) from by ac_rfl)).right
  exact bodyPost_ret (v := ansV A nil4) (by simp [results, Tryz.results17, go_sem, d0, d1, d2, d3, d4, d5, d6, d7]) rfl (HH.out (S) p nil4 _ HS2.out.1 HS2.out.2 (fun _ h => h) nil4_fit (ansAt_nil HN.out.1 HN.out.2.1 HN.out.2.2.1 HN.out.2.2.2 K7) ((I1.trans I2).trans I6))
set_option maxRecDepth 100000 in
set_option maxHeartbeats 8000000 in
theorem do_c (x : OpX) (hk : x.op.kind = 1 ∨ x.op.kind = 2) (hfound : (aget S.heads x.op.name).isSome = true) (hsz : x.op.name.size ≤ 1000000) (hj : j ≤ 1000) (hS : S.Ok p) (hI : Md.Inv j S.st) {A : Md.An} (hA : Hid (A = (Md.mdo S.st x.op).2)) (H : Sat (ModelAt h S * (Pool p * F)) w)
    (hh : ∀ S' p' s w', S'.st = (Md.mdo S.st x.op).1 → S'.Ok p' → (∀ e ∈ p, e ∈ p') → s.Fit → Sat (AnsAt A s * (ModelAt h S' * (Pool p' * F))) w' → Io w w' → R (.returned (ansV A s)) w') :
    Calls Tryz.prog 17 #[h.ptr, opV x] w R := by
  have HH := Lib.hid hh
  clear hh
  have H00 : Sat (OpAt w.heap.size x * (ModelAt h S * (Pool p * F))) (w.alloc (.cells (opC x) 41)) := H.new _
  have I00 : Io w (w.alloc (.cells (opC x) 41)) := (Io.refl w).alloc _
  have H0 := ansZ_new H00
  have I0 := I00.trans (io_ansZ _)
  have hr : (w.alloc (.cells (opC x) 41)).heap.size = w.heap.size + 1 := by simp
  rw [hr] at H0
  clear H00 I00 hr
  have lS := inv_len hI
  have nS := hI.next
  have hnx : S.st.next = S.next := rfl
  rw [hnx] at nS
  clear hnx
  have hsl := hS.sl H.right
  go_enter Tryz.func17, Tryz.ntmps17
  go_upto_region 1 with fail
  generalize (w.alloc (.cells (opC x) 41)).alloc (.cells #[.int .i64 0, .int .i64 0, .bool false, .int .i64 0, .slice none 0 0, .slice none 0 0, .slice none 0 0, .slice none 0 0] 37) = w0 at *
  generalize w.heap.size + 1 = r at *
  generalize w.heap.size = o at *
  have H1 : Sat (ModelAt h S * (Pool p * (ansZ r * (OpAt o x * F)))) w0 := H0.of_eq (by ac_rfl)
  obtain ⟨x0, x1, x2, x3, x4, x5, x6, x7, x8, x9⟩ := op_reads H0.right
  have hnl : (S.now x.op.name).2.length ≤ 9999 := by have := inv_now hI x.op.name; omega
  have HNL := Lib.hid hnl
  clear hnl
  have HK := Lib.hid hk
  rcases hk with hk | hk
  · have q5 : ¬ x.op.kind = 5 := by omega
    have q6 : ¬ x.op.kind = 6 := by omega
    have q7 : ¬ x.op.kind = 7 := by omega
    have q13 : ¬ x.op.kind = 13 := by omega
    have q8 : ¬ x.op.kind = 8 := by omega
    have q9 : ¬ x.op.kind = 9 := by omega
    have q10 : ¬ x.op.kind = 10 := by omega
    have q11 : ¬ x.op.kind = 11 := by omega
    have hb : (x.op.kind == 1) = true := by simp [hk]
    have HKK := Lib.hid hk
    clear hk
    have L1 : ∀ (G : Asn) W, Sat (ModelAt h S * G) W → (Instr.lookup 71 (.map (some h.bh)) (.string x.op.name) true).run Tryz.prog W = .ok (.tuple #[.int .i64 (Md.hget S.st x.op.name), .bool true]) W := fun G W hW => by have q := look_head2 hW x.op.name; rw [hfound] at q; exact q
    have HL := Lib.hid L1
    have HF := Lib.hid hfound
    clear L1 hfound
    obtain ⟨hd0, hhd⟩ : ∃ n, n = Md.hget S.st x.op.name := ⟨_, rfl⟩
    rw [← hhd] at HL
    clear hhd
    go_upto_region 20 with fail
    have e1 := fun k => HL.out _ _ (H1.drewN k)
    obtain ⟨c0, c1, c2, c3⟩ := ModelAt.cells H1
    go_quiet (fail)
    have I1 := I0.drewN nq
    replace H1 := H1.drewN nq
    clear e1 c0 c1 c2 c3 x0 x1 x2 x3 x4 x5 x6 x7 x8 x9 H0 HL
    generalize w0.drewN nq = w1 at *
    obtain ⟨x0, x1, x2, x3, x4, x5, x6, x7, x8, x9⟩ := op_reads H1.right.right.right
    have HM : Hid (Md.mdo S.st x.op = Md.change S.st x.op) := Lib.hid (by rw [Md.mdo_k _ _ (by have := HKK.out; omega), if_neg (by show ¬ (aget S.heads x.op.name).isSome = false; rw [HF.out]; simp), onB_c HK.out])
    have HA : Hid (A = (Md.change S.st x.op).2) := Lib.hid (by rw [hA.out, HM.out])
    have HN : Hid (A.changes = [] ∧ A.pairs = [] ∧ A.versions = [] ∧ A.branches = []) := Lib.hid (by rw [HA.out]; exact change_nil _ _)
    go_wp2_with (first
      | (go_at_call 36; with_reducible refine on_c x HK.out hS HNL.out HA H1 ?_; intro S2 p2 w2 hs2 hk2 hp2 H2 I2; replace hs2 := Lib.hid hs2; have K2 : Sat (ansZ r * (ModelAt h S2 * (Pool p2 * (OpAt o x * F)))) w2 := H2.of_eq (by ac_rfl))
      | (with_reducible refine store_ans (A := A) rfl (.tmp 4) (.tmp 56) rfl rfl nil4_fit K2 rfl ?_; intro w6 H6 I6; obtain ⟨d0, d1, d2, d3, d4, d5, d6, d7⟩ := ansA_reads H6))
    have K7 : Sat (ModelAt h S2 * (Pool p2 * F)) w6 := (H6.of_eq (show _ = (ansA r A nil4 * OpAt o x) * (ModelAt h S2 * (Pool p2 * F)) from by ac_rfl)).right
    exact bodyPost_ret (v := ansV A nil4) (by simp [results, Tryz.results17, go_sem, d0, d1, d2, d3, d4, d5, d6, d7]) rfl (HH.out S2 p2 nil4 _ (by rw [hs2.out, HM.out]) hk2 hp2 nil4_fit (ansAt_nil HN.out.1 HN.out.2.1 HN.out.2.2.1 HN.out.2.2.2 K7) ((I1.trans I2).trans I6))
  · have q5 : ¬ x.op.kind = 5 := by omega
    have q6 : ¬ x.op.kind = 6 := by omega
    have q7 : ¬ x.op.kind = 7 := by omega
    have q13 : ¬ x.op.kind = 13 := by omega
    have q8 : ¬ x.op.kind = 8 := by omega
    have q9 : ¬ x.op.kind = 9 := by omega
    have q10 : ¬ x.op.kind = 10 := by omega
    have q11 : ¬ x.op.kind = 11 := by omega
    have q1 : ¬ x.op.kind = 1 := by omega
    have hb : (x.op.kind == 2) = true := by simp [hk]
    have HKK := Lib.hid hk
    clear hk
    have L1 : ∀ (G : Asn) W, Sat (ModelAt h S * G) W → (Instr.lookup 71 (.map (some h.bh)) (.string x.op.name) true).run Tryz.prog W = .ok (.tuple #[.int .i64 (Md.hget S.st x.op.name), .bool true]) W := fun G W hW => by have q := look_head2 hW x.op.name; rw [hfound] at q; exact q
    have HL := Lib.hid L1
    have HF := Lib.hid hfound
    clear L1 hfound
    obtain ⟨hd0, hhd⟩ : ∃ n, n = Md.hget S.st x.op.name := ⟨_, rfl⟩
    rw [← hhd] at HL
    clear hhd
    go_upto_region 20 with fail
    have e1 := fun k => HL.out _ _ (H1.drewN k)
    obtain ⟨c0, c1, c2, c3⟩ := ModelAt.cells H1
    go_quiet (fail)
    have I1 := I0.drewN nq
    replace H1 := H1.drewN nq
    clear e1 c0 c1 c2 c3 x0 x1 x2 x3 x4 x5 x6 x7 x8 x9 H0 HL
    generalize w0.drewN nq = w1 at *
    obtain ⟨x0, x1, x2, x3, x4, x5, x6, x7, x8, x9⟩ := op_reads H1.right.right.right
    have HM : Hid (Md.mdo S.st x.op = Md.change S.st x.op) := Lib.hid (by rw [Md.mdo_k _ _ (by have := HKK.out; omega), if_neg (by show ¬ (aget S.heads x.op.name).isSome = false; rw [HF.out]; simp), onB_c HK.out])
    have HA : Hid (A = (Md.change S.st x.op).2) := Lib.hid (by rw [hA.out, HM.out])
    have HN : Hid (A.changes = [] ∧ A.pairs = [] ∧ A.versions = [] ∧ A.branches = []) := Lib.hid (by rw [HA.out]; exact change_nil _ _)
    go_wp2_with (first
      | (go_at_call 36; with_reducible refine on_c x HK.out hS HNL.out HA H1 ?_; intro S2 p2 w2 hs2 hk2 hp2 H2 I2; replace hs2 := Lib.hid hs2; have K2 : Sat (ansZ r * (ModelAt h S2 * (Pool p2 * (OpAt o x * F)))) w2 := H2.of_eq (by ac_rfl))
      | (with_reducible refine store_ans (A := A) rfl (.tmp 4) (.tmp 56) rfl rfl nil4_fit K2 rfl ?_; intro w6 H6 I6; obtain ⟨d0, d1, d2, d3, d4, d5, d6, d7⟩ := ansA_reads H6))
    have K7 : Sat (ModelAt h S2 * (Pool p2 * F)) w6 := (H6.of_eq (show _ = (ansA r A nil4 * OpAt o x) * (ModelAt h S2 * (Pool p2 * F)) from by ac_rfl)).right
    exact bodyPost_ret (v := ansV A nil4) (by simp [results, Tryz.results17, go_sem, d0, d1, d2, d3, d4, d5, d6, d7]) rfl (HH.out S2 p2 nil4 _ (by rw [hs2.out, HM.out]) hk2 hp2 nil4_fit (ansAt_nil HN.out.1 HN.out.2.1 HN.out.2.2.1 HN.out.2.2.2 K7) ((I1.trans I2).trans I6))
set_option maxRecDepth 100000 in
set_option maxHeartbeats 8000000 in
theorem do_any (x : OpX)  (hsz : x.op.name.size ≤ 1000000) (hj : j ≤ 1000) (hS : S.Ok p) (hI : Md.Inv j S.st) {A : Md.An} (hA : Hid (A = (Md.mdo S.st x.op).2)) (H : Sat (ModelAt h S * (Pool p * F)) w)
    (hh : ∀ S' p' s w', S'.st = (Md.mdo S.st x.op).1 → S'.Ok p' → (∀ e ∈ p, e ∈ p') → s.Fit → Sat (AnsAt A s * (ModelAt h S' * (Pool p' * F))) w' → Io w w' → R (.returned (ansV A s)) w') :
    Calls Tryz.prog 17 #[h.ptr, opV x] w R := by
  by_cases hr : 1 ≤ x.op.kind ∧ x.op.kind ≤ 13
  · by_cases h5 : x.op.kind = 5
    · exact do_5 x h5 hsz hj hS hI hA H hh
    by_cases h6 : x.op.kind = 6
    · exact do_6 x h6 hsz hj hS hI hA H hh
    by_cases h7 : x.op.kind = 7
    · exact do_7 x h7 hsz hj hS hI hA H hh
    by_cases h13 : x.op.kind = 13
    · exact do_13 x h13 hsz hj hS hI hA H hh
    by_cases hq : x.op.kind = 8 ∨ x.op.kind = 9 ∨ x.op.kind = 10 ∨ x.op.kind = 11
    · exact do_q x hq hsz hj hS hI hA H hh
    have hk : x.op.kind = 1 ∨ x.op.kind = 2 ∨ x.op.kind = 3 ∨ x.op.kind = 4 ∨ x.op.kind = 12 := by omega
    cases hf : (aget S.heads x.op.name).isSome with
    | false => exact do_kn x hk hf hsz hj hS hI hA H hh
    | true =>
      by_cases h3 : x.op.kind = 3
      · exact do_3 x h3 hf hsz hj hS hI hA H hh
      by_cases h4 : x.op.kind = 4
      · exact do_4 x h4 hf hsz hj hS hI hA H hh
      by_cases h12 : x.op.kind = 12
      · exact do_12 x h12 hf hsz hj hS hI hA H hh
      exact do_c x (by omega) hf hsz hj hS hI hA H hh
  · exact do_e x hr hsz hj hS hI hA H hh
end
end Go.Proofs.YtabpgejjnphfcaaGreat

/-
  Models with the rows that they share, under one word; what may be done with them. It proves no statement by itself.
-/
namespace Go.Proofs.YtabpgejjnphfcaaGreat
open Go.RowKit Go.Lib Go.MapKept
open Md (Nm St)
set_option linter.unusedSimpArgs false
set_option linter.unusedVariables false
set_option linter.unusedSectionVars false
/-- A model that is at a state. -/
def MdAt (h : Mh) (p : Pl) (T : St) : Asn := ex fun S : MV => on (S.st = T ∧ S.Ok p) (ModelAt h S)
def MsOn (p : Pl) : List (Mh × St) → Asn
  | [] => emp
  | x :: l => MdAt x.1 p x.2 * MsOn p l
/-- Models, with the rows of edges that they share. -/
def Ms (l : List (Mh × St)) : Asn := ex fun p => MsOn p l * Pool p
section
variable {F : Asn} {w : World} {R : Ending → World → Prop} {p : Pl} {h k : Mh} {T U : St} {l : List (Mh × St)} {j : Nat}
theorem sat_md : Sat (MdAt h p T * F) w ↔ ∃ S : MV, (S.st = T ∧ S.Ok p) ∧ Sat (ModelAt h S * F) w := by
  unfold MdAt
  rw [sat_ex]
  constructor
  · rintro ⟨S, hS⟩; exact ⟨S, sat_on.1 hS⟩
  · rintro ⟨S, hS⟩; exact ⟨S, sat_on.2 hS⟩
theorem md_more {q : Pl} (hs : ∀ x ∈ p, x ∈ q) (H : Sat (MdAt h p T * F) w) : Sat (MdAt h q T * F) w := by
  obtain ⟨S, ⟨h1, h2⟩, h3⟩ := sat_md.1 H
  exact sat_md.2 ⟨S, ⟨h1, h2.more hs⟩, h3⟩
theorem mson_more {q : Pl} (hs : ∀ x ∈ p, x ∈ q) : ∀ (l : List (Mh × St)) {F : Asn}, Sat (MsOn p l * F) w → Sat (MsOn q l * F) w
  | [], F, H => H
  | x :: l, F, H => by
    have H1 : Sat (MdAt x.1 p x.2 * (MsOn p l * F)) w := H.of_eq (by rw [show MsOn p (x :: l) = MdAt x.1 p x.2 * MsOn p l from rfl]; ac_rfl)
    have H2 := (md_more hs H1).of_eq (show _ = MsOn p l * (MdAt x.1 q x.2 * F) from by ac_rfl)
    exact (mson_more hs l H2).of_eq (by rw [show MsOn q (x :: l) = MdAt x.1 q x.2 * MsOn q l from rfl]; ac_rfl)
theorem ms_open : Sat (Ms ((h, T) :: l) * F) w ↔ ∃ p S, (S.st = T ∧ S.Ok p) ∧ Sat (ModelAt h S * (Pool p * (MsOn p l * F))) w := by
  unfold Ms
  rw [sat_ex]
  constructor
  · rintro ⟨p, H⟩
    have H1 : Sat (MdAt h p T * (Pool p * (MsOn p l * F))) w := H.of_eq (by rw [show MsOn p ((h, T) :: l) = MdAt h p T * MsOn p l from rfl]; ac_rfl)
    obtain ⟨S, h1, h2⟩ := sat_md.1 H1
    exact ⟨p, S, h1, h2⟩
  · rintro ⟨p, S, h1, h2⟩
    have H1 : Sat (MdAt h p T * (Pool p * (MsOn p l * F))) w := sat_md.2 ⟨S, h1, h2⟩
    exact ⟨p, H1.of_eq (by rw [show MsOn p ((h, T) :: l) = MdAt h p T * MsOn p l from rfl]; ac_rfl)⟩
theorem ms_close {q : Pl} {S : MV} (hs : ∀ x ∈ p, x ∈ q) (h1 : S.st = T ∧ S.Ok q) (H : Sat (ModelAt h S * (Pool q * (MsOn p l * F))) w) : Sat (Ms ((h, T) :: l) * F) w := by
  refine ms_open.2 ⟨q, S, h1, ?_⟩
  have := mson_more hs l (H.of_eq (show _ = MsOn p l * (ModelAt h S * (Pool q * F)) from by ac_rfl))
  exact this.of_eq (by ac_rfl)
theorem ms_swap {x y : Mh × St} (H : Sat (Ms (x :: y :: l) * F) w) : Sat (Ms (y :: x :: l) * F) w := by
  unfold Ms at H ⊢
  rw [sat_ex] at H ⊢
  obtain ⟨p, H⟩ := H
  refine ⟨p, H.of_eq ?_⟩
  rw [show MsOn p (x :: y :: l) = MdAt x.1 p x.2 * (MdAt y.1 p y.2 * MsOn p l) from rfl, show MsOn p (y :: x :: l) = MdAt y.1 p y.2 * (MdAt x.1 p x.2 * MsOn p l) from rfl]
  ac_rfl
/-- The second of three comes first. -/
theorem ms_swap3 {x y z : Mh × St} (H : Sat (Ms (x :: y :: z :: l) * F) w) : Sat (Ms (z :: x :: y :: l) * F) w := by
  unfold Ms at H ⊢
  rw [sat_ex] at H ⊢
  obtain ⟨p, H⟩ := H
  refine ⟨p, H.of_eq ?_⟩
  rw [show MsOn p (x :: y :: z :: l) = MdAt x.1 p x.2 * (MdAt y.1 p y.2 * (MdAt z.1 p z.2 * MsOn p l)) from rfl, show MsOn p (z :: x :: y :: l) = MdAt z.1 p z.2 * (MdAt x.1 p x.2 * (MdAt y.1 p y.2 * MsOn p l)) from rfl]
  ac_rfl
theorem ms_none (H : Sat F w) : Sat (Ms [] * F) w := by
  unfold Ms
  rw [sat_ex]
  refine ⟨[], ?_⟩
  have : MsOn [] [] * Pool [] = emp := by show emp * emp = emp; exact star_emp _
  rw [this, star_emp]
  exact H
theorem newms_any (H : Sat (Ms l * F) w) (hh : ∀ h w', Sat (Ms ((h, Md.init) :: l) * F) w' → Io w w' → R (.returned (Mh.ptr h)) w') : Calls Tryz.prog 16 #[] w R := by
  have H' := H
  unfold Ms at H'
  rw [sat_ex] at H'
  obtain ⟨p, H'⟩ := H'
  refine new_any H' fun h w' H1 I1 => hh h w' ?_ I1
  have h2 : Sat (ModelAt h mv0 * (Pool p * (MsOn p l * F))) w' := H1.of_eq (by ac_rfl)
  exact ms_open.2 ⟨p, mv0, ⟨mv0_st, mv0_ok.more (by simp)⟩, h2⟩
theorem clonems_any (H : Sat (Ms ((h, T) :: l) * F) w) (hh : ∀ k w', Sat (Ms ((k, T) :: (h, T) :: l) * F) w' → Io w w' → R (.returned (Mh.ptr k)) w') : Calls Tryz.prog 18 #[h.ptr] w R := by
  obtain ⟨p, S, h1, H1⟩ := ms_open.1 H
  refine clonem_any H1 fun k w' H2 I2 => hh k w' ?_ I2
  have H3 : Sat (MdAt h p T * (ModelAt k S * (Pool p * (MsOn p l * F)))) w' := sat_md.2 ⟨S, h1, H2.of_eq (by ac_rfl)⟩
  refine ms_open.2 ⟨p, S, h1, H3.of_eq ?_⟩
  rw [show MsOn p ((h, T) :: l) = MdAt h p T * MsOn p l from rfl]
  ac_rfl
theorem samems_any (hj : j ≤ 2000) (iT : Md.Inv j T) (iU : Md.Inv j U) (H : Sat (Ms ((h, T) :: (k, U) :: l) * F) w) {d : Bool} (hd : Hid (d = true ↔ Md.Same T U))
    (hh : ∀ w', Sat (Ms ((h, T) :: (k, U) :: l) * F) w' → Io w w' → R (.returned (.bool d)) w') : Calls Tryz.prog 19 #[h.ptr, k.ptr] w R := by
  obtain ⟨p, S, ⟨rfl, h1⟩, H1⟩ := ms_open.1 H
  have H2 : Sat (MdAt k p U * (ModelAt h S * (Pool p * (MsOn p l * F)))) w := H1.of_eq (by rw [show MsOn p ((k, U) :: l) = MdAt k p U * MsOn p l from rfl]; ac_rfl)
  obtain ⟨V, ⟨rfl, h2⟩, H3⟩ := sat_md.1 H2
  refine same_any hj h1 h2 iT iU (H3.of_eq (show _ = ModelAt h S * (ModelAt k V * (Pool p * (MsOn p l * F))) from by ac_rfl)) hd fun w' H4 I4 => hh w' ?_ I4
  have H5 : Sat (MdAt k p V.st * (ModelAt h S * (Pool p * (MsOn p l * F)))) w' := sat_md.2 ⟨V, ⟨rfl, h2⟩, H4.of_eq (by ac_rfl)⟩
  refine ms_open.2 ⟨p, S, ⟨rfl, h1⟩, H5.of_eq ?_⟩
  rw [show MsOn p ((k, V.st) :: l) = MdAt k p V.st * MsOn p l from rfl]
  ac_rfl
theorem losems_any (H : Sat (Ms ((h, T) :: l) * F) w) (hh : ∀ w', Sat (Ms ((h, Md.lose T) :: l) * F) w' → Io w w' → R (.returned (.tuple #[])) w') : Calls Tryz.prog 24 #[h.ptr] w R := by
  obtain ⟨p, S, ⟨rfl, h1⟩, H1⟩ := ms_open.1 H
  refine lose_any H1 fun w' H2 I2 => hh w' ?_ I2
  exact ms_open.2 ⟨p, { S with pend := [] }, ⟨rfl, ⟨h1.v, fun n x e => by cases e⟩⟩, H2⟩
theorem ansAt_shape {A : Md.An} {s : Sl4} (H : Sat (AnsAt A s * F) w) : ∃ ca cl cc pa pl pc va vl vc ba bl bc, s = ⟨.slice ca cl cc, .slice pa pl pc, .slice va vl vc, .slice ba bl bc⟩ := by
  obtain ⟨sc, sp, sv, sb⟩ := s
  have K : Sat (RowC sc A.changes * (RowP sp A.pairs * (RowV sv A.versions * (RowB sb A.branches * F)))) w := H.of_eq (by unfold AnsAt; simp only [star_assoc])
  obtain ⟨ca, cl, cc, rfl⟩ := row_slice K
  obtain ⟨pa, pl, pc, rfl⟩ := row_slice K.right
  obtain ⟨va, vl, vc, rfl⟩ := row_slice K.right.right
  obtain ⟨ba, bl, bc, rfl⟩ := row_slice K.right.right.right
  exact ⟨_, _, _, _, _, _, _, _, _, _, _, _, rfl⟩
/-- Do. -/
theorem do_ms {kind u v a b torn cut : Int} {name text : Nm} {ka : Option Addr} {kl kc : Nat} (hsz : name.size ≤ 1000000) (hj : j ≤ 1000) (hI : Md.Inv j T) {T' : St} {A : Md.An} (hm : Hid (Md.mdo T ⟨kind, name, u, v, a, b⟩ = (T', A))) (H : Sat (Ms ((h, T) :: l) * F) w)
    (hh : ∀ (ca : Option Addr) (cl cc : Nat) (pa : Option Addr) (pl pc : Nat) (va : Option Addr) (vl vc : Nat) (ba : Option Addr) (bl bc : Nat) w', Sat (AnsAt A ⟨.slice ca cl cc, .slice pa pl pc, .slice va vl vc, .slice ba bl bc⟩ * (Ms ((h, T') :: l) * F)) w' → Io w w' →
      R (.returned (.agg #[.int .i64 A.err, .int .i64 A.version, .bool A.yes, .int .i64 A.count, .slice ca cl cc, .slice pa pl pc, .slice va vl vc, .slice ba bl bc])) w') :
    Calls Tryz.prog 17 #[h.ptr, .agg #[.int .i64 kind, .string name, .int .i64 u, .int .i64 v, .int .i64 a, .int .i64 b, .slice ka kl kc, .int .i64 torn, .int .i64 cut, .string text]] w R := by
  obtain ⟨p, S, ⟨rfl, h1⟩, H1⟩ := ms_open.1 H
  refine do_any ⟨⟨kind, name, u, v, a, b⟩, ka, kl, kc, torn, cut, text⟩ hsz hj h1 hI (Lib.hid (congrArg Prod.snd hm.out).symm) H1 fun S' p' s w' e1 e2 e3 hs H2 I2 => ?_
  have H3 : Sat (ModelAt h S' * (Pool p' * (MsOn p l * (AnsAt A s * F)))) w' := H2.of_eq (by ac_rfl)
  have H4 := ms_close (T := T') e3 ⟨by rw [e1, hm.out], e2⟩ H3
  have H5 : Sat (AnsAt A s * (Ms ((h, T') :: l) * F)) w' := H4.of_eq (by ac_rfl)
  obtain ⟨ca, cl, cc, pa, pl, pc, va, vl, vc, ba, bl, bc, rfl⟩ := ansAt_shape H5
  exact hh _ _ _ _ _ _ _ _ _ _ _ _ w' H5 I2
end
end Go.Proofs.YtabpgejjnphfcaaGreat

/-
  The document's example of chapter 20, by its walk. It proves no statement by itself.
-/
namespace Go.Proofs.YtabpgejjnphfcaaGreat
open Go.RowKit Go.Lib Go.MapKept
open Md (Nm St)
set_option linter.unusedSimpArgs false
set_option linter.unusedVariables false
set_option linter.unusedSectionVars false
theorem ans_new {A : Md.An} {s : Sl4} {M F : Asn} {w : World} (H : Sat (AnsAt A s * (M * F)) w) : Sat (M * (ansA w.heap.size A s * F)) (w.alloc (.cells #[.int .i64 A.err, .int .i64 A.version, .bool A.yes, .int .i64 A.count, s.c, s.p, s.v, s.b] 37)) := (H.right.new _).of_eq (by show pts _ _ * _ = _ * (pts _ _ * _); ac_rfl)
namespace Md
def T1 : St := { vers := [(1, (0, []))], heads := [(mainN, 1)], pend := [(mainN, [(1, 2)])], next := 2 }
def T2 : St := { vers := [(1, (0, [])), (2, (1, [(1, 2)]))], heads := [(mainN, 2)], pend := [], next := 3 }
theorem step1 : mdo init ⟨1, mainN, 1, 2, 0, 0⟩ = (T1, {}) := by kernel_rfl
theorem step2 : mdo T1 ⟨3, mainN, 0, 0, 0, 0⟩ = (T2, { version := 2 }) := by kernel_rfl
theorem step3 : mdo T2 ⟨9, ⟨#[]⟩, 1, 2, 2, 0⟩ = (T2, { yes := true }) := by kernel_rfl
theorem step4 : mdo T2 ⟨9, ⟨#[]⟩, 1, 2, 1, 0⟩ = (T2, {}) := by kernel_rfl
theorem step5 : mdo T2 ⟨14, ⟨#[]⟩, 0, 0, 0, 0⟩ = (T2, { err := 1 }) := by kernel_rfl
theorem inv_T1 : Inv 1 T1 := by
  have := inv_mdo inv_init ⟨1, mainN, 1, 2, 0, 0⟩
  rw [step1] at this
  exact this
theorem inv_T2 : Inv 2 T2 := by
  have := inv_mdo inv_T1 ⟨3, mainN, 0, 0, 0, 0⟩
  rw [step2] at this
  exact this
theorem same_T2 : Hid (true = true ↔ Same T2 T2) := Lib.hid ⟨fun _ => Same.refl _, fun _ => rfl⟩
theorem wr6 : Hid (true = decide ((6 : Int) = 3 ∨ (6 : Int) = 5 ∨ (6 : Int) = 6 ∨ (6 : Int) = 7)) := Lib.hid (by decide)
theorem wr4 : Hid (false = decide ((4 : Int) = 3 ∨ (4 : Int) = 5 ∨ (4 : Int) = 6 ∨ (4 : Int) = 7)) := Lib.hid (by decide)
theorem not_same : ¬ Same T2 init := fun h => by have := h.1; simp [T2, init] at this
theorem diff_T2 : Hid (false = true ↔ Same T2 init) := Lib.hid ⟨fun h => (by cases h), fun h => absurd h not_same⟩
end Md
section
variable {F : Asn} {w : World} {R : Ending → World → Prop}
set_option maxRecDepth 100000 in
set_option maxHeartbeats 16000000 in
theorem works20_any (H : Sat F w) (hh : ∀ w', Sat F w' → Io w w' → R (.returned (.bool true)) w') : Calls Tryz.prog 10 #[] w R := by
  have HH := Lib.hid hh
  clear hh
  have m1 := Lib.hid Md.step1
  have m2 := Lib.hid Md.step2
  have m3 := Lib.hid Md.step3
  have m4 := Lib.hid Md.step4
  have m5 := Lib.hid Md.step5
  unfold Md.mainN at m1 m2
  go_enter Tryz.func10, Tryz.ntmps10
  go_upto_region 9 with (first
    | (go_at_call 16; with_reducible refine newms_any (ms_none H) ?_; intro h w0 H0 I0; have K0 : Sat (Ms [(h, Md.init)] * F) w0 := H0)
    | (go_at_call 17; first
      | (with_reducible refine do_ms (by decide) (by omega) Md.inv_init m1 K0 ?_; intro c1a c1l c1c p1a p1l p1c v1a v1l v1c b1a b1l b1c w1 H1 I1; have K1 : Sat (Ms [(h, Md.T1)] * (ansA w1.heap.size ({}) ⟨.slice c1a c1l c1c, .slice p1a p1l p1c, .slice v1a v1l v1c, .slice b1a b1l b1c⟩ * F)) (w1.alloc (.cells #[.int .i64 0, .int .i64 0, .bool false, .int .i64 0, .slice c1a c1l c1c, .slice p1a p1l p1c, .slice v1a v1l v1c, .slice b1a b1l b1c] 37)) := ans_new H1)
      | (with_reducible refine do_ms (by decide) (by omega) Md.inv_T1 m2 K1 ?_; intro c2a c2l c2c p2a p2l p2c v2a v2l v2c b2a b2l b2c w2 H2 I2; have K2 : Sat (Ms [(h, Md.T2)] * (ansA w2.heap.size ({ version := 2 }) ⟨.slice c2a c2l c2c, .slice p2a p2l p2c, .slice v2a v2l v2c, .slice b2a b2l b2c⟩ * (ansA w1.heap.size ({}) ⟨.slice c1a c1l c1c, .slice p1a p1l p1c, .slice v1a v1l v1c, .slice b1a b1l b1c⟩ * F))) (w2.alloc (.cells #[.int .i64 0, .int .i64 2, .bool false, .int .i64 0, .slice c2a c2l c2c, .slice p2a p2l p2c, .slice v2a v2l v2c, .slice b2a b2l b2c] 37)) := ans_new H2)
      | (with_reducible refine do_ms (by decide) (by omega) Md.inv_T2 m3 K2 ?_; intro c3a c3l c3c p3a p3l p3c v3a v3l v3c b3a b3l b3c w3 H3 I3; have K3 : Sat (Ms [(h, Md.T2)] * (ansA w3.heap.size ({ yes := true }) ⟨.slice c3a c3l c3c, .slice p3a p3l p3c, .slice v3a v3l v3c, .slice b3a b3l b3c⟩ * (ansA w2.heap.size ({ version := 2 }) ⟨.slice c2a c2l c2c, .slice p2a p2l p2c, .slice v2a v2l v2c, .slice b2a b2l b2c⟩ * (ansA w1.heap.size ({}) ⟨.slice c1a c1l c1c, .slice p1a p1l p1c, .slice v1a v1l v1c, .slice b1a b1l b1c⟩ * F)))) (w3.alloc (.cells #[.int .i64 0, .int .i64 0, .bool true, .int .i64 0, .slice c3a c3l c3c, .slice p3a p3l p3c, .slice v3a v3l v3c, .slice b3a b3l b3c] 37)) := ans_new H3)
      | (with_reducible refine do_ms (by decide) (by omega) Md.inv_T2 m4 K3 ?_; intro c4a c4l c4c p4a p4l p4c v4a v4l v4c b4a b4l b4c w4 H4 I4; have K4 : Sat (Ms [(h, Md.T2)] * (ansA w4.heap.size ({}) ⟨.slice c4a c4l c4c, .slice p4a p4l p4c, .slice v4a v4l v4c, .slice b4a b4l b4c⟩ * (ansA w3.heap.size ({ yes := true }) ⟨.slice c3a c3l c3c, .slice p3a p3l p3c, .slice v3a v3l v3c, .slice b3a b3l b3c⟩ * (ansA w2.heap.size ({ version := 2 }) ⟨.slice c2a c2l c2c, .slice p2a p2l p2c, .slice v2a v2l v2c, .slice b2a b2l b2c⟩ * (ansA w1.heap.size ({}) ⟨.slice c1a c1l c1c, .slice p1a p1l p1c, .slice v1a v1l v1c, .slice b1a b1l b1c⟩ * F))))) (w4.alloc (.cells #[.int .i64 0, .int .i64 0, .bool false, .int .i64 0, .slice c4a c4l c4c, .slice p4a p4l p4c, .slice v4a v4l v4c, .slice b4a b4l b4c] 37)) := ans_new H4)
      | (with_reducible refine do_ms (by decide) (by omega) Md.inv_T2 m5 K4 ?_; intro c5a c5l c5c p5a p5l p5c v5a v5l v5c b5a b5l b5c w5 H5 I5; have K5 : Sat (Ms [(h, Md.T2)] * (ansA w5.heap.size ({ err := 1 }) ⟨.slice c5a c5l c5c, .slice p5a p5l p5c, .slice v5a v5l v5c, .slice b5a b5l b5c⟩ * (ansA w4.heap.size ({}) ⟨.slice c4a c4l c4c, .slice p4a p4l p4c, .slice v4a v4l v4c, .slice b4a b4l b4c⟩ * (ansA w3.heap.size ({ yes := true }) ⟨.slice c3a c3l c3c, .slice p3a p3l p3c, .slice v3a v3l v3c, .slice b3a b3l b3c⟩ * (ansA w2.heap.size ({ version := 2 }) ⟨.slice c2a c2l c2c, .slice p2a p2l p2c, .slice v2a v2l v2c, .slice b2a b2l b2c⟩ * (ansA w1.heap.size ({}) ⟨.slice c1a c1l c1c, .slice p1a p1l p1c, .slice v1a v1l v1c, .slice b1a b1l b1c⟩ * F)))))) (w5.alloc (.cells #[.int .i64 1, .int .i64 0, .bool false, .int .i64 0, .slice c5a c5l c5c, .slice p5a p5l p5c, .slice v5a v5l v5c, .slice b5a b5l b5c] 37)) := ans_new H5)))
  have I6 : Io w (w5.alloc (.cells #[.int .i64 1, .int .i64 0, .bool false, .int .i64 0, .slice c5a c5l c5c, .slice p5a p5l p5c, .slice v5a v5l v5c, .slice b5a b5l b5c] 37)) := (((((((((I0.trans I1).alloc _).trans I2).alloc _).trans I3).alloc _).trans I4).alloc _).trans I5).alloc _
  generalize w5.alloc (.cells #[.int .i64 1, .int .i64 0, .bool false, .int .i64 0, .slice c5a c5l c5c, .slice p5a p5l p5c, .slice v5a v5l v5c, .slice b5a b5l b5c] 37) = w6 at *
  generalize w1.heap.size = q1 at *
  generalize w2.heap.size = q2 at *
  generalize w3.heap.size = q3 at *
  generalize w4.heap.size = q4 at *
  generalize w5.heap.size = q5 at *
  have iT := Md.inv_T2
  have i0 : Md.Inv 2 Md.init := Md.inv_init.mono (by omega)
  go_wp2_with (first
    | (go_at_call 18; with_reducible refine clonems_any K5 ?_; intro k w7 H7 I7; obtain ⟨z50, z51, z52, z53, _⟩ := ansA_reads H7.right; obtain ⟨z40, z41, z42, z43, _⟩ := ansA_reads H7.right.right; obtain ⟨z30, z31, z32, z33, _⟩ := ansA_reads H7.right.right.right; obtain ⟨z20, z21, z22, z23, _⟩ := ansA_reads H7.right.right.right.right; obtain ⟨z10, z11, z12, z13, _⟩ := ansA_reads H7.right.right.right.right.right)
    | (go_at_call 19; first
      | (with_reducible refine samems_any (by omega) iT iT (ms_swap H7) Md.same_T2 ?_; intro w8 H8 I8)
      | (with_reducible refine samems_any (by omega) iT i0 (ms_swap H9) Md.diff_T2 ?_; intro w10 H10 I10))
    | (go_at_call 16; with_reducible refine newms_any H8 ?_; intro g w9 H9 I9)
    | (go_at_call 27; first
      | (with_reducible refine writes_any 6 Md.wr6 ?_)
      | (with_reducible refine writes_any 4 Md.wr4 ?_)))
  exact HH.out _ H10.right.right.right.right.right.right ((((I6.trans I7).trans I8).trans I9).trans I10)
end
end Go.Proofs.YtabpgejjnphfcaaGreat
