/-
  The model of the index: on (commit, abort, head), by its walk. It proves no statement by itself.
-/
import Derived.Test.YtabpgejjnphfcaaGreatQ32
namespace Go.Proofs.YtabpgejjnphfcaaGreat
open Go.RowKit Go.Lib Go.MapKept
open Md (Nm St)
set_option linter.unusedSimpArgs false
set_option linter.unusedVariables false
set_option linter.unusedSectionVars false
section
variable {F : Asn} {w : World} {R : Ending → World → Prop} {h : Mh} {S : MV} {p : Pl}
theorem ans_all (A : Md.An) (s : Sl4) (hs : s.Fit) : (#[.int .i64 A.err, .int .i64 A.version, .bool A.yes, .int .i64 A.count, s.c, s.p, s.v, s.b] : Array Value).all (·.oneCell') = true := by
  obtain ⟨h1, h2, h3, h4⟩ := hs
  refine Array.all_eq_true_iff_forall_mem.2 fun v hv => ?_
  simp only [List.mem_toArray, List.mem_cons, List.not_mem_nil, or_false] at hv
  rcases hv with rfl | rfl | rfl | rfl | rfl | rfl | rfl | rfl <;> first | rfl | assumption
theorem onB_3 {S : St} {o : Md.Op} (h : o.kind = 3) : Md.onB S o = Md.commit S o.name := by unfold Md.onB; rw [if_pos h]
theorem onB_4 {S : St} {o : Md.Op} (h : o.kind = 4) : Md.onB S o = (Md.abort S o.name, {}) := by unfold Md.onB; rw [if_neg (by omega), if_pos h]
theorem onB_12 {S : St} {o : Md.Op} (h : o.kind = 12) : Md.onB S o = (S, { version := Md.hget S o.name }) := by unfold Md.onB; rw [if_neg (by omega), if_neg (by omega), if_pos h]
theorem onB_c {S : St} {o : Md.Op} (h : o.kind = 1 ∨ o.kind = 2) : Md.onB S o = Md.change S o := by unfold Md.onB; rw [if_neg (by omega), if_neg (by omega), if_neg (by omega)]
set_option maxRecDepth 100000 in
set_option maxHeartbeats 4000000 in
theorem on_3 (x : OpX) (h3 : x.op.kind = 3) {A : Md.An} (hA : Hid ((Md.commit S.st x.op.name).2 = A)) {va : Option Addr} {vl vc : Nat} {l : List Pr} (HVL : Hid ((.slice va vl vc, l) = S.now x.op.name)) (hs : 0 ≤ S.next ∧ S.next ≤ 9223372036854775806) (H : Sat (ModelAt h S * F) w)
    (hh : ∀ w', Sat (ModelAt h (if 1048576 < S.next then S else S.commit x.op.name) * F) w' → Io w w' → R (.returned (ansV A nil4)) w') :
    Calls Tryz.prog 36 #[h.ptr, opV x] w R := by
  have HH := Lib.hid hh
  clear hh
  have H00 : Sat (OpAt w.heap.size x * (ModelAt h S * F)) (w.alloc (.cells (opC x) 41)) := H.new _
  have I00 : Io w (w.alloc (.cells (opC x) 41)) := (Io.refl w).alloc _
  have H0 := ansZ_new H00
  have I0 := I00.trans (io_ansZ _)
  have hr : (w.alloc (.cells (opC x) 41)).heap.size = w.heap.size + 1 := by simp
  rw [hr] at H0
  clear H00 I00 hr
  go_enter Tryz.func36, Tryz.ntmps36
  go_upto_region 1 with fail
  generalize (w.alloc (.cells (opC x) 41)).alloc (.cells #[.int .i64 0, .int .i64 0, .bool false, .int .i64 0, .slice none 0 0, .slice none 0 0, .slice none 0 0, .slice none 0 0] 37) = w0 at *
  generalize w.heap.size + 1 = r at *
  generalize w.heap.size = o at *
  have H1 : Sat (ModelAt h S * (ansZ r * (OpAt o x * F))) w0 := H0.of_eq (by ac_rfl)
  obtain ⟨x0, x1, x2, x3, x4, x5, x6, x7, x8, x9⟩ := op_reads H0.right
  go_wp2_with (first
    | (go_at_call 69; with_reducible refine commit_any x.op.name HVL hs H1 ?_; rw [hA.out]; intro w2 H2 I2; have K2 := H2.of_eq (show _ = ansZ r * (ModelAt h (if 1048576 < S.next then S else S.commit x.op.name) * (OpAt o x * F)) from by ac_rfl))
    | (with_reducible refine store_ans (A := A) rfl (.tmp 4) (.tmp 17) rfl rfl nil4_fit K2 rfl ?_; intro w6 H6 I6; obtain ⟨d0, d1, d2, d3, d4, d5, d6, d7⟩ := ansA_reads H6))
  exact bodyPost_ret (v := ansV A nil4) (by simp [results, Tryz.results36, go_sem, d0, d1, d2, d3, d4, d5, d6, d7]) rfl (HH.out _ H6.right.mid ((I0.trans I2).trans I6))
set_option maxRecDepth 100000 in
set_option maxHeartbeats 4000000 in
theorem on_4 (x : OpX) (h4 : x.op.kind = 4) (H : Sat (ModelAt h S * F) w)
    (hh : ∀ w', Sat (ModelAt h { S with pend := adel S.pend x.op.name } * F) w' → Io w w' → R (.returned (ansV {} nil4)) w') :
    Calls Tryz.prog 36 #[h.ptr, opV x] w R := by
  have HH := Lib.hid hh
  clear hh
  have H00 : Sat (OpAt w.heap.size x * (ModelAt h S * F)) (w.alloc (.cells (opC x) 41)) := H.new _
  have I00 : Io w (w.alloc (.cells (opC x) 41)) := (Io.refl w).alloc _
  have H0 := ansZ_new H00
  have I0 := I00.trans (io_ansZ _)
  have hr : (w.alloc (.cells (opC x) 41)).heap.size = w.heap.size + 1 := by simp
  rw [hr] at H0
  clear H00 I00 hr
  go_enter Tryz.func36, Tryz.ntmps36
  go_upto_region 1 with fail
  generalize (w.alloc (.cells (opC x) 41)).alloc (.cells #[.int .i64 0, .int .i64 0, .bool false, .int .i64 0, .slice none 0 0, .slice none 0 0, .slice none 0 0, .slice none 0 0] 37) = w0 at *
  generalize w.heap.size + 1 = r at *
  generalize w.heap.size = o at *
  have H1 : Sat (ModelAt h S * (ansZ r * (OpAt o x * F))) w0 := H0.of_eq (by ac_rfl)
  obtain ⟨x0, x1, x2, x3, x4, x5, x6, x7, x8, x9⟩ := op_reads H0.right
  go_upto_region 5 with fail
  obtain ⟨w5, e5, H5, I5⟩ := run_delete (P := Tryz.prog) (T := 72) strKey Tryz.underlying72 Tryz.underlying9 (ModelAt.asP H1.drew) x.op.name 0 9
  have K5 := ModelAt.ofP H5
  have Z0 : _ ∧ _ := ⟨(ModelAt.cells H1.drew).2.2.1, (op_reads H1.drew.right.right).2.1⟩
  have Z1 : _ ∧ _ := ⟨(ModelAt.cells K5).2.2.1, (op_reads K5.right.right).2.1⟩
  clear x0 x1 x2 x3 x4 x5 x6 x7 x8 x9
  go_region_held3 (fun W => W.cell? ⟨h.b, 2, none⟩ = some (.map (some h.bp)) ∧ W.cell? ⟨o, 1, none⟩ = some (.string x.op.name)) (first | exact Z0 | exact Z1) (fail)
  all_goals
    have K6 : Sat (ansZ r * (ModelAt h { S with pend := adel S.pend x.op.name } * (OpAt o x * F))) w5 := K5.of_eq (by ac_rfl)
    clear Z0 Z1
    go_wp2_with (with_reducible refine store_ans rfl (.tmp 4) (.tmp 26) rfl rfl nil4_fit (A := {}) K6 rfl ?_; intro w6 H6 I6; obtain ⟨d0, d1, d2, d3, d4, d5, d6, d7⟩ := ansA_reads H6)
    exact bodyPost_ret (v := ansV {} nil4) (by simp [results, Tryz.results36, go_sem, d0, d1, d2, d3, d4, d5, d6, d7]) rfl (HH.out _ H6.right.mid (((I0.drew).trans I5).trans I6))
set_option maxRecDepth 100000 in
set_option maxHeartbeats 4000000 in
theorem on_12 (x : OpX) (h4 : x.op.kind = 12) (H : Sat (ModelAt h S * F) w)
    (hh : ∀ w', Sat (ModelAt h S * F) w' → Io w w' → R (.returned (ansV { version := Md.hget S.st x.op.name } nil4)) w') :
    Calls Tryz.prog 36 #[h.ptr, opV x] w R := by
  have HH := Lib.hid hh
  clear hh
  have H00 : Sat (OpAt w.heap.size x * (ModelAt h S * F)) (w.alloc (.cells (opC x) 41)) := H.new _
  have I00 : Io w (w.alloc (.cells (opC x) 41)) := (Io.refl w).alloc _
  have H0 := ansZ_new H00
  have I0 := I00.trans (io_ansZ _)
  have hr : (w.alloc (.cells (opC x) 41)).heap.size = w.heap.size + 1 := by simp
  rw [hr] at H0
  clear H00 I00 hr
  go_enter Tryz.func36, Tryz.ntmps36
  go_upto_region 1 with fail
  generalize (w.alloc (.cells (opC x) 41)).alloc (.cells #[.int .i64 0, .int .i64 0, .bool false, .int .i64 0, .slice none 0 0, .slice none 0 0, .slice none 0 0, .slice none 0 0] 37) = w0 at *
  generalize w.heap.size + 1 = r at *
  generalize w.heap.size = o at *
  have H1 : Sat (ModelAt h S * (ansZ r * (OpAt o x * F))) w0 := H0.of_eq (by ac_rfl)
  obtain ⟨x0, x1, x2, x3, x4, x5, x6, x7, x8, x9⟩ := op_reads H0.right
  go_upto_region 8 with fail
  have K0 : Sat (ansZ r * (ModelAt h S * (OpAt o x * F))) w0.drew := H1.drew.of_eq (by ac_rfl)
  clear x0 x1 x2 x3 x4 x5 x6 x7 x8 x9
  obtain ⟨c0, c1, c2, c3⟩ := ModelAt.cells H1.drew
  obtain ⟨x0, x1, x2, x3, x4, x5, x6, x7, x8, x9⟩ := op_reads H1.drew.right.right
  have e1 := look_head H1.drew x.op.name
  refine region_tail 8 (by kernel_rfl) (by kernel_rfl) ?_
  simp only [List.take_succ_cons, List.take_zero, List.drop_succ_cons, List.drop_zero]
  repeat still_step
  refine wpStill_nil ?_
  go_wp2_with (with_reducible refine store_ans rfl (.tmp 4) (.tmp 36) rfl rfl nil4_fit (A := { version := Md.hget S.st x.op.name }) K0 rfl ?_; intro w6 H6 I6; obtain ⟨d0, d1, d2, d3, d4, d5, d6, d7⟩ := ansA_reads H6)
  exact bodyPost_ret (v := ansV { version := Md.hget S.st x.op.name } nil4) (by simp [results, Tryz.results36, go_sem, d0, d1, d2, d3, d4, d5, d6, d7]) rfl (HH.out _ H6.right.mid ((I0.drew).trans I6))
end
end Go.Proofs.YtabpgejjnphfcaaGreat

/-
  The model of the index: on (add, remove), by its walk. It proves no statement by itself.
-/
namespace Go.Proofs.YtabpgejjnphfcaaGreat
open Go.RowKit Go.Lib Go.MapKept
open Md (Nm St)
set_option linter.unusedSimpArgs false
set_option linter.unusedVariables false
set_option linter.unusedSectionVars false
def PairB (b : Nat) (x y : Int) : Asn := pts b (.cells #[.int .i64 x, .int .i64 y] 49 (0, 0))
theorem mkE_wrong (u v : Int) : mkE u v = Md.wrong u v := by
  unfold mkE Md.wrong
  rw [verE_vtx, verE_vtx]
  cases Md.vtx u <;> cases Md.vtx v <;> simp
theorem mkP_pair {u v : Int} (h : Md.wrong u v = 0) : mkP u v = Md.pair u v := by
  unfold mkP
  rw [mkE_wrong, if_pos h]
  rfl
theorem pool_cons (v : Value) (l : List Pr) (p : Pl) : Pool ((v, l) :: p) = RowP v l * Pool p := rfl
theorem pair_reads {F : Asn} {w : World} {b : Nat} {x y : Int} (H : Sat (PairB b x y * F) w) : w.cell? ⟨b, 0, none⟩ = some (.int .i64 x) ∧ w.cell? ⟨b, 1, none⟩ = some (.int .i64 y) := ⟨Sat.read H.left.at 0, Sat.read H.left.at 1⟩
theorem chg_reads {F : Asn} (b : Nat) (x y : Int) (d : Bool) : ReadsC (pts b (.cells #[.int .i64 x, .int .i64 y, .bool d] 51 (0, 0)) * F) (.slice (some ⟨b, 0, none⟩) 1 1) [((x, y), d)] := by
  refine ⟨_, _, rfl, by simp, .inr ⟨b, 0, rfl, fun w hw j u hu => ?_⟩⟩
  rw [Nat.zero_add, Sat.read hw.left.at j]
  simpa [cellsOf, encC] using hu
section
variable {F : Asn} {w : World} {R : Ending → World → Prop} {h : Mh} {S : MV} {p : Pl}
/-- With a new row of edges pending. -/
def MV.pput (S : MV) (n : Nm) (v : Value) (l : List Pr) : MV := { S with pend := aput S.pend n (v, l) }
theorem MV.pput_st (S : MV) (n : Nm) (v : Value) (l : List Pr) : (S.pput n v l).st = { S.st with pend := aput S.st.pend n l } := by
  unfold MV.pput
  simp only [MV.st, aput_amap]
  rfl
theorem MV.pput_ok {n : Nm} {v : Value} {l : List Pr} (hk : S.Ok p) : (S.pput n v l).Ok ((v, l) :: p) := by
  refine ⟨fun id x e => (hk.v id x e).more fun _ h => List.mem_cons_of_mem _ h, fun m x e => ?_⟩
  unfold MV.pput at e
  simp only [Md.aget_put] at e
  split at e
  · cases e; exact .inr (List.mem_cons_self ..)
  · exact (hk.q m x e).more fun _ h => List.mem_cons_of_mem _ h
theorem contains_e {F : Asn} {w : World} {R : Ending → World → Prop} {l : List Pr} {v : Value} (hv : ReadsP F v l) (x y : Int) {d : Bool} (hd : Hid (d = decide ((x, y) ∈ l))) (H : Sat F w) (hh : ∀ w', Sat F w' → Io w w' → R (.returned (.bool d)) w') :
    Calls Tryz.prog 71 #[v, .agg #[.int .i64 x, .int .i64 y]] w R := contains_any hv (x, y) hd H hh
theorem make_e {F : Asn} {w : World} {R : Ending → World → Prop} (H : Sat F w) (u v : Int) {a b e : Int} (he : Hid (mkP u v = (a, b) ∧ mkE u v = e)) (hh : ∀ w', Sat F w' → Io w w' → R (.returned (.tuple #[.agg #[.int .i64 a, .int .i64 b], .int .i64 e])) w') :
    Calls Tryz.prog 70 #[.int .i64 u, .int .i64 v] w R := make_any H u v (by rw [he.out.1, he.out.2]; exact hh)
set_option maxRecDepth 100000 in
set_option maxHeartbeats 8000000 in
theorem on_c (x : OpX) (hkind : x.op.kind = 1 ∨ x.op.kind = 2) (hk : S.Ok p) (hb : (S.now x.op.name).2.length ≤ 9999) {A : Md.An} (hA : Hid (A = (Md.change S.st x.op).2)) (H : Sat (ModelAt h S * (Pool p * F)) w)
    (hh : ∀ S' p' w', S'.st = (Md.change S.st x.op).1 → S'.Ok p' → (∀ e ∈ p, e ∈ p') → Sat (ModelAt h S' * (Pool p' * F)) w' → Io w w' → R (.returned (ansV A nil4)) w') :
    Calls Tryz.prog 36 #[h.ptr, opV x] w R := by
  have HH := Lib.hid hh
  clear hh
  have H00 : Sat (OpAt w.heap.size x * (ModelAt h S * (Pool p * F))) (w.alloc (.cells (opC x) 41)) := H.new _
  have I00 : Io w (w.alloc (.cells (opC x) 41)) := (Io.refl w).alloc _
  have H0 := ansZ_new H00
  have I0 := I00.trans (io_ansZ _)
  have hr : (w.alloc (.cells (opC x) 41)).heap.size = w.heap.size + 1 := by simp
  rw [hr] at H0
  clear H00 I00 hr
  obtain ⟨v0, l, hvl⟩ : ∃ v l, (v, l) = S.now x.op.name := ⟨_, _, rfl⟩
  have hheld := hk.now x.op.name
  rw [← hvl] at hheld hb
  simp only at hheld hb
  obtain ⟨va, vc, rfl⟩ := hheld.slice H.right
  have HVL := Lib.hid hvl
  have R1 := Lib.hid (fun (G : Asn) W (hW : Sat (Pool p * G) W) => hheld.reads (Nat.le_trans hb (by simp)) hW)
  have hlen : l.length ≤ 9999 := hb
  obtain ⟨qa, qb, hq⟩ : ∃ a b, mkP x.op.u x.op.v = (a, b) := ⟨_, _, rfl⟩
  obtain ⟨we, hwe⟩ : ∃ e, mkE x.op.u x.op.v = e := ⟨_, rfl⟩
  have HM : Hid (mkP x.op.u x.op.v = (qa, qb) ∧ mkE x.op.u x.op.v = we) := Lib.hid ⟨hq, hwe⟩
  obtain ⟨th, hth⟩ : ∃ d, d = decide ((qa, qb) ∈ l) := ⟨_, rfl⟩
  have HT := Lib.hid hth
  have HNow : Hid (Md.now S.st x.op.name = l) := Lib.hid (by rw [S.now_st, ← hvl])
  clear hvl hheld hb hq hwe hth
  go_enter Tryz.func36, Tryz.ntmps36
  go_upto_region 1 with fail
  generalize (w.alloc (.cells (opC x) 41)).alloc (.cells #[.int .i64 0, .int .i64 0, .bool false, .int .i64 0, .slice none 0 0, .slice none 0 0, .slice none 0 0, .slice none 0 0] 37) = w0 at *
  generalize w.heap.size + 1 = r at *
  generalize w.heap.size = o at *
  have H1 : Sat (ModelAt h S * (ansZ r * (OpAt o x * (Pool p * F)))) w0 := H0.of_eq (by ac_rfl)
  obtain ⟨x0, x1, x2, x3, x4, x5, x6, x7, x8, x9⟩ := op_reads H0.right
  have q3 : ¬ x.op.kind = 3 := by omega
  have q4 : ¬ x.op.kind = 4 := by omega
  have q12 : ¬ x.op.kind = 12 := by omega
  go_upto_region 10 with (go_at_call 70; with_reducible refine make_e H0 x.op.u x.op.v HM ?_; intro w2 H2 I2; have H3 : Sat (PairB w2.heap.size qa qb * _) (w2.alloc (.cells #[.int .i64 qa, .int .i64 qb] 49)) := H2.new _)
  have H4 : Sat (PairB w2.heap.size qa qb * (ansZ r * (OpAt o x * (ModelAt h S * (Pool p * F))))) (w2.alloc (.cells #[.int .i64 qa, .int .i64 qb] 49)) := H3
  have I3 := (I0.trans I2).alloc (.cells #[.int .i64 qa, .int .i64 qb] 49)
  clear H3 H2 I2 I0 H1 H0 x0 x1 x2 x3 x4 x5 x6 x7 x8 x9
  generalize w2.alloc (.cells #[.int .i64 qa, .int .i64 qb] 49) = w3 at *
  generalize w2.heap.size = bq at *
  have K3 : Sat (ansZ r * (OpAt o x * (PairB bq qa qb * (ModelAt h S * (Pool p * F))))) w3 := H4.of_eq (by ac_rfl)
  clear H4
  obtain ⟨x0, x1, x2, x3, x4, x5, x6, x7, x8, x9⟩ := op_reads K3.right
  have Q0 := Sat.read K3.right.right.left.at 0
  have Q1 := Sat.read K3.right.right.left.at 1
  simp only [List.getElem?_toArray, List.getElem?_cons_zero, List.getElem?_cons_succ] at Q0 Q1
  by_cases hwe : we = 0
  · subst hwe
    have hw0 : Hid (Md.wrong x.op.u x.op.v = 0 ∧ Md.pair x.op.u x.op.v = (qa, qb)) := Lib.hid (by
      have e := HM.out.2
      rw [mkE_wrong] at e
      exact ⟨e, by rw [← mkP_pair e]; exact HM.out.1⟩)
    have K3m : Sat (ModelAt h S * (OpAt o x * (PairB bq qa qb * (ansZ r * (Pool p * F))))) w3 := K3.of_eq (by ac_rfl)
    go_upto_region 14 with (first
      | (go_at_call 42; with_reducible refine now_any x.op.name HVL K3m ?_; intro w4 H4 I4; have P4 := H4.of_eq (show _ = Pool p * (ModelAt h S * (OpAt o x * (PairB bq qa qb * (ansZ r * F)))) from by ac_rfl); have rx := R1.out _ _ P4; obtain ⟨y0, y1, y2, y3, y4, y5, y6, y7, y8, y9⟩ := op_reads P4.right.right; obtain ⟨Y0, Y1⟩ := pair_reads P4.right.right.right)
      | (go_at_call 71; with_reducible refine contains_e rx qa qb HT P4 ?_; intro w5 H5 I5))
    replace I5 := (I3.trans I4).trans I5
    clear K3 K3m H4 P4 rx y0 y1 y2 y3 y4 y5 y6 y7 y8 y9 Y0 Y1 I4 I3 x0 x1 x2 x3 x4 x5 x6 x7 x8 x9 Q0 Q1
    have K5 : Sat (ansZ r * (OpAt o x * (PairB bq qa qb * (ModelAt h S * (Pool p * F))))) w5 := H5.of_eq (by ac_rfl)
    obtain ⟨x0, x1, x2, x3, x4, x5, x6, x7, x8, x9⟩ := op_reads K5.right
    obtain ⟨Q0, Q1⟩ := pair_reads K5.right.right
    clear H5
    rcases hkind with k1 | k2
    · cases th with
      | true =>
        have HC : Hid (Md.change S.st x.op = (S.st, Md.fail 180)) := Lib.hid (by unfold Md.change; rw [if_neg (by rw [hw0.out.1]; simp), hw0.out.2, HNow.out, if_pos ⟨k1, of_decide_eq_true HT.out.symm⟩])
        have HA : A = Md.fail 180 := by rw [hA.out, HC.out]
        subst HA
        clear hA
        go_wp2_with (first
          | (go_at_call 35; with_reducible refine fail_any 180 K5 ?_; intro w7 H7 I7)
          | (with_reducible refine store_ans rfl (.tmp 4) (.tmp 64) rfl rfl nil4_fit H7 rfl ?_; intro w6 H6 I6; obtain ⟨d0, d1, d2, d3, d4, d5, d6, d7⟩ := ansA_reads H6))
        exact bodyPost_ret (v := ansV (Md.fail 180) nil4) (by simp [results, Tryz.results36, go_sem, d0, d1, d2, d3, d4, d5, d6, d7]) rfl (HH.out S p _ (by rw [HC.out]) hk (fun _ h => h) H6.right.right.right ((I5.trans I7).trans I6))
      | false =>
        have HC : Hid (Md.change S.st x.op = ({ S.st with pend := aput S.st.pend x.op.name (Eg.apply l [((qa, qb), true)]) }, {})) := Lib.hid (by unfold Md.change; rw [if_neg (by rw [hw0.out.1]; simp), hw0.out.2, HNow.out, if_neg (fun h => of_decide_eq_false HT.out.symm h.2), if_neg (fun h => h.1 k1), ← HT.out]; rfl)
        have HA : A = {} := by rw [hA.out, HC.out]
        subst HA
        clear hA
        go_upto_region 19 with fail
        have HZ := Lib.hid (fun (G : Asn) W (hW : Sat (ModelAt h S * (OpAt o x * (PairB bq qa qb * G))) W) => (⟨(ModelAt.cells hW).2.2.1, (op_reads hW.right).2.1, pair_reads hW.right.right⟩ : _ ∧ _ ∧ _ ∧ _))
        have M5 : Sat (ModelAt h S * (OpAt o x * (PairB bq qa qb * (ansZ r * (Pool p * F))))) w5 := K5.of_eq (by ac_rfl)
        have Z0 := HZ.out _ _ M5.drew
        have Z1 := HZ.out _ _ ((M5.alloc (.cells #[.int .i64 qa, .int .i64 qb, .bool true] 51)).drew)
        have C5 : Sat (pts w5.heap.size (.cells #[.int .i64 qa, .int .i64 qb, .bool true] 51 (0, 0)) * (Pool p * (ModelAt h S * (OpAt o x * (PairB bq qa qb * (ansZ r * F)))))) (w5.alloc (.cells #[.int .i64 qa, .int .i64 qb, .bool true] 51)).drew := (M5.new _).drew.of_eq (by ac_rfl)
        have rc := chg_reads (F := Pool p * (ModelAt h S * (OpAt o x * (PairB bq qa qb * (ansZ r * F))))) w5.heap.size qa qb true
        have rl := (R1.out _ _ C5.right).with (G := pts w5.heap.size (.cells #[.int .i64 qa, .int .i64 qb, .bool true] 51 (0, 0)))
        clear x0 x1 x2 x3 x4 x5 x6 x7 x8 x9 Q0 Q1
        go_region_held3 (fun W => W.cell? ⟨h.b, 2, none⟩ = some (.map (some h.bp)) ∧ W.cell? ⟨o, 1, none⟩ = some (.string x.op.name) ∧ W.cell? ⟨bq, 0, none⟩ = some (.int .i64 qa) ∧ W.cell? ⟨bq, 1, none⟩ = some (.int .i64 qb)) (first | exact Z0 | exact Z1 | exact Z2 | exact Z3) (first
          | (go_at_call 72; with_reducible refine apply_any rl (by omega) rc (by simp) C5 ?_; intro v6 w6 H6 I6; obtain ⟨ga, gc, rfl⟩ := row_slice2 H6; have M6 := H6.of_eq (show _ = ModelAt h S * (OpAt o x * (PairB bq qa qb * (ansZ r * (RowP (.slice ga (Eg.apply l [((qa, qb), true)]).length gc) (Eg.apply l [((qa, qb), true)]) * (Pool p * (pts w5.heap.size (.cells #[.int .i64 qa, .int .i64 qb, .bool true] 51 (0, 0)) * F)))))) from by ac_rfl); have Z2 := HZ.out _ _ M6; obtain ⟨w7, e7, H7, I7⟩ := run_update (P := Tryz.prog) (T := 72) strKey Tryz.underlying72 Tryz.underlying9 (ModelAt.asP M6) x.op.name (.slice ga (Eg.apply l [((qa, qb), true)]).length gc, Eg.apply l [((qa, qb), true)]); have M7 : Sat (ModelAt h (S.pput x.op.name (.slice ga (Eg.apply l [((qa, qb), true)]).length gc) (Eg.apply l [((qa, qb), true)])) * _) w7 := ModelAt.ofP H7; have Z3 : _ ∧ _ ∧ _ ∧ _ := ⟨(ModelAt.cells M7).2.2.1, (op_reads M7.right).2.1, pair_reads M7.right.right⟩))
        all_goals
          have K7 := M7.of_eq (show _ = ansZ r * (OpAt o x * (PairB bq qa qb * (pts w5.heap.size (.cells #[.int .i64 qa, .int .i64 qb, .bool true] 51 (0, 0)) * (ModelAt h (S.pput x.op.name (.slice ga (Eg.apply l [((qa, qb), true)]).length gc) (Eg.apply l [((qa, qb), true)])) * (RowP (.slice ga (Eg.apply l [((qa, qb), true)]).length gc) (Eg.apply l [((qa, qb), true)]) * (Pool p * F)))))) from by ac_rfl)
          clear Z0 Z1 Z2 Z3
          go_wp2_with (with_reducible refine store_ans rfl (.tmp 4) (.tmp 86) rfl rfl nil4_fit (A := {}) K7 rfl ?_; intro w8 H8 I8; obtain ⟨d0, d1, d2, d3, d4, d5, d6, d7⟩ := ansA_reads H8)
          have K8 := H8.right.right.right.right
          exact bodyPost_ret (v := ansV {} nil4) (by simp [results, Tryz.results36, go_sem, d0, d1, d2, d3, d4, d5, d6, d7]) rfl (HH.out (S.pput x.op.name (.slice ga (Eg.apply l [((qa, qb), true)]).length gc) (Eg.apply l [((qa, qb), true)])) ((.slice ga (Eg.apply l [((qa, qb), true)]).length gc, Eg.apply l [((qa, qb), true)]) :: p) _ (by rw [MV.pput_st, HC.out]) (MV.pput_ok hk) (fun _ h => List.mem_cons_of_mem _ h) (K8.of_eq (by rw [pool_cons]; ac_rfl)) ((((I5.alloc _).drew.trans I6).trans I7).trans I8))
    · have k1 : ¬ x.op.kind = 1 := by omega
      cases th with
      | true =>
        have HC : Hid (Md.change S.st x.op = ({ S.st with pend := aput S.st.pend x.op.name (Eg.apply l [((qa, qb), false)]) }, {})) := Lib.hid (by unfold Md.change; rw [if_neg (by rw [hw0.out.1]; simp), hw0.out.2, HNow.out, if_neg (fun h => k1 h.1), if_neg (fun h => h.2 (of_decide_eq_true HT.out.symm)), ← HT.out]; rfl)
        have HA : A = {} := by rw [hA.out, HC.out]
        subst HA
        clear hA
        go_upto_region 19 with fail
        have HZ := Lib.hid (fun (G : Asn) W (hW : Sat (ModelAt h S * (OpAt o x * (PairB bq qa qb * G))) W) => (⟨(ModelAt.cells hW).2.2.1, (op_reads hW.right).2.1, pair_reads hW.right.right⟩ : _ ∧ _ ∧ _ ∧ _))
        have M5 : Sat (ModelAt h S * (OpAt o x * (PairB bq qa qb * (ansZ r * (Pool p * F))))) w5 := K5.of_eq (by ac_rfl)
        have Z0 := HZ.out _ _ M5.drew
        have Z1 := HZ.out _ _ ((M5.alloc (.cells #[.int .i64 qa, .int .i64 qb, .bool false] 51)).drew)
        have C5 : Sat (pts w5.heap.size (.cells #[.int .i64 qa, .int .i64 qb, .bool false] 51 (0, 0)) * (Pool p * (ModelAt h S * (OpAt o x * (PairB bq qa qb * (ansZ r * F)))))) (w5.alloc (.cells #[.int .i64 qa, .int .i64 qb, .bool false] 51)).drew := (M5.new _).drew.of_eq (by ac_rfl)
        have rc := chg_reads (F := Pool p * (ModelAt h S * (OpAt o x * (PairB bq qa qb * (ansZ r * F))))) w5.heap.size qa qb false
        have rl := (R1.out _ _ C5.right).with (G := pts w5.heap.size (.cells #[.int .i64 qa, .int .i64 qb, .bool false] 51 (0, 0)))
        clear x0 x1 x2 x3 x4 x5 x6 x7 x8 x9 Q0 Q1
        go_region_held3 (fun W => W.cell? ⟨h.b, 2, none⟩ = some (.map (some h.bp)) ∧ W.cell? ⟨o, 1, none⟩ = some (.string x.op.name) ∧ W.cell? ⟨bq, 0, none⟩ = some (.int .i64 qa) ∧ W.cell? ⟨bq, 1, none⟩ = some (.int .i64 qb)) (first | exact Z0 | exact Z1 | exact Z2 | exact Z3) (first
          | (go_at_call 72; with_reducible refine apply_any rl (by omega) rc (by simp) C5 ?_; intro v6 w6 H6 I6; obtain ⟨ga, gc, rfl⟩ := row_slice2 H6; have M6 := H6.of_eq (show _ = ModelAt h S * (OpAt o x * (PairB bq qa qb * (ansZ r * (RowP (.slice ga (Eg.apply l [((qa, qb), false)]).length gc) (Eg.apply l [((qa, qb), false)]) * (Pool p * (pts w5.heap.size (.cells #[.int .i64 qa, .int .i64 qb, .bool false] 51 (0, 0)) * F)))))) from by ac_rfl); have Z2 := HZ.out _ _ M6; obtain ⟨w7, e7, H7, I7⟩ := run_update (P := Tryz.prog) (T := 72) strKey Tryz.underlying72 Tryz.underlying9 (ModelAt.asP M6) x.op.name (.slice ga (Eg.apply l [((qa, qb), false)]).length gc, Eg.apply l [((qa, qb), false)]); have M7 : Sat (ModelAt h (S.pput x.op.name (.slice ga (Eg.apply l [((qa, qb), false)]).length gc) (Eg.apply l [((qa, qb), false)])) * _) w7 := ModelAt.ofP H7; have Z3 : _ ∧ _ ∧ _ ∧ _ := ⟨(ModelAt.cells M7).2.2.1, (op_reads M7.right).2.1, pair_reads M7.right.right⟩))
        all_goals
          have K7 := M7.of_eq (show _ = ansZ r * (OpAt o x * (PairB bq qa qb * (pts w5.heap.size (.cells #[.int .i64 qa, .int .i64 qb, .bool false] 51 (0, 0)) * (ModelAt h (S.pput x.op.name (.slice ga (Eg.apply l [((qa, qb), false)]).length gc) (Eg.apply l [((qa, qb), false)])) * (RowP (.slice ga (Eg.apply l [((qa, qb), false)]).length gc) (Eg.apply l [((qa, qb), false)]) * (Pool p * F)))))) from by ac_rfl)
          clear Z0 Z1 Z2 Z3
          go_wp2_with (with_reducible refine store_ans rfl (.tmp 4) (.tmp 86) rfl rfl nil4_fit (A := {}) K7 rfl ?_; intro w8 H8 I8; obtain ⟨d0, d1, d2, d3, d4, d5, d6, d7⟩ := ansA_reads H8)
          have K8 := H8.right.right.right.right
          exact bodyPost_ret (v := ansV {} nil4) (by simp [results, Tryz.results36, go_sem, d0, d1, d2, d3, d4, d5, d6, d7]) rfl (HH.out (S.pput x.op.name (.slice ga (Eg.apply l [((qa, qb), false)]).length gc) (Eg.apply l [((qa, qb), false)])) ((.slice ga (Eg.apply l [((qa, qb), false)]).length gc, Eg.apply l [((qa, qb), false)]) :: p) _ (by rw [MV.pput_st, HC.out]) (MV.pput_ok hk) (fun _ h => List.mem_cons_of_mem _ h) (K8.of_eq (by rw [pool_cons]; ac_rfl)) ((((I5.alloc _).drew.trans I6).trans I7).trans I8))
      | false =>
        have HC : Hid (Md.change S.st x.op = (S.st, Md.fail 181)) := Lib.hid (by unfold Md.change; rw [if_neg (by rw [hw0.out.1]; simp), hw0.out.2, HNow.out, if_neg (fun h => k1 h.1), if_pos ⟨k1, of_decide_eq_false HT.out.symm⟩])
        have HA : A = Md.fail 181 := by rw [hA.out, HC.out]
        subst HA
        clear hA
        go_wp2_with (first
          | (go_at_call 35; with_reducible refine fail_any 181 K5 ?_; intro w7 H7 I7)
          | (with_reducible refine store_ans rfl (.tmp 4) (.tmp 72) rfl rfl nil4_fit H7 rfl ?_; intro w6 H6 I6; obtain ⟨d0, d1, d2, d3, d4, d5, d6, d7⟩ := ansA_reads H6))
        exact bodyPost_ret (v := ansV (Md.fail 181) nil4) (by simp [results, Tryz.results36, go_sem, d0, d1, d2, d3, d4, d5, d6, d7]) rfl (HH.out S p _ (by rw [HC.out]) hk (fun _ h => h) H6.right.right.right ((I5.trans I7).trans I6))
  · have hw0 : Hid (Md.wrong x.op.u x.op.v = we) := Lib.hid (by rw [← mkE_wrong]; exact HM.out.2)
    have hne := Lib.hid hwe
    have HC : Hid (Md.change S.st x.op = (S.st, Md.fail we)) := Lib.hid (by unfold Md.change; rw [hw0.out, if_pos hne.out])
    have HA : A = Md.fail we := by rw [hA.out, HC.out]
    subst HA
    clear hA
    go_wp2_with (first
      | (go_at_call 35; with_reducible refine fail_any we K3 ?_; intro w5 H5 I5)
      | (with_reducible refine store_ans rfl (.tmp 4) (.tmp 48) rfl rfl nil4_fit H5 rfl ?_; intro w6 H6 I6; obtain ⟨d0, d1, d2, d3, d4, d5, d6, d7⟩ := ansA_reads H6))
    exact bodyPost_ret (v := ansV (Md.fail we) nil4) (by simp [results, Tryz.results36, go_sem, d0, d1, d2, d3, d4, d5, d6, d7]) rfl (HH.out S p _ (by rw [HC.out]) hk (fun _ h => h) H6.right.right.right ((I3.trans I5).trans I6))
end
end Go.Proofs.YtabpgejjnphfcaaGreat

/-
  The model of the index: ask, by its walk. It proves no statement by itself.
-/
namespace Go.Proofs.YtabpgejjnphfcaaGreat
open Go.RowKit Go.Lib Go.MapKept
open Md (Nm St)
set_option linter.unusedSimpArgs false
set_option linter.unusedVariables false
set_option linter.unusedSectionVars false
section
variable {F : Asn} {w : World} {R : Ending → World → Prop} {h : Mh} {S : MV} {p : Pl}
set_option maxRecDepth 100000 in
set_option maxHeartbeats 16000000 in
theorem ask_f8 (x : OpX) (h8 : x.op.kind = 8) (hk : S.Ok p) (hb : ∀ id, (S.vv id).2.2.length ≤ 10000) {A : Md.An} (hA : Hid (A = Md.ask S.st x.op)) (H : Sat (ModelAt h S * (Pool p * F)) w)
    (hh : ∀ s w', s.Fit → Sat (AnsAt A s * (ModelAt h S * (Pool p * F))) w' → Io w w' → R (.returned (ansV A s)) w') :
    Calls Tryz.prog 34 #[h.ptr, opV x] w R := by
  have HH := Lib.hid hh
  clear hh
  have H00 : Sat (OpAt w.heap.size x * (ModelAt h S * (Pool p * F))) (w.alloc (.cells (opC x) 41)) := H.new _
  have I00 : Io w (w.alloc (.cells (opC x) 41)) := (Io.refl w).alloc _
  have H0 := ansZ_new H00
  have I0 := I00.trans (io_ansZ _)
  obtain ⟨xa, xc, hxa⟩ := (hk.vv x.op.a).slice H.right
  obtain ⟨ya, yc, hya⟩ := (hk.vv x.op.b).slice H.right
  have hr : (w.alloc (.cells (opC x) 41)).heap.size = w.heap.size + 1 := by simp
  rw [hr] at H0
  obtain ⟨tx, htx⟩ : ∃ b, b = (aget S.vers x.op.a).isSome := ⟨_, rfl⟩
  obtain ⟨ty, hty⟩ : ∃ b, b = (aget S.vers x.op.b).isSome := ⟨_, rfl⟩
  have HTX := Lib.hid htx
  have HTY := Lib.hid hty
  have L1 : ∀ (G : Asn) W, Sat (ModelAt h S * G) W → (Instr.lookup 70 (.map (some h.bv)) (.int .i64 x.op.a) true).run Tryz.prog W = .ok (.tuple #[.agg #[.int .i64 (S.vv x.op.a).1, .slice xa (S.vv x.op.a).2.2.length xc], .bool tx]) W := fun G W hW => by rw [htx, ← hxa]; exact look_ver2 hW _
  have L2 : ∀ (G : Asn) W, Sat (ModelAt h S * G) W → (Instr.lookup 70 (.map (some h.bv)) (.int .i64 x.op.b) true).run Tryz.prog W = .ok (.tuple #[.agg #[.int .i64 (S.vv x.op.b).1, .slice ya (S.vv x.op.b).2.2.length yc], .bool ty]) W := fun G W hW => by rw [hty, ← hya]; exact look_ver2 hW _
  have R1 := Lib.hid (fun (G : Asn) W (hW : Sat (Pool p * G) W) => (by have := (hk.vv x.op.a).reads (Nat.le_trans (hb _) (by omega)) hW; rw [hxa] at this; exact this : ReadsP (Pool p * G) (.slice xa (S.vv x.op.a).2.2.length xc) (S.vv x.op.a).2.2))
  have R2 := Lib.hid (fun (G : Asn) W (hW : Sat (Pool p * G) W) => (by have := (hk.vv x.op.b).reads (Nat.le_trans (hb _) (by omega)) hW; rw [hya] at this; exact this : ReadsP (Pool p * G) (.slice ya (S.vv x.op.b).2.2.length yc) (S.vv x.op.b).2.2))
  have HX : Hid ((Md.vget S.st x.op.a).2 = (S.vv x.op.a).2.2) := Lib.hid (by rw [MV.vget_st]; rfl)
  have HY : Hid ((Md.vget S.st x.op.b).2 = (S.vv x.op.b).2.2) := Lib.hid (by rw [MV.vget_st]; rfl)
  have lx := hb x.op.a
  have ly := hb x.op.b
  have HL1 := Lib.hid L1
  have HL2 := Lib.hid L2
  clear htx hty L1 L2 hxa hya H00 I00 hb
  generalize (S.vv x.op.a).1 = xp at *
  generalize (S.vv x.op.b).1 = yp at *
  generalize (S.vv x.op.a).2.2 = l at *
  generalize (S.vv x.op.b).2.2 = m at *
  go_enter Tryz.func34, Tryz.ntmps34
  go_upto_region 1 with fail
  generalize (w.alloc (.cells (opC x) 41)).alloc (.cells #[.int .i64 0, .int .i64 0, .bool false, .int .i64 0, .slice none 0 0, .slice none 0 0, .slice none 0 0, .slice none 0 0] 37) = w0 at *
  generalize w.heap.size + 1 = r at *
  generalize w.heap.size = o at *
  have HZ := Lib.hid (fun (G : Asn) W (hW : Sat (ModelAt h S * (OpAt o x * G)) W) => (⟨(ModelAt.cells hW).1, (op_reads hW.right).2.2.2.2.1, HL1.out _ _ hW⟩ : _ ∧ _ ∧ _))
  have HY2 := Lib.hid (fun (G : Asn) W (hW : Sat (ModelAt h S * (OpAt o x * G)) W) => (⟨(ModelAt.cells hW).1, (op_reads hW.right).2.2.2.2.2.1, HL2.out _ _ hW⟩ : _ ∧ _ ∧ _))
  have H1 : Sat (ModelAt h S * (OpAt o x * (ansZ r * (Pool p * F)))) w0 := H0.of_eq (by ac_rfl)
  have Z0 := HZ.out _ _ H1.drew
  have Z1 := HZ.out _ _ ((H1.alloc (.cells #[.int .i64 0, .slice none 0 0] 69)).drew)
  have Z2 := HZ.out _ _ ((H1.alloc (.cells #[.int .i64 xp, .slice xa l.length xc] 69)).drew)
  go_region_held3 (fun W => W.cell? ⟨h.b, 0, none⟩ = some (.map (some h.bv)) ∧ W.cell? ⟨o, 4, none⟩ = some (.int .i64 x.op.a) ∧ (Instr.lookup 70 (.map (some h.bv)) (.int .i64 x.op.a) true).run Tryz.prog W = .ok (.tuple #[.agg #[.int .i64 xp, .slice xa l.length xc], .bool tx]) W) (first | exact Z0 | exact Z1 | exact Z2) (fail)
  all_goals
    have H2 : Sat (VerB w0.heap.size xp xa l.length xc * (ModelAt h S * (OpAt o x * (ansZ r * (Pool p * F))))) (w0.alloc (.cells #[.int .i64 xp, .slice xa l.length xc] 69)).drew := (H1.new _).drew
    have I2 := (I0.alloc (.cells #[.int .i64 xp, .slice xa l.length xc] 69)).drew
    go_upto_region 2 with fail
    clear Z0 Z1 Z2 H1 I0 HZ H0
    generalize (w0.alloc (.cells #[.int .i64 xp, .slice xa l.length xc] 69)).drew = w1 at *
    generalize w0.heap.size = bx at *
    have K2 : Sat (ModelAt h S * (OpAt o x * (VerB bx xp xa l.length xc * (ansZ r * (Pool p * F))))) w1 := H2.of_eq (by ac_rfl)
    have Z0 := HY2.out _ _ K2.drew
    have Z1 := HY2.out _ _ ((K2.alloc (.cells #[.int .i64 0, .slice none 0 0] 69)).drew)
    have Z2 := HY2.out _ _ ((K2.alloc (.cells #[.int .i64 yp, .slice ya m.length yc] 69)).drew)
    go_region_held3 (fun W => W.cell? ⟨h.b, 0, none⟩ = some (.map (some h.bv)) ∧ W.cell? ⟨o, 5, none⟩ = some (.int .i64 x.op.b) ∧ (Instr.lookup 70 (.map (some h.bv)) (.int .i64 x.op.b) true).run Tryz.prog W = .ok (.tuple #[.agg #[.int .i64 yp, .slice ya m.length yc], .bool ty]) W) (first | exact Z0 | exact Z1 | exact Z2) (fail)
    all_goals
      have H3 : Sat (VerB w1.heap.size yp ya m.length yc * (ModelAt h S * (OpAt o x * (VerB bx xp xa l.length xc * (ansZ r * (Pool p * F)))))) (w1.alloc (.cells #[.int .i64 yp, .slice ya m.length yc] 69)).drew := (K2.new _).drew
      have I3 := (I2.alloc (.cells #[.int .i64 yp, .slice ya m.length yc] 69)).drew
      go_upto_region 3 with fail
      clear Z0 Z1 Z2 K2 H2 I2 HY2 HL1 HL2
      generalize (w1.alloc (.cells #[.int .i64 yp, .slice ya m.length yc] 69)).drew = w2 at *
      generalize w1.heap.size = by' at *
      have K3 : Sat (ansZ r * (OpAt o x * (VerB bx xp xa l.length xc * (VerB by' yp ya m.length yc * (ModelAt h S * (Pool p * F)))))) w2 := H3.of_eq (by ac_rfl)
      clear H3
      obtain ⟨x0, x1, x2, x3, x4, x5, x6, x7, x8, x9⟩ := op_reads K3.right
      cases tx with
      | false =>
        have HA : A = Md.fail 190 := by rw [hA.out]; unfold Md.ask; rw [if_pos (.inl (by rw [vers_some, ← HTX.out]))]
        subst HA
        clear hA
        go_wp2_with (first
          | (go_at_call 35; with_reducible refine fail_any 190 K3 ?_; intro w5 H5 I5)
          | (with_reducible refine store_ans rfl (.tmp 4) (.tmp 43) rfl rfl nil4_fit H5 rfl ?_; intro w6 H6 I6; obtain ⟨d0, d1, d2, d3, d4, d5, d6, d7⟩ := ansA_reads H6))
        exact bodyPost_ret (v := ansV (Md.fail 190) nil4) (by simp [results, Tryz.results34, go_sem, d0, d1, d2, d3, d4, d5, d6, d7]) rfl (HH.out nil4 _ nil4_fit (ansAt_nil rfl rfl rfl rfl H6.right.right.right.right) ((I3.trans I5).trans I6))
      | true =>
        cases ty with
        | false =>
          have HA : A = Md.fail 190 := by rw [hA.out]; unfold Md.ask; rw [if_pos (.inr ⟨h8, by rw [vers_some, ← HTY.out]⟩)]
          subst HA
          clear hA
          go_wp2_with (first
            | (go_at_call 35; with_reducible refine fail_any 190 K3 ?_; intro w5 H5 I5)
            | (with_reducible refine store_ans rfl (.tmp 4) (.tmp 43) rfl rfl nil4_fit H5 rfl ?_; intro w6 H6 I6; obtain ⟨d0, d1, d2, d3, d4, d5, d6, d7⟩ := ansA_reads H6))
          exact bodyPost_ret (v := ansV (Md.fail 190) nil4) (by simp [results, Tryz.results34, go_sem, d0, d1, d2, d3, d4, d5, d6, d7]) rfl (HH.out nil4 _ nil4_fit (ansAt_nil rfl rfl rfl rfl H6.right.right.right.right) ((I3.trans I5).trans I6))
        | true =>
          have HA : A = { changes := Eg.diff l m } := by
            rw [hA.out]; unfold Md.ask
            rw [if_neg (by rw [vers_some, vers_some, ← HTX.out, ← HTY.out]; simp), if_pos h8, HX.out, HY.out]
          subst HA
          clear hA
          go_upto_region 5 with fail
          go_quiet (first | (go_at_call 66; exact vertex_any _ ⟨rfl, _, rfl⟩))
          have K4 := K3.drewN nq
          have I4 := I3.drewN nq
          generalize w2.drewN nq = w3 at *
          clear K3 I3 x0 x1 x2 x3 x4 x5 x6 x7 x8 x9
          obtain ⟨x0, x1, x2, x3, x4, x5, x6, x7, x8, x9⟩ := op_reads K4.right
          have X1 := Sat.read K4.right.right.left.at 1
          have Y1 := Sat.read K4.right.right.right.left.at 1
          simp only [List.getElem?_toArray, List.getElem?_cons_zero, List.getElem?_cons_succ] at X1 Y1
          have P4 : Sat (Pool p * (ansZ r * (OpAt o x * (VerB bx xp xa l.length xc * (VerB by' yp ya m.length yc * (ModelAt h S * F)))))) w3 := K4.of_eq (by ac_rfl)
          have rx := R1.out _ _ P4
          have ry := R2.out _ _ P4
          go_wp2_with (first
            | (go_at_call 67; with_reducible refine diff_any rx (by omega) ry (by omega) P4 ?_; intro v' w5 H5 I5; obtain ⟨da, dc, rfl⟩ := row_slice2 H5; have K5 : Sat (ansZ r * (RowC (.slice da (Eg.diff l m).length dc) (Eg.diff l m) * (OpAt o x * (VerB bx xp xa l.length xc * (VerB by' yp ya m.length yc * (ModelAt h S * (Pool p * F))))))) w5 := H5.of_eq (by ac_rfl))
            | (with_reducible refine store_ans (A := { changes := Eg.diff l m }) (s := ⟨.slice da (Eg.diff l m).length dc, .slice none 0 0, .slice none 0 0, .slice none 0 0⟩) rfl (.tmp 4) (.tmp 59) rfl rfl ⟨rfl, rfl, rfl, rfl⟩ K5 rfl ?_; intro w6 H6 I6; obtain ⟨d0, d1, d2, d3, d4, d5, d6, d7⟩ := ansA_reads H6))
          have H7 : Sat (RowC (.slice da (Eg.diff l m).length dc) (Eg.diff l m) * (ModelAt h S * (Pool p * F))) w6 := (H6.of_eq (show _ = (ansA r { changes := Eg.diff l m } ⟨.slice da (Eg.diff l m).length dc, .slice none 0 0, .slice none 0 0, .slice none 0 0⟩ * (OpAt o x * (VerB bx xp xa l.length xc * VerB by' yp ya m.length yc))) * (RowC (.slice da (Eg.diff l m).length dc) (Eg.diff l m) * (ModelAt h S * (Pool p * F))) from by ac_rfl)).right
          exact bodyPost_ret (v := ansV { changes := Eg.diff l m } ⟨.slice da (Eg.diff l m).length dc, .slice none 0 0, .slice none 0 0, .slice none 0 0⟩) (by simp [results, Tryz.results34, go_sem, d0, d1, d2, d3, d4, d5, d6, d7]) rfl (HH.out ⟨.slice da (Eg.diff l m).length dc, .slice none 0 0, .slice none 0 0, .slice none 0 0⟩ _ ⟨rfl, rfl, rfl, rfl⟩ (ansAt_c rfl rfl rfl rfl rfl rfl H7) ((I4.trans I5).trans I6))
end
end Go.Proofs.YtabpgejjnphfcaaGreat

/-
  The model of the index: ask, by its walk. It proves no statement by itself.
-/
namespace Go.Proofs.YtabpgejjnphfcaaGreat
open Go.RowKit Go.Lib Go.MapKept
open Md (Nm St)
set_option linter.unusedSimpArgs false
set_option linter.unusedVariables false
set_option linter.unusedSectionVars false
section
variable {F : Asn} {w : World} {R : Ending → World → Prop} {h : Mh} {S : MV} {p : Pl}
set_option maxRecDepth 100000 in
set_option maxHeartbeats 16000000 in
theorem ask_f9 (x : OpX) (h9 : x.op.kind = 9) (hk : S.Ok p) (hb : ∀ id, (S.vv id).2.2.length ≤ 10000) {A : Md.An} (hA : Hid (A = Md.ask S.st x.op)) (H : Sat (ModelAt h S * (Pool p * F)) w)
    (hh : ∀ s w', s.Fit → Sat (AnsAt A s * (ModelAt h S * (Pool p * F))) w' → Io w w' → R (.returned (ansV A s)) w') :
    Calls Tryz.prog 34 #[h.ptr, opV x] w R := by
  have HH := Lib.hid hh
  clear hh
  have H00 : Sat (OpAt w.heap.size x * (ModelAt h S * (Pool p * F))) (w.alloc (.cells (opC x) 41)) := H.new _
  have I00 : Io w (w.alloc (.cells (opC x) 41)) := (Io.refl w).alloc _
  have H0 := ansZ_new H00
  have I0 := I00.trans (io_ansZ _)
  obtain ⟨xa, xc, hxa⟩ := (hk.vv x.op.a).slice H.right
  obtain ⟨ya, yc, hya⟩ := (hk.vv x.op.b).slice H.right
  have hr : (w.alloc (.cells (opC x) 41)).heap.size = w.heap.size + 1 := by simp
  rw [hr] at H0
  obtain ⟨tx, htx⟩ : ∃ b, b = (aget S.vers x.op.a).isSome := ⟨_, rfl⟩
  obtain ⟨ty, hty⟩ : ∃ b, b = (aget S.vers x.op.b).isSome := ⟨_, rfl⟩
  have HTX := Lib.hid htx
  have HTY := Lib.hid hty
  have L1 : ∀ (G : Asn) W, Sat (ModelAt h S * G) W → (Instr.lookup 70 (.map (some h.bv)) (.int .i64 x.op.a) true).run Tryz.prog W = .ok (.tuple #[.agg #[.int .i64 (S.vv x.op.a).1, .slice xa (S.vv x.op.a).2.2.length xc], .bool tx]) W := fun G W hW => by rw [htx, ← hxa]; exact look_ver2 hW _
  have L2 : ∀ (G : Asn) W, Sat (ModelAt h S * G) W → (Instr.lookup 70 (.map (some h.bv)) (.int .i64 x.op.b) true).run Tryz.prog W = .ok (.tuple #[.agg #[.int .i64 (S.vv x.op.b).1, .slice ya (S.vv x.op.b).2.2.length yc], .bool ty]) W := fun G W hW => by rw [hty, ← hya]; exact look_ver2 hW _
  have R1 := Lib.hid (fun (G : Asn) W (hW : Sat (Pool p * G) W) => (by have := (hk.vv x.op.a).reads (Nat.le_trans (hb _) (by omega)) hW; rw [hxa] at this; exact this : ReadsP (Pool p * G) (.slice xa (S.vv x.op.a).2.2.length xc) (S.vv x.op.a).2.2))
  have R2 := Lib.hid (fun (G : Asn) W (hW : Sat (Pool p * G) W) => (by have := (hk.vv x.op.b).reads (Nat.le_trans (hb _) (by omega)) hW; rw [hya] at this; exact this : ReadsP (Pool p * G) (.slice ya (S.vv x.op.b).2.2.length yc) (S.vv x.op.b).2.2))
  have HX : Hid ((Md.vget S.st x.op.a).2 = (S.vv x.op.a).2.2) := Lib.hid (by rw [MV.vget_st]; rfl)
  have HY : Hid ((Md.vget S.st x.op.b).2 = (S.vv x.op.b).2.2) := Lib.hid (by rw [MV.vget_st]; rfl)
  have lx := hb x.op.a
  have ly := hb x.op.b
  have HL1 := Lib.hid L1
  have HL2 := Lib.hid L2
  clear htx hty L1 L2 hxa hya H00 I00 hb
  generalize (S.vv x.op.a).1 = xp at *
  generalize (S.vv x.op.b).1 = yp at *
  generalize (S.vv x.op.a).2.2 = l at *
  generalize (S.vv x.op.b).2.2 = m at *
  go_enter Tryz.func34, Tryz.ntmps34
  go_upto_region 1 with fail
  generalize (w.alloc (.cells (opC x) 41)).alloc (.cells #[.int .i64 0, .int .i64 0, .bool false, .int .i64 0, .slice none 0 0, .slice none 0 0, .slice none 0 0, .slice none 0 0] 37) = w0 at *
  generalize w.heap.size + 1 = r at *
  generalize w.heap.size = o at *
  have HZ := Lib.hid (fun (G : Asn) W (hW : Sat (ModelAt h S * (OpAt o x * G)) W) => (⟨(ModelAt.cells hW).1, (op_reads hW.right).2.2.2.2.1, HL1.out _ _ hW⟩ : _ ∧ _ ∧ _))
  have HY2 := Lib.hid (fun (G : Asn) W (hW : Sat (ModelAt h S * (OpAt o x * G)) W) => (⟨(ModelAt.cells hW).1, (op_reads hW.right).2.2.2.2.2.1, HL2.out _ _ hW⟩ : _ ∧ _ ∧ _))
  have H1 : Sat (ModelAt h S * (OpAt o x * (ansZ r * (Pool p * F)))) w0 := H0.of_eq (by ac_rfl)
  have Z0 := HZ.out _ _ H1.drew
  have Z1 := HZ.out _ _ ((H1.alloc (.cells #[.int .i64 0, .slice none 0 0] 69)).drew)
  have Z2 := HZ.out _ _ ((H1.alloc (.cells #[.int .i64 xp, .slice xa l.length xc] 69)).drew)
  go_region_held3 (fun W => W.cell? ⟨h.b, 0, none⟩ = some (.map (some h.bv)) ∧ W.cell? ⟨o, 4, none⟩ = some (.int .i64 x.op.a) ∧ (Instr.lookup 70 (.map (some h.bv)) (.int .i64 x.op.a) true).run Tryz.prog W = .ok (.tuple #[.agg #[.int .i64 xp, .slice xa l.length xc], .bool tx]) W) (first | exact Z0 | exact Z1 | exact Z2) (fail)
  all_goals
    have H2 : Sat (VerB w0.heap.size xp xa l.length xc * (ModelAt h S * (OpAt o x * (ansZ r * (Pool p * F))))) (w0.alloc (.cells #[.int .i64 xp, .slice xa l.length xc] 69)).drew := (H1.new _).drew
    have I2 := (I0.alloc (.cells #[.int .i64 xp, .slice xa l.length xc] 69)).drew
    go_upto_region 2 with fail
    clear Z0 Z1 Z2 H1 I0 HZ H0
    generalize (w0.alloc (.cells #[.int .i64 xp, .slice xa l.length xc] 69)).drew = w1 at *
    generalize w0.heap.size = bx at *
    have K2 : Sat (ModelAt h S * (OpAt o x * (VerB bx xp xa l.length xc * (ansZ r * (Pool p * F))))) w1 := H2.of_eq (by ac_rfl)
    have Z0 := HY2.out _ _ K2.drew
    have Z1 := HY2.out _ _ ((K2.alloc (.cells #[.int .i64 0, .slice none 0 0] 69)).drew)
    have Z2 := HY2.out _ _ ((K2.alloc (.cells #[.int .i64 yp, .slice ya m.length yc] 69)).drew)
    go_region_held3 (fun W => W.cell? ⟨h.b, 0, none⟩ = some (.map (some h.bv)) ∧ W.cell? ⟨o, 5, none⟩ = some (.int .i64 x.op.b) ∧ (Instr.lookup 70 (.map (some h.bv)) (.int .i64 x.op.b) true).run Tryz.prog W = .ok (.tuple #[.agg #[.int .i64 yp, .slice ya m.length yc], .bool ty]) W) (first | exact Z0 | exact Z1 | exact Z2) (fail)
    all_goals
      have H3 : Sat (VerB w1.heap.size yp ya m.length yc * (ModelAt h S * (OpAt o x * (VerB bx xp xa l.length xc * (ansZ r * (Pool p * F)))))) (w1.alloc (.cells #[.int .i64 yp, .slice ya m.length yc] 69)).drew := (K2.new _).drew
      have I3 := (I2.alloc (.cells #[.int .i64 yp, .slice ya m.length yc] 69)).drew
      go_upto_region 3 with fail
      clear Z0 Z1 Z2 K2 H2 I2 HY2 HL1 HL2
      generalize (w1.alloc (.cells #[.int .i64 yp, .slice ya m.length yc] 69)).drew = w2 at *
      generalize w1.heap.size = by' at *
      have K3 : Sat (ansZ r * (OpAt o x * (VerB bx xp xa l.length xc * (VerB by' yp ya m.length yc * (ModelAt h S * (Pool p * F)))))) w2 := H3.of_eq (by ac_rfl)
      clear H3
      obtain ⟨x0, x1, x2, x3, x4, x5, x6, x7, x8, x9⟩ := op_reads K3.right
      cases tx with
      | false =>
        have HA : A = Md.fail 190 := by rw [hA.out]; unfold Md.ask; rw [if_pos (.inl (by rw [vers_some, ← HTX.out]))]
        subst HA
        clear hA
        go_wp2_with (first
          | (go_at_call 35; with_reducible refine fail_any 190 K3 ?_; intro w5 H5 I5)
          | (with_reducible refine store_ans rfl (.tmp 4) (.tmp 43) rfl rfl nil4_fit H5 rfl ?_; intro w6 H6 I6; obtain ⟨d0, d1, d2, d3, d4, d5, d6, d7⟩ := ansA_reads H6))
        exact bodyPost_ret (v := ansV (Md.fail 190) nil4) (by simp [results, Tryz.results34, go_sem, d0, d1, d2, d3, d4, d5, d6, d7]) rfl (HH.out nil4 _ nil4_fit (ansAt_nil rfl rfl rfl rfl H6.right.right.right.right) ((I3.trans I5).trans I6))
      | true =>
        have HTT := HTX
        have h8 : ¬ x.op.kind = 8 := by omega
        have HC : Hid (¬ ((aget S.st.vers x.op.a).isSome = false ∨ x.op.kind = 8 ∧ (aget S.st.vers x.op.b).isSome = false)) := Lib.hid (by rw [vers_some, ← HTX.out]; simp [h8])
        obtain ⟨e1, he1⟩ : ∃ e, e = verE x.op.u := ⟨_, rfl⟩
        obtain ⟨e2, he2⟩ : ∃ e, e = verE x.op.v := ⟨_, rfl⟩
        have HE1 := Lib.hid he1
        have HE2 := Lib.hid he2
        clear he1 he2
        go_upto_region 5 with fail
        go_quiet (first | (go_at_call 66; first | (with_reducible refine vertex_e x.op.u HE1 ?_; exact ⟨rfl, _, rfl⟩) | (with_reducible refine vertex_e x.op.v HE2 ?_; exact ⟨rfl, _, rfl⟩)))
        have K4 := K3.drewN nq
        have I4 := I3.drewN nq
        generalize w2.drewN nq = w3 at *
        clear K3 I3 x0 x1 x2 x3 x4 x5 x6 x7 x8 x9
        obtain ⟨x0, x1, x2, x3, x4, x5, x6, x7, x8, x9⟩ := op_reads K4.right
        have X1 := Sat.read K4.right.right.left.at 1
        simp only [List.getElem?_toArray, List.getElem?_cons_zero, List.getElem?_cons_succ] at X1
        have P4 : Sat (Pool p * (ansZ r * (OpAt o x * (VerB bx xp xa l.length xc * (VerB by' yp ya m.length yc * (ModelAt h S * F)))))) w3 := K4.of_eq (by ac_rfl)
        have rx := R1.out _ _ P4
        go_upto_region 9 with fail
        have E1 := verE_vtx x.op.u
        have E2 := verE_vtx x.op.v
        rw [← HE1.out] at E1
        rw [← HE2.out] at E2
        have V1 := Lib.hid E1
        have V2 := Lib.hid E2
        clear E1 E2
        cases hu : Md.vtx x.op.u with
        | false =>
          obtain rfl : e1 = 30 := by rw [V1.out, hu]; rfl
          cases hv : Md.vtx x.op.v with
          | false =>
            obtain rfl : e2 = 30 := by rw [V2.out, hv]; rfl
            have HA : A = Md.fail 30 := by rw [hA.out]; unfold Md.ask; rw [if_neg HC.out, if_neg h8, if_pos h9, if_pos (by simp [hu])]
            subst HA
            clear hA
            go_wp2_with (first
              | (go_at_call 35; with_reducible refine fail_e 30 (by decide) K4 ?_; intro w5 H5 I5)
              | (with_reducible refine store_ans rfl (.tmp 4) (.tmp 68) rfl rfl nil4_fit H5 rfl ?_; intro w6 H6 I6; obtain ⟨d0, d1, d2, d3, d4, d5, d6, d7⟩ := ansA_reads H6))
            exact bodyPost_ret (v := ansV (Md.fail 30) nil4) (by simp [results, Tryz.results34, go_sem, d0, d1, d2, d3, d4, d5, d6, d7]) rfl (HH.out nil4 _ nil4_fit (ansAt_nil rfl rfl rfl rfl H6.right.right.right.right) ((I4.trans I5).trans I6))
          | true =>
            obtain rfl : e2 = 0 := by rw [V2.out, hv]; rfl
            have HA : A = Md.fail 30 := by rw [hA.out]; unfold Md.ask; rw [if_neg HC.out, if_neg h8, if_pos h9, if_pos (by simp [hu])]
            subst HA
            clear hA
            go_wp2_with (first
              | (go_at_call 35; with_reducible refine fail_e 30 (by decide) K4 ?_; intro w5 H5 I5)
              | (with_reducible refine store_ans rfl (.tmp 4) (.tmp 68) rfl rfl nil4_fit H5 rfl ?_; intro w6 H6 I6; obtain ⟨d0, d1, d2, d3, d4, d5, d6, d7⟩ := ansA_reads H6))
            exact bodyPost_ret (v := ansV (Md.fail 30) nil4) (by simp [results, Tryz.results34, go_sem, d0, d1, d2, d3, d4, d5, d6, d7]) rfl (HH.out nil4 _ nil4_fit (ansAt_nil rfl rfl rfl rfl H6.right.right.right.right) ((I4.trans I5).trans I6))
        | true =>
          obtain rfl : e1 = 0 := by rw [V1.out, hu]; rfl
          cases hv : Md.vtx x.op.v with
          | false =>
            obtain rfl : e2 = 30 := by rw [V2.out, hv]; rfl
            have HA : A = Md.fail 30 := by rw [hA.out]; unfold Md.ask; rw [if_neg HC.out, if_neg h8, if_pos h9, if_pos (by simp [hu, hv])]
            subst HA
            clear hA
            go_wp2_with (first
              | (go_at_call 35; with_reducible refine fail_e 30 (by decide) K4 ?_; intro w5 H5 I5)
              | (with_reducible refine store_ans rfl (.tmp 4) (.tmp 68) rfl rfl nil4_fit H5 rfl ?_; intro w6 H6 I6; obtain ⟨d0, d1, d2, d3, d4, d5, d6, d7⟩ := ansA_reads H6))
            exact bodyPost_ret (v := ansV (Md.fail 30) nil4) (by simp [results, Tryz.results34, go_sem, d0, d1, d2, d3, d4, d5, d6, d7]) rfl (HH.out nil4 _ nil4_fit (ansAt_nil rfl rfl rfl rfl H6.right.right.right.right) ((I4.trans I5).trans I6))
          | true =>
            obtain rfl : e2 = 0 := by rw [V2.out, hv]; rfl
            obtain ⟨d, hd⟩ : ∃ d, d = decide (x.op.v ∈ Gr.members l x.op.u) := ⟨_, rfl⟩
            have HD : Hid (d = true ↔ Gr.Reach l x.op.u x.op.v) := Lib.hid (by rw [hd, ← Gr.mem_members]; simp)
            have HD2 := Lib.hid hd
            clear hd
            have HA : A = { yes := d } := by rw [hA.out]; unfold Md.ask; rw [if_neg HC.out, if_neg h8, if_pos h9, if_neg (by simp [hu, hv]), HX.out, HD2.out]
            subst HA
            clear hA
            go_wp2_with (first
              | (go_at_call 11; with_reducible refine joined_any rx lx x.op.u x.op.v HD P4 ?_; intro w5 H5 I5; have K5 : Sat (ansZ r * (OpAt o x * (VerB bx xp xa l.length xc * (VerB by' yp ya m.length yc * (ModelAt h S * (Pool p * F)))))) w5 := H5.of_eq (by ac_rfl))
              | (with_reducible refine store_ans (A := { yes := d }) rfl (.tmp 4) (.tmp 76) rfl rfl nil4_fit K5 rfl ?_; intro w6 H6 I6; obtain ⟨d0, d1, d2, d3, d4, d5, d6, d7⟩ := ansA_reads H6))
            exact bodyPost_ret (v := ansV { yes := d } nil4) (by simp [results, Tryz.results34, go_sem, d0, d1, d2, d3, d4, d5, d6, d7]) rfl (HH.out nil4 _ nil4_fit (ansAt_nil rfl rfl rfl rfl H6.right.right.right.right) ((I4.trans I5).trans I6))
end
end Go.Proofs.YtabpgejjnphfcaaGreat

/-
  The model of the index: ask, by its walk. It proves no statement by itself.
-/
namespace Go.Proofs.YtabpgejjnphfcaaGreat
open Go.RowKit Go.Lib Go.MapKept
open Md (Nm St)
set_option linter.unusedSimpArgs false
set_option linter.unusedVariables false
set_option linter.unusedSectionVars false
section
variable {F : Asn} {w : World} {R : Ending → World → Prop} {h : Mh} {S : MV} {p : Pl}
set_option maxRecDepth 100000 in
set_option maxHeartbeats 16000000 in
theorem ask_f10 (x : OpX) (h10 : x.op.kind = 10) (hk : S.Ok p) (hb : ∀ id, (S.vv id).2.2.length ≤ 10000) {A : Md.An} (hA : Hid (A = Md.ask S.st x.op)) (H : Sat (ModelAt h S * (Pool p * F)) w)
    (hh : ∀ s w', s.Fit → Sat (AnsAt A s * (ModelAt h S * (Pool p * F))) w' → Io w w' → R (.returned (ansV A s)) w') :
    Calls Tryz.prog 34 #[h.ptr, opV x] w R := by
  have HH := Lib.hid hh
  clear hh
  have H00 : Sat (OpAt w.heap.size x * (ModelAt h S * (Pool p * F))) (w.alloc (.cells (opC x) 41)) := H.new _
  have I00 : Io w (w.alloc (.cells (opC x) 41)) := (Io.refl w).alloc _
  have H0 := ansZ_new H00
  have I0 := I00.trans (io_ansZ _)
  obtain ⟨xa, xc, hxa⟩ := (hk.vv x.op.a).slice H.right
  obtain ⟨ya, yc, hya⟩ := (hk.vv x.op.b).slice H.right
  have hr : (w.alloc (.cells (opC x) 41)).heap.size = w.heap.size + 1 := by simp
  rw [hr] at H0
  obtain ⟨tx, htx⟩ : ∃ b, b = (aget S.vers x.op.a).isSome := ⟨_, rfl⟩
  obtain ⟨ty, hty⟩ : ∃ b, b = (aget S.vers x.op.b).isSome := ⟨_, rfl⟩
  have HTX := Lib.hid htx
  have HTY := Lib.hid hty
  have L1 : ∀ (G : Asn) W, Sat (ModelAt h S * G) W → (Instr.lookup 70 (.map (some h.bv)) (.int .i64 x.op.a) true).run Tryz.prog W = .ok (.tuple #[.agg #[.int .i64 (S.vv x.op.a).1, .slice xa (S.vv x.op.a).2.2.length xc], .bool tx]) W := fun G W hW => by rw [htx, ← hxa]; exact look_ver2 hW _
  have L2 : ∀ (G : Asn) W, Sat (ModelAt h S * G) W → (Instr.lookup 70 (.map (some h.bv)) (.int .i64 x.op.b) true).run Tryz.prog W = .ok (.tuple #[.agg #[.int .i64 (S.vv x.op.b).1, .slice ya (S.vv x.op.b).2.2.length yc], .bool ty]) W := fun G W hW => by rw [hty, ← hya]; exact look_ver2 hW _
  have R1 := Lib.hid (fun (G : Asn) W (hW : Sat (Pool p * G) W) => (by have := (hk.vv x.op.a).reads (Nat.le_trans (hb _) (by omega)) hW; rw [hxa] at this; exact this : ReadsP (Pool p * G) (.slice xa (S.vv x.op.a).2.2.length xc) (S.vv x.op.a).2.2))
  have R2 := Lib.hid (fun (G : Asn) W (hW : Sat (Pool p * G) W) => (by have := (hk.vv x.op.b).reads (Nat.le_trans (hb _) (by omega)) hW; rw [hya] at this; exact this : ReadsP (Pool p * G) (.slice ya (S.vv x.op.b).2.2.length yc) (S.vv x.op.b).2.2))
  have HX : Hid ((Md.vget S.st x.op.a).2 = (S.vv x.op.a).2.2) := Lib.hid (by rw [MV.vget_st]; rfl)
  have HY : Hid ((Md.vget S.st x.op.b).2 = (S.vv x.op.b).2.2) := Lib.hid (by rw [MV.vget_st]; rfl)
  have lx := hb x.op.a
  have ly := hb x.op.b
  have HL1 := Lib.hid L1
  have HL2 := Lib.hid L2
  clear htx hty L1 L2 hxa hya H00 I00 hb
  generalize (S.vv x.op.a).1 = xp at *
  generalize (S.vv x.op.b).1 = yp at *
  generalize (S.vv x.op.a).2.2 = l at *
  generalize (S.vv x.op.b).2.2 = m at *
  go_enter Tryz.func34, Tryz.ntmps34
  go_upto_region 1 with fail
  generalize (w.alloc (.cells (opC x) 41)).alloc (.cells #[.int .i64 0, .int .i64 0, .bool false, .int .i64 0, .slice none 0 0, .slice none 0 0, .slice none 0 0, .slice none 0 0] 37) = w0 at *
  generalize w.heap.size + 1 = r at *
  generalize w.heap.size = o at *
  have HZ := Lib.hid (fun (G : Asn) W (hW : Sat (ModelAt h S * (OpAt o x * G)) W) => (⟨(ModelAt.cells hW).1, (op_reads hW.right).2.2.2.2.1, HL1.out _ _ hW⟩ : _ ∧ _ ∧ _))
  have HY2 := Lib.hid (fun (G : Asn) W (hW : Sat (ModelAt h S * (OpAt o x * G)) W) => (⟨(ModelAt.cells hW).1, (op_reads hW.right).2.2.2.2.2.1, HL2.out _ _ hW⟩ : _ ∧ _ ∧ _))
  have H1 : Sat (ModelAt h S * (OpAt o x * (ansZ r * (Pool p * F)))) w0 := H0.of_eq (by ac_rfl)
  have Z0 := HZ.out _ _ H1.drew
  have Z1 := HZ.out _ _ ((H1.alloc (.cells #[.int .i64 0, .slice none 0 0] 69)).drew)
  have Z2 := HZ.out _ _ ((H1.alloc (.cells #[.int .i64 xp, .slice xa l.length xc] 69)).drew)
  go_region_held3 (fun W => W.cell? ⟨h.b, 0, none⟩ = some (.map (some h.bv)) ∧ W.cell? ⟨o, 4, none⟩ = some (.int .i64 x.op.a) ∧ (Instr.lookup 70 (.map (some h.bv)) (.int .i64 x.op.a) true).run Tryz.prog W = .ok (.tuple #[.agg #[.int .i64 xp, .slice xa l.length xc], .bool tx]) W) (first | exact Z0 | exact Z1 | exact Z2) (fail)
  all_goals
    have H2 : Sat (VerB w0.heap.size xp xa l.length xc * (ModelAt h S * (OpAt o x * (ansZ r * (Pool p * F))))) (w0.alloc (.cells #[.int .i64 xp, .slice xa l.length xc] 69)).drew := (H1.new _).drew
    have I2 := (I0.alloc (.cells #[.int .i64 xp, .slice xa l.length xc] 69)).drew
    go_upto_region 2 with fail
    clear Z0 Z1 Z2 H1 I0 HZ H0
    generalize (w0.alloc (.cells #[.int .i64 xp, .slice xa l.length xc] 69)).drew = w1 at *
    generalize w0.heap.size = bx at *
    have K2 : Sat (ModelAt h S * (OpAt o x * (VerB bx xp xa l.length xc * (ansZ r * (Pool p * F))))) w1 := H2.of_eq (by ac_rfl)
    have Z0 := HY2.out _ _ K2.drew
    have Z1 := HY2.out _ _ ((K2.alloc (.cells #[.int .i64 0, .slice none 0 0] 69)).drew)
    have Z2 := HY2.out _ _ ((K2.alloc (.cells #[.int .i64 yp, .slice ya m.length yc] 69)).drew)
    go_region_held3 (fun W => W.cell? ⟨h.b, 0, none⟩ = some (.map (some h.bv)) ∧ W.cell? ⟨o, 5, none⟩ = some (.int .i64 x.op.b) ∧ (Instr.lookup 70 (.map (some h.bv)) (.int .i64 x.op.b) true).run Tryz.prog W = .ok (.tuple #[.agg #[.int .i64 yp, .slice ya m.length yc], .bool ty]) W) (first | exact Z0 | exact Z1 | exact Z2) (fail)
    all_goals
      have H3 : Sat (VerB w1.heap.size yp ya m.length yc * (ModelAt h S * (OpAt o x * (VerB bx xp xa l.length xc * (ansZ r * (Pool p * F)))))) (w1.alloc (.cells #[.int .i64 yp, .slice ya m.length yc] 69)).drew := (K2.new _).drew
      have I3 := (I2.alloc (.cells #[.int .i64 yp, .slice ya m.length yc] 69)).drew
      go_upto_region 3 with fail
      clear Z0 Z1 Z2 K2 H2 I2 HY2 HL1 HL2
      generalize (w1.alloc (.cells #[.int .i64 yp, .slice ya m.length yc] 69)).drew = w2 at *
      generalize w1.heap.size = by' at *
      have K3 : Sat (ansZ r * (OpAt o x * (VerB bx xp xa l.length xc * (VerB by' yp ya m.length yc * (ModelAt h S * (Pool p * F)))))) w2 := H3.of_eq (by ac_rfl)
      clear H3
      obtain ⟨x0, x1, x2, x3, x4, x5, x6, x7, x8, x9⟩ := op_reads K3.right
      cases tx with
      | false =>
        have HA : A = Md.fail 190 := by rw [hA.out]; unfold Md.ask; rw [if_pos (.inl (by rw [vers_some, ← HTX.out]))]
        subst HA
        clear hA
        go_wp2_with (first
          | (go_at_call 35; with_reducible refine fail_any 190 K3 ?_; intro w5 H5 I5)
          | (with_reducible refine store_ans rfl (.tmp 4) (.tmp 43) rfl rfl nil4_fit H5 rfl ?_; intro w6 H6 I6; obtain ⟨d0, d1, d2, d3, d4, d5, d6, d7⟩ := ansA_reads H6))
        exact bodyPost_ret (v := ansV (Md.fail 190) nil4) (by simp [results, Tryz.results34, go_sem, d0, d1, d2, d3, d4, d5, d6, d7]) rfl (HH.out nil4 _ nil4_fit (ansAt_nil rfl rfl rfl rfl H6.right.right.right.right) ((I3.trans I5).trans I6))
      | true =>
        have HTT := HTX
        have h8 : ¬ x.op.kind = 8 := by omega
        have h9 : ¬ x.op.kind = 9 := by omega
        have HC : Hid (¬ ((aget S.st.vers x.op.a).isSome = false ∨ x.op.kind = 8 ∧ (aget S.st.vers x.op.b).isSome = false)) := Lib.hid (by rw [vers_some, ← HTX.out]; simp [h8])
        obtain ⟨e1, he1⟩ : ∃ e, e = verE x.op.u := ⟨_, rfl⟩
        obtain ⟨e2, he2⟩ : ∃ e, e = verE x.op.v := ⟨_, rfl⟩
        have HE1 := Lib.hid he1
        have HE2 := Lib.hid he2
        clear he1 he2
        go_upto_region 5 with fail
        go_quiet (first | (go_at_call 66; first | (with_reducible refine vertex_e x.op.u HE1 ?_; exact ⟨rfl, _, rfl⟩) | (with_reducible refine vertex_e x.op.v HE2 ?_; exact ⟨rfl, _, rfl⟩)))
        have K4 := K3.drewN nq
        have I4 := I3.drewN nq
        generalize w2.drewN nq = w3 at *
        clear K3 I3 x0 x1 x2 x3 x4 x5 x6 x7 x8 x9
        obtain ⟨x0, x1, x2, x3, x4, x5, x6, x7, x8, x9⟩ := op_reads K4.right
        have X1 := Sat.read K4.right.right.left.at 1
        simp only [List.getElem?_toArray, List.getElem?_cons_zero, List.getElem?_cons_succ] at X1
        have P4 : Sat (Pool p * (ansZ r * (OpAt o x * (VerB bx xp xa l.length xc * (VerB by' yp ya m.length yc * (ModelAt h S * F)))))) w3 := K4.of_eq (by ac_rfl)
        have rx := R1.out _ _ P4
        go_upto_region 9 with fail
        have E1 := verE_vtx x.op.u
        have E2 := verE_vtx x.op.v
        rw [← HE1.out] at E1
        rw [← HE2.out] at E2
        have V1 := Lib.hid E1
        have V2 := Lib.hid E2
        clear E1 E2
        cases hu : Md.vtx x.op.u with
        | false =>
          obtain rfl : e1 = 30 := by rw [V1.out, hu]; rfl
          have HA : A = Md.fail 30 := by rw [hA.out]; unfold Md.ask; rw [if_neg HC.out, if_neg h8, if_neg h9, if_pos h10, if_pos hu]
          subst HA
          clear hA
          go_wp2_with (first
            | (go_at_call 35; with_reducible refine fail_e 30 (by decide) K4 ?_; intro w5 H5 I5)
            | (with_reducible refine store_ans rfl (.tmp 4) (.tmp 82) rfl rfl nil4_fit H5 rfl ?_; intro w6 H6 I6; obtain ⟨d0, d1, d2, d3, d4, d5, d6, d7⟩ := ansA_reads H6))
          exact bodyPost_ret (v := ansV (Md.fail 30) nil4) (by simp [results, Tryz.results34, go_sem, d0, d1, d2, d3, d4, d5, d6, d7]) rfl (HH.out nil4 _ nil4_fit (ansAt_nil rfl rfl rfl rfl H6.right.right.right.right) ((I4.trans I5).trans I6))
        | true =>
          obtain rfl : e1 = 0 := by rw [V1.out, hu]; rfl
          obtain ⟨k, hkk⟩ : ∃ k : Int, k = ((Gr.members l x.op.u).length : Int) := ⟨_, rfl⟩
          have HD := Lib.hid hkk
          clear hkk
          have HA : A = { count := k } := by rw [hA.out]; unfold Md.ask; rw [if_neg HC.out, if_neg h8, if_neg h9, if_pos h10, if_neg (by simp [hu]), HX.out, HD.out]
          subst HA
          clear hA
          go_wp2_with (first
            | (go_at_call 13; with_reducible refine size_any rx lx x.op.u HD P4 ?_; intro w5 H5 I5; have K5 : Sat (ansZ r * (OpAt o x * (VerB bx xp xa l.length xc * (VerB by' yp ya m.length yc * (ModelAt h S * (Pool p * F)))))) w5 := H5.of_eq (by ac_rfl))
            | (with_reducible refine store_ans (A := { count := k }) rfl (.tmp 4) (.tmp 88) rfl rfl nil4_fit K5 rfl ?_; intro w6 H6 I6; obtain ⟨d0, d1, d2, d3, d4, d5, d6, d7⟩ := ansA_reads H6))
          exact bodyPost_ret (v := ansV { count := k } nil4) (by simp [results, Tryz.results34, go_sem, d0, d1, d2, d3, d4, d5, d6, d7]) rfl (HH.out nil4 _ nil4_fit (ansAt_nil rfl rfl rfl rfl H6.right.right.right.right) ((I4.trans I5).trans I6))
end
end Go.Proofs.YtabpgejjnphfcaaGreat

/-
  The model of the index: ask, by its walk. It proves no statement by itself.
-/
namespace Go.Proofs.YtabpgejjnphfcaaGreat
open Go.RowKit Go.Lib Go.MapKept
open Md (Nm St)
set_option linter.unusedSimpArgs false
set_option linter.unusedVariables false
set_option linter.unusedSectionVars false
section
variable {F : Asn} {w : World} {R : Ending → World → Prop} {h : Mh} {S : MV} {p : Pl}
set_option maxRecDepth 100000 in
set_option maxHeartbeats 16000000 in
theorem ask_f11 (x : OpX) (h8 : ¬ x.op.kind = 8) (h9 : ¬ x.op.kind = 9) (h10 : ¬ x.op.kind = 10) (hk : S.Ok p) (hb : ∀ id, (S.vv id).2.2.length ≤ 10000) {A : Md.An} (hA : Hid (A = Md.ask S.st x.op)) (H : Sat (ModelAt h S * (Pool p * F)) w)
    (hh : ∀ s w', s.Fit → Sat (AnsAt A s * (ModelAt h S * (Pool p * F))) w' → Io w w' → R (.returned (ansV A s)) w') :
    Calls Tryz.prog 34 #[h.ptr, opV x] w R := by
  have HH := Lib.hid hh
  clear hh
  have H00 : Sat (OpAt w.heap.size x * (ModelAt h S * (Pool p * F))) (w.alloc (.cells (opC x) 41)) := H.new _
  have I00 : Io w (w.alloc (.cells (opC x) 41)) := (Io.refl w).alloc _
  have H0 := ansZ_new H00
  have I0 := I00.trans (io_ansZ _)
  obtain ⟨xa, xc, hxa⟩ := (hk.vv x.op.a).slice H.right
  obtain ⟨ya, yc, hya⟩ := (hk.vv x.op.b).slice H.right
  have hr : (w.alloc (.cells (opC x) 41)).heap.size = w.heap.size + 1 := by simp
  rw [hr] at H0
  obtain ⟨tx, htx⟩ : ∃ b, b = (aget S.vers x.op.a).isSome := ⟨_, rfl⟩
  obtain ⟨ty, hty⟩ : ∃ b, b = (aget S.vers x.op.b).isSome := ⟨_, rfl⟩
  have HTX := Lib.hid htx
  have HTY := Lib.hid hty
  have L1 : ∀ (G : Asn) W, Sat (ModelAt h S * G) W → (Instr.lookup 70 (.map (some h.bv)) (.int .i64 x.op.a) true).run Tryz.prog W = .ok (.tuple #[.agg #[.int .i64 (S.vv x.op.a).1, .slice xa (S.vv x.op.a).2.2.length xc], .bool tx]) W := fun G W hW => by rw [htx, ← hxa]; exact look_ver2 hW _
  have L2 : ∀ (G : Asn) W, Sat (ModelAt h S * G) W → (Instr.lookup 70 (.map (some h.bv)) (.int .i64 x.op.b) true).run Tryz.prog W = .ok (.tuple #[.agg #[.int .i64 (S.vv x.op.b).1, .slice ya (S.vv x.op.b).2.2.length yc], .bool ty]) W := fun G W hW => by rw [hty, ← hya]; exact look_ver2 hW _
  have R1 := Lib.hid (fun (G : Asn) W (hW : Sat (Pool p * G) W) => (by have := (hk.vv x.op.a).reads (Nat.le_trans (hb _) (by omega)) hW; rw [hxa] at this; exact this : ReadsP (Pool p * G) (.slice xa (S.vv x.op.a).2.2.length xc) (S.vv x.op.a).2.2))
  have R2 := Lib.hid (fun (G : Asn) W (hW : Sat (Pool p * G) W) => (by have := (hk.vv x.op.b).reads (Nat.le_trans (hb _) (by omega)) hW; rw [hya] at this; exact this : ReadsP (Pool p * G) (.slice ya (S.vv x.op.b).2.2.length yc) (S.vv x.op.b).2.2))
  have HX : Hid ((Md.vget S.st x.op.a).2 = (S.vv x.op.a).2.2) := Lib.hid (by rw [MV.vget_st]; rfl)
  have HY : Hid ((Md.vget S.st x.op.b).2 = (S.vv x.op.b).2.2) := Lib.hid (by rw [MV.vget_st]; rfl)
  have lx := hb x.op.a
  have ly := hb x.op.b
  have HL1 := Lib.hid L1
  have HL2 := Lib.hid L2
  clear htx hty L1 L2 hxa hya H00 I00 hb
  generalize (S.vv x.op.a).1 = xp at *
  generalize (S.vv x.op.b).1 = yp at *
  generalize (S.vv x.op.a).2.2 = l at *
  generalize (S.vv x.op.b).2.2 = m at *
  go_enter Tryz.func34, Tryz.ntmps34
  go_upto_region 1 with fail
  generalize (w.alloc (.cells (opC x) 41)).alloc (.cells #[.int .i64 0, .int .i64 0, .bool false, .int .i64 0, .slice none 0 0, .slice none 0 0, .slice none 0 0, .slice none 0 0] 37) = w0 at *
  generalize w.heap.size + 1 = r at *
  generalize w.heap.size = o at *
  have HZ := Lib.hid (fun (G : Asn) W (hW : Sat (ModelAt h S * (OpAt o x * G)) W) => (⟨(ModelAt.cells hW).1, (op_reads hW.right).2.2.2.2.1, HL1.out _ _ hW⟩ : _ ∧ _ ∧ _))
  have HY2 := Lib.hid (fun (G : Asn) W (hW : Sat (ModelAt h S * (OpAt o x * G)) W) => (⟨(ModelAt.cells hW).1, (op_reads hW.right).2.2.2.2.2.1, HL2.out _ _ hW⟩ : _ ∧ _ ∧ _))
  have H1 : Sat (ModelAt h S * (OpAt o x * (ansZ r * (Pool p * F)))) w0 := H0.of_eq (by ac_rfl)
  have Z0 := HZ.out _ _ H1.drew
  have Z1 := HZ.out _ _ ((H1.alloc (.cells #[.int .i64 0, .slice none 0 0] 69)).drew)
  have Z2 := HZ.out _ _ ((H1.alloc (.cells #[.int .i64 xp, .slice xa l.length xc] 69)).drew)
  go_region_held3 (fun W => W.cell? ⟨h.b, 0, none⟩ = some (.map (some h.bv)) ∧ W.cell? ⟨o, 4, none⟩ = some (.int .i64 x.op.a) ∧ (Instr.lookup 70 (.map (some h.bv)) (.int .i64 x.op.a) true).run Tryz.prog W = .ok (.tuple #[.agg #[.int .i64 xp, .slice xa l.length xc], .bool tx]) W) (first | exact Z0 | exact Z1 | exact Z2) (fail)
  all_goals
    have H2 : Sat (VerB w0.heap.size xp xa l.length xc * (ModelAt h S * (OpAt o x * (ansZ r * (Pool p * F))))) (w0.alloc (.cells #[.int .i64 xp, .slice xa l.length xc] 69)).drew := (H1.new _).drew
    have I2 := (I0.alloc (.cells #[.int .i64 xp, .slice xa l.length xc] 69)).drew
    go_upto_region 2 with fail
    clear Z0 Z1 Z2 H1 I0 HZ H0
    generalize (w0.alloc (.cells #[.int .i64 xp, .slice xa l.length xc] 69)).drew = w1 at *
    generalize w0.heap.size = bx at *
    have K2 : Sat (ModelAt h S * (OpAt o x * (VerB bx xp xa l.length xc * (ansZ r * (Pool p * F))))) w1 := H2.of_eq (by ac_rfl)
    have Z0 := HY2.out _ _ K2.drew
    have Z1 := HY2.out _ _ ((K2.alloc (.cells #[.int .i64 0, .slice none 0 0] 69)).drew)
    have Z2 := HY2.out _ _ ((K2.alloc (.cells #[.int .i64 yp, .slice ya m.length yc] 69)).drew)
    go_region_held3 (fun W => W.cell? ⟨h.b, 0, none⟩ = some (.map (some h.bv)) ∧ W.cell? ⟨o, 5, none⟩ = some (.int .i64 x.op.b) ∧ (Instr.lookup 70 (.map (some h.bv)) (.int .i64 x.op.b) true).run Tryz.prog W = .ok (.tuple #[.agg #[.int .i64 yp, .slice ya m.length yc], .bool ty]) W) (first | exact Z0 | exact Z1 | exact Z2) (fail)
    all_goals
      have H3 : Sat (VerB w1.heap.size yp ya m.length yc * (ModelAt h S * (OpAt o x * (VerB bx xp xa l.length xc * (ansZ r * (Pool p * F)))))) (w1.alloc (.cells #[.int .i64 yp, .slice ya m.length yc] 69)).drew := (K2.new _).drew
      have I3 := (I2.alloc (.cells #[.int .i64 yp, .slice ya m.length yc] 69)).drew
      go_upto_region 3 with fail
      clear Z0 Z1 Z2 K2 H2 I2 HY2 HL1 HL2
      generalize (w1.alloc (.cells #[.int .i64 yp, .slice ya m.length yc] 69)).drew = w2 at *
      generalize w1.heap.size = by' at *
      have K3 : Sat (ansZ r * (OpAt o x * (VerB bx xp xa l.length xc * (VerB by' yp ya m.length yc * (ModelAt h S * (Pool p * F)))))) w2 := H3.of_eq (by ac_rfl)
      clear H3
      obtain ⟨x0, x1, x2, x3, x4, x5, x6, x7, x8, x9⟩ := op_reads K3.right
      cases tx with
      | false =>
        have HA : A = Md.fail 190 := by rw [hA.out]; unfold Md.ask; rw [if_pos (.inl (by rw [vers_some, ← HTX.out]))]
        subst HA
        clear hA
        go_wp2_with (first
          | (go_at_call 35; with_reducible refine fail_any 190 K3 ?_; intro w5 H5 I5)
          | (with_reducible refine store_ans rfl (.tmp 4) (.tmp 43) rfl rfl nil4_fit H5 rfl ?_; intro w6 H6 I6; obtain ⟨d0, d1, d2, d3, d4, d5, d6, d7⟩ := ansA_reads H6))
        exact bodyPost_ret (v := ansV (Md.fail 190) nil4) (by simp [results, Tryz.results34, go_sem, d0, d1, d2, d3, d4, d5, d6, d7]) rfl (HH.out nil4 _ nil4_fit (ansAt_nil rfl rfl rfl rfl H6.right.right.right.right) ((I3.trans I5).trans I6))
      | true =>
        have HTT := HTX
        have HC : Hid (¬ ((aget S.st.vers x.op.a).isSome = false ∨ x.op.kind = 8 ∧ (aget S.st.vers x.op.b).isSome = false)) := Lib.hid (by rw [vers_some, ← HTX.out]; simp [h8])
        obtain ⟨e1, he1⟩ : ∃ e, e = verE x.op.u := ⟨_, rfl⟩
        obtain ⟨e2, he2⟩ : ∃ e, e = verE x.op.v := ⟨_, rfl⟩
        have HE1 := Lib.hid he1
        have HE2 := Lib.hid he2
        clear he1 he2
        go_upto_region 5 with fail
        go_quiet (first | (go_at_call 66; first | (with_reducible refine vertex_e x.op.u HE1 ?_; exact ⟨rfl, _, rfl⟩) | (with_reducible refine vertex_e x.op.v HE2 ?_; exact ⟨rfl, _, rfl⟩)))
        have K4 := K3.drewN nq
        have I4 := I3.drewN nq
        generalize w2.drewN nq = w3 at *
        clear K3 I3 x0 x1 x2 x3 x4 x5 x6 x7 x8 x9
        obtain ⟨x0, x1, x2, x3, x4, x5, x6, x7, x8, x9⟩ := op_reads K4.right
        have X1 := Sat.read K4.right.right.left.at 1
        simp only [List.getElem?_toArray, List.getElem?_cons_zero, List.getElem?_cons_succ] at X1
        have P4 : Sat (Pool p * (ansZ r * (OpAt o x * (VerB bx xp xa l.length xc * (VerB by' yp ya m.length yc * (ModelAt h S * F)))))) w3 := K4.of_eq (by ac_rfl)
        have rx := R1.out _ _ P4
        go_upto_region 9 with fail
        have E1 := verE_vtx x.op.u
        have E2 := verE_vtx x.op.v
        rw [← HE1.out] at E1
        rw [← HE2.out] at E2
        have V1 := Lib.hid E1
        have V2 := Lib.hid E2
        clear E1 E2
        have HA : A = { pairs := l } := by rw [hA.out]; unfold Md.ask; rw [if_neg HC.out, if_neg h8, if_neg h9, if_neg h10, HX.out]
        subst HA
        clear hA
        go_wp2_with (first
          | (go_at_call 68; with_reducible refine clone_any rx (by omega) P4 ?_; intro v' w5 H5 I5; obtain ⟨da, dc, rfl⟩ := row_slice2 H5; have K5 : Sat (ansZ r * (RowP (.slice da l.length dc) l * (OpAt o x * (VerB bx xp xa l.length xc * (VerB by' yp ya m.length yc * (ModelAt h S * (Pool p * F))))))) w5 := H5.of_eq (by ac_rfl))
          | (with_reducible refine store_ans (A := { pairs := l }) (s := ⟨.slice none 0 0, .slice da l.length dc, .slice none 0 0, .slice none 0 0⟩) rfl (.tmp 4) (.tmp 92) rfl rfl ⟨rfl, rfl, rfl, rfl⟩ K5 rfl ?_; intro w6 H6 I6; obtain ⟨d0, d1, d2, d3, d4, d5, d6, d7⟩ := ansA_reads H6))
        have H7 : Sat (RowP (.slice da l.length dc) l * (ModelAt h S * (Pool p * F))) w6 := (H6.of_eq (show _ = (ansA r { pairs := l } ⟨.slice none 0 0, .slice da l.length dc, .slice none 0 0, .slice none 0 0⟩ * (OpAt o x * (VerB bx xp xa l.length xc * VerB by' yp ya m.length yc))) * (RowP (.slice da l.length dc) l * (ModelAt h S * (Pool p * F))) from by ac_rfl)).right
        exact bodyPost_ret (v := ansV { pairs := l } ⟨.slice none 0 0, .slice da l.length dc, .slice none 0 0, .slice none 0 0⟩) (by simp [results, Tryz.results34, go_sem, d0, d1, d2, d3, d4, d5, d6, d7]) rfl (HH.out ⟨.slice none 0 0, .slice da l.length dc, .slice none 0 0, .slice none 0 0⟩ _ ⟨rfl, rfl, rfl, rfl⟩ (ansAt_p rfl rfl rfl rfl rfl rfl H7) ((I4.trans I5).trans I6))
end
end Go.Proofs.YtabpgejjnphfcaaGreat

/-
  The model of the index: ask, by its walk. It proves no statement by itself.
-/
namespace Go.Proofs.YtabpgejjnphfcaaGreat
open Go.RowKit Go.Lib Go.MapKept
open Md (Nm St)
set_option linter.unusedSimpArgs false
set_option linter.unusedVariables false
set_option linter.unusedSectionVars false
section
variable {F : Asn} {w : World} {R : Ending → World → Prop} {h : Mh} {S : MV} {p : Pl}
set_option maxRecDepth 100000 in
theorem ask_any (x : OpX) (hk : S.Ok p) (hb : ∀ id, (S.vv id).2.2.length ≤ 10000) {A : Md.An} (hA : Hid (A = Md.ask S.st x.op)) (H : Sat (ModelAt h S * (Pool p * F)) w)
    (hh : ∀ s w', s.Fit → Sat (AnsAt A s * (ModelAt h S * (Pool p * F))) w' → Io w w' → R (.returned (ansV A s)) w') :
    Calls Tryz.prog 34 #[h.ptr, opV x] w R := by
  by_cases h8 : x.op.kind = 8
  · exact ask_f8 x h8 hk hb hA H hh
  · by_cases h9 : x.op.kind = 9
    · exact ask_f9 x h9 hk hb hA H hh
    · by_cases h10 : x.op.kind = 10
      · exact ask_f10 x h10 hk hb hA H hh
      · exact ask_f11 x h8 h9 h10 hk hb hA H hh
end
end Go.Proofs.YtabpgejjnphfcaaGreat
