/-
  The model of the index: branch, drop, by their walks. It proves no statement by itself.
-/
import Derived.Test.YtabpgejjnphfcaaGreatQ24
import Derived.Test.YtabpgejjnphfcaaGreatQ25
namespace Go.Proofs.YtabpgejjnphfcaaGreat
open Go.RowKit Go.Lib
open Md (Nm St)
set_option linter.unusedSimpArgs false
set_option linter.unusedVariables false
set_option linter.unusedSectionVars false
/-- An operation as a value. -/
structure OpX where
  op : Md.Op
  ka : Option Addr
  kl : Nat
  kc : Nat
  torn : Int
  cut : Int
  text : ByteArray
abbrev opC (x : OpX) : Array Value := #[.int .i64 x.op.kind, .string x.op.name, .int .i64 x.op.u, .int .i64 x.op.v, .int .i64 x.op.a, .int .i64 x.op.b, .slice x.ka x.kl x.kc, .int .i64 x.torn, .int .i64 x.cut, .string x.text]
abbrev opV (x : OpX) : Value := .agg (opC x)
def OpAt (o : Nat) (x : OpX) : Asn := pts o (.cells (opC x) 41 (0, 0))
section
variable {F : Asn} {w : World} {R : Ending → World → Prop} {h : Mh} {S : MV}
theorem op_reads {o : Nat} {x : OpX} (H : Sat (OpAt o x * F) w) : w.cell? ⟨o, 0, none⟩ = some (.int .i64 x.op.kind) ∧ w.cell? ⟨o, 1, none⟩ = some (.string x.op.name) ∧ w.cell? ⟨o, 2, none⟩ = some (.int .i64 x.op.u) ∧ w.cell? ⟨o, 3, none⟩ = some (.int .i64 x.op.v) ∧ w.cell? ⟨o, 4, none⟩ = some (.int .i64 x.op.a) ∧
    w.cell? ⟨o, 5, none⟩ = some (.int .i64 x.op.b) ∧ w.cell? ⟨o, 6, none⟩ = some (.slice x.ka x.kl x.kc) ∧ w.cell? ⟨o, 7, none⟩ = some (.int .i64 x.torn) ∧ w.cell? ⟨o, 8, none⟩ = some (.int .i64 x.cut) ∧ w.cell? ⟨o, 9, none⟩ = some (.string x.text) := by
  have k := H.left.at
  exact ⟨Sat.read k 0, Sat.read k 1, Sat.read k 2, Sat.read k 3, Sat.read k 4, Sat.read k 5, Sat.read k 6, Sat.read k 7, Sat.read k 8, Sat.read k 9⟩
/-- The values under versions are slices. -/
def MV.Sl (S : MV) : Prop := ∀ id, ∃ a n c, (S.vv id).2.1 = .slice a n c
theorem Held.slice {p : Pl} {v : Value} {l : List Pr} (hh : Held p v l) (H : Sat (Pool p * F) w) : ∃ a c, v = .slice a l.length c := by
  rcases hh with ⟨rfl, rfl⟩ | hh
  · exact ⟨none, 0, rfl⟩
  · obtain ⟨G, e⟩ := pool_split hh
    rw [e, star_assoc] at H
    obtain ⟨_, ⟨e1, e2, _⟩ | ⟨g, cap, cur, e1, _⟩⟩ := sat_row.1 H
    · exact ⟨none, 0, by rw [e1, e2]⟩
    · exact ⟨_, _, e1⟩
theorem MV.Ok.sl {p : Pl} {S : MV} (hk : S.Ok p) (H : Sat (Pool p * F) w) : S.Sl := fun id => by
  obtain ⟨a, c, e⟩ := (hk.vv id).slice H
  exact ⟨a, _, c, e⟩
def MV.branch (S : MV) (o : Md.Op) : MV := if (Md.branch S.st o).2.err = 0 then { S with heads := aput S.heads o.name o.a } else S
theorem MV.branch_st (S : MV) (o : Md.Op) : (S.branch o).st = (Md.branch S.st o).1 := by
  unfold MV.branch
  split
  · rename_i e
    unfold Md.branch at e ⊢
    split
    · rename_i h1; rw [if_pos h1] at e; cases e
    · rename_i h1
      rw [if_neg h1] at e
      split
      · rename_i h2; rw [if_pos h2] at e; cases e
      · rename_i h2
        rw [if_neg h2] at e
        split
        · rename_i h3; rw [if_pos h3] at e; cases e
        · rename_i h3
          rw [if_neg h3] at e
          split
          · rename_i h4; rw [if_pos h4] at e; cases e
          · rfl
  · rename_i e
    exact (Md.branch_err e).symm
theorem MV.branch_ok {S : MV} {o : Md.Op} {p : Pl} (hk : S.Ok p) : (S.branch o).Ok p := by
  unfold MV.branch
  split
  · exact ⟨hk.v, hk.q⟩
  · exact hk
theorem vers_some (S : MV) (id : Int) : (aget S.st.vers id).isSome = (aget S.vers id).isSome := by
  have e2 : aget S.st.vers id = (aget S.vers id).map fV := aget_amap _ _ _
  rw [e2]
  cases aget S.vers id <;> rfl
set_option maxRecDepth 100000 in
set_option maxHeartbeats 4000000 in
theorem branch_any (x : OpX) (hsz : x.op.name.size ≤ 9223372036854775807) (hsl : S.Sl) (hlen : S.heads.length ≤ 1000000) (H : Sat (ModelAt h S * F) w)
    (hh : ∀ w', Sat (ModelAt h (S.branch x.op) * F) w' → Io w w' → R (.returned (ansV (Md.branch S.st x.op).2 nil4)) w') :
    Calls Tryz.prog 31 #[h.ptr, opV x] w R := by
  have HH := Lib.hid hh
  clear hh
  have H00 : Sat (OpAt w.heap.size x * (ModelAt h S * F)) (w.alloc (.cells (opC x) 41)) := H.new _
  have I00 : Io w (w.alloc (.cells (opC x) 41)) := (Io.refl w).alloc _
  have H0 := ansZ_new H00
  have I0 := I00.trans (io_ansZ _)
  obtain ⟨va, vn, vc, hva⟩ := hsl x.op.a
  have hr : (w.alloc (.cells (opC x) 41)).heap.size = w.heap.size + 1 := by simp
  rw [hr] at H0
  obtain ⟨tk, htk⟩ : ∃ b, b = (aget S.heads x.op.name).isSome := ⟨_, rfl⟩
  obtain ⟨tv, htv⟩ : ∃ b, b = (aget S.vers x.op.a).isSome := ⟨_, rfl⟩
  obtain ⟨nk, hnk⟩ : ∃ b, b = Md.nameOk x.op.name := ⟨_, rfl⟩
  have HTK := Lib.hid htk
  have HTV := Lib.hid htv
  have HNK := Lib.hid hnk
  have L1 : ∀ (G : Asn) W, Sat (ModelAt h S * G) W → (Instr.lookup 71 (.map (some h.bh)) (.string x.op.name) true).run Tryz.prog W = .ok (.tuple #[.int .i64 (Md.hget S.st x.op.name), .bool tk]) W := fun G W hW => by rw [htk]; exact look_head2 hW _
  have L2 : ∀ (G : Asn) W, Sat (ModelAt h S * G) W → (Instr.lookup 70 (.map (some h.bv)) (.int .i64 x.op.a) true).run Tryz.prog W = .ok (.tuple #[.agg #[.int .i64 (S.vv x.op.a).1, .slice va vn vc], .bool tv]) W := fun G W hW => by rw [htv, ← hva]; exact look_ver2 hW _
  have HL1 := Lib.hid L1
  have HL2 := Lib.hid L2
  clear htk htv hnk L1 L2 hva H00 I00
  generalize Md.hget S.st x.op.name = hd0 at *
  generalize (S.vv x.op.a).1 = pr0 at *
  go_enter Tryz.func31, Tryz.ntmps31
  go_upto_region 1 with fail
  generalize (w.alloc (.cells (opC x) 41)).alloc (.cells #[.int .i64 0, .int .i64 0, .bool false, .int .i64 0, .slice none 0 0, .slice none 0 0, .slice none 0 0, .slice none 0 0] 37) = w0 at *
  generalize w.heap.size + 1 = r at *
  generalize w.heap.size = o at *
  have H1 : Sat (ModelAt h S * (ansZ r * (OpAt o x * F))) w0 := H0.of_eq (by ac_rfl)
  obtain ⟨c0, c1, c2, c3⟩ := ModelAt.cells H1
  obtain ⟨x0, x1, x2, x3, x4, x5, x6, x7, x8, x9⟩ := op_reads (H0.right)
  have e1 := fun k => HL1.out _ _ (H1.drewN k)
  clear e1 c0 c1 c2 c3 x0 x1 x2 x3 x4 x5 x6 x7 x8 x9
  have e1 := fun k => HL1.out _ _ (H1.drewN k)
  obtain ⟨c0, c1, c2, c3⟩ := ModelAt.cells H1
  obtain ⟨x0, x1, x2, x3, x4, x5, x6, x7, x8, x9⟩ := op_reads (H0.right)
  go_quiet (fail)
  go_upto_region 2 with fail
  replace H1 := H1.drewN nq
  replace I0 := I0.drewN nq
  generalize w0.drewN nq = w1 at *
  clear e1 c0 c1 c2 c3 x0 x1 x2 x3 x4 x5 x6 x7 x8 x9 H0
  have HZ := Lib.hid (fun W (hW : Sat (ModelAt h S * (ansZ r * (OpAt o x * F))) W) => (⟨(ModelAt.cells hW).1, (op_reads hW.right.right).2.2.2.2.1, HL2.out _ _ hW⟩ : _ ∧ _ ∧ _))
  have Z0 := HZ.out _ H1.drew
  have Z1 := HZ.out _ ((H1.alloc (.cells #[.int .i64 0, .slice none 0 0] 69)).drew)
  have Z2 := HZ.out _ ((H1.alloc (.cells #[.int .i64 pr0, .slice va vn vc] 69)).drew)
  go_region_held3 (fun W => W.cell? ⟨h.b, 0, none⟩ = some (.map (some h.bv)) ∧ W.cell? ⟨o, 4, none⟩ = some (.int .i64 x.op.a) ∧ (Instr.lookup 70 (.map (some h.bv)) (.int .i64 x.op.a) true).run Tryz.prog W = .ok (.tuple #[.agg #[.int .i64 pr0, .slice va vn vc], .bool tv]) W) (first | exact Z0 | exact Z1 | exact Z2) (fail)
  all_goals
    have H3 : Sat (ansZ r * (ModelAt h S * (OpAt o x * F))) (w1.alloc (.cells #[.int .i64 pr0, .slice va vn vc] 69)).drew := ((H1.alloc _).drew).of_eq (by ac_rfl)
    have I3 := (I0.alloc (.cells #[.int .i64 pr0, .slice va vn vc] 69)).drew
    clear Z0 Z1 Z2 H1 I0 HZ
    generalize (w1.alloc (.cells #[.int .i64 pr0, .slice va vn vc] 69)).drew = w2 at *
    obtain ⟨x0, x1, x2, x3, x4, x5, x6, x7, x8, x9⟩ := op_reads H3.right.right
    have HF : ∀ W, Sat (ModelAt h S * (OpAt o x * F)) W → Sat (ModelAt h S * F) W := fun W hW => hW.mid
    cases nk with
    | false =>
      go_upto_region 4 with (go_at_call 60; with_reducible refine name_any x.op.name hsz HNK H3 ?_; intro w4 H4 I4)
      replace I4 := I3.trans I4
      clear I3 H3 x0 x1 x2 x3 x4 x5 x6 x7 x8 x9
      have K4 : Sat (ModelAt h S * (ansZ r * (OpAt o x * F))) w4 := H4.of_eq (by ac_rfl)
      obtain ⟨c0, c1, c2, c3⟩ := ModelAt.cells K4
      obtain ⟨x0, x1, x2, x3, x4, x5, x6, x7, x8, x9⟩ := op_reads H4.right.right
      have HB : Hid (Md.branch S.st x.op = (S.st, Md.fail 193)) := Lib.hid (by unfold Md.branch; rw [if_pos HNK.out.symm])
      have HS : S.branch x.op = S := by unfold MV.branch; rw [HB.out]; rfl
      rw [HS, HB.out] at HH
      go_wp2_with (first
        | (go_at_call 35; with_reducible refine fail_any 193 H4 ?_; intro w5 H5 I5)
        | (with_reducible refine store_ans rfl (.tmp 4) (.tmp 34) rfl rfl nil4_fit H5 rfl ?_; intro w6 H6 I6; obtain ⟨d0, d1, d2, d3, d4, d5, d6, d7⟩ := ansA_reads H6))
      exact bodyPost_ret (v := ansV (Md.fail 193) nil4) (by simp [results, Tryz.results31, go_sem, d0, d1, d2, d3, d4, d5, d6, d7]) rfl (HH.out _ (HF _ H6.right) ((I4.trans I5).trans I6))
    | true =>
      go_upto_region 5 with (go_at_call 60; with_reducible refine name_any x.op.name hsz HNK H3 ?_; intro w4 H4 I4)
      replace I4 := I3.trans I4
      clear I3 H3 x0 x1 x2 x3 x4 x5 x6 x7 x8 x9
      have K4 : Sat (ModelAt h S * (ansZ r * (OpAt o x * F))) w4 := H4.of_eq (by ac_rfl)
      obtain ⟨c0, c1, c2, c3⟩ := ModelAt.cells K4
      obtain ⟨x0, x1, x2, x3, x4, x5, x6, x7, x8, x9⟩ := op_reads H4.right.right
      cases tk with
      | true =>
        have HB : Hid (Md.branch S.st x.op = (S.st, Md.fail 192)) := Lib.hid (by unfold Md.branch; rw [if_neg (by rw [← HNK.out]; simp), if_pos (show (aget S.st.heads x.op.name).isSome = true from HTK.out.symm)])
        have HS : S.branch x.op = S := by unfold MV.branch; rw [HB.out]; rfl
        rw [HS, HB.out] at HH
        go_wp2_with (first
          | (go_at_call 35; with_reducible refine fail_any 192 H4 ?_; intro w5 H5 I5)
          | (with_reducible refine store_ans rfl (.tmp 4) (.tmp 37) rfl rfl nil4_fit H5 rfl ?_; intro w6 H6 I6; obtain ⟨d0, d1, d2, d3, d4, d5, d6, d7⟩ := ansA_reads H6))
        exact bodyPost_ret (v := ansV (Md.fail 192) nil4) (by simp [results, Tryz.results31, go_sem, d0, d1, d2, d3, d4, d5, d6, d7]) rfl (HH.out _ (HF _ H6.right) ((I4.trans I5).trans I6))
      | false =>
        cases tv with
        | false =>
          have HB : Hid (Md.branch S.st x.op = (S.st, Md.fail 190)) := Lib.hid (by unfold Md.branch; rw [if_neg (by rw [← HNK.out]; simp), if_neg (by show ¬ (aget S.heads x.op.name).isSome = true; rw [← HTK.out]; simp), if_pos (by rw [vers_some, ← HTV.out])])
          have HS : S.branch x.op = S := by unfold MV.branch; rw [HB.out]; rfl
          rw [HS, HB.out] at HH
          go_wp2_with (first
            | (go_at_call 35; with_reducible refine fail_any 190 H4 ?_; intro w5 H5 I5)
            | (with_reducible refine store_ans rfl (.tmp 4) (.tmp 41) rfl rfl nil4_fit H5 rfl ?_; intro w6 H6 I6; obtain ⟨d0, d1, d2, d3, d4, d5, d6, d7⟩ := ansA_reads H6))
          exact bodyPost_ret (v := ansV (Md.fail 190) nil4) (by simp [results, Tryz.results31, go_sem, d0, d1, d2, d3, d4, d5, d6, d7]) rfl (HH.out _ (HF _ H6.right) ((I4.trans I5).trans I6))
        | true =>
          have hlm := run_len_map (P := Tryz.prog) Tryz.underlying71 (ModelAt.asH K4) 3
          by_cases hl : 64 ≤ S.heads.length
          · have hli : (64 : Int) ≤ (S.heads.length : Int) := by omega
            have HB : Hid (Md.branch S.st x.op = (S.st, Md.fail 195)) := Lib.hid (by unfold Md.branch; rw [if_neg (by rw [← HNK.out]; simp), if_neg (by show ¬ (aget S.heads x.op.name).isSome = true; rw [← HTK.out]; simp), if_neg (by rw [vers_some, ← HTV.out]; simp), if_pos (show 64 ≤ S.st.heads.length from hl)])
            have HS : S.branch x.op = S := by unfold MV.branch; rw [HB.out]; rfl
            rw [HS, HB.out] at HH
            go_wp2_with (first
              | (go_at_call 35; with_reducible refine fail_any 195 H4 ?_; intro w5 H5 I5)
              | (with_reducible refine store_ans rfl (.tmp 4) (.tmp 49) rfl rfl nil4_fit H5 rfl ?_; intro w6 H6 I6; obtain ⟨d0, d1, d2, d3, d4, d5, d6, d7⟩ := ansA_reads H6))
            exact bodyPost_ret (v := ansV (Md.fail 195) nil4) (by simp [results, Tryz.results31, go_sem, d0, d1, d2, d3, d4, d5, d6, d7]) rfl (HH.out _ (HF _ H6.right) ((I4.trans I5).trans I6))
          · have hli : ¬ (64 : Int) ≤ (S.heads.length : Int) := by omega
            have HB : Hid ((Md.branch S.st x.op).2 = {} ∧ S.branch x.op = { S with heads := aput S.heads x.op.name x.op.a }) := Lib.hid (by
              have e : Md.branch S.st x.op = ({ S.st with heads := aput S.st.heads x.op.name x.op.a }, {}) := by
                unfold Md.branch
                rw [if_neg (by rw [← HNK.out]; simp), if_neg (by show ¬ (aget S.heads x.op.name).isSome = true; rw [← HTK.out]; simp), if_neg (by rw [vers_some, ← HTV.out]; simp), if_neg (show ¬ 64 ≤ S.st.heads.length from hl)]
              exact ⟨by rw [e], by unfold MV.branch; rw [e]; rfl⟩)
            rw [HB.out.1, HB.out.2] at HH
            go_upto_region 11 with fail
            obtain ⟨w5, e5, H5, I5⟩ := run_update (P := Tryz.prog) (T := 71) strKey Tryz.underlying71 Tryz.underlying9 (ModelAt.asH K4.drew) x.op.name x.op.a
            have K5 := ModelAt.ofH H5
            have Z0 : _ ∧ _ ∧ _ := ⟨(ModelAt.cells K4.drew).2.1, (op_reads K4.drew.right.right).2.1, (op_reads K4.drew.right.right).2.2.2.2.1⟩
            have Z1 : _ ∧ _ ∧ _ := ⟨(ModelAt.cells K5).2.1, (op_reads K5.right.right).2.1, (op_reads K5.right.right).2.2.2.2.1⟩
            clear c0 c1 c2 c3 x0 x1 x2 x3 x4 x5 x6 x7 x8 x9 hlm
            go_region_held3 (fun W => W.cell? ⟨h.b, 1, none⟩ = some (.map (some h.bh)) ∧ W.cell? ⟨o, 1, none⟩ = some (.string x.op.name) ∧ W.cell? ⟨o, 4, none⟩ = some (.int .i64 x.op.a)) (first | exact Z0 | exact Z1) (fail)
            all_goals
              have K6 : Sat (ansZ r * (ModelAt h { S with heads := aput S.heads x.op.name x.op.a } * (OpAt o x * F))) w5 := K5.of_eq (by ac_rfl)
              clear Z0 Z1
              go_wp2_with (with_reducible refine store_ans rfl (.tmp 4) (.tmp 58) rfl rfl nil4_fit (A := {}) K6 rfl ?_; intro w6 H6 I6; obtain ⟨d0, d1, d2, d3, d4, d5, d6, d7⟩ := ansA_reads H6)
              exact bodyPost_ret (v := ansV {} nil4) (by simp [results, Tryz.results31, go_sem, d0, d1, d2, d3, d4, d5, d6, d7]) rfl (HH.out _ H6.right.mid (((I4.drew).trans I5).trans I6))
end
end Go.Proofs.YtabpgejjnphfcaaGreat

/-
  The model of the index: drop, by its walk. It proves no statement by itself.
-/
namespace Go.Proofs.YtabpgejjnphfcaaGreat
open Go.RowKit Go.Lib Go.MapKept
open Md (Nm St)
set_option linter.unusedSimpArgs false
set_option linter.unusedVariables false
set_option linter.unusedSectionVars false
section
variable {κ ν : Type} {ek : κ → Value} {ev : ν → Value} {b r : Nat} {l left : List (κ × ν)} {cur : Option (κ × ν)} {F : Asn} {w : World}
/-- How many entries an iterator has left. -/
def rngLeft (b r : Nat) (w : World) : Nat := match w.heap[r]?, w.heap[b]? with
  | some (.mapIter _ _ seen _), some (.map es _) => (leftOf es seen).size
  | _, _ => 0
theorem rngLeft_eq (H : Sat (Ranging ek ev b r l left cur * F) w) : rngLeft b r w = left.length := by
  obtain ⟨es, clock, seen, ⟨h1, h2, h4, _⟩, h3⟩ := sat_ranging.1 H
  unfold rngLeft
  rw [h3.right.left.at, h3.left.at]
  simp only
  have := congrArg List.length h4
  simpa [ents] using this
end
section
variable {F : Asn} {w : World} {R : Ending → World → Prop} {h : Mh} {S : MV}
def MV.drop (S : MV) (id : Int) : MV := if (Md.drop S.st id).2.err = 0 then { S with vers := adel S.vers id } else S
theorem MV.drop_st (S : MV) (id : Int) : (S.drop id).st = (Md.drop S.st id).1 := by
  unfold MV.drop
  split
  · rename_i e
    unfold Md.drop at e ⊢
    split
    · rename_i h1; rw [if_pos h1] at e; cases e
    · rename_i h1
      rw [if_neg h1] at e
      split
      · rename_i h2; rw [if_pos h2] at e; cases e
      · simp only [MV.st, adel_amap]
  · rename_i e
    exact (Md.drop_err e).symm
theorem MV.drop_ok {S : MV} {id : Int} {p : Pl} (hk : S.Ok p) : (S.drop id).Ok p := by
  unfold MV.drop
  split
  · refine ⟨fun i x e => ?_, hk.q⟩
    simp only [Md.aget_del] at e
    split at e
    · cases e
    · exact hk.v i x e
  · exact hk
set_option maxRecDepth 100000 in
set_option maxHeartbeats 4000000 in
theorem drop_any (id : Int) (hsl : S.Sl) (H : Sat (ModelAt h S * F) w)
    (hh : ∀ w', Sat (ModelAt h (S.drop id) * F) w' → Io w w' → R (.returned (ansV (Md.drop S.st id).2 nil4)) w') :
    Calls Tryz.prog 32 #[h.ptr, .int .i64 id] w R := by
  have HH := Lib.hid hh
  clear hh
  have H0 := ansZ_new H
  have I0 := io_ansZ w
  obtain ⟨va, vn, vc, hva⟩ := hsl id
  obtain ⟨tv, htv⟩ : ∃ b, b = (aget S.vers id).isSome := ⟨_, rfl⟩
  have HTV := Lib.hid htv
  have L2 : ∀ (G : Asn) W, Sat (ModelAt h S * G) W → (Instr.lookup 70 (.map (some h.bv)) (.int .i64 id) true).run Tryz.prog W = .ok (.tuple #[.agg #[.int .i64 (S.vv id).1, .slice va vn vc], .bool tv]) W := fun G W hW => by rw [htv, ← hva]; exact look_ver2 hW _
  have HL2 := Lib.hid L2
  clear htv L2 hva
  generalize (S.vv id).1 = pr0 at *
  go_enter Tryz.func32, Tryz.ntmps32
  go_upto_region 1 with fail
  generalize w.alloc (.cells #[.int .i64 0, .int .i64 0, .bool false, .int .i64 0, .slice none 0 0, .slice none 0 0, .slice none 0 0, .slice none 0 0] 37) = w0 at *
  generalize w.heap.size = r at *
  have H1 : Sat (ModelAt h S * (ansZ r * F)) w0 := H0.of_eq (by ac_rfl)
  obtain ⟨c0, c1, c2, c3⟩ := ModelAt.cells H1
  have e1 := HL2.out _ _ H1
  go_upto_region 2 with fail
  have H3 : Sat (ansZ r * (ModelAt h S * F)) (w0.alloc (.cells #[.int .i64 pr0, .slice va vn vc] 69)) := H0.alloc _
  have I3 := I0.alloc (.cells #[.int .i64 pr0, .slice va vn vc] 69)
  generalize w0.alloc (.cells #[.int .i64 pr0, .slice va vn vc] 69) = w2 at *
  clear e1 c0 c1 c2 c3 H0 H1 I0 HL2
  have K3 : Sat (ModelAt h S * (ansZ r * F)) w2 := H3.of_eq (by ac_rfl)
  obtain ⟨c0, c1, c2, c3⟩ := ModelAt.cells K3
  cases tv with
  | false =>
    have HB : Hid (Md.drop S.st id = (S.st, Md.fail 190)) := Lib.hid (by unfold Md.drop; rw [if_pos (by rw [vers_some, ← HTV.out])])
    have HS : S.drop id = S := by unfold MV.drop; rw [HB.out]; rfl
    rw [HS, HB.out] at HH
    go_wp2_with (first
      | (go_at_call 35; with_reducible refine fail_any 190 H3 ?_; intro w5 H5 I5)
      | (with_reducible refine store_ans rfl (.tmp 4) (.tmp 20) rfl rfl nil4_fit H5 rfl ?_; intro w6 H6 I6; obtain ⟨d0, d1, d2, d3, d4, d5, d6, d7⟩ := ansA_reads H6))
    exact bodyPost_ret (v := ansV (Md.fail 190) nil4) (by simp [results, Tryz.results32, go_sem, d0, d1, d2, d3, d4, d5, d6, d7]) rfl (HH.out _ H6.right ((I3.trans I5).trans I6))
  | true =>
    go_wp2_with (at_range; refine wpList_range_sl Tryz.underlying71 rfl (.tmp 24) rfl rfl (ModelAt.asH K3) ?_; intro w4 H4 I4)
    go_frame
    generalize w2.heap.size = rb at *
    clear c0 c1 c2 c3
    go_loopw [26] (fun _ wr => ∃ left : List (Nm × Int), Hid ((∀ p ∈ left, p ∈ S.heads) ∧ ∀ p ∈ S.heads, p ∈ left ∨ p.2 ≠ id) ∧ Sat (Ranging ekS ekI h.bh rb S.heads left none * (MCell h S.next * (MapAt ekI evV h.bv S.vers * (MapAt ekS evP h.bp S.pend * (ansZ r * F))))) wr ∧ Io w wr) (fun _ wr => rngLeft h.bh rb wr)
    case atStart => exact ⟨S.heads, Lib.hid ⟨fun _ h => h, fun _ h => .inl h⟩, H4, I3.trans I4⟩
    case round =>
      obtain ⟨left, hl, Hk, Ik⟩ := hrel
      clear H4 I4 K3 H3 I3
      have hm := rngLeft_eq Hk
      go_wp2_with (at_next; refine wpList_next_sl rfl (.tmp 25) rfl rfl Hk ?_ ?_)
      · intro h0
        subst h0
        have K5 : Sat (ModelAt h S * (ansZ r * F)) wr := (Ranging.stop Hk).of_eq (by unfold ModelAt MapsAt; ac_rfl)
        have hany : (S.heads.any fun x => decide (x.2 = id)) = false := by
          rw [List.any_eq_false]
          intro p hp
          rcases hl.out.2 p hp with h | h
          · cases h
          · simpa using h
        have HB : Hid ((Md.drop S.st id).2 = {} ∧ S.drop id = { S with vers := adel S.vers id }) := Lib.hid (by
          have e : Md.drop S.st id = ({ S.st with vers := adel S.st.vers id }, {}) := by
            unfold Md.drop
            rw [if_neg (by rw [vers_some, ← HTV.out]; simp), if_neg (by show ¬ (S.heads.any fun x => decide (x.2 = id)) = true; rw [hany]; simp)]
          exact ⟨by rw [e], by unfold MV.drop; rw [e]; rfl⟩)
        rw [HB.out.1, HB.out.2] at HH
        obtain ⟨c0, c1, c2, c3⟩ := ModelAt.cells K5
        obtain ⟨w6, e6, H6, I6⟩ := run_delete (P := Tryz.prog) (T := 70) intKey Tryz.underlying70 Tryz.underlying3 (ModelAt.asV K5) id 0 3
        have K6 : Sat (ansZ r * (ModelAt h { S with vers := adel S.vers id } * F)) w6 := (ModelAt.ofV H6).of_eq (by ac_rfl)
        clear hany Hk hl hm
        go_wp2_with (with_reducible refine store_ans rfl (.tmp 4) (.tmp 39) rfl rfl nil4_fit (A := {}) K6 rfl ?_; intro w7 H7 I7; obtain ⟨d0, d1, d2, d3, d4, d5, d6, d7⟩ := ansA_reads H7)
        exact bodyPost_ret (v := ansV {} nil4) (by simp [results, Tryz.results32, go_sem, d0, d1, d2, d3, d4, d5, d6, d7]) rfl (HH.out _ H7.right ((Ik.trans I6).trans I7))
      · intro l1 nm hd l2 w5 e5 H5 I5
        have e6 := run_entry (P := Tryz.prog) H5
        have hm5 := rngLeft_eq H5
        by_cases hid : hd = id
        · subst hid
          have K5 : Sat (ansZ r * (ModelAt h S * F)) w5 := (Ranging.stop H5).of_eq (by unfold ModelAt MapsAt; ac_rfl)
          have hany : (S.heads.any fun x => decide (x.2 = hd)) = true := by
            rw [List.any_eq_true]
            exact ⟨(nm, hd), hl.out.1 _ (by rw [e5]; simp), by simp⟩
          have HB : Hid (Md.drop S.st hd = (S.st, Md.fail 194)) := Lib.hid (by unfold Md.drop; rw [if_neg (by rw [vers_some, ← HTV.out]; simp), if_pos (show (S.st.heads.any fun x => decide (x.2 = hd)) = true from hany)])
          have HS : S.drop hd = S := by unfold MV.drop; rw [HB.out]; rfl
          rw [HS, HB.out] at HH
          clear hany HS hm hm5 hl Hk
          go_wp2_with (first
            | (go_at_call 35; with_reducible refine fail_any 194 K5 ?_; intro w6 H6 I6)
            | (with_reducible refine store_ans rfl (.tmp 4) (.tmp 33) rfl rfl nil4_fit H6 rfl ?_; intro w7 H7 I7; obtain ⟨d0, d1, d2, d3, d4, d5, d6, d7⟩ := ansA_reads H7))
          exact bodyPost_ret (v := ansV (Md.fail 194) nil4) (by simp [results, Tryz.results32, go_sem, d0, d1, d2, d3, d4, d5, d6, d7]) rfl (HH.out _ H7.right (((Ik.trans I5).trans I6).trans I7))
        · have HL : Hid ((∀ p ∈ l1 ++ l2, p ∈ S.heads) ∧ ∀ p ∈ S.heads, p ∈ l1 ++ l2 ∨ p.2 ≠ id) := Lib.hid (by
            refine ⟨fun p hp => hl.out.1 p (by rw [e5]; simp at hp ⊢; rcases hp with h | h <;> simp [h]), fun p hp => ?_⟩
            rcases hl.out.2 p hp with h | h
            · rw [e5] at h
              simp only [List.mem_append, List.mem_cons] at h ⊢
              rcases h with h | rfl | h
              · exact .inl (.inl h)
              · exact .inr hid
              · exact .inl (.inr h)
            · exact .inr h)
          have hmm : rngLeft h.bh rb w5 < rngLeft h.bh rb wr := by rw [hm, hm5, e5]; simp
          clear hl hm hm5
          go_wp2_with fail
          go_roundw
          case rel => exact ⟨l1 ++ l2, HL, Ranging.forget H5, Ik.trans I5⟩
          case measure => exact hmm
end
end Go.Proofs.YtabpgejjnphfcaaGreat
