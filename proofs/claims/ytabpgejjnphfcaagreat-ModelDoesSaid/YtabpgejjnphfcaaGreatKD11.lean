/-
  The document's model: branch, by its walk. It proves no statement by itself.
-/
import Derived.Test.YtabpgejjnphfcaaGreatQ45
namespace Go.Proofs.YtabpgejjnphfcaaGreat
open Go.RowKit
open Go.Lib
open Md (Nm St)
set_option linter.unusedSimpArgs false
set_option linter.unusedVariables false
set_option linter.unusedSectionVars false
theorem Reads.take {α : Type} {enc : α → List Value} {sz : Nat} (he : Enc enc sz) {F : Asn} {a : Option Addr} {n c c' : Nat} {l : List α} (h : Reads enc F (.slice a n c) l) (k : Nat) (hk : k ≤ l.length) : Reads enc F (.slice a k c') (l.take k) := by
  obtain ⟨a', c2, e, hm, h3⟩ := h
  cases e
  refine ⟨a, c', by rw [List.length_take, Nat.min_eq_left hk], by rw [List.length_take]; omega, ?_⟩
  rcases h3 with rfl | ⟨b, off, e, h3⟩
  · exact .inl (by simp)
  · refine .inr ⟨b, off, e, fun w hw j u hu => h3 w hw j u ?_⟩
    have hs : cellsOf enc l = cellsOf enc (l.take k) ++ cellsOf enc (l.drop k) := by rw [← cellsOf_append, List.take_append_drop]
    rw [hs, List.getElem?_append_left (List.getElem?_eq_some_iff.1 hu).1]
    exact hu
theorem Reads.drop {α : Type} {enc : α → List Value} {sz : Nat} (he : Enc enc sz) {F : Asn} {b off n c c' : Nat} {l : List α} (h : Reads enc F (.slice (some ⟨b, off, none⟩) n c) l) (k : Nat) (hk : k ≤ l.length) : Reads enc F (.slice (some ⟨b, off + k * sz, none⟩) (n - k) c') (l.drop k) := by
  obtain ⟨a', c2, e, hm, h3⟩ := h
  cases e
  refine ⟨_, c', by rw [List.length_drop], by rw [List.length_drop]; omega, ?_⟩
  rcases h3 with rfl | ⟨b', off', e, h3⟩
  · exact .inl (by simp)
  · cases e
    refine .inr ⟨b, off + k * sz, rfl, fun w hw j u hu => ?_⟩
    rw [Nat.add_assoc]
    refine h3 w hw (k * sz + j) u ?_
    have hs : cellsOf enc l = cellsOf enc (l.take k) ++ cellsOf enc (l.drop k) := by rw [← cellsOf_append, List.take_append_drop]
    have hl : (cellsOf enc (l.take k)).length = k * sz := by rw [cellsOf_length he, List.length_take, Nat.min_eq_left hk]
    rw [hs, List.getElem?_append_right (by omega), hl, Nat.add_sub_cancel_left]
    exact hu
theorem Reads.drop1 {α : Type} {enc : α → List Value} (he : Enc enc 1) {F : Asn} {b n c : Nat} {l : List α} (h : Reads enc F (.slice (some ⟨b, 0, none⟩) n c) l) (k : Nat) (hk : k ≤ l.length) (hc : n ≤ c) : Reads enc F (.slice (if c = k then some ⟨b, 0, none⟩ else some ⟨b, k, none⟩) (n - k) (c - k)) (l.drop k) := by
  by_cases e : c = k
  · have hn : n = l.length := by obtain ⟨_, _, e2, _⟩ := h; cases e2; rfl
    rw [if_pos e]
    have : l.drop k = [] := List.drop_of_length_le (by omega)
    rw [this]
    exact ⟨_, _, by rw [show n - k = 0 from by omega]; rfl, by simp, .inl rfl⟩
  · rw [if_neg e]
    have := Reads.drop (c' := c - k) he h k hk
    simpa using this
theorem rowOf_cap {α : Type} {enc : α → List Value} {sz : Nat} {e : TypeId} {a : Option Addr} {n c : Nat} {l : List α} {F : Asn} {w : World} (H : Sat (RowOf e sz enc (.slice a n c) l * F) w) : n ≤ c := by
  obtain ⟨hx, ⟨h0, _⟩ | ⟨g', cap, cur, e1, h2, _⟩⟩ := sat_row.1 H
  · cases h0; exact Nat.le_refl _
  · cases e1; exact h2
section
variable {F : Asn} {w : World} {R : Ending → World → Prop} {x : Dx} {S : St} {p : Pl} {j : Nat}
theorem bra_swap {v7 v10 : Value} {L7 : List Sl3} {L10 : List Bool} {A B : Asn} (H : Sat (RowBo v10 L10 * (RowSl v7 L7 * (A * B))) w) : Sat (RowSl v7 L7 * (A * (RowBo v10 L10 * B))) w := H.of_eq (by ac_rfl)
theorem bra_swap2 {v10 : Value} {L10 : List Bool} {A B : Asn} (H : Sat (A * (RowBo v10 L10 * B)) w) : Sat (RowBo v10 L10 * (A * B)) w := H.of_eq (by ac_rfl)
theorem DAt.storeQ2 {v' : Value} {Q' : List (Sl3 × List Pr)} (H : Sat (RowSl v' (Q'.map (·.1)) * (DAt x * F)) w) : Sat (DAt { x with vq := v', Q := Q' } * F) (w.setCell ⟨x.b, 2, none⟩ v') := by
  have H1 : Sat (pts x.b (.cells #[lptr x.l, x.ve, x.vq, x.vd, .int .i64 x.n] 95 (0, 0)) * (RowSl v' (Q'.map (·.1)) * (LAt x.l x.vv x.vb x.V x.B * (RowSl x.ve (x.E.map (·.1)) * (RowBo x.vd x.D * F))))) w := (H.of_eq (show _ = RowSl x.vq (x.Q.map (·.1)) * (pts x.b (.cells #[lptr x.l, x.ve, x.vq, x.vd, .int .i64 x.n] 95 (0, 0)) * (RowSl v' (Q'.map (·.1)) * (LAt x.l x.vv x.vb x.V x.B * (RowSl x.ve (x.E.map (·.1)) * (RowBo x.vd x.D * F))))) from by unfold DAt DRows DMC; ac_rfl)).right
  have H2 : Sat (pts x.b (.cells #[lptr x.l, x.ve, v', x.vd, .int .i64 x.n] 95 (0, 0)) * (RowSl v' (Q'.map (·.1)) * (LAt x.l x.vv x.vb x.V x.B * (RowSl x.ve (x.E.map (·.1)) * (RowBo x.vd x.D * F))))) _ := H1.cell 2 v'
  refine H2.of_eq ?_
  show _ = LAt x.l x.vv x.vb x.V x.B * (pts x.b (.cells #[lptr x.l, x.ve, v', x.vd, .int .i64 x.n] 95 (0, 0)) * (RowSl x.ve (x.E.map (·.1)) * (RowSl v' (Q'.map (·.1)) * RowBo x.vd x.D))) * F
  ac_rfl
theorem DAt.storeD2 {v' : Value} {D' : List Bool} (H : Sat (RowBo v' D' * (DAt x * F)) w) : Sat (DAt { x with vd := v', D := D' } * F) (w.setCell ⟨x.b, 3, none⟩ v') := by
  have H1 : Sat (pts x.b (.cells #[lptr x.l, x.ve, x.vq, x.vd, .int .i64 x.n] 95 (0, 0)) * (RowBo v' D' * (LAt x.l x.vv x.vb x.V x.B * (RowSl x.ve (x.E.map (·.1)) * (RowSl x.vq (x.Q.map (·.1)) * F))))) w := (H.of_eq (show _ = RowBo x.vd x.D * (pts x.b (.cells #[lptr x.l, x.ve, x.vq, x.vd, .int .i64 x.n] 95 (0, 0)) * (RowBo v' D' * (LAt x.l x.vv x.vb x.V x.B * (RowSl x.ve (x.E.map (·.1)) * (RowSl x.vq (x.Q.map (·.1)) * F))))) from by unfold DAt DRows DMC; ac_rfl)).right
  have H2 : Sat (pts x.b (.cells #[lptr x.l, x.ve, x.vq, v', .int .i64 x.n] 95 (0, 0)) * (RowBo v' D' * (LAt x.l x.vv x.vb x.V x.B * (RowSl x.ve (x.E.map (·.1)) * (RowSl x.vq (x.Q.map (·.1)) * F))))) _ := H1.cell 3 v'
  refine H2.of_eq ?_
  show _ = LAt x.l x.vv x.vb x.V x.B * (pts x.b (.cells #[lptr x.l, x.ve, x.vq, v', .int .i64 x.n] 95 (0, 0)) * (RowSl x.ve (x.E.map (·.1)) * (RowSl x.vq (x.Q.map (·.1)) * RowBo v' D'))) * F
  ac_rfl
theorem DocOk.mkB (h : DocOk j S p x) (n : Nm) (a : Int) : Md.mk x.V x.B n a = if Md.nameOk n = false then (193, x.B) else if (aget S.heads n).isSome = true then (192, x.B) else if (aget S.vers a).isSome = false then (190, x.B) else if 64 ≤ S.heads.length then (195, x.B) else (0, x.B.take (Md.bput x.B n) ++ ⟨n, a⟩ :: x.B.drop (Md.bput x.B n)) := by
  unfold Md.mk
  have h1 := h.bsome n
  have h2 := h.vsome a
  have h3 : x.B.length = S.heads.length := by have e : x.B = Md.blist S := h.sim.b; rw [e, Md.blist_len]
  rw [h3]
  by_cases c1 : Md.nameOk n = false
  · rw [if_pos c1, if_pos c1]
  · rw [if_neg c1, if_neg c1]
    by_cases c2 : (aget S.heads n).isSome = true
    · rw [if_pos c2, if_pos (by rw [← h3]; exact h1.2 c2)]
    · rw [if_neg c2, if_neg (by rw [← h3]; exact fun e => c2 (h1.1 e))]
      by_cases c3 : (aget S.vers a).isSome = true
      · have e1 := h2.2 c3
        rw [if_neg (show ¬ ¬ Md.vplace x.V a < x.V.length from fun e => e e1), if_neg (show ¬ (aget S.vers a).isSome = false by rw [c3]; simp)]
      · rw [if_pos (fun e => c3 (h2.1 e)), if_pos (by simpa using c3)]
/-- What a branch makes of it. -/
def Dx.bra (x : Dx) (vb vq vd : Value) (n : Nm) (a : Int) (q : Nat) : Dx :=
  { x with vb := vb, vq := vq, vd := vd, B := x.B.take q ++ ⟨n, a⟩ :: x.B.drop q, Q := x.Q.take q ++ ((none, 0, 0), []) :: x.Q.drop q, D := x.D.take q ++ false :: x.D.drop q }
theorem DocOk.branch (h : DocOk j S p x) {o : Md.Op} (h1 : Md.nameOk o.name = true) (h2 : (aget S.heads o.name).isSome = false) (h3 : (aget S.vers o.a).isSome = true) (h4 : S.heads.length < 64) (vb vq vd : Value) : DocOk (j + 1) (Md.branch S o).1 p (x.bra vb vq vd o.name o.a (Md.bput x.B o.name)) where
  inv := Md.inv_branch h.inv o
  sim := by
    have := h.sim.branch h.inv h1 h2 h3 h4
    unfold Dx.dv Dx.bra at *
    simp only [List.map_append, List.map_cons, List.map_take, List.map_drop] at this ⊢
    exact this
  ok := ⟨h.ok.e, fun y hy => by
    rcases List.mem_append.1 hy with hy | hy
    · exact h.ok.q y (List.mem_of_mem_take hy)
    · rcases List.mem_cons.1 hy with rfl | hy
      · exact .inl ⟨rfl, rfl⟩
      · exact h.ok.q y (List.mem_of_mem_drop hy)⟩
  ne := by unfold Dx.bra; simp
set_option maxRecDepth 100000 in
set_option maxHeartbeats 16000000 in
theorem rmbranch_any (y : OpX) (hsz : y.op.name.size ≤ 1000000) (hj : j ≤ 300) (ok : DocOk j S p x) {S' : St} {A : Md.An} (hm : Hid (Md.branch S y.op = (S', A))) (H : Sat (DAt x * (Pool p * F)) w)
    (hh : ∀ x' w', x'.b = x.b → DocOk (j + 1) S' p x' → Sat (DAt x' * (Pool p * F)) w' → Io w w' → R (.returned (ansV A nil4)) w') :
    Calls Tryz.prog 55 #[x.ptr, opV y] w R := by
  have HH := Lib.hid hh
  clear hh
  have OK := Lib.hid ok
  obtain ⟨qa', qc', hvq⟩ := DAt.shQ H
  have HQN : Hid (x.Q ≠ [] → ∃ g c, x.vq = .slice (some ⟨g, 0, none⟩) x.Q.length c) := Lib.hid (fun hne => DAt.shQ_ne hne H)
  have HDN : Hid (x.D ≠ [] → ∃ g c, x.vd = .slice (some ⟨g, 0, none⟩) x.D.length c) := Lib.hid (fun hne => DAt.shD_ne hne H)
  have H00 : Sat (OpAt w.heap.size y * (DAt x * (Pool p * F))) (w.alloc (.cells (opC y) 41)) := H.new _
  have I00 : Io w (w.alloc (.cells (opC y) 41)) := (Io.refl w).alloc _
  have H0 := ansZ_new H00
  have I0 := I00.trans (io_ansZ _)
  have hr : (w.alloc (.cells (opC y) 41)).heap.size = w.heap.size + 1 := by simp
  rw [hr] at H0
  clear H00 I00 hr hvq
  have FX := Lib.hid (ok.fit (by omega))
  have HNE := Lib.hid ok.ne
  have f2 := FX.out.b
  have f1 := FX.out.v
  obtain ⟨⟨me, mB⟩, hmk⟩ : ∃ r, Md.mk x.V x.B y.op.name y.op.a = r := ⟨_, rfl⟩
  have HMK := Lib.hid hmk
  rw [ok.mkB] at hmk
  have HMJ := Lib.hid hmk
  clear hmk ok
  have HZ := Lib.hid (fun (o : Nat) (vb' : Value) (B' : List Md.Br) (G : Asn) W (hW : Sat (LAt x.l x.vv vb' x.V B' * (DMC x * (DRows x * (OpAt o y * G)))) W) => (⟨(DMC.cells hW.right).1, (op_reads hW.right.right.right).2.1, (op_reads hW.right.right.right).2.2.2.2.1⟩ : W.cell? ⟨x.b, 0, none⟩ = some (lptr x.l) ∧ W.cell? ⟨o, 1, none⟩ = some (.string y.op.name) ∧ W.cell? ⟨o, 4, none⟩ = some (.int .i64 y.op.a)))
  go_enter Tryz.func55, Tryz.ntmps55
  go_upto_region 1 with fail
  generalize (w.alloc (.cells (opC y) 41)).alloc (.cells #[.int .i64 0, .int .i64 0, .bool false, .int .i64 0, .slice none 0 0, .slice none 0 0, .slice none 0 0, .slice none 0 0] 37) = w0 at *
  generalize w.heap.size + 1 = r at *
  generalize w.heap.size = o at *
  have H1 : Sat (DAt x * (OpAt o y * (ansZ r * (Pool p * F)))) w0 := H0.of_eq (by ac_rfl)
  have LL := DAt.asL H1.drew
  have Z0 := HZ.out _ _ _ _ _ LL
  clear H0
  go_region_held3 (fun W => W.cell? ⟨x.b, 0, none⟩ = some (lptr x.l) ∧ W.cell? ⟨o, 1, none⟩ = some (.string y.op.name) ∧ W.cell? ⟨o, 4, none⟩ = some (.int .i64 y.op.a)) (first | exact Z0 | exact Z1) ((go_at_call 51; with_reducible refine rmake_any y.op.name y.op.a hsz (by omega) (by omega) HMK LL ?_; intro vb' w1 H2 I2; have Z1 := HZ.out _ _ _ _ _ H2))
  all_goals
    clear Z0 Z1 LL H1
    have I3 := I0.drew.trans I2
    have hmk := HMJ.out
    have K2 := DAt.setL (vv' := x.vv) H2
    by_cases c1 : Md.nameOk y.op.name = false
    · rw [if_pos c1] at hmk
      cases hmk
      obtain ⟨rfl, rfl⟩ : S' = S ∧ A = Md.fail 193 := by
        have e := hm.out
        unfold Md.branch at e
        rw [if_pos c1] at e
        cases e; exact ⟨rfl, rfl⟩
      have okk : DocOk (j + 1) _ p { x with vv := x.vv, vb := vb', V := x.V, B := x.B } := ⟨OK.out.inv.mono (by omega), OK.out.sim, ⟨OK.out.ok.e, OK.out.ok.q⟩, OK.out.ne⟩
      have K4 : Sat (ansZ r * (OpAt o y * (DAt { x with vv := x.vv, vb := vb', V := x.V, B := x.B } * (Pool p * F)))) w1 := K2.of_eq (by ac_rfl)
      have OKK := Lib.hid okk
      clear okk c1
      go_wp2_with (first
        | (go_at_call 58; with_reducible refine rfail_any 193 K4 ?_; intro w7 H7 I7)
        | (with_reducible refine store_ans rfl (.tmp 4) (.tmp 21) rfl rfl nil4_fit H7 rfl ?_; intro w6 H6 I6; obtain ⟨d0, d1, d2, d3, d4, d5, d6, d7⟩ := ansA_reads H6))
      exact bodyPost_ret (v := ansV (Md.fail 193) nil4) (by simp [results, Tryz.results55, go_sem, d0, d1, d2, d3, d4, d5, d6, d7]) rfl (HH.out { x with vv := x.vv, vb := vb', V := x.V, B := x.B } _ rfl OKK.out H6.right.right ((I3.trans I7).trans I6))
    · rw [if_neg c1] at hmk
      by_cases c2 : (aget S.heads y.op.name).isSome = true
      · rw [if_pos c2] at hmk
        cases hmk
        obtain ⟨rfl, rfl⟩ : S' = S ∧ A = Md.fail 192 := by
          have e := hm.out
          unfold Md.branch at e
          rw [if_neg c1, if_pos c2] at e
          cases e; exact ⟨rfl, rfl⟩
        have okk : DocOk (j + 1) _ p { x with vv := x.vv, vb := vb', V := x.V, B := x.B } := ⟨OK.out.inv.mono (by omega), OK.out.sim, ⟨OK.out.ok.e, OK.out.ok.q⟩, OK.out.ne⟩
        have K4 : Sat (ansZ r * (OpAt o y * (DAt { x with vv := x.vv, vb := vb', V := x.V, B := x.B } * (Pool p * F)))) w1 := K2.of_eq (by ac_rfl)
        have OKK := Lib.hid okk
        clear okk c1
        go_wp2_with (first
          | (go_at_call 58; with_reducible refine rfail_any 192 K4 ?_; intro w7 H7 I7)
          | (with_reducible refine store_ans rfl (.tmp 4) (.tmp 21) rfl rfl nil4_fit H7 rfl ?_; intro w6 H6 I6; obtain ⟨d0, d1, d2, d3, d4, d5, d6, d7⟩ := ansA_reads H6))
        exact bodyPost_ret (v := ansV (Md.fail 192) nil4) (by simp [results, Tryz.results55, go_sem, d0, d1, d2, d3, d4, d5, d6, d7]) rfl (HH.out { x with vv := x.vv, vb := vb', V := x.V, B := x.B } _ rfl OKK.out H6.right.right ((I3.trans I7).trans I6))
      · rw [if_neg c2] at hmk
        by_cases c3 : (aget S.vers y.op.a).isSome = false
        · rw [if_pos c3] at hmk
          cases hmk
          obtain ⟨rfl, rfl⟩ : S' = S ∧ A = Md.fail 190 := by
            have e := hm.out
            unfold Md.branch at e
            rw [if_neg c1, if_neg c2, if_pos c3] at e
            cases e; exact ⟨rfl, rfl⟩
          have okk : DocOk (j + 1) _ p { x with vv := x.vv, vb := vb', V := x.V, B := x.B } := ⟨OK.out.inv.mono (by omega), OK.out.sim, ⟨OK.out.ok.e, OK.out.ok.q⟩, OK.out.ne⟩
          have K4 : Sat (ansZ r * (OpAt o y * (DAt { x with vv := x.vv, vb := vb', V := x.V, B := x.B } * (Pool p * F)))) w1 := K2.of_eq (by ac_rfl)
          have OKK := Lib.hid okk
          clear okk c1
          go_wp2_with (first
            | (go_at_call 58; with_reducible refine rfail_any 190 K4 ?_; intro w7 H7 I7)
            | (with_reducible refine store_ans rfl (.tmp 4) (.tmp 21) rfl rfl nil4_fit H7 rfl ?_; intro w6 H6 I6; obtain ⟨d0, d1, d2, d3, d4, d5, d6, d7⟩ := ansA_reads H6))
          exact bodyPost_ret (v := ansV (Md.fail 190) nil4) (by simp [results, Tryz.results55, go_sem, d0, d1, d2, d3, d4, d5, d6, d7]) rfl (HH.out { x with vv := x.vv, vb := vb', V := x.V, B := x.B } _ rfl OKK.out H6.right.right ((I3.trans I7).trans I6))
        · rw [if_neg c3] at hmk
          by_cases c4 : 64 ≤ S.heads.length
          · rw [if_pos c4] at hmk
            cases hmk
            obtain ⟨rfl, rfl⟩ : S' = S ∧ A = Md.fail 195 := by
              have e := hm.out
              unfold Md.branch at e
              rw [if_neg c1, if_neg c2, if_neg c3, if_pos c4] at e
              cases e; exact ⟨rfl, rfl⟩
            have okk : DocOk (j + 1) _ p { x with vv := x.vv, vb := vb', V := x.V, B := x.B } := ⟨OK.out.inv.mono (by omega), OK.out.sim, ⟨OK.out.ok.e, OK.out.ok.q⟩, OK.out.ne⟩
            have K4 : Sat (ansZ r * (OpAt o y * (DAt { x with vv := x.vv, vb := vb', V := x.V, B := x.B } * (Pool p * F)))) w1 := K2.of_eq (by ac_rfl)
            have OKK := Lib.hid okk
            clear okk c1
            go_wp2_with (first
              | (go_at_call 58; with_reducible refine rfail_any 195 K4 ?_; intro w7 H7 I7)
              | (with_reducible refine store_ans rfl (.tmp 4) (.tmp 21) rfl rfl nil4_fit H7 rfl ?_; intro w6 H6 I6; obtain ⟨d0, d1, d2, d3, d4, d5, d6, d7⟩ := ansA_reads H6))
            exact bodyPost_ret (v := ansV (Md.fail 195) nil4) (by simp [results, Tryz.results55, go_sem, d0, d1, d2, d3, d4, d5, d6, d7]) rfl (HH.out { x with vv := x.vv, vb := vb', V := x.V, B := x.B } _ rfl OKK.out H6.right.right ((I3.trans I7).trans I6))
          · rw [if_neg c4] at hmk
            cases hmk
            have OKK := Lib.hid (OK.out.branch (o := y.op) (by simpa using c1) (by simpa using c2) ((Bool.not_eq_false _).mp c3) (by omega))
            have HA : Hid (S' = (Md.branch S y.op).1 ∧ A = {}) := Lib.hid (by
              have e := hm.out
              refine ⟨by rw [e], ?_⟩
              unfold Md.branch at e
              rw [if_neg c1, if_neg c2, if_neg c3, if_neg c4] at e
              cases e; rfl)
            have hbp := OK.out.sim.bput OK.out.inv (n := y.op.name) (a := y.op.a) (by simpa using c2)
            have hql0 := Md.bput_le x.B y.op.name
            have hbp2 : Md.bplace (x.B.take (Md.bput x.B y.op.name) ++ ⟨y.op.name, y.op.a⟩ :: x.B.drop (Md.bput x.B y.op.name)) y.op.name = Md.bput x.B y.op.name := hbp
            have HQQ : Hid ((Md.bput x.B y.op.name : Int) = Md.bnum (x.B.take (Md.bput x.B y.op.name) ++ ⟨y.op.name, y.op.a⟩ :: x.B.drop (Md.bput x.B y.op.name)) y.op.name) := Lib.hid (by
              unfold Md.bnum
              rw [hbp2, if_pos (by rw [List.length_append, List.length_take, List.length_cons, List.length_drop]; omega)])
            clear hbp hbp2 c1 c2 c3
            generalize Md.bput x.B y.op.name = q at *
            have hLe : (x.B.take q ++ (⟨y.op.name, y.op.a⟩ : Md.Br) :: x.B.drop q).length ≤ 1000000 := by rw [List.length_append, List.length_take, List.length_cons, List.length_drop]; omega
            have L2 := H2.drew
            have Z0 := HZ.out _ _ _ _ _ L2
            go_upto_region 4 with fail
            go_region_held3 (fun W => W.cell? ⟨x.b, 0, none⟩ = some (lptr x.l) ∧ W.cell? ⟨o, 1, none⟩ = some (.string y.op.name) ∧ W.cell? ⟨o, 4, none⟩ = some (.int .i64 y.op.a)) (first | exact Z0 | exact Z1) ((go_at_call 52; with_reducible refine rbranch_any y.op.name hLe L2 HQQ ?_; intro w4 H4 I4; have Z1 := HZ.out _ _ _ _ _ H4))
            all_goals
              clear Z0 Z1 L2 H2 K2
              have I5 := I3.drew.trans I4
              have K4 := DAt.setL (vv' := x.vv) H4
              have hqQ : q ≤ x.Q.length := by have := FX.out.q; omega
              have hqD : q ≤ x.D.length := by have := FX.out.d; omega
              obtain ⟨gq, cq, hvq⟩ := HQN.out (by intro e; have := FX.out.q; rw [e] at this; exact HNE.out (List.eq_nil_of_length_eq_zero (by simpa using this.symm)))
              obtain ⟨gd, cd, hvd⟩ := HDN.out (by intro e; have := FX.out.d; rw [e] at this; exact HNE.out (List.eq_nil_of_length_eq_zero (by simpa using this.symm)))
              have K5 : Sat (DAt { x with vv := x.vv, vb := vb', V := x.V, B := x.B.take q ++ ⟨y.op.name, y.op.a⟩ :: x.B.drop q } * (OpAt o y * (ansZ r * (Pool p * F)))) w4 := K4
              have HCC := Lib.hid (fun (G : Asn) W (hW : Sat (DAt { x with vv := x.vv, vb := vb', V := x.V, B := x.B.take q ++ ⟨y.op.name, y.op.a⟩ :: x.B.drop q } * G) W) => (by
                have h := DAt.cells hW
                simp only at h
                rw [hvq, hvd] at h
                exact ⟨h.2.2.1, h.2.2.2.1, by have := DAt.free hW 2; simpa using this, by have := DAt.free hW 3; simpa using this⟩ : W.cell? ⟨x.b, 2, none⟩ = some (.slice (some ⟨gq, 0, none⟩) x.Q.length cq) ∧ W.cell? ⟨x.b, 3, none⟩ = some (.slice (some ⟨gd, 0, none⟩) x.D.length cd) ∧ W.frozen? ⟨x.b, 2, none⟩ = false ∧ W.frozen? ⟨x.b, 3, none⟩ = false))
              have hrQ : Reads encSl (DAt { x with vv := x.vv, vb := vb', V := x.V, B := x.B.take q ++ ⟨y.op.name, y.op.a⟩ :: x.B.drop q } * (OpAt o y * (ansZ r * (Pool p * F)))) (.slice (some ⟨gq, 0, none⟩) x.Q.length cq) (x.Q.map (·.1)) := by
                have h := (Reads.of_row (DAt.asQ K5) (by rw [List.length_map]; have := FX.out.q; simp only; omega)).imp fun _ h => DAt.asQ h
                rw [← hvq]
                exact h
              have hrD : Reads encBo (DAt { x with vv := x.vv, vb := vb', V := x.V, B := x.B.take q ++ ⟨y.op.name, y.op.a⟩ :: x.B.drop q } * (OpAt o y * (ansZ r * (Pool p * F)))) (.slice (some ⟨gd, 0, none⟩) x.D.length cd) x.D := by
                have h := (Reads.of_row (DAt.asD K5) (by have := FX.out.d; simp only; omega)).imp fun _ h => DAt.asD h
                rw [← hvd]
                exact h
              have hcq : x.Q.length ≤ cq := by have := DAt.asQ K5; rw [hvq] at this; exact rowOf_cap this
              have hcd : x.D.length ≤ cd := by have := DAt.asD K5; rw [hvd] at this; exact rowOf_cap this
              have hlq : (x.Q.map (·.1)).length = x.Q.length := List.length_map _
              have R1 := Lib.hid (fun cc => Reads.take (c' := cc) encSl_ok hrQ q (by rw [hlq]; exact hqQ))
              have R2 := Lib.hid (Reads.drop1 encSl_ok hrQ q (by rw [hlq]; exact hqQ) hcq)
              have R3 := Lib.hid (fun cc => Reads.take (c' := cc) encBo_ok hrD q hqD)
              have R4 := Lib.hid (Reads.drop1 encBo_ok hrD q hqD hcd)
              have hQ1000 : x.Q.length ≤ 1000 := by have := FX.out.q; omega
              have hD1000 : x.D.length ≤ 1000 := by have := FX.out.d; omega
              clear hrQ hrD hlq
              obtain ⟨X, hX⟩ : ∃ X, X = DAt { x with vv := x.vv, vb := vb', V := x.V, B := x.B.take q ++ ⟨y.op.name, y.op.a⟩ :: x.B.drop q } * (OpAt o y * (ansZ r * (Pool p * F))) := ⟨_, rfl⟩
              have HX := Lib.hid hX
              rw [← hX] at R1 R2 R3 R4 K5
              have HC2 : Hid (∀ W, Sat X W → W.cell? ⟨x.b, 2, none⟩ = some (.slice (some ⟨gq, 0, none⟩) x.Q.length cq) ∧ W.cell? ⟨x.b, 3, none⟩ = some (.slice (some ⟨gd, 0, none⟩) x.D.length cd)) := Lib.hid (fun W hW => by rw [HX.out] at hW; have := HCC.out _ _ hW; exact ⟨this.1, this.2.1⟩)
              obtain ⟨c2, c3⟩ := HC2.out _ K5
              have E0 : Sat (RowSl (.slice none 0 0) [] * X) w4 := rowOf_nil K5
              have q0 : (0 : Int) ≤ (q : Int) := by omega
              have q1 : (q : Int) ≤ (x.Q.length : Int) := by omega
              have q2 : (q : Int) ≤ (x.D.length : Int) := by omega
              have q3 : (x.Q.length : Int) ≤ (cq : Int) := by omega
              have q4 : (x.D.length : Int) ≤ (cd : Int) := by omega
              clear hX K4 H4 hvq hvd
              go_upto_region 13 with (at_builtin; first
                | (refine wpList_append_recs Tryz.rowSl encSl_ok rfl (.tmp 29) (.tmp 35) rfl rfl E0 (by simp) (by rw [List.length_take, List.length_map]; omega) rfl (R1.out _) ?_; intro v5 w5 H5 I6; rw [List.nil_append] at H5)
                | (refine wpList_append_rec Tryz.rowSl encSl_ok rfl (.tmp 37) (.tmp 38) rfl rfl H5 (by rw [List.length_take, List.length_map]; omega) (none, 0, 0) rfl rfl ?_; intro v6 w6 H6 I7; obtain ⟨c2a, c3a⟩ := HC2.out _ H6.right)
                | (refine wpList_append_recs Tryz.rowSl encSl_ok rfl (.tmp 40) (.tmp 46) rfl rfl H6 (by rw [List.length_append, List.length_take, List.length_map, List.length_singleton]; omega) (by rw [List.length_drop, List.length_map]; omega) rfl R2.out ?_; intro v7 w7 H7 I8; obtain ⟨c2b, c3b⟩ := HC2.out _ H7.right; obtain ⟨a7, c7, e7⟩ := rowOf_shape H7; obtain ⟨L7, hL7⟩ : ∃ L, L = (x.Q.map (·.1)).take q ++ [(none, 0, 0)] ++ (x.Q.map (·.1)).drop q := ⟨_, rfl⟩; rw [← hL7] at H7 e7; have HL7 := Lib.hid hL7; clear hL7; subst e7; have E8 : Sat (RowBo (.slice none 0 0) [] * (RowSl (.slice a7 L7.length c7) L7 * X)) w7 := rowOf_nil H7)
                | (refine wpList_append_recs Tryz.rowBo encBo_ok rfl (.tmp 48) (.tmp 54) rfl rfl E8 (by simp) (by rw [List.length_take]; omega) rfl ((R3.out _).with) ?_; intro v8 w8 H8 I9; rw [List.nil_append] at H8)
                | (refine wpList_append_rec Tryz.rowBo encBo_ok rfl (.tmp 56) (.tmp 57) rfl rfl H8 (by rw [List.length_take]; omega) false rfl rfl ?_; intro v9 w9 H9 I10; obtain ⟨c2d, c3d⟩ := HC2.out _ H9.right.right)
                | (refine wpList_append_recs Tryz.rowBo encBo_ok rfl (.tmp 59) (.tmp 65) rfl rfl H9 (by rw [List.length_append, List.length_take, List.length_singleton]; omega) (by rw [List.length_drop]; omega) rfl (R4.out.with) ?_; intro v10 w10 H10 I11; obtain ⟨a10, c10, e10⟩ := rowOf_shape H10; obtain ⟨L10, hL10⟩ : ∃ L, L = x.D.take q ++ [false] ++ x.D.drop q := ⟨_, rfl⟩; rw [← hL10] at H10 e10; have HL10 := Lib.hid hL10; clear hL10; subst e10))
              rw [HX.out] at H10
              have hE7 : L7 = (x.Q.take q ++ ((none, 0, 0), []) :: x.Q.drop q).map (·.1) := by rw [HL7.out]; simp
              have hE10 : L10 = x.D.take q ++ false :: x.D.drop q := by rw [HL10.out]; simp
              obtain ⟨c2e, c3e, f2e, f3e⟩ := HCC.out _ _ H10.right.right
              have G10 : Sat (RowSl (.slice a7 L7.length c7) L7 * (DAt { x with vv := x.vv, vb := vb', V := x.V, B := x.B.take q ++ ⟨y.op.name, y.op.a⟩ :: x.B.drop q } * (RowBo (.slice a10 L10.length c10) L10 * (OpAt o y * (ansZ r * (Pool p * F)))))) w10 := bra_swap H10
              have I12 := ((((((((I5.trans I6).trans I7).trans I8).trans I9).trans I10).trans I11).setCell ⟨x.b, 2, none⟩ (.slice a7 L7.length c7)).setCell ⟨x.b, 3, none⟩ (.slice a10 L10.length c10))
              generalize L7.length = n7 at *
              generalize L10.length = n10 at *
              rw [hE7] at G10
              have M11 := DAt.storeQ2 (x := { x with vv := x.vv, vb := vb', V := x.V, B := x.B.take q ++ ⟨y.op.name, y.op.a⟩ :: x.B.drop q }) (Q' := x.Q.take q ++ ((none, 0, 0), []) :: x.Q.drop q) G10
              obtain ⟨k0, k1, k2, k3, k4⟩ := DAt.cells (x := { x with vv := x.vv, vb := vb', vq := .slice a7 n7 c7, V := x.V, B := x.B.take q ++ ⟨y.op.name, y.op.a⟩ :: x.B.drop q, Q := x.Q.take q ++ ((none, 0, 0), []) :: x.Q.drop q }) M11
              have fr3 := DAt.free (x := { x with vv := x.vv, vb := vb', vq := .slice a7 n7 c7, V := x.V, B := x.B.take q ++ ⟨y.op.name, y.op.a⟩ :: x.B.drop q, Q := x.Q.take q ++ ((none, 0, 0), []) :: x.Q.drop q }) M11 3
              simp only at k0 k1 k2 k3 k4 fr3
              have M12 := DAt.storeD2 (x := { x with vv := x.vv, vb := vb', vq := .slice a7 n7 c7, V := x.V, B := x.B.take q ++ ⟨y.op.name, y.op.a⟩ :: x.B.drop q, Q := x.Q.take q ++ ((none, 0, 0), []) :: x.Q.drop q }) (D' := L10) (v' := .slice a10 n10 c10) (F := OpAt o y * (ansZ r * (Pool p * F))) (bra_swap2 M11)
              have K13 : Sat (ansZ r * (OpAt o y * (DAt (x.bra vb' (.slice a7 n7 c7) (.slice a10 n10 c10) y.op.name y.op.a q) * (Pool p * F)))) _ := M12.of_eq (by rw [hE10]; unfold Dx.bra; ac_rfl)
              clear hE7 hE10 M11 M12 G10 H10 H9 H8 H7 H6 H5 E8 E0 R1 R2 R3 R4
              go_wp2_with (with_reducible refine store_ans (A := {}) rfl (.tmp 4) (.tmp 75) rfl rfl nil4_fit K13 rfl ?_; intro w6 H6 I6; obtain ⟨d0, d1, d2, d3, d4, d5, d6, d7⟩ := ansA_reads H6)
              all_goals
                obtain ⟨rfl, rfl⟩ := HA.out
                exact bodyPost_ret (v := ansV {} nil4) (by simp [results, Tryz.results55, go_sem, d0, d1, d2, d3, d4, d5, d6, d7]) rfl (HH.out (x.bra vb' (.slice a7 n7 c7) (.slice a10 n10 c10) y.op.name y.op.a q) _ rfl (OKK.out _ _ _) H6.right.right (I12.trans I6))
end
end Go.Proofs.YtabpgejjnphfcaaGreat
