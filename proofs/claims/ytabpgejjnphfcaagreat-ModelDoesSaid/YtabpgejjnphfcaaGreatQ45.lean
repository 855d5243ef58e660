/-
  The document's model: drop, by its walk. It proves no statement by itself.
-/
import Derived.Test.YtabpgejjnphfcaaGreatKD9
namespace Go.Proofs.YtabpgejjnphfcaaGreat
open Go.RowKit
open Go.Lib
open Md (Nm St)
set_option linter.unusedSimpArgs false
set_option linter.unusedVariables false
set_option linter.unusedSectionVars false
/-- A list without a place, from the left. -/
def offTo {α : Type} (l : List α) (q k : Nat) : List α := (l.take k).eraseIdx q
theorem offTo_zero {α : Type} (l : List α) (q : Nat) : offTo l q 0 = [] := by simp [offTo]
theorem offTo_all {α : Type} (l : List α) (q : Nat) : offTo l q l.length = l.eraseIdx q := by simp [offTo]
theorem offTo_at {α : Type} {l : List α} {k : Nat} (h : k < l.length) : offTo l k (k + 1) = offTo l k k := by
  unfold offTo
  rw [List.take_succ_eq_append_getElem h, List.eraseIdx_append_of_length_le (by rw [List.length_take]; omega), List.length_take]
  have : k - min k l.length = 0 := by omega
  rw [this, List.eraseIdx_cons_zero, List.append_nil, List.eraseIdx_of_length_le (by rw [List.length_take]; omega)]
theorem offTo_ne {α : Type} {l : List α} {q k : Nat} (h : k < l.length) (hq : k ≠ q) : offTo l q (k + 1) = offTo l q k ++ [l[k]] := by
  unfold offTo
  rw [List.take_succ_eq_append_getElem h]
  by_cases c : q < k
  · rw [List.eraseIdx_append_of_lt_length (by rw [List.length_take]; omega)]
  · rw [List.eraseIdx_append_of_length_le (by rw [List.length_take]; omega), List.eraseIdx_of_length_le (l := l.take k) (by rw [List.length_take]; omega), List.eraseIdx_of_length_le]
    rw [List.length_take]
    simp
    omega
theorem offTo_len {α : Type} (l : List α) (q k : Nat) : (offTo l q k).length ≤ l.length := by
  unfold offTo
  have := List.length_eraseIdx_le (l.take k) q
  rw [List.length_take] at this
  omega
theorem map_erase {α β : Type} (f : α → β) : ∀ (l : List α) (k : Nat), (l.eraseIdx k).map f = (l.map f).eraseIdx k
  | [], _ => rfl
  | x :: l, 0 => rfl
  | x :: l, k + 1 => by simp only [List.eraseIdx_cons_succ, List.map_cons, map_erase f l k]
theorem filter_erase {V : List Md.Ver} (hV : V.Pairwise Md.vlt) {id : Int} (h : Md.vplace V id < V.length) : (V.filter fun v => !decide (v.id = id)) = V.eraseIdx (Md.vplace V id) := by
  refine strict_ext Md.vlt_irr Md.vlt_asym (hV.sublist List.filter_sublist) (hV.sublist (List.eraseIdx_sublist _ _)) fun v => ?_
  rw [List.mem_filter, List.mem_eraseIdx_iff_getElem]
  constructor
  · rintro ⟨hv, hn⟩
    obtain ⟨i, hi, e⟩ := List.mem_iff_getElem.1 hv
    refine ⟨i, hi, fun e2 => ?_, e⟩
    subst e2
    have := Md.vplace_get h
    rw [e] at this
    simp [this] at hn
  · rintro ⟨i, hi, hne, e⟩
    refine ⟨by rw [← e]; exact List.getElem_mem hi, ?_⟩
    simp only [Bool.not_eq_true', decide_eq_false_iff_not]
    intro e2
    have := Md.vplace_of hV hi
    rw [e, e2] at this
    exact hne this.symm
section
variable {F : Asn} {w : World} {R : Ending → World → Prop} {x : Dx} {S : St} {p : Pl} {j : Nat}
def Dx.drp (x : Dx) (vv ve : Value) (k : Nat) : Dx := { x with vv := vv, ve := ve, V := x.V.eraseIdx k, E := x.E.eraseIdx k }
theorem DocOk.drop (h : DocOk j S p x) {id : Int} (h1 : (aget S.vers id).isSome = true) (h2 : (S.heads.any fun x => decide (x.2 = id)) = false) (vv ve : Value) : DocOk j (Md.drop S id).1 p (x.drp vv ve (Md.vplace x.V id)) where
  inv := Md.inv_drop h.inv id
  sim := by
    have := h.sim.drop h.inv h1 h2
    unfold Dx.dv Dx.drp at *
    simp only at this ⊢
    rw [map_erase]
    exact this
  ok := ⟨fun y hy => h.ok.e y ((List.eraseIdx_sublist _ _).subset hy), h.ok.q⟩
  ne := h.ne
theorem DocOk.drp (h : DocOk j S p x) (id : Int) : Md.drp x.V x.B id = if (aget S.vers id).isSome = true then (if (S.heads.any fun x => decide (x.2 = id)) then (194, x.V) else (0, x.V.eraseIdx (Md.vplace x.V id))) else (190, x.V) := by
  unfold Md.drp
  have h1 := h.vsome id
  have h2 : (x.B.any fun b => decide (b.head = id)) = _ := h.sim.heads h.inv id
  rw [h2]
  by_cases c : (aget S.vers id).isSome = true
  · rw [if_pos c, if_neg (by simpa using h1.2 c), filter_erase (V := x.V) (h.sim.sV h.inv) (h1.2 c)]
  · rw [if_neg c, if_pos (fun e => c (h1.1 e))]
set_option maxRecDepth 100000 in
set_option maxHeartbeats 16000000 in
theorem rmdrop_any (id : Int) (hj : j ≤ 300) (ok : DocOk j S p x) {S' : St} {A : Md.An} (hm : Hid (Md.drop S id = (S', A))) (H : Sat (DAt x * (Pool p * F)) w)
    (hh : ∀ x' w', x'.b = x.b → DocOk j S' p x' → Sat (DAt x' * (Pool p * F)) w' → Io w w' → R (.returned (ansV A nil4)) w') :
    Calls Tryz.prog 56 #[x.ptr, .int .i64 id] w R := by
  have HH := Lib.hid hh
  clear hh
  have OK := Lib.hid ok
  have H0 := ansZ_new H
  have I0 := io_ansZ w
  have FX := Lib.hid (ok.fit (by omega))
  have f1 := FX.out.v
  have f2 := FX.out.b
  have f3 := FX.out.e
  obtain ⟨bi, hbi⟩ : ∃ r, r = Md.vnum x.V id := ⟨_, rfl⟩
  have HBI := Lib.hid hbi
  rw [ok.vnum] at hbi
  have HBJ := Lib.hid hbi
  obtain ⟨⟨de, dV⟩, hdrp⟩ : ∃ r, Md.drp x.V x.B id = r := ⟨_, rfl⟩
  have HDR := Lib.hid hdrp
  rw [ok.drp] at hdrp
  have HDJ := Lib.hid hdrp
  clear hbi hdrp ok
  go_enter Tryz.func56, Tryz.ntmps56
  go_upto_region 1 with fail
  generalize w.alloc (.cells #[.int .i64 0, .int .i64 0, .bool false, .int .i64 0, .slice none 0 0, .slice none 0 0, .slice none 0 0, .slice none 0 0] 37) = w0 at *
  generalize w.heap.size = r at *
  have H1 : Sat (DAt x * (ansZ r * (Pool p * F))) w0 := H0.of_eq (by ac_rfl)
  obtain ⟨c0, c1, c2, c3, c4⟩ := DAt.cells H1
  go_upto_region 3 with (first
    | (go_at_call 77; with_reducible refine rfind_any id (by omega) (DAt.asL H1) HBI ?_; intro w1 H2 I2; obtain ⟨e0, e1, e2, e3, e4, e5⟩ := DMC.cells H2.right)
    | (go_at_call 85; with_reducible refine rdrop_any id (by omega) (by omega) HDR H2 ?_; intro vv' w2 H3 I3))
  have K3 := DAt.setL H3
  have I4 := (I0.trans I2).trans I3
  clear c0 c1 c2 c3 c4 e0 e1 e2 e3 e4 e5 H0 H1 H2 H3 I0 I2 I3
  by_cases hv : (aget S.vers id).isSome = true
  · have hdj := HDJ.out
    rw [if_pos hv] at hdj
    have hbi := HBJ.out
    rw [if_pos hv] at hbi
    cases hany : (S.heads.any fun x => decide (x.2 = id)) with
    | true =>
      rw [hany, if_pos rfl] at hdj
      cases hdj
      obtain ⟨rfl, rfl⟩ : S' = S ∧ A = Md.fail 194 := by
        have e := hm.out
        unfold Md.drop at e
        rw [if_neg (by simp [hv]), if_pos hany] at e
        cases e; exact ⟨rfl, rfl⟩
      have okk : DocOk j _ p { x with vv := vv', vb := x.vb, V := x.V, B := x.B } := ⟨OK.out.inv, OK.out.sim, ⟨OK.out.ok.e, OK.out.ok.q⟩, OK.out.ne⟩
      have K4 : Sat (ansZ r * (DAt { x with vv := vv', vb := x.vb, V := x.V, B := x.B } * (Pool p * F))) w2 := K3.of_eq (by ac_rfl)
      have OKK := Lib.hid okk
      clear hbi hany hv okk
      go_wp2_with (first
        | (go_at_call 58; with_reducible refine rfail_any 194 K4 ?_; intro w7 H7 I7)
        | (with_reducible refine store_ans rfl (.tmp 4) (.tmp 24) rfl rfl nil4_fit H7 rfl ?_; intro w6 H6 I6; obtain ⟨d0, d1, d2, d3, d4, d5, d6, d7⟩ := ansA_reads H6))
      exact bodyPost_ret (v := ansV (Md.fail 194) nil4) (by simp [results, Tryz.results56, go_sem, d0, d1, d2, d3, d4, d5, d6, d7]) rfl (HH.out { x with vv := vv', vb := x.vb, V := x.V, B := x.B } _ rfl OKK.out H6.right ((I4.trans I7).trans I6))
    | false =>
      rw [hany, if_neg (by simp)] at hdj
      cases hdj
      have HC : Hid (S' = (Md.drop S id).1 ∧ A = {}) := Lib.hid (by
        have e := hm.out
        refine ⟨by rw [e], ?_⟩
        unfold Md.drop at e
        rw [if_neg (by simp [hv]), if_neg (by simp [hany])] at e
        cases e; rfl)
      have OKK := Lib.hid (fun ve => OK.out.drop hv hany vv' ve)
      obtain ⟨ea, ec, hve⟩ := DAt.shE K3
      simp only at hve
      have hvl := (OK.out.vsome id).2 hv
      clear hany hv
      obtain ⟨q, hq⟩ : ∃ q, q = Md.vplace x.V id := ⟨_, rfl⟩
      rw [← hq] at hbi K3 hvl OKK
      clear hq
      subst hbi
      have hq0 : (0 : Int) ≤ (q : Int) := by omega
      have HG := Lib.hid (fun k hk => DAt.getE K3 (by simp only; omega) k hk)
      have HCE : Hid (∀ W, Sat (DAt { x with vv := vv', vb := x.vb, V := x.V.eraseIdx q, B := x.B } * (ansZ r * (Pool p * F))) W → W.cell? ⟨x.b, 1, none⟩ = some (.slice ea x.E.length ec)) := Lib.hid (fun W hW => by have := (DAt.cells hW).2.1; simp only at this; rw [hve] at this; exact this)
      have HVE := Lib.hid hve
      simp only at HG
      have hel : x.E.length ≤ 1000 := by omega
      clear hve
      have K5 : Sat (RowSl (.slice none 0 0) ((offTo x.E q 0).map (·.1)) * (DAt { x with vv := vv', vb := x.vb, V := x.V.eraseIdx q, B := x.B } * (ansZ r * (Pool p * F)))) w2 := by rw [offTo_zero]; exact rowOf_nil K3
      go_wp2_with fail
      go_loopw [7, 8] (fun z u wr => ∃ (k : Nat), k ≤ x.E.length ∧ u = .int .i64 (k : Int) ∧ Sat (RowSl z ((offTo x.E q k).map (·.1)) * (DAt { x with vv := vv', vb := x.vb, V := x.V.eraseIdx q, B := x.B } * (ansZ r * (Pool p * F)))) wr ∧ Io w wr) (fun _ u _ => x.E.length - (RowKit.intOf u).toNat)
      case atStart => exact ⟨0, by omega, rfl, K5, I4⟩
      case round =>
        obtain ⟨k, hk, rfl, Hk, Ik⟩ := hrel
        clear K5 I4
        have c1 := HCE.out _ Hk.right
        have hlen : ((offTo x.E q k).map (·.1)).length ≤ 1000000 := by rw [List.length_map]; have := offTo_len x.E q k; omega
        by_cases hlt : k < x.E.length
        · have hlti : (k : Int) < (x.E.length : Int) := by omega
          have hk0 : (0 : Int) ≤ (k : Int) := by omega
          by_cases he : k = q
          · have hb : ((k : Int) != (q : Int)) = false := by simp [he]
            have HS : Hid (offTo x.E q (k + 1) = offTo x.E q k) := Lib.hid (by subst he; exact offTo_at hlt)
            clear he
            go_wp2_with fail
            go_roundw
            case rel => exact ⟨k + 1, by omega, by go_num, by rw [HS.out]; exact Hk, Ik⟩
            case measure => simp [RowKit.intOf]; omega
          · have hb : ((k : Int) != (q : Int)) = true := by simp; omega
            obtain ⟨b, off, cc, h1, h2⟩ := HG.out k hlt
            have h3 := HVE.out
            rw [h1] at h3
            cases h3
            have g0 := h2 _ Hk.right
            have HS : Hid (offTo x.E q (k + 1) = offTo x.E q k ++ [x.E[k]]) := Lib.hid (offTo_ne hlt he)
            obtain ⟨⟨⟨sa, sn, sc⟩, ll⟩, hel2⟩ : ∃ y, y = x.E[k] := ⟨_, rfl⟩
            rw [← hel2] at g0 HS
            simp only [slv] at g0
            clear he h1 h2 hel2
            go_wp2_with (at_builtin; refine wpList_append_rec Tryz.rowSl encSl_ok rfl (.tmp 37) (.tmp 45) rfl rfl Hk hlen (sa, sn, sc) rfl rfl ?_; intro v3 w3 H3 I3)
            go_roundw
            case rel => exact ⟨k + 1, by omega, by go_num, by rw [HS.out, List.map_append]; exact H3, Ik.trans I3⟩
            case measure => simp [RowKit.intOf]; omega
        · obtain rfl : k = x.E.length := by omega
          have hge : ¬ (x.E.length : Int) < (x.E.length : Int) := by omega
          rw [offTo_all] at Hk
          obtain ⟨a3, c3, e3⟩ := rowOf_shape Hk
          generalize hE2 : ((x.E.eraseIdx q).map (·.1)).length = n2 at *
          subst e3
          clear HG hlen
          have fr := DAt.free Hk.right 1
          have M4 := DAt.storeE2 (E' := x.E.eraseIdx q) Hk
          simp only at fr M4
          have K6 := M4.of_eq (show _ = ansZ r * (DAt (x.drp vv' (.slice a3 n2 c3) q) * (Pool p * F)) from by unfold Dx.drp; ac_rfl)
          have I6 := Ik.setCell ⟨x.b, 1, none⟩ (.slice a3 n2 c3)
          go_wp2_with (with_reducible refine store_ans (A := {}) rfl (.tmp 4) (.tmp 51) rfl rfl nil4_fit K6 rfl ?_; intro w6 H6 I7; obtain ⟨d0, d1, d2, d3, d4, d5, d6, d7⟩ := ansA_reads H6)
          obtain ⟨rfl, rfl⟩ := HC.out
          exact bodyPost_ret (v := ansV {} nil4) (by simp [results, Tryz.results56, go_sem, d0, d1, d2, d3, d4, d5, d6, d7]) rfl (HH.out (x.drp vv' (.slice a3 n2 c3) q) _ rfl (OKK.out _) H6.right (I6.trans I7))
  · have hdj := HDJ.out
    rw [if_neg hv] at hdj
    cases hdj
    obtain ⟨rfl, rfl⟩ : S' = S ∧ A = Md.fail 190 := by
      have e := hm.out
      unfold Md.drop at e
      rw [if_pos (by simpa using hv)] at e
      cases e; exact ⟨rfl, rfl⟩
    have okk : DocOk j _ p { x with vv := vv', vb := x.vb, V := x.V, B := x.B } := ⟨OK.out.inv, OK.out.sim, ⟨OK.out.ok.e, OK.out.ok.q⟩, OK.out.ne⟩
    have K4 : Sat (ansZ r * (DAt { x with vv := vv', vb := x.vb, V := x.V, B := x.B } * (Pool p * F))) w2 := K3.of_eq (by ac_rfl)
    have OKK := Lib.hid okk
    clear hv okk
    go_wp2_with (first
      | (go_at_call 58; with_reducible refine rfail_any 190 K4 ?_; intro w7 H7 I7)
      | (with_reducible refine store_ans rfl (.tmp 4) (.tmp 24) rfl rfl nil4_fit H7 rfl ?_; intro w6 H6 I6; obtain ⟨d0, d1, d2, d3, d4, d5, d6, d7⟩ := ansA_reads H6))
    exact bodyPost_ret (v := ansV (Md.fail 190) nil4) (by simp [results, Tryz.results56, go_sem, d0, d1, d2, d3, d4, d5, d6, d7]) rfl (HH.out { x with vv := vv', vb := x.vb, V := x.V, B := x.B } _ rfl OKK.out H6.right ((I4.trans I7).trans I6))
end
end Go.Proofs.YtabpgejjnphfcaaGreat
