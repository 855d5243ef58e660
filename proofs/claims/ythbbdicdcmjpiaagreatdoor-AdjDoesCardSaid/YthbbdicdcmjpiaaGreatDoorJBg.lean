/-
  law 17's asked at a vertex, by its walk. It proves no statement by itself.
-/
import Derived.Test.YthbbdicdcmjpiaaGreatDoorJBf
namespace Go.Proofs.YthbbdicdcmjpiaaGreatDoor
open Go.RowKit Go.Lib
set_option linter.unusedSimpArgs false
set_option linter.unusedVariables false
set_option linter.unusedSectionVars false
section
variable {a s : Nat} {c : Cq} {F : Asn} {w : World} {R : Ending → World → Prop} {A T : List Pr} {q g : Nat}
set_option maxRecDepth 100000 in
set_option maxHeartbeats 16000000 in
theorem asked_a (u v : Int) {e : Int} (he : e = Md.wrong u v) (hb : e = 0) (hu : 0 ≤ u ∧ u < 1048576) (hg : g ≤ 240) (hA : A.length ≤ 1000) (hT : T.length ≤ 1000) (H : Sat (AjM a c A T [] q g * (RsAt s A T * F)) w)
    (h : ∀ w', Sat (AjM a c A T [] q g * (RsAt s A T * F)) w' → Io w w' → R (.returned (.bool true)) w') :
    Calls Tryz.prog 16 #[.pointer (some ⟨a, 0, none⟩), .pointer (some ⟨s, 0, none⟩), .int .i64 u, .int .i64 v] w R := by
  have HH := Lib.hid h
  obtain ⟨m, hm⟩ : ∃ m, m = decide (e = 0 ∧ Md.pair u v ∈ T) := ⟨_, rfl⟩
  obtain ⟨d, hd⟩ : ∃ d, d = decide (e = 0 ∧ Md.pair u v ∈ A) := ⟨_, rfl⟩
  have HE := Lib.hid he
  have HM := Lib.hid hm
  have HD := Lib.hid hd
  have HV : Hid (true = Md.vtx u) := Lib.hid (by unfold Md.vtx; rw [decide_eq_true hu])
  have HG := Lib.hid hg
  have HU := Lib.hid hu
  have HA := Lib.hid hA
  have HT := Lib.hid hT
  obtain ⟨p, hp⟩ : ∃ p, Md.pair u v = p := ⟨_, rfl⟩
  obtain ⟨p1, p2⟩ := p
  have HP := Lib.hid hp
  obtain ⟨xo, hxo⟩ : ∃ xo, Aj.pick [v, 3, v] ((Aj.nb A u).map (Aj.mk T u)) = xo := ⟨_, rfl⟩
  obtain ⟨xo, ok⟩ := xo
  have HX := Lib.hid hxo
  have nL : ((Aj.nb A u).length : Int) ≤ 2000 := by have := Aj.nb_len A u; omega
  clear h hp he hm hd hg hu hA hT hxo
  go_enter Tryz.func16, Tryz.ntmps16
  subst hb
  have HM2 : Hid (m = decide ((p1, p2) ∈ T)) := Lib.hid (by rw [HM.out, HP.out]; simp)
  have HD2 : Hid (d = decide ((p1, p2) ∈ A)) := Lib.hid (by rw [HD.out, HP.out]; simp)
  go_upto_region 7 with (first
    | (go_at_call 33; (with_reducible refine ajm_get u v HG.out HE HM HD H ?_); intro w1 H1 I1)
    | (go_at_call 29; (with_reducible refine ask_near HU.out HG.out HA.out H1 ?_); intro vn w2 H2 I2; obtain ⟨an, cn, hq⟩ := rowW_map H2; subst hq)
    | (go_at_call 10; (with_reducible refine rwrong_any u v H2 HE ?_); intro w3 H3 I3)
    | (go_at_call 9; (with_reducible refine rpair_any u v H3 HP ?_); intro w4 H4 I4; have H5 := (H4.new (.cells #[.int .i64 p1, .int .i64 p2] 35)); have I5 := I4.alloc (.cells #[.int .i64 p1, .int .i64 p2] 35))
    | fail)
  generalize w4.heap.size = bx at *
  generalize w4.alloc (.cells #[.int .i64 p1, .int .i64 p2] 35) = w5 at *
  obtain ⟨va, vt, H6⟩ := ask_rows (H5.of_eq (show _ = (pts bx (.cells #[.int .i64 p1, .int .i64 p2] 35 (0, 0)) * (RowW (.slice an (Aj.nb A u).length cn) ((Aj.nb A u).map (Aj.mk T u)) * AjM a c A T [] q g)) * (RsAt s A T * F) from by unfold RowW; ac_rfl))
  have I6 := (((I1.trans I2).trans I3).trans I5).drew
  have HRA := Lib.hid (readsP_row H6 (by have := HA.out; omega))
  have HRT := Lib.hid (ask_tree HT.out H6)
  have H6d := H6.drew
  have S0 := ask_cells H6d
  clear H H1 H2 H3 H4 H5 H6 I1 I2 I3 I4 I5
  go_region_held3 (fun W => W.cell? ⟨s, 0, none⟩ = some va ∧ W.cell? ⟨s, 1, none⟩ = some vt ∧ W.cell? ⟨bx, 0, none⟩ = some (.int .i64 p1) ∧ W.cell? ⟨bx, 1, none⟩ = some (.int .i64 p2)) (with_reducible (first | exact S0 | exact S1 | exact S2)) (first
    | (go_at_call 13; (with_reducible refine ask_has HRA.out HD2 H6d ?_); intro w7 H7 I7; have S1 := ask_cells H7)
    | (go_at_call 13; (with_reducible refine ask_has HRT.out HM2 H7 ?_); intro w8 H8 I8; have S2 := ask_cells H8))
  have K := ask_k1 (ask_back H8)
  have J := (I6.trans I7).trans I8
  clear H7 H8 I6 I7 I8 H6d S0 S1 S2 HRA HRT HM2 HD2
  clear HM HD HE HP
  go_wp2_with (first
    | (go_at_call 32; (refine ask_pick (reads_three v 3 v rfl) HU.out HG.out HA.out HX (ask_k3 (K.new _)) ?_); intro w9 H9 I9; have K9 := ask_k2 H9)
    | (go_at_call 39; (with_reducible refine rvtx_any u K9 HV ?_); intro w10 H10 I10)
    | (go_at_call 44; (with_reducible refine rnear_any u HA.out H10 ?_); intro vm w11 H11 I11; obtain ⟨am, cm, hq⟩ := rowOf_shl H11; subst hq)
    | fail)
  have Z := ask_open H11
  obtain ⟨va, vt, K0⟩ := Z
  have J0 := ((((J.alloc _).trans I9).trans I10).trans I11)
  clear K J H9 K9 I9 H10 I10 H11 I11
  generalize hLL : Aj.nb A u = L at *
  have HCM := Lib.hid (fun k hk => readsNu_get (Reads.of_row K0 (by omega)) k hk)
  have HCN := Lib.hid (fun k hk => readsW_get (Reads.of_row (ask_w K0) (by rw [List.length_map]; omega)) k hk)
  have HRT := Lib.hid (readsP_imp (readsP_row (ask_t K0) (by have := HT.out; omega)) fun _ h => ask_t h)
  go_loopw [20, 21, 22] (fun x1 x2 x wr => ∃ (k : Nat) (fi : Int) (fo : Bool), k ≤ L.length ∧ x = .int .i64 (k : Int) ∧ x1 = .int .i64 fi ∧ x2 = .bool fo ∧ Hid (Aj.pick [v, 3, v] ((L.take k).map (Aj.mk T u)) = (fi, fo)) ∧ Sat (AskG a s c A T q g F va vt (.slice am L.length cm) (.slice an L.length cn) L (Aj.mk T u)) wr ∧ Io w wr) (fun _ _ x _ => L.length - (RowKit.intOf x).toNat)
  case atStart => exact ⟨0, 0, false, by omega, rfl, rfl, rfl, Lib.hid rfl, K0, J0⟩
  case round =>
    obtain ⟨k, fi, fo, hk, rfl, rfl, rfl, hpk, Kk, Jk⟩ := hrel
    clear K0 J0
    by_cases hlt : k < L.length
    · have hlti : (k : Int) < (L.length : Int) := by omega
      have hk0 : (0 : Int) ≤ (k : Int) := by omega
      obtain ⟨b1, o1, x, rfl, hx, hc1⟩ := HCM.out k hlt
      obtain ⟨b2, o2, y, t, rfl, hy, hc2⟩ := HCN.out k (by rw [List.length_map]; exact hlt)
      rw [List.getElem_map, hx] at hy
      unfold Aj.mk at hy
      rw [Prod.mk.injEq] at hy
      obtain ⟨rfl, ht⟩ := hy
      obtain ⟨pp, hpp⟩ : ∃ pp, Md.pair u x = pp := ⟨_, rfl⟩
      obtain ⟨y1, y2⟩ := pp
      have HPX := Lib.hid hpp
      have HIS : Hid (t = decide ((y1, y2) ∈ T)) := Lib.hid (by rw [← ht, hpp])
      have HST : Hid (Aj.pick [v, 3, v] ((L.take (k + 1)).map (Aj.mk T u)) = if fo = true then (fi, fo) else (if Aj.fits [v, 3, v] (x, t) = true then (x, true) else (fi, fo))) := Lib.hid (by
        have e : Aj.mk T u x = (x, t) := by unfold Aj.mk; rw [ht]
        rw [List.take_succ_eq_append_getElem hlt, List.map_append, List.map_cons, List.map_nil, Aj.pick_more, hpk.out, hx, e])
      clear hx hpp ht hpk
      have HC1 := Lib.hid hc1
      have HC2 := Lib.hid hc2
      clear hc1 hc2
      have Kd := Kk.drew
      have Jd := Jk.drew
      have S0 := (⟨(nd2 Kd.right.right.right).2, HC1.out _ Kd⟩ : _ ∧ _)
      clear Kk Jk
      go_wp2_with fail
      go_region_held3 (fun W => W.cell? ⟨s, 1, none⟩ = some vt ∧ W.cell? ⟨b1, o1 + k, none⟩ = some (.int .i64 x)) (with_reducible (first | exact S0 | exact S1 | exact S2)) (first
        | (go_at_call 9; (with_reducible refine rpair_any u x Kd HPX ?_); intro w12 H12 I12; have S1 := (⟨(nd2 H12.right.right.right).2, HC1.out _ H12⟩ : _ ∧ _))
        | (go_at_call 13; (with_reducible refine ask_has HRT.out HIS H12 ?_); intro w13 H13 I13; have S2 := (⟨(nd2 H13.right.right.right).2, HC1.out _ H13⟩ : _ ∧ _)))
      have J13 := (Jd.trans I12).trans I13
      clear S0 S1 S2 H12 I12 I13 Kd Jd
      have c1 := HC1.out _ H13
      have c2 := (HC2.out _ (ask_w H13)).1
      have c3 := (HC2.out _ (ask_w H13)).2
      go_wp2_with fail
      go_quiet (fail)
      have K14 := H13.drewN nq
      have J14 := J13.drewN nq
      clear H13 J13 c1 c2 c3
      generalize w13.drewN nq = w14 at *
      have c1 := HC1.out _ K14
      have hst := HST.out
      clear HST HIS HPX HC1 HC2
      cases fo with
      | true =>
        rw [if_pos rfl] at hst
        have HS := Lib.hid hst
        clear hst
        go_wp2_with fail
        go_roundw
        case rel => exact ⟨k + 1, _, _, by omega, by go_num, rfl, rfl, HS, K14, J14⟩
        case measure => simp [RowKit.intOf]; omega
      | false =>
        rw [if_neg (by simp)] at hst
        cases t with
        | true =>
          rw [if_neg (by simp [Aj.fits])] at hst
          have HS := Lib.hid hst
          clear hst
          go_wp2_with fail
          go_roundw
          case rel => exact ⟨k + 1, _, _, by omega, by go_num, rfl, rfl, HS, K14, J14⟩
          case measure => simp [RowKit.intOf]; omega
        | false =>
          by_cases hxv : x = v
          · rw [if_neg (by simp [Aj.fits, hxv])] at hst
            have HS := Lib.hid hst
            clear hst
            go_wp2_with fail
            go_roundw
            case rel => exact ⟨k + 1, _, _, by omega, by go_num, rfl, rfl, HS, K14, J14⟩
            case measure => simp [RowKit.intOf]; omega
          · by_cases hx3 : x = 3
            · rw [if_neg (by simp [Aj.fits, hx3])] at hst
              have HS := Lib.hid hst
              clear hst
              go_wp2_with fail
              go_roundw
              case rel => exact ⟨k + 1, _, _, by omega, by go_num, rfl, rfl, HS, K14, J14⟩
              case measure => simp [RowKit.intOf]; omega
            · rw [if_pos (by simp [Aj.fits, hxv, hx3])] at hst
              have hb1 : (x != v) = true := by simp [hxv]
              have hb2 : (x != 3) = true := by simp [hx3]
              have HS := Lib.hid hst
              clear hst
              go_wp2_with fail
              go_roundw
              case rel => exact ⟨k + 1, _, _, by omega, by go_num, rfl, rfl, HS, K14, J14⟩
              case measure => simp [RowKit.intOf]; omega
    · obtain rfl : k = L.length := by omega
      have hge : ¬ (L.length : Int) < (L.length : Int) := by omega
      have h1 := hpk.out
      rw [List.take_length, HX.out, Prod.mk.injEq] at h1
      obtain ⟨rfl, rfl⟩ := h1
      have FIN := Lib.hid (HH.out _ (ask_close Kk) Jk)
      clear HCM HCN HRT HH hpk HX
      go_wp2_with fail
      exact FIN.out
set_option maxRecDepth 100000 in
set_option maxHeartbeats 16000000 in
theorem asked_b (u v : Int) {e : Int} (he : e = Md.wrong u v) (hb : e = 30) (hu : 0 ≤ u ∧ u < 1048576) (hg : g ≤ 240) (hA : A.length ≤ 1000) (hT : T.length ≤ 1000) (H : Sat (AjM a c A T [] q g * (RsAt s A T * F)) w)
    (h : ∀ w', Sat (AjM a c A T [] q g * (RsAt s A T * F)) w' → Io w w' → R (.returned (.bool true)) w') :
    Calls Tryz.prog 16 #[.pointer (some ⟨a, 0, none⟩), .pointer (some ⟨s, 0, none⟩), .int .i64 u, .int .i64 v] w R := by
  have HH := Lib.hid h
  obtain ⟨m, hm⟩ : ∃ m, m = decide (e = 0 ∧ Md.pair u v ∈ T) := ⟨_, rfl⟩
  obtain ⟨d, hd⟩ : ∃ d, d = decide (e = 0 ∧ Md.pair u v ∈ A) := ⟨_, rfl⟩
  have HE := Lib.hid he
  have HM := Lib.hid hm
  have HD := Lib.hid hd
  have HV : Hid (true = Md.vtx u) := Lib.hid (by unfold Md.vtx; rw [decide_eq_true hu])
  have HG := Lib.hid hg
  have HU := Lib.hid hu
  have HA := Lib.hid hA
  have HT := Lib.hid hT
  obtain ⟨p, hp⟩ : ∃ p, Md.pair u v = p := ⟨_, rfl⟩
  obtain ⟨p1, p2⟩ := p
  have HP := Lib.hid hp
  obtain ⟨xo, hxo⟩ : ∃ xo, Aj.pick [v, 3, v] ((Aj.nb A u).map (Aj.mk T u)) = xo := ⟨_, rfl⟩
  obtain ⟨xo, ok⟩ := xo
  have HX := Lib.hid hxo
  have nL : ((Aj.nb A u).length : Int) ≤ 2000 := by have := Aj.nb_len A u; omega
  clear h hp he hm hd hg hu hA hT hxo
  go_enter Tryz.func16, Tryz.ntmps16
  subst hb
  have hM : m = false := by rw [HM.out]; exact decide_eq_false fun h => by have := h.1; omega
  have hD : d = false := by rw [HD.out]; exact decide_eq_false fun h => by have := h.1; omega
  subst hM hD
  go_upto_region 7 with (first
    | (go_at_call 33; (with_reducible refine ajm_get u v HG.out HE HM HD H ?_); intro w1 H1 I1)
    | (go_at_call 29; (with_reducible refine ask_near HU.out HG.out HA.out H1 ?_); intro vn w2 H2 I2; obtain ⟨an, cn, hq⟩ := rowW_map H2; subst hq)
    | (go_at_call 10; (with_reducible refine rwrong_any u v H2 HE ?_); intro w3 H3 I3)
    | (go_at_call 9; (with_reducible refine rpair_any u v H3 HP ?_); intro w4 H4 I4; have H5 := (H4.new (.cells #[.int .i64 p1, .int .i64 p2] 35)); have I5 := I4.alloc (.cells #[.int .i64 p1, .int .i64 p2] 35))
    | fail)
  generalize w4.heap.size = bx at *
  generalize w4.alloc (.cells #[.int .i64 p1, .int .i64 p2] 35) = w5 at *
  go_quiet (fail)
  have K := H5.right.drewN nq
  have J := (((I1.trans I2).trans I3).trans I5).drewN nq
  clear H H1 H2 H3 H4 H5 I1 I2 I3 I4 I5
  generalize w5.drewN nq = w6 at *
  clear HM HD HE HP
  go_wp2_with (first
    | (go_at_call 32; (refine ask_pick (reads_three v 3 v rfl) HU.out HG.out HA.out HX (ask_k3 (K.new _)) ?_); intro w9 H9 I9; have K9 := ask_k2 H9)
    | (go_at_call 39; (with_reducible refine rvtx_any u K9 HV ?_); intro w10 H10 I10)
    | (go_at_call 44; (with_reducible refine rnear_any u HA.out H10 ?_); intro vm w11 H11 I11; obtain ⟨am, cm, hq⟩ := rowOf_shl H11; subst hq)
    | fail)
  have Z := ask_open H11
  obtain ⟨va, vt, K0⟩ := Z
  have J0 := ((((J.alloc _).trans I9).trans I10).trans I11)
  clear K J H9 K9 I9 H10 I10 H11 I11
  generalize hLL : Aj.nb A u = L at *
  have HCM := Lib.hid (fun k hk => readsNu_get (Reads.of_row K0 (by omega)) k hk)
  have HCN := Lib.hid (fun k hk => readsW_get (Reads.of_row (ask_w K0) (by rw [List.length_map]; omega)) k hk)
  have HRT := Lib.hid (readsP_imp (readsP_row (ask_t K0) (by have := HT.out; omega)) fun _ h => ask_t h)
  go_loopw [20, 21, 22] (fun x1 x2 x wr => ∃ (k : Nat) (fi : Int) (fo : Bool), k ≤ L.length ∧ x = .int .i64 (k : Int) ∧ x1 = .int .i64 fi ∧ x2 = .bool fo ∧ Hid (Aj.pick [v, 3, v] ((L.take k).map (Aj.mk T u)) = (fi, fo)) ∧ Sat (AskG a s c A T q g F va vt (.slice am L.length cm) (.slice an L.length cn) L (Aj.mk T u)) wr ∧ Io w wr) (fun _ _ x _ => L.length - (RowKit.intOf x).toNat)
  case atStart => exact ⟨0, 0, false, by omega, rfl, rfl, rfl, Lib.hid rfl, K0, J0⟩
  case round =>
    obtain ⟨k, fi, fo, hk, rfl, rfl, rfl, hpk, Kk, Jk⟩ := hrel
    clear K0 J0
    by_cases hlt : k < L.length
    · have hlti : (k : Int) < (L.length : Int) := by omega
      have hk0 : (0 : Int) ≤ (k : Int) := by omega
      obtain ⟨b1, o1, x, rfl, hx, hc1⟩ := HCM.out k hlt
      obtain ⟨b2, o2, y, t, rfl, hy, hc2⟩ := HCN.out k (by rw [List.length_map]; exact hlt)
      rw [List.getElem_map, hx] at hy
      unfold Aj.mk at hy
      rw [Prod.mk.injEq] at hy
      obtain ⟨rfl, ht⟩ := hy
      obtain ⟨pp, hpp⟩ : ∃ pp, Md.pair u x = pp := ⟨_, rfl⟩
      obtain ⟨y1, y2⟩ := pp
      have HPX := Lib.hid hpp
      have HIS : Hid (t = decide ((y1, y2) ∈ T)) := Lib.hid (by rw [← ht, hpp])
      have HST : Hid (Aj.pick [v, 3, v] ((L.take (k + 1)).map (Aj.mk T u)) = if fo = true then (fi, fo) else (if Aj.fits [v, 3, v] (x, t) = true then (x, true) else (fi, fo))) := Lib.hid (by
        have e : Aj.mk T u x = (x, t) := by unfold Aj.mk; rw [ht]
        rw [List.take_succ_eq_append_getElem hlt, List.map_append, List.map_cons, List.map_nil, Aj.pick_more, hpk.out, hx, e])
      clear hx hpp ht hpk
      have HC1 := Lib.hid hc1
      have HC2 := Lib.hid hc2
      clear hc1 hc2
      have Kd := Kk.drew
      have Jd := Jk.drew
      have S0 := (⟨(nd2 Kd.right.right.right).2, HC1.out _ Kd⟩ : _ ∧ _)
      clear Kk Jk
      go_wp2_with fail
      go_region_held3 (fun W => W.cell? ⟨s, 1, none⟩ = some vt ∧ W.cell? ⟨b1, o1 + k, none⟩ = some (.int .i64 x)) (with_reducible (first | exact S0 | exact S1 | exact S2)) (first
        | (go_at_call 9; (with_reducible refine rpair_any u x Kd HPX ?_); intro w12 H12 I12; have S1 := (⟨(nd2 H12.right.right.right).2, HC1.out _ H12⟩ : _ ∧ _))
        | (go_at_call 13; (with_reducible refine ask_has HRT.out HIS H12 ?_); intro w13 H13 I13; have S2 := (⟨(nd2 H13.right.right.right).2, HC1.out _ H13⟩ : _ ∧ _)))
      have J13 := (Jd.trans I12).trans I13
      clear S0 S1 S2 H12 I12 I13 Kd Jd
      have c1 := HC1.out _ H13
      have c2 := (HC2.out _ (ask_w H13)).1
      have c3 := (HC2.out _ (ask_w H13)).2
      go_wp2_with fail
      go_quiet (fail)
      have K14 := H13.drewN nq
      have J14 := J13.drewN nq
      clear H13 J13 c1 c2 c3
      generalize w13.drewN nq = w14 at *
      have c1 := HC1.out _ K14
      have hst := HST.out
      clear HST HIS HPX HC1 HC2
      cases fo with
      | true =>
        rw [if_pos rfl] at hst
        have HS := Lib.hid hst
        clear hst
        go_wp2_with fail
        go_roundw
        case rel => exact ⟨k + 1, _, _, by omega, by go_num, rfl, rfl, HS, K14, J14⟩
        case measure => simp [RowKit.intOf]; omega
      | false =>
        rw [if_neg (by simp)] at hst
        cases t with
        | true =>
          rw [if_neg (by simp [Aj.fits])] at hst
          have HS := Lib.hid hst
          clear hst
          go_wp2_with fail
          go_roundw
          case rel => exact ⟨k + 1, _, _, by omega, by go_num, rfl, rfl, HS, K14, J14⟩
          case measure => simp [RowKit.intOf]; omega
        | false =>
          by_cases hxv : x = v
          · rw [if_neg (by simp [Aj.fits, hxv])] at hst
            have HS := Lib.hid hst
            clear hst
            go_wp2_with fail
            go_roundw
            case rel => exact ⟨k + 1, _, _, by omega, by go_num, rfl, rfl, HS, K14, J14⟩
            case measure => simp [RowKit.intOf]; omega
          · by_cases hx3 : x = 3
            · rw [if_neg (by simp [Aj.fits, hx3])] at hst
              have HS := Lib.hid hst
              clear hst
              go_wp2_with fail
              go_roundw
              case rel => exact ⟨k + 1, _, _, by omega, by go_num, rfl, rfl, HS, K14, J14⟩
              case measure => simp [RowKit.intOf]; omega
            · rw [if_pos (by simp [Aj.fits, hxv, hx3])] at hst
              have hb1 : (x != v) = true := by simp [hxv]
              have hb2 : (x != 3) = true := by simp [hx3]
              have HS := Lib.hid hst
              clear hst
              go_wp2_with fail
              go_roundw
              case rel => exact ⟨k + 1, _, _, by omega, by go_num, rfl, rfl, HS, K14, J14⟩
              case measure => simp [RowKit.intOf]; omega
    · obtain rfl : k = L.length := by omega
      have hge : ¬ (L.length : Int) < (L.length : Int) := by omega
      have h1 := hpk.out
      rw [List.take_length, HX.out, Prod.mk.injEq] at h1
      obtain ⟨rfl, rfl⟩ := h1
      have FIN := Lib.hid (HH.out _ (ask_close Kk) Jk)
      clear HCM HCN HRT HH hpk HX
      go_wp2_with fail
      exact FIN.out
set_option maxRecDepth 100000 in
set_option maxHeartbeats 16000000 in
theorem asked_c (u v : Int) {e : Int} (he : e = Md.wrong u v) (hb : e = 31) (hu : 0 ≤ u ∧ u < 1048576) (hg : g ≤ 240) (hA : A.length ≤ 1000) (hT : T.length ≤ 1000) (H : Sat (AjM a c A T [] q g * (RsAt s A T * F)) w)
    (h : ∀ w', Sat (AjM a c A T [] q g * (RsAt s A T * F)) w' → Io w w' → R (.returned (.bool true)) w') :
    Calls Tryz.prog 16 #[.pointer (some ⟨a, 0, none⟩), .pointer (some ⟨s, 0, none⟩), .int .i64 u, .int .i64 v] w R := by
  have HH := Lib.hid h
  obtain ⟨m, hm⟩ : ∃ m, m = decide (e = 0 ∧ Md.pair u v ∈ T) := ⟨_, rfl⟩
  obtain ⟨d, hd⟩ : ∃ d, d = decide (e = 0 ∧ Md.pair u v ∈ A) := ⟨_, rfl⟩
  have HE := Lib.hid he
  have HM := Lib.hid hm
  have HD := Lib.hid hd
  have HV : Hid (true = Md.vtx u) := Lib.hid (by unfold Md.vtx; rw [decide_eq_true hu])
  have HG := Lib.hid hg
  have HU := Lib.hid hu
  have HA := Lib.hid hA
  have HT := Lib.hid hT
  obtain ⟨p, hp⟩ : ∃ p, Md.pair u v = p := ⟨_, rfl⟩
  obtain ⟨p1, p2⟩ := p
  have HP := Lib.hid hp
  obtain ⟨xo, hxo⟩ : ∃ xo, Aj.pick [v, 3, v] ((Aj.nb A u).map (Aj.mk T u)) = xo := ⟨_, rfl⟩
  obtain ⟨xo, ok⟩ := xo
  have HX := Lib.hid hxo
  have nL : ((Aj.nb A u).length : Int) ≤ 2000 := by have := Aj.nb_len A u; omega
  clear h hp he hm hd hg hu hA hT hxo
  go_enter Tryz.func16, Tryz.ntmps16
  subst hb
  have hM : m = false := by rw [HM.out]; exact decide_eq_false fun h => by have := h.1; omega
  have hD : d = false := by rw [HD.out]; exact decide_eq_false fun h => by have := h.1; omega
  subst hM hD
  go_upto_region 7 with (first
    | (go_at_call 33; (with_reducible refine ajm_get u v HG.out HE HM HD H ?_); intro w1 H1 I1)
    | (go_at_call 29; (with_reducible refine ask_near HU.out HG.out HA.out H1 ?_); intro vn w2 H2 I2; obtain ⟨an, cn, hq⟩ := rowW_map H2; subst hq)
    | (go_at_call 10; (with_reducible refine rwrong_any u v H2 HE ?_); intro w3 H3 I3)
    | (go_at_call 9; (with_reducible refine rpair_any u v H3 HP ?_); intro w4 H4 I4; have H5 := (H4.new (.cells #[.int .i64 p1, .int .i64 p2] 35)); have I5 := I4.alloc (.cells #[.int .i64 p1, .int .i64 p2] 35))
    | fail)
  generalize w4.heap.size = bx at *
  generalize w4.alloc (.cells #[.int .i64 p1, .int .i64 p2] 35) = w5 at *
  go_quiet (fail)
  have K := H5.right.drewN nq
  have J := (((I1.trans I2).trans I3).trans I5).drewN nq
  clear H H1 H2 H3 H4 H5 I1 I2 I3 I4 I5
  generalize w5.drewN nq = w6 at *
  clear HM HD HE HP
  go_wp2_with (first
    | (go_at_call 32; (refine ask_pick (reads_three v 3 v rfl) HU.out HG.out HA.out HX (ask_k3 (K.new _)) ?_); intro w9 H9 I9; have K9 := ask_k2 H9)
    | (go_at_call 39; (with_reducible refine rvtx_any u K9 HV ?_); intro w10 H10 I10)
    | (go_at_call 44; (with_reducible refine rnear_any u HA.out H10 ?_); intro vm w11 H11 I11; obtain ⟨am, cm, hq⟩ := rowOf_shl H11; subst hq)
    | fail)
  have Z := ask_open H11
  obtain ⟨va, vt, K0⟩ := Z
  have J0 := ((((J.alloc _).trans I9).trans I10).trans I11)
  clear K J H9 K9 I9 H10 I10 H11 I11
  generalize hLL : Aj.nb A u = L at *
  have HCM := Lib.hid (fun k hk => readsNu_get (Reads.of_row K0 (by omega)) k hk)
  have HCN := Lib.hid (fun k hk => readsW_get (Reads.of_row (ask_w K0) (by rw [List.length_map]; omega)) k hk)
  have HRT := Lib.hid (readsP_imp (readsP_row (ask_t K0) (by have := HT.out; omega)) fun _ h => ask_t h)
  go_loopw [20, 21, 22] (fun x1 x2 x wr => ∃ (k : Nat) (fi : Int) (fo : Bool), k ≤ L.length ∧ x = .int .i64 (k : Int) ∧ x1 = .int .i64 fi ∧ x2 = .bool fo ∧ Hid (Aj.pick [v, 3, v] ((L.take k).map (Aj.mk T u)) = (fi, fo)) ∧ Sat (AskG a s c A T q g F va vt (.slice am L.length cm) (.slice an L.length cn) L (Aj.mk T u)) wr ∧ Io w wr) (fun _ _ x _ => L.length - (RowKit.intOf x).toNat)
  case atStart => exact ⟨0, 0, false, by omega, rfl, rfl, rfl, Lib.hid rfl, K0, J0⟩
  case round =>
    obtain ⟨k, fi, fo, hk, rfl, rfl, rfl, hpk, Kk, Jk⟩ := hrel
    clear K0 J0
    by_cases hlt : k < L.length
    · have hlti : (k : Int) < (L.length : Int) := by omega
      have hk0 : (0 : Int) ≤ (k : Int) := by omega
      obtain ⟨b1, o1, x, rfl, hx, hc1⟩ := HCM.out k hlt
      obtain ⟨b2, o2, y, t, rfl, hy, hc2⟩ := HCN.out k (by rw [List.length_map]; exact hlt)
      rw [List.getElem_map, hx] at hy
      unfold Aj.mk at hy
      rw [Prod.mk.injEq] at hy
      obtain ⟨rfl, ht⟩ := hy
      obtain ⟨pp, hpp⟩ : ∃ pp, Md.pair u x = pp := ⟨_, rfl⟩
      obtain ⟨y1, y2⟩ := pp
      have HPX := Lib.hid hpp
      have HIS : Hid (t = decide ((y1, y2) ∈ T)) := Lib.hid (by rw [← ht, hpp])
      have HST : Hid (Aj.pick [v, 3, v] ((L.take (k + 1)).map (Aj.mk T u)) = if fo = true then (fi, fo) else (if Aj.fits [v, 3, v] (x, t) = true then (x, true) else (fi, fo))) := Lib.hid (by
        have e : Aj.mk T u x = (x, t) := by unfold Aj.mk; rw [ht]
        rw [List.take_succ_eq_append_getElem hlt, List.map_append, List.map_cons, List.map_nil, Aj.pick_more, hpk.out, hx, e])
      clear hx hpp ht hpk
      have HC1 := Lib.hid hc1
      have HC2 := Lib.hid hc2
      clear hc1 hc2
      have Kd := Kk.drew
      have Jd := Jk.drew
      have S0 := (⟨(nd2 Kd.right.right.right).2, HC1.out _ Kd⟩ : _ ∧ _)
      clear Kk Jk
      go_wp2_with fail
      go_region_held3 (fun W => W.cell? ⟨s, 1, none⟩ = some vt ∧ W.cell? ⟨b1, o1 + k, none⟩ = some (.int .i64 x)) (with_reducible (first | exact S0 | exact S1 | exact S2)) (first
        | (go_at_call 9; (with_reducible refine rpair_any u x Kd HPX ?_); intro w12 H12 I12; have S1 := (⟨(nd2 H12.right.right.right).2, HC1.out _ H12⟩ : _ ∧ _))
        | (go_at_call 13; (with_reducible refine ask_has HRT.out HIS H12 ?_); intro w13 H13 I13; have S2 := (⟨(nd2 H13.right.right.right).2, HC1.out _ H13⟩ : _ ∧ _)))
      have J13 := (Jd.trans I12).trans I13
      clear S0 S1 S2 H12 I12 I13 Kd Jd
      have c1 := HC1.out _ H13
      have c2 := (HC2.out _ (ask_w H13)).1
      have c3 := (HC2.out _ (ask_w H13)).2
      go_wp2_with fail
      go_quiet (fail)
      have K14 := H13.drewN nq
      have J14 := J13.drewN nq
      clear H13 J13 c1 c2 c3
      generalize w13.drewN nq = w14 at *
      have c1 := HC1.out _ K14
      have hst := HST.out
      clear HST HIS HPX HC1 HC2
      cases fo with
      | true =>
        rw [if_pos rfl] at hst
        have HS := Lib.hid hst
        clear hst
        go_wp2_with fail
        go_roundw
        case rel => exact ⟨k + 1, _, _, by omega, by go_num, rfl, rfl, HS, K14, J14⟩
        case measure => simp [RowKit.intOf]; omega
      | false =>
        rw [if_neg (by simp)] at hst
        cases t with
        | true =>
          rw [if_neg (by simp [Aj.fits])] at hst
          have HS := Lib.hid hst
          clear hst
          go_wp2_with fail
          go_roundw
          case rel => exact ⟨k + 1, _, _, by omega, by go_num, rfl, rfl, HS, K14, J14⟩
          case measure => simp [RowKit.intOf]; omega
        | false =>
          by_cases hxv : x = v
          · rw [if_neg (by simp [Aj.fits, hxv])] at hst
            have HS := Lib.hid hst
            clear hst
            go_wp2_with fail
            go_roundw
            case rel => exact ⟨k + 1, _, _, by omega, by go_num, rfl, rfl, HS, K14, J14⟩
            case measure => simp [RowKit.intOf]; omega
          · by_cases hx3 : x = 3
            · rw [if_neg (by simp [Aj.fits, hx3])] at hst
              have HS := Lib.hid hst
              clear hst
              go_wp2_with fail
              go_roundw
              case rel => exact ⟨k + 1, _, _, by omega, by go_num, rfl, rfl, HS, K14, J14⟩
              case measure => simp [RowKit.intOf]; omega
            · rw [if_pos (by simp [Aj.fits, hxv, hx3])] at hst
              have hb1 : (x != v) = true := by simp [hxv]
              have hb2 : (x != 3) = true := by simp [hx3]
              have HS := Lib.hid hst
              clear hst
              go_wp2_with fail
              go_roundw
              case rel => exact ⟨k + 1, _, _, by omega, by go_num, rfl, rfl, HS, K14, J14⟩
              case measure => simp [RowKit.intOf]; omega
    · obtain rfl : k = L.length := by omega
      have hge : ¬ (L.length : Int) < (L.length : Int) := by omega
      have h1 := hpk.out
      rw [List.take_length, HX.out, Prod.mk.injEq] at h1
      obtain ⟨rfl, rfl⟩ := h1
      have FIN := Lib.hid (HH.out _ (ask_close Kk) Jk)
      clear HCM HCN HRT HH hpk HX
      go_wp2_with fail
      exact FIN.out
theorem wrong_three {u v : Int} : Md.wrong u v = 0 ∨ Md.wrong u v = 30 ∨ Md.wrong u v = 31 := by
  unfold Md.wrong
  split
  · split <;> simp
  · simp
theorem asked_any (u v : Int) (hg : g ≤ 240) (hA : A.length ≤ 1000) (hT : T.length ≤ 1000) (H : Sat (AjM a c A T [] q g * (RsAt s A T * F)) w)
    (h : ∀ w', Sat (AjM a c A T [] q g * (RsAt s A T * F)) w' → Io w w' → R (.returned (.bool true)) w') :
    Calls Tryz.prog 16 #[.pointer (some ⟨a, 0, none⟩), .pointer (some ⟨s, 0, none⟩), .int .i64 u, .int .i64 v] w R := by
  by_cases hu : 0 ≤ u ∧ u < 1048576
  · rcases wrong_three (u := u) (v := v) with e | e | e
    · exact asked_a u v rfl e hu hg hA hT H h
    · exact asked_b u v rfl e hu hg hA hT H h
    · exact asked_c u v rfl e hu hg hA hT H h
  · exact asked_no u v hu hg H h
end
end Go.Proofs.YthbbdicdcmjpiaaGreatDoor
