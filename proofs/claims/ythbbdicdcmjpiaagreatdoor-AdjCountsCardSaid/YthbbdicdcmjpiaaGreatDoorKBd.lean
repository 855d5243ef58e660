/-
  AdjCounts, by its walk. It proves no statement by itself.
-/
import Derived.Test.YthbbdicdcmjpiaaGreatDoorQ42
import Derived.Test.YthbbdicdcmjpiaaGreatDoorQ44
namespace Go.Proofs.YthbbdicdcmjpiaaGreatDoor
open Go.RowKit Go.Lib
set_option linter.unusedSimpArgs false
set_option linter.unusedVariables false
set_option linter.unusedSectionVars false
/-! ### Rows of acts: K, U, V, T. -/
theorem readsA17_len {F : Asn} {v : Value} {l : List Act17} (h : Reads encA17 F v l) : ∃ a c, v = .slice a l.length c ∧ (l.length : Int) ≤ 9223372036854775807 := by
  obtain ⟨a, c, h1, h2, _⟩ := h
  exact ⟨a, c, h1, by omega⟩
theorem readsA17_get {F : Asn} {a : Option Addr} {n c : Nat} {l : List Act17} (hl : Reads encA17 F (.slice a n c) l) (k : Nat) (hk : k < l.length) : ∃ b off x1 x2 x3 x4, a = some ⟨b, off, none⟩ ∧ l[k] = ((x1, x2, x3), x4) ∧ ∀ w, Sat F w →
    w.cell? ⟨b, off + k * 4, none⟩ = some (.int .i64 x1) ∧ w.cell? ⟨b, off + k * 4 + 1, none⟩ = some (.int .i64 x2) ∧ w.cell? ⟨b, off + k * 4 + 2, none⟩ = some (.int .i64 x3) ∧ w.cell? ⟨b, off + k * 4 + 3, none⟩ = some (.bool x4) := by
  obtain ⟨b, off, h1, h2⟩ := hl.get encA17_ok k hk
  refine ⟨b, off, _, _, _, _, h1, rfl, fun w hw => ⟨?_, ?_, ?_, ?_⟩⟩
  · have := h2 w hw 0 _ (by omega) rfl
    simpa using this
  · have := h2 w hw 1 _ (by omega) rfl
    simpa using this
  · have := h2 w hw 2 _ (by omega) rfl
    simpa using this
  · have := h2 w hw 3 _ (by omega) rfl
    simpa using this
section
variable {a : Nat} {c : Cq} {F : Asn} {w : World} {R : Ending → World → Prop} {A T : List Pr} {M : List Ky.En} {q g : Nat}
theorem AjM.ok (H : Sat (AjM a c A T M q g * F) w) : Eg.Srt A ∧ ∀ p ∈ A, 0 ≤ p.1 ∧ p.1 < p.2 ∧ p.2 < 1048576 := by
  obtain ⟨es, s, H⟩ := sat_ajm.1 H
  exact ⟨s.sim.sa, s.sim.ok⟩
theorem most_n {n q g : Nat} (hc : Hid (c.k.n = n)) (h : 30 + Tb.most q g < n) : Hid (30 + (Tb.most q g : Int) < c.k.room) := Lib.hid (by
  have := hc.out
  unfold Tq.room
  rw [this]
  omega)
theorem room_counts {k : Nat} (hc : Hid (c.k.n = 2000)) (hk : k ≤ 80) : Hid (30 + (Tb.most (60 + 24 * k + 12) (2 * k + 1) : Int) < c.k.room) := most_n hc (by
  unfold Tb.most
  have h1 : (2 * k + 1) / 11 + 2 ≤ 16 := by omega
  have h2 := Nat.mul_le_mul (show 60 + 24 * k + 12 ≤ 2000 by omega) h1
  omega)
theorem room_counts2 {k : Nat} (hc : Hid (c.k.n = 2000)) (hk : k ≤ 80) : Hid (30 + (Tb.most (60 + 24 * k) (2 * k) : Int) < c.k.room) := most_n hc (by
  unfold Tb.most
  have h1 : 2 * k / 11 + 2 ≤ 16 := by omega
  have h2 := Nat.mul_le_mul (show 60 + 24 * k ≤ 2000 by omega) h1
  omega)
end
theorem put_le {A : List Pr} {p : Pr} {k : Nat} (h : A.length ≤ k) (e : Int) : (if e = 0 then Eg.put A p else A).length ≤ k + 1 := by
  have := Md.put_len1 A p
  split <;> omega
theorem without_first {x : Pr} {l : List Pr} (h : Eg.Srt (x :: l)) : Eg.without (x :: l) x = l := by
  obtain ⟨h1, h2⟩ := Eg.Srt.cons.1 h
  unfold Eg.without
  rw [List.filter_cons_of_neg (by simp), List.filter_eq_self]
  intro y hy
  simp only [ne_eq, decide_eq_true_eq]
  rintro rfl
  have := h1 y hy
  rw [Eg.less_irrefl] at this
  cases this
theorem counts_seen {A T : List Pr} {k : Nat} (ok : ∀ p ∈ A, 0 ≤ p.1 ∧ p.1 < p.2 ∧ p.2 < 1048576) (hk : k < A.length) {x1 x2 : Int} (hx : A[k] = (x1, x2)) :
    Hid (0 ≤ x1 ∧ x1 < 1048576) ∧ Hid (0 ≤ x2 ∧ x2 < 1048576) ∧ Hid (true = ((Aj.nb A x1).map fun x => (x, decide (Md.pair x1 x ∈ T))).any fun x => decide (x.1 = x2)) ∧ Hid (true = ((Aj.nb A x2).map fun x => (x, decide (Md.pair x2 x ∈ T))).any fun x => decide (x.1 = x1)) := by
  have hm : (x1, x2) ∈ A := hx ▸ List.getElem_mem hk
  obtain ⟨h1, h2, h3⟩ := ok _ hm
  simp only at h1 h2 h3
  have hw : Md.wrong x1 x2 = 0 := Aj.wrong_zero.2 ⟨by omega, by omega, by omega⟩
  refine ⟨Lib.hid (by omega), Lib.hid (by omega), Lib.hid ?_, Lib.hid ?_⟩
  · symm
    rw [List.any_eq_true]
    exact ⟨_, List.mem_map.2 ⟨x2, (Aj.mem_nb ok).2 ⟨hw, by rw [Aj.pair_lt h2]; exact hm⟩, rfl⟩, by simp⟩
  · symm
    rw [List.any_eq_true]
    exact ⟨_, List.mem_map.2 ⟨x1, (Aj.mem_nb ok).2 ⟨by rw [Aj.wrong_comm]; exact hw, by rw [Aj.pair_comm, Aj.pair_lt h2]; exact hm⟩, rfl⟩, by simp⟩
theorem counts_two {lk : List Ky.En} {A : List Pr} (h : Hid (lk.length = 2 * A.length + ([] : List Ky.En).length)) : (lk.length : Int) = 2 * (A.length : Int) := by
  have := h.out
  simp only [List.length_nil] at this
  omega
theorem counts_zero {lk : List Ky.En} (h : Hid (lk.length = 2 * ([] : List Pr).length + ([] : List Ky.En).length)) : (lk.length : Int) = 0 := by
  have := h.out
  simp only [List.length_nil] at this
  omega
theorem counts_drop {A : List Pr} {k : Nat} (sa : Eg.Srt A) (ok : ∀ p ∈ A, 0 ≤ p.1 ∧ p.1 < p.2 ∧ p.2 < 1048576) (hk : k < A.length) {x1 x2 : Int} (hx : A[k] = (x1, x2)) :
    Hid ((0 : Int) = if Md.wrong x2 x1 = 0 then (if Md.pair x2 x1 ∈ A.drop k then 0 else 181) else Md.wrong x2 x1) ∧ Hid (Eg.without (A.drop k) (Md.pair x2 x1) = A.drop (k + 1)) := by
  have hm : (x1, x2) ∈ A := hx ▸ List.getElem_mem hk
  obtain ⟨h1, h2, h3⟩ := ok _ hm
  simp only at h1 h2 h3
  have hw : Md.wrong x2 x1 = 0 := Aj.wrong_zero.2 ⟨by omega, by omega, by omega⟩
  have hp : Md.pair x2 x1 = (x1, x2) := by rw [Aj.pair_comm, Aj.pair_lt h2]
  have hd : A.drop k = (x1, x2) :: A.drop (k + 1) := by rw [List.drop_eq_getElem_cons hk, hx]
  refine ⟨Lib.hid ?_, Lib.hid ?_⟩
  · rw [if_pos hw, hp, hd, if_pos (by simp)]
  · rw [hp, hd]
    refine without_first ?_
    rw [← hd]
    exact List.Pairwise.sublist (List.drop_sublist _ _) sa
theorem counts_get {a : Option Addr} {n c : Nat} {l : List Pr} {F : Asn} {w : World} (H : Sat (RowP (.slice a n c) l * F) w) (hl : l.length ≤ 1000000) (k : Nat) (hk : k < l.length) : ∃ b off x1 x2, a = some ⟨b, off, none⟩ ∧ l[k] = (x1, x2) ∧ ∀ X W, Sat (RowP (.slice a n c) l * X) W →
    W.cell? ⟨b, off + k * 2, none⟩ = some (.int .i64 x1) ∧ W.cell? ⟨b, off + k * 2 + 1, none⟩ = some (.int .i64 x2) := by
  obtain ⟨b, off, x1, x2, e, hx, hc⟩ := readsP_get (readsP_row H hl) k hk
  refine ⟨b, off, x1, x2, e, hx, fun X W hW => ?_⟩
  obtain ⟨b', off', y1, y2, e', hy, hc'⟩ := readsP_get (readsP_row hW hl) k hk
  rw [e] at e'
  cases e'
  rw [hx] at hy
  cases hy
  exact hc' W hW
theorem counts_rot {vn vm : Value} {LN LM : List Nr} {X Y : Asn} {w : World} (H : Sat (RowW vm LM * (X * (RowW vn LN * Y))) w) : Sat (RowW vn LN * (RowW vm LM * (X * Y))) w := H.of_eq (by unfold RowW; ac_rfl)
section
variable {F : Asn} {w : World} {R : Ending → World → Prop}
set_option maxRecDepth 100000 in
set_option maxHeartbeats 16000000 in
theorem adjCounts_walk {l : List Act17} {v : Value} (hv : Reads encA17 F v l) (H : Sat F w) (h : ∀ w', Sat F w' → Io w w' → R (.returned (.bool true)) w') :
    Calls Tryz.prog 6 #[v] w R := by
  have HH := Lib.hid h
  obtain ⟨a0, c0, rfl, hm⟩ := readsA17_len hv
  have HVG := Lib.hid (fun k hk => readsA17_get hv k hk)
  clear h hv
  go_enter Tryz.func6, Tryz.ntmps6
  by_cases hl : (80 : Int) < (l.length : Int)
  · go_wp2_with (go_at_call 7; (with_reducible refine works17_any H ?_); intro w1 H1 I1)
    exact HH.out _ H1 I1
  · have HL : Hid (l.length ≤ 80) := Lib.hid (by omega)
    go_wp2_with (first
      | (go_at_call 7; (with_reducible refine works17_any H ?_); intro w1 H1 I1)
      | (go_at_call 8; (refine ladj_any (n := 2000) (by decide) H1 ?_); intro a c w2 hn H2 I2; have HC := Lib.hid hn; clear hn; have K0 := AjM.first H2)
      | fail)
    have I02 := I1.trans I2
    clear I1 I2 H1 H2 H
    go_loopw [6] (fun x wr => ∃ (k : Nat) (A T : List Pr), k ≤ l.length ∧ x = .int .i64 (k : Int) ∧ Hid (A.length ≤ k) ∧ Sat (AjM a c A T [] (60 + 24 * k) (2 * k) * F) wr ∧ Io w wr) (fun x _ => l.length - (RowKit.intOf x).toNat)
    case atStart => exact ⟨0, [], [], by omega, rfl, Lib.hid (by simp), K0, I02⟩
    case round =>
      obtain ⟨k, A, T, hk, rfl, hA, Hk, Ik⟩ := hrel
      clear K0 I02
      by_cases hlt : k < l.length
      · have hlti : (k : Int) < (l.length : Int) := by omega
        have hk0 : (0 : Int) ≤ (k : Int) := by omega
        obtain ⟨b, off, x1, x2, x3, x4, rfl, hx, hc⟩ := HVG.out k hlt
        obtain ⟨g0, g1, g2, g3⟩ := hc _ Hk.right
        have Hd := Hk.drew
        have Id := Ik.drew
        obtain ⟨e0, e1, e2, e3⟩ := hc _ Hd.right
        obtain ⟨e, he⟩ : ∃ e, e = Md.wrong x2 x3 := ⟨_, rfl⟩
        have HE := Lib.hid he
        have HC2 := Lib.hid (fun W hW => (⟨(hc W hW).2.1, (hc W hW).2.2.1, (hc W hW).2.2.2⟩ : _ ∧ _ ∧ _))
        clear hc hx g0 g1 g2 g3 he e0
        have HRM := room_counts (k := k) HC (by have := HL.out; omega)
        go_wp2_with fail
        go_region_held3 (fun W => W.cell? ⟨b, off + k * 4 + 1, none⟩ = some (.int .i64 x2) ∧ W.cell? ⟨b, off + k * 4 + 2, none⟩ = some (.int .i64 x3) ∧ W.cell? ⟨b, off + k * 4 + 3, none⟩ = some (.bool x4)) (with_reducible (first | exact ⟨e1, e2, e3⟩ | exact S1)) (first
          | (go_at_call 11; (refine ajm_set x2 x3 x4 (by have := HC.out; omega) (by have := HL.out; omega) (by omega) HRM HE Hd ?_); intro w3 H3 I3; have S1 := HC2.out _ H3.right))
        go_wp2_with fail
        go_roundw
        case rel => exact ⟨k + 1, _, _, by omega, by go_num, Lib.hid (put_le hA.out e), H3, Id.trans I3⟩
        case measure => simp [RowKit.intOf]; omega
      · obtain rfl : k = l.length := by omega
        have hge : ¬ (l.length : Int) < (l.length : Int) := by omega
        have HA : Hid (A.length ≤ 80) := Lib.hid (by have := hA.out; have := HL.out; omega)
        have nA : (A.length : Int) ≤ 80 := by have := HA.out; omega
        have HO := Lib.hid (AjM.ok Hk)
        clear HVG hA
        have HRM := room_counts2 (k := l.length) HC (by have := HL.out; omega)
        have HG : Hid (2 * l.length ≤ 200) := Lib.hid (by have := HL.out; omega)
        have HQ : Hid (60 ≤ 60 + 24 * l.length) := Lib.hid (by omega)
        generalize 60 + 24 * l.length = q at *
        generalize 2 * l.length = g at *
        go_wp2_with (first
          | (go_at_call 17; (refine ajm_edges (by have := HG.out; omega) (by have := HA.out; omega) (by simp) Hk ?_); intro ve w3 H3 I3; obtain ⟨av, cv, hq⟩ := rowOf_shl H3; subst hq)
          | fail)
        have K3 := swap3 H3
        have J3 := Ik.trans I3
        clear H3 I3 Ik Hk
        go_loopw [9] (fun x wr => ∃ k : Nat, k ≤ A.length ∧ x = .int .i64 (k : Int) ∧ Sat (AjM a c A T [] q g * (RowP (.slice av A.length cv) A * F)) wr ∧ Io w wr) (fun x _ => A.length - (RowKit.intOf x).toNat)
        case atStart => exact ⟨0, by omega, rfl, K3, J3⟩
        case round =>
          obtain ⟨k, hk, rfl, Kk, Jk⟩ := hrel
          clear K3 J3
          by_cases hlt : k < A.length
          · have hlti : (k : Int) < (A.length : Int) := by omega
            have hk0 : (0 : Int) ≤ (k : Int) := by omega
            obtain ⟨b, off, x1, x2, rfl, hx, hc⟩ := readsP_get (readsP_row (swap3 Kk) (by have := HA.out; omega)) k hlt
            obtain ⟨HU1, HU2, HS1, HS2⟩ := counts_seen (T := T) HO.out.2 hlt hx
            have HN1 : Hid (((Aj.nb A x1).map fun x => (x, decide (Md.pair x1 x ∈ T))).length ≤ 100000) := Lib.hid (by rw [List.length_map]; have := Aj.nb_len A x1; have := HA.out; omega)
            have HN2 : Hid (((Aj.nb A x2).map fun x => (x, decide (Md.pair x2 x ∈ T))).length ≤ 100000) := Lib.hid (by rw [List.length_map]; have := Aj.nb_len A x2; have := HA.out; omega)
            obtain ⟨g0, g1⟩ := hc _ (swap3 Kk)
            have HCC := Lib.hid hc
            clear hc hx
            go_wp2_with (first
              | (go_at_call 29; (with_reducible refine ajm_near (u := x1) HU1.out (by have := HG.out; omega) (by have := HA.out; omega) (by simp) Kk ?_); intro vn w4 H4 I4; have Z := HCC.out _ (swap3 H4.right); obtain ⟨y0, y1⟩ := Z)
              | (go_at_call 29; (with_reducible refine ajm_near (u := x2) HU2.out (by have := HG.out; omega) (by have := HA.out; omega) (by simp) (swap3 H4) ?_); intro vm w5 H5 I5; have H6 := counts_rot H5; have Z := HCC.out _ (swap3 H6.right.right); obtain ⟨z0, z1⟩ := Z)
              | (go_at_call 30; (with_reducible refine seen_any (Reads.of_row H6 (by have := HN1.out; omega)) HN1.out x2 HS1 H6 ?_); intro w6 H7 I6; have H8 := swap3 H7; have Z := HCC.out _ (swap3 H7.right.right); obtain ⟨t0, t1⟩ := Z)
              | (go_at_call 30; (with_reducible refine seen_any (Reads.of_row H8 (by have := HN2.out; omega)) HN2.out x1 HS2 H8 ?_); intro w7 H9 I7)
              | fail)
            go_roundw
            case rel => exact ⟨k + 1, by omega, by go_num, H9.right.right, (((Jk.trans I4).trans I5).trans I6).trans I7⟩
            case measure => simp [RowKit.intOf]; omega
          · obtain rfl : k = A.length := by omega
            have hge : ¬ (A.length : Int) < (A.length : Int) := by omega
            go_wp2_with (first
              | (go_at_call 26; (refine ajm_scan (by have := HG.out; omega) (by have := HA.out; omega) (by simp) Kk ?_); intro vk lk w8 hlk H8 I8; obtain ⟨ak, ck, hq⟩ := rowOf_shl H8; subst hq; have nk := counts_two hlk; have K8 := H8.right)
              | fail)
            have J8 := Jk.trans I8
            clear Kk Jk H8 I8
            go_loopw [16] (fun x wr => ∃ (k : Nat) (T' : List Pr), k ≤ A.length ∧ x = .int .i64 (k : Int) ∧ Sat (AjM a c (A.drop k) T' [] q g * (RowP (.slice av A.length cv) A * F)) wr ∧ Io w wr) (fun x _ => A.length - (RowKit.intOf x).toNat)
            case atStart => exact ⟨0, T, by omega, rfl, K8, J8⟩
            case round =>
              obtain ⟨k, T', hk, rfl, Kk, Jk⟩ := hrel
              clear K8 J8
              by_cases hlt : k < A.length
              · have hlti : (k : Int) < (A.length : Int) := by omega
                have hk0 : (0 : Int) ≤ (k : Int) := by omega
                obtain ⟨b, off, x1, x2, rfl, hx, hc⟩ := counts_get (swap3 Kk) (by have := HA.out; omega) k hlt
                have HCC := Lib.hid hc
                obtain ⟨HE, HDR⟩ := counts_drop HO.out.1 HO.out.2 hlt hx
                have HLD : Hid ((A.drop k).length ≤ 1000) := Lib.hid (by rw [List.length_drop]; have := HA.out; omega)
                have Kd := Kk.drew
                have Jd := Jk.drew
                have S0 := HCC.out _ _ (swap3 Kd)
                clear hc hx Kk Jk
                go_wp2_with fail
                go_region_held3 (fun W => W.cell? ⟨b, off + k * 2, none⟩ = some (.int .i64 x1) ∧ W.cell? ⟨b, off + k * 2 + 1, none⟩ = some (.int .i64 x2)) (with_reducible (first | exact S0 | exact S1)) (first
                  | (go_at_call 14; (refine ajm_clear x2 x1 (by have := HC.out; omega) (by have := HG.out; omega) HQ.out HRM HE Kd ?_); intro w9 H9 I9; have S1 := HCC.out _ _ (swap3 H9)))
                have K9 := H9
                rw [HDR.out] at K9
                go_wp2_with fail
                go_roundw
                case rel => exact ⟨k + 1, _, by omega, by go_num, K9, Jd.trans I9⟩
                case measure => simp [RowKit.intOf]; omega
              · obtain rfl : k = A.length := by omega
                have hge : ¬ (A.length : Int) < (A.length : Int) := by omega
                rw [List.drop_length] at Kk
                go_wp2_with (first
                  | (go_at_call 26; (refine ajm_scan (by have := HG.out; omega) (by simp) (by simp) Kk ?_); intro vk2 lk2 w10 hlk2 H10 I10; obtain ⟨ak2, ck2, hq⟩ := rowOf_shl H10; subst hq; have nk2 := counts_zero hlk2; have K10 := H10.right)
                  | (go_at_call 31; (refine ajm_root K10 ?_); intro root hr; have hr0 := hr.2 ⟨rfl, rfl⟩; subst hr0)
                  | fail)
                exact HH.out _ K10.right.right (Jk.trans I10)
end
end Go.Proofs.YthbbdicdcmjpiaaGreatDoor
