/-
  Edges: the statements of what is kept, by their walks. It proves no statement by itself.
-/
import Derived.Test.YtmacannchaalaaaE3I
import Derived.Test.YtmacannchaalaaaE3J
namespace Go.Proofs.Ytmacannchaalaaa
open Go.RowKit
set_option linter.unusedSimpArgs false
set_option linter.unusedVariables false

section
variable {F : Asn} {w : World} {R : Ending → World → Prop}
set_option maxRecDepth 100000 in
set_option maxHeartbeats 8000000 in
theorem edgeKept_any {a b : List Pr} {c : List Ch} {va vb vc : Value} (ha : ReadsP F va a) (hb : ReadsP F vb b) (hc : ReadsC F vc c) (H : Sat F w) (h : ∀ w', Sat F w' → Io w w' → R (.returned (.bool true)) w') : Calls Try.prog 10 #[va, vb, vc] w R := by
  have HH := Lib.hid h
  clear h
  obtain ⟨aa, ac, rfl, am⟩ := readsP_len ha
  obtain ⟨ba', bc', rfl, bm⟩ := readsP_len hb
  obtain ⟨ca, cc, rfl, cm⟩ := readsC_len hc
  by_cases ba : a.length ≤ 60
  · by_cases bb : b.length ≤ 60
    · by_cases bc : c.length ≤ 60
      · have qa : ¬ (60 : Int) < (a.length : Int) := by omega
        have qb : ¬ (60 : Int) < (b.length : Int) := by omega
        have qc : ¬ (60 : Int) < (c.length : Int) := by omega
        have l1 := Eg.sort_len a
        have l2 := Eg.minus_le a b
        have l3 := Eg.minus_le b a
        have l4 := Eg.minus_len a b
        have l5 := Eg.fold_one_len c (Eg.sort a)
        have l5' : (Eg.apply a c).length ≤ 120 := by show (c.foldl Eg.one (Eg.sort a)).length ≤ 120; omega
        clear l5
        go_enter Try.func10, Try.ntmps10
        go_wp2_with (first
          | (go_at_call 11; with_reducible refine works_any H ?_; intro w1 H1 I1)
          | (at_builtin; first
            | (refine wpList_append_pairs rfl (.tmp 33) (.tmp 34) rfl rfl (row_nilP H1) (by simp) (by omega) rfl ha ?_; intro v2 w2 H2 I2; rw [List.nil_append] at H2; have r2 := readsP_row H2 (by omega))
            | (refine wpList_append_pairs rfl (.tmp 36) (.tmp 37) rfl rfl (row_nilP H2) (by simp) (by omega) rfl hb.with ?_; intro v3 w3 H3 I3; rw [List.nil_append] at H3; have r3 := readsP_row H3 (by omega)))
          | (go_at_call 21; with_reducible refine sort_any ha.with.with (by omega) H3 ?_; intro v4 w4 H4 I4; obtain ⟨a4, c4, rfl, m4⟩ := readsP_len (readsP_row H4 (by omega)))
          | (go_at_call 22; with_reducible refine minus_any ha.with.with.with (by omega) hb.with.with.with (by omega) H4 ?_; intro v5 w5 H5 I5)
          | (go_at_call 24; with_reducible refine diff_any ha.with.with.with.with (by omega) hb.with.with.with.with (by omega) H5 ?_; intro v6 w6 H6 I6)
          | (go_at_call 25; with_reducible refine apply_any ha.with.with.with.with.with (by omega) hc.with.with.with.with.with (by omega) H6 ?_; intro v7 w7 H7 I7; obtain ⟨a7, c7, rfl, m7⟩ := readsP_len (readsP_row H7 (by omega))))
        have I0 := (((((I1.trans I2).trans I3).trans I4).trans I5).trans I6).trans I7
        have H8 := H7.of_eq (show _ = RowP (.slice a4 (Eg.sort a).length c4) (Eg.sort a) * (RowP (.slice a7 (Eg.apply a c).length c7) (Eg.apply a c) * (RowC v6 (Eg.diff a b) * (RowP v5 (Eg.minus a b) * (RowP v3 b * (RowP v2 a * F))))) from by unfold RowC; ac_rfl)
        unfold RowP at H8
        obtain ⟨n4, hn4⟩ : ∃ n, (Eg.sort a).length = n := ⟨_, rfl⟩
        obtain ⟨n7, hn7⟩ : ∃ n, (Eg.apply a c).length = n := ⟨_, rfl⟩
        rw [hn4] at l1 m4
        rw [hn7] at l5' m7
        rw [hn4, hn7] at H8
        rw [hn4, hn7]
        have L4 : Hid ((Eg.sort a).length = n4) := Lib.hid hn4
        have L7 : Hid ((Eg.apply a c).length = n7) := Lib.hid hn7
        have r2' := r2
        have r3' := r3
        clear H1 H2 H3 H4 H5 H6 H7 I1 I2 I3 I4 I5 I6 I7 hn4 hn7
        obtain ⟨rest, hrest⟩ : ∃ X, X = RowC v6 (Eg.diff a b) * (RowP v5 (Eg.minus a b) * (RowP v3 b * (RowP v2 a * F))) := ⟨_, rfl⟩
        have ra : ReadsP rest (.slice aa a.length ac) a := by rw [hrest]; exact ha.with.with.with.with
        have rb : ReadsP rest (.slice ba' b.length bc') b := by rw [hrest]; exact hb.with.with.with.with
        have rx : ReadsP rest v2 a := by rw [hrest]; exact r2.with.with.with
        have ry : ReadsP rest v3 b := by rw [hrest]; exact r3.with.with
        have back : ∀ w', Sat rest w' → Sat F w' := fun w' hw => by rw [hrest] at hw; exact hw.right.right.right.right
        unfold RowP at hrest
        rw [← hrest] at H8
        have HB := Lib.hid back
        clear hrest back r2 r3 r2' r3'
        go_loopw [12] (fun x wr => ∃ (k : Nat) (l' : List Pr), k ≤ n4 ∧ x = .int .i64 (k : Int) ∧ Hid (l'.length = n4) ∧ Sat (Row 25 2 (.slice a4 n4 c4) n4 (pv l') * (Row 25 2 (.slice a7 n7 c7) n7 (pv (Eg.apply a c)) * rest)) wr ∧ Io w wr) (fun x _ => n4 - (intOf x).toNat)
        case atStart => exact ⟨0, _, by omega, rfl, L4, H8, I0⟩
        case round =>
          obtain ⟨k, l', hk, rfl, hl', Hk, Ik⟩ := hrel
          by_cases hlt : k < n4
          · have hlti : (k : Int) < (n4 : Int) := by omega
            obtain ⟨g, c', he⟩ := row_shape Hk (by omega)
            cases he
            have hkl : k < l'.length := by rw [hl'.out]; exact hlt
            have f0 := row_free Hk (k * 2)
            have f1 := row_free Hk (k * 2 + 1)
            obtain ⟨d0, d1⟩ := rowP_get Hk k (x := l'[k]) (List.getElem?_eq_getElem hkl)
            have Hst := row_store (row_store Hk (k * 2) (.int .i64 (-1))) (k * 2 + 1) (.int .i64 (-1))
            have Ist := (Ik.setCell ⟨g, k * 2, none⟩ (.int .i64 (-1))).setCell ⟨g, k * 2 + 1, none⟩ (.int .i64 (-1))
            rw [pv_set l' k (-1, -1)] at Hst
            have hl2 : Hid ((l'.set k (-1, -1)).length = n4) := Lib.hid (by rw [List.length_set, hl'.out])
            clear Hk hl'
            go_wp2_with fail
            go_roundw
            case rel => exact ⟨k + 1, _, by omega, by go_num, hl2, Hst, Ist⟩
            case measure => simp [intOf]; omega
          · obtain rfl : n4 = k := by omega
            have hge : ¬ (n4 : Int) < (n4 : Int) := by omega
            have H9 := Hk.of_eq (show _ = Row 25 2 (.slice a7 n7 c7) n7 (pv (Eg.apply a c)) * (Row 25 2 (.slice a4 n4 c4) n4 (pv l') * rest) from by ac_rfl)
            clear Hk H8 I0
            generalize pv l' = pl at H9
            clear hl'
            go_wp2_with fail
            go_loopw [13] (fun x wr => ∃ (k : Nat) (l' : List Pr), k ≤ n7 ∧ x = .int .i64 (k : Int) ∧ Hid (l'.length = n7) ∧ Sat (Row 25 2 (.slice a7 n7 c7) n7 (pv l') * (Row 25 2 (.slice a4 n4 c4) n4 pl * rest)) wr ∧ Io w wr) (fun x _ => n7 - (intOf x).toNat)
            case atStart => exact ⟨0, _, by omega, rfl, L7, H9, Ik⟩
            case round =>
              obtain ⟨k, l', hk, rfl, hl', Hk, Ik⟩ := hrel
              clear H9
              by_cases hlt : k < n7
              · have hlti : (k : Int) < (n7 : Int) := by omega
                obtain ⟨g, c', he⟩ := row_shape Hk (by omega)
                cases he
                have hkl : k < l'.length := by rw [hl'.out]; exact hlt
                have f0 := row_free Hk (k * 2)
                have f1 := row_free Hk (k * 2 + 1)
                obtain ⟨d0, d1⟩ := rowP_get Hk k (x := l'[k]) (List.getElem?_eq_getElem hkl)
                have Hst := row_store (row_store Hk (k * 2) (.int .i64 (-1))) (k * 2 + 1) (.int .i64 (-1))
                have Ist := (Ik.setCell ⟨g, k * 2, none⟩ (.int .i64 (-1))).setCell ⟨g, k * 2 + 1, none⟩ (.int .i64 (-1))
                rw [pv_set l' k (-1, -1)] at Hst
                have hl2 : Hid ((l'.set k (-1, -1)).length = n7) := Lib.hid (by rw [List.length_set, hl'.out])
                clear Hk hl'
                go_wp2_with fail
                go_roundw
                case rel => exact ⟨k + 1, _, by omega, by go_num, hl2, Hst, Ist⟩
                case measure => simp [intOf]; omega
              · obtain rfl : n7 = k := by omega
                have hge : ¬ (n7 : Int) < (n7 : Int) := by omega
                go_wp2_with (go_at_call 20; first
                  | (with_reducible refine rsame_any ra.with.with rx.with.with (d := true) (Lib.hid (decide_eq_true rfl).symm) Hk ?_; intro w10 H10 I10)
                  | (with_reducible refine rsame_any rb.with.with ry.with.with (d := true) (Lib.hid (decide_eq_true rfl).symm) H10 ?_; intro w11 H11 I11))
                exact HH.out _ (HB.out _ H11.right.right) ((Ik.trans I10).trans I11)
      · have qa : ¬ (60 : Int) < (a.length : Int) := by omega
        have qb : ¬ (60 : Int) < (b.length : Int) := by omega
        have qc : (60 : Int) < (c.length : Int) := by omega
        go_enter Try.func10, Try.ntmps10
        go_wp2_with (go_at_call 11; with_reducible refine works_any H ?_; intro w1 H1 I1)
        exact HH.out _ H1 I1
    · have qa : ¬ (60 : Int) < (a.length : Int) := by omega
      have qb : (60 : Int) < (b.length : Int) := by omega
      go_enter Try.func10, Try.ntmps10
      go_wp2_with (go_at_call 11; with_reducible refine works_any H ?_; intro w1 H1 I1)
      exact HH.out _ H1 I1
  · have qa : (60 : Int) < (a.length : Int) := by omega
    go_enter Try.func10, Try.ntmps10
    go_wp2_with (go_at_call 11; with_reducible refine works_any H ?_; intro w1 H1 I1)
    exact HH.out _ H1 I1
end
end Go.Proofs.Ytmacannchaalaaa
