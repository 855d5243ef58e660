/-
  slices.Compact on a rising row of pairs, by its walk. It proves no statement by itself.
-/
import Derived.Test.YtabpgejjnphfcaaGreatQ07
import Derived.Test.YtabpgejjnphfcaaGreatQ05
namespace Go.Proofs.YtabpgejjnphfcaaGreat
open Go.RowKit
set_option linter.unusedSimpArgs false
set_option linter.unusedVariables false

theorem pv_set : ∀ (l : List Pr) (k : Nat) (x : Pr), ((pv l).set (k * 2) (.int .i64 x.1)).set (k * 2 + 1) (.int .i64 x.2) = pv (l.set k x)
  | [], k, x => by simp [pv]
  | p :: l, 0, x => by simp [pv]
  | p :: l, k + 1, x => by
    have := pv_set l k x
    have e : (k + 1) * 2 = k * 2 + 1 + 1 := by omega
    rw [e]
    simpa [pv] using this
theorem pv_take (l : List Pr) (k : Nat) : (pv l).take (k * 2) = pv (l.take k) := by
  by_cases h : k ≤ l.length
  · have e : pv l = pv (l.take k) ++ pv (l.drop k) := by rw [← pv_append, List.take_append_drop]
    rw [e]
    exact List.take_left' (by rw [pv_length, List.length_take, Nat.min_eq_left h])
  · rw [List.take_of_length_le (by rw [pv_length]; omega), List.take_of_length_le (by omega)]
/-- A pair of a row. -/
theorem rowP_get {g c n : Nat} {l : List Pr} {F : Asn} {w : World} (H : Sat (Row 49 2 (.slice (some ⟨g, 0, none⟩) n c) n (pv l) * F) w) (k : Nat) {x : Pr} (hk : l[k]? = some x) :
    w.cell? ⟨g, k * 2, none⟩ = some (.int .i64 x.1) ∧ w.cell? ⟨g, k * 2 + 1, none⟩ = some (.int .i64 x.2) := by
  obtain ⟨hl, rfl⟩ := List.getElem?_eq_some_iff.1 hk
  have h0 := pv_get0 l k hl
  have h1 := pv_get1 l k hl
  rw [Nat.mul_comm] at h0 h1
  exact ⟨row_read H _ _ h0, row_read H _ _ h1⟩
namespace Eg
theorem uniq_short {l : List Pr} (h : l.length < 2) : uniq l = l := by
  match l, h with
  | [], _ => rfl
  | [x], _ => rfl
  | _ :: _ :: _, h => simp at h; omega
end Eg
section
variable {F : Asn} {w : World} {R : Ending → World → Prop} {l : List Pr} {v : Value}
set_option maxRecDepth 100000 in
set_option maxHeartbeats 4000000 in
theorem compact_any (H : Sat (RowP v l * F) w) (hl : l.length ≤ 1000000) (h : ∀ v' w', Sat (RowP v' (Eg.uniq l) * F) w' → Io w w' → R (.returned v') w') :
    Calls Tryz.prog 118 #[v] w R := by
  by_cases h2 : l.length < 2
  · have fin := h v w (by rw [Eg.uniq_short h2]; exact H) (Io.refl w)
    obtain ⟨a, c, rfl, hm⟩ := readsP_len (readsP_row H hl)
    have h2i : (l.length : Int) < 2 := by omega
    clear h H
    go_enter Tryz.func118, Tryz.ntmps118
    go_wp2_with fail
    exact fin
  · obtain ⟨g, cap, rfl⟩ := row_shape H (by omega)
    have HH := Lib.hid h
    have h2i : ¬ (l.length : Int) < 2 := by omega
    have hcap := (row_cap H).1
    clear h
    go_enter Tryz.func118, Tryz.ntmps118
    go_wp2_with fail
    go_loopw [3] (fun x wr => ∃ k : Nat, 1 ≤ k ∧ k ≤ l.length ∧ x = .int .i64 (k : Int) ∧ Hid (Eg.uniq (l.take k) = l.take k) ∧ Sat (RowP (.slice (some ⟨g, 0, none⟩) l.length cap) l * F) wr ∧ Io w wr) (fun x _ => l.length - (intOf x).toNat)
    case atStart => exact ⟨1, by omega, by omega, rfl, Lib.hid (Eg.uniq_short (by rw [List.length_take]; omega)), H, Io.refl _⟩
    case round =>
      obtain ⟨k, k1, hk, rfl, hs, Hk, Ik⟩ := hrel
      by_cases hlt : k < l.length
      · have hlti : (k : Int) < (l.length : Int) := by omega
        obtain ⟨j, hj⟩ : ∃ j, k = j + 1 := ⟨k - 1, by omega⟩
        have hsub : (k : Int) - 1 = (j : Int) := by omega
        have hjn : (j : Int) < (l.length : Int) := by omega
        have hj0 : (0 : Int) ≤ (j : Int) := by omega
        obtain ⟨x1, x2, hx⟩ : ∃ x1 x2, l[k] = (x1, x2) := ⟨_, _, rfl⟩
        obtain ⟨y1, y2, hy⟩ : ∃ y1 y2, l[j]'(by omega) = (y1, y2) := ⟨_, _, rfl⟩
        obtain ⟨c0, c1⟩ := rowP_get Hk k (x := (x1, x2)) (by rw [List.getElem?_eq_getElem hlt, hx])
        obtain ⟨e0, e1⟩ := rowP_get Hk j (x := (y1, y2)) (by rw [List.getElem?_eq_getElem (by omega), hy])
        have Hn := fun n => Hk.drewN n
        have In := fun n => Ik.drewN n
        have EQ := fun W => eql_pair (x1, x2) (y1, y2) W
        obtain ⟨eq, heq⟩ : ∃ e, e = decide ((x1, x2) = (y1, y2)) := ⟨_, rfl⟩
        rw [← heq] at EQ
        have hu := Eg.uniq_take (l := l) (k := k) (by omega) hlt
        have hu1 : (l[k - 1]'(by omega)) = (y1, y2) := by rw [← hy]; congr 1; omega
        rw [hu1, hx, hs.out] at hu
        have HE := Lib.hid heq
        have HU := Lib.hid hu
        have HJ := Lib.hid hj
        have HX := Lib.hid hx
        clear heq hu hu1 hx hy hj
        simp only at EQ c0 c1 e0 e1
        cases eq with
        | false =>
          have HS' : Hid (Eg.uniq (l.take (k + 1)) = l.take (k + 1)) := Lib.hid (by
            rw [HU.out, if_neg (fun e => of_decide_eq_false HE.out.symm e.symm), List.take_succ_eq_append_getElem hlt, HX.out])
          clear HU
          go_wp2_with fail
          go_quiet (fail)
          go_wp2_with fail
          go_roundw
          case rel => exact ⟨k + 1, by omega, by omega, by go_num, HS', Hn _, In _⟩
          case measure => simp [intOf]; omega
        | true =>
          go_wp2_with fail
          go_quiet (fail)
          have hck : ¬ (cap = k) := by omega
          go_wp2_with fail
          have HS0 : Hid (Eg.uniq (l.take (k + 1)) = l.take k) := Lib.hid (by rw [HU.out, if_pos (of_decide_eq_true HE.out.symm).symm])
          have Hq := Hn nq
          have Iq := In nq
          clear EQ HE HU Hn In c0 c1 e0 e1 hsub hjn hj0 HX
          generalize hM : l.length - k = M at *
          have hM1 : 1 ≤ M := by omega
          go_loopw [3, 5] (fun x y wr => ∃ (kk k2 : Nat) (U : List Pr), 1 ≤ kk ∧ kk + 1 ≤ k + k2 ∧ 1 ≤ k2 ∧ k2 ≤ M ∧ x = .int .i64 (kk : Int) ∧ y = .int .i64 (k2 : Int) ∧ Hid (Eg.uniq (l.take (k + k2)) = U) ∧ U.length = kk ∧ Sat (Row 49 2 (.slice (some ⟨g, 0, none⟩) l.length cap) l.length (pv (U ++ l.drop kk)) * F) wr ∧ Io w wr) (fun _ y _ => M - (intOf y).toNat)
          case atStart =>
            refine ⟨k, 1, l.take k, k1, by omega, by omega, hM1, rfl, rfl, HS0, by rw [List.length_take]; omega, ?_, Iq⟩
            rw [List.take_append_drop]
            exact Hq
          case round =>
            obtain ⟨kk, k2, U, b1, b2, b3, b4, rfl, rfl, hs2, hU, Hk2, Ik2⟩ := hrel
            clear Hq Iq HS0
            by_cases hl2 : k2 < M
            · have hl2i : (k2 : Int) < (M : Int) := by omega
              obtain ⟨q, hq⟩ : ∃ q, k2 = q + 1 := ⟨k2 - 1, by omega⟩
              have hsub : (k2 : Int) - 1 = (q : Int) := by omega
              have hqM : (q : Int) < (M : Int) := by omega
              have hq0 : (0 : Int) ≤ (q : Int) := by omega
              obtain ⟨x1, x2, hx⟩ : ∃ x1 x2, l[k + k2] = (x1, x2) := ⟨_, _, rfl⟩
              obtain ⟨y1, y2, hy⟩ : ∃ y1 y2, l[k + q]'(by omega) = (y1, y2) := ⟨_, _, rfl⟩
              obtain ⟨c0, c1⟩ := rowP_get Hk2 (k + k2) (x := (x1, x2)) (by rw [List.getElem?_append_right (by omega), hU, List.getElem?_drop, show kk + (k + k2 - kk) = k + k2 from by omega, List.getElem?_eq_getElem (by omega), hx])
              obtain ⟨e0, e1⟩ := rowP_get Hk2 (k + q) (x := (y1, y2)) (by rw [List.getElem?_append_right (by omega), hU, List.getElem?_drop, show kk + (k + q - kk) = k + q from by omega, List.getElem?_eq_getElem (by omega), hy])
              rw [Nat.add_mul] at c0 c1 e0 e1
              have Hn := fun n => Hk2.drewN n
              have In := fun n => Ik2.drewN n
              have EQ := fun W => neq_pair (x1, x2) (y1, y2) W
              obtain ⟨eq, heq⟩ : ∃ e, e = decide ((x1, x2) = (y1, y2)) := ⟨_, rfl⟩
              rw [← heq] at EQ
              have hu := Eg.uniq_take (l := l) (k := k + k2) (by omega) (by omega)
              have hu1 : (l[k + k2 - 1]'(by omega)) = (y1, y2) := by rw [← hy]; congr 1; omega
              rw [hu1, hx, hs2.out] at hu
              have HE := Lib.hid heq
              have HU := Lib.hid hu
              have HQ := Lib.hid hq
              clear heq hu hu1 hx hy hq hs2
              simp only at EQ c0 c1 e0 e1
              cases eq with
              | true =>
                have HS' : Hid (Eg.uniq (l.take (k + (k2 + 1))) = U) := Lib.hid (by rw [← Nat.add_assoc, HU.out, if_pos (of_decide_eq_true HE.out.symm).symm])
                simp only [Bool.not_true] at EQ
                clear HU HE
                go_wp2_with fail
                go_quiet (fail)
                go_wp2_with fail
                go_roundw
                case rel => exact ⟨kk, k2 + 1, U, b1, by omega, by omega, by omega, rfl, by go_num, HS', hU, Hn _, In _⟩
                case measure => simp [intOf]; omega
              | false =>
                have HS' : Hid (Eg.uniq (l.take (k + (k2 + 1))) = U ++ [(x1, x2)]) := Lib.hid (by rw [← Nat.add_assoc, HU.out, if_neg (fun e => of_decide_eq_false HE.out.symm e.symm)])
                simp only [Bool.not_false] at EQ
                clear HU HE
                have hkl : (kk : Int) < (l.length : Int) := by omega
                have f0 := row_free Hk2 (kk * 2)
                have f1 := row_free Hk2 (kk * 2 + 1)
                obtain ⟨d0, d1⟩ := rowP_get Hk2 kk (x := l[kk]'(by omega)) (by rw [List.getElem?_append_right (by omega), hU, List.getElem?_drop, Nat.sub_self, List.getElem?_eq_getElem (by omega)]; simp)
                have Hst := fun n => row_store (row_store (Hn n) (kk * 2) (.int .i64 x1)) (kk * 2 + 1) (.int .i64 x2)
                have Ist := fun n => ((In n).setCell ⟨g, kk * 2, none⟩ (.int .i64 x1)).setCell ⟨g, kk * 2 + 1, none⟩ (.int .i64 x2)
                go_wp2_with fail
                go_quiet (fail)
                go_wp2_with fail
                go_roundw
                case rel =>
                  refine ⟨kk + 1, k2 + 1, U ++ [(x1, x2)], by omega, by omega, by omega, by omega, by go_num, by go_num, HS', by simp [hU], (Hst _).of_eq ?_, Ist _⟩
                  rw [pv_set (U ++ l.drop kk) kk (x1, x2)]
                  have e : (U ++ l.drop kk).set kk (x1, x2) = U ++ [(x1, x2)] ++ l.drop (kk + 1) := by
                    rw [List.set_append_right _ _ (by omega), hU, Nat.sub_self, List.drop_eq_getElem_cons (by omega), List.set_cons_zero, List.append_assoc]
                    rfl
                  rw [e]
                case measure => simp [intOf]; omega
            · obtain rfl : k2 = M := by omega
              have hge : ¬ (k2 : Int) < (k2 : Int) := by omega
              have hu : Hid (Eg.uniq l = U) := Lib.hid (by have := hs2.out; rwa [show k + k2 = l.length from by omega, List.take_length] at this)
              have hck2 : ¬ (cap = kk) := by omega
              have hkl : (kk : Int) ≤ (l.length : Int) := by omega
              have hs3 := row_shrink Hk2 (k := kk) (by omega)
              rw [pv_take, List.take_left' hU] at hs3
              obtain ⟨w5, hr5, H5, I5⟩ := run_clear_beyond (t := 22) (ty := 0) Tryz.underlying22 Tryz.zeroValue49 rfl (by intro u hu; simp [Value.cells] at hu; subst hu; rfl) hs3 kk (l.length - kk) (Nat.le_refl _) (by omega) (some ⟨g, kk * 2, none⟩) (fun _ => rfl) (cap - kk)
              clear hs2 Hk2 hs3
              go_wp2_with (at_builtin; refine wpList_clear_run rfl (.tmp 56) 22 rfl rfl hr5 ?_)
              refine HH.out _ _ ?_ (Ik2.trans I5)
              rw [hu.out]
              exact H5.of_eq (by unfold RowP; rw [hU]; rfl)
      · obtain rfl : k = l.length := by omega
        have hge : ¬ (l.length : Int) < (l.length : Int) := by omega
        have he : Hid (Eg.uniq l = l) := Lib.hid (by have := hs.out; rwa [List.take_length] at this)
        go_wp2_with fail
        refine HH.out _ _ ?_ Ik
        rw [he.out]
        exact Hk
end
end Go.Proofs.YtabpgejjnphfcaaGreat
