/-
  AdjApart, by its walk. It proves no statement by itself.
-/
import Derived.Test.YthbbdicdcmjpiaaGreatDoorR47
import Derived.Test.YthbbdicdcmjpiaaGreatDoorR48
namespace Go.Proofs.YthbbdicdcmjpiaaGreatDoor
open Go.RowKit Go.Lib
set_option linter.unusedSimpArgs false
set_option linter.unusedVariables false
set_option linter.unusedSectionVars false
theorem may_ok {k : ByteArray} (h : Ky.may k ⟨#[120]⟩ = true) : Ky.chk k ⟨#[120]⟩ = 0 ∧ 1 ≤ k.size ∧ k.size ≤ 16 ∧ Ky.one (k, ⟨#[120]⟩) ≤ 19 := by
  have h1 : Ky.chk k ⟨#[120]⟩ = 0 := of_decide_eq_true h
  have h2 := h1
  have h3 : (⟨#[120]⟩ : ByteArray).size = 1 := rfl
  unfold Ky.chk at h2
  unfold Ky.one
  simp only [h3] at h2 ⊢
  split at h2
  · omega
  · refine ⟨h1, ?_⟩; omega
theorem put_entries (M : List Ky.En) (k v : Ky.Nm) : (Ky.put M k v).length ≤ M.length + 1 := by
  unfold Ky.put
  split
  · simp
  · have := Ky.pos_le k M
    simp only [List.length_append, List.length_take, List.length_drop, List.length_singleton]
    omega
theorem head_bytes {k : ByteArray} (h : 1 ≤ k.size) : ∃ c r, k.data.toList = c :: r := by
  cases e : k.data.toList with
  | nil =>
    have : k.size = k.data.toList.length := rfl
    rw [e, List.length_nil] at this
    omega
  | cons c r => exact ⟨c, r, rfl⟩
theorem byte_65 {c : UInt8} (h : c ≠ 65) : ¬ ((c.toNat : Int) = 65) := fun e => h (UInt8.toNat_inj.1 (by
  have : (65 : UInt8).toNat = 65 := rfl
  omega))
section
variable {a : Nat} {c : Cq} {F : Asn} {w : World}
theorem room_apart {k : Nat} (hc : Hid (c.k.n = 2000)) (hk : k ≤ 80) : Hid (30 + (Tb.most (630 + 24 * k + 12) (30 + 2 * k + 1) : Int) < c.k.room) := most_n hc (by
  unfold Tb.most
  have h1 : (30 + 2 * k + 1) / 11 + 2 ≤ 19 := by omega
  have h2 := Nat.mul_le_mul (show 630 + 24 * k + 12 ≤ 2600 by omega) h1
  omega)
theorem room_apart2 {k : Nat} (hc : Hid (c.k.n = 2000)) (hk : k ≤ 80) : Hid (30 + (Tb.most (630 + 24 * k) (30 + 2 * k) : Int) < c.k.room) := most_n hc (by
  unfold Tb.most
  have h1 : (30 + 2 * k) / 11 + 2 ≤ 19 := by omega
  have h2 := Nat.mul_le_mul (show 630 + 24 * k ≤ 2600 by omega) h1
  omega)
theorem room_keys {k : Nat} (hc : Hid (c.k.n = 2000)) (hk : k ≤ 30) : Hid (30 + (Tb.most (60 + 19 * k) k : Int) < c.k.room) := most_n hc (by
  unfold Tb.most
  have h1 : k / 11 + 2 ≤ 5 := by omega
  have h2 := Nat.mul_le_mul (show 60 + 19 * k ≤ 700 by omega) h1
  omega)
theorem ap_drop {A B C D : Asn} (H : Sat (A * (B * (C * (D * F)))) w) : Sat (A * (B * (D * F))) w := (H.of_eq (show _ = C * (A * (B * (D * F))) from by ac_rfl)).right
theorem ap_row {A B C : Asn} (H : Sat (A * (B * (C * F))) w) : Sat (C * (A * (B * F))) w := H.of_eq (by ac_rfl)
theorem ap_new {X B C : Asn} (H : Sat (X * (B * (C * F))) w) : Sat (B * (C * (X * F))) w := H.of_eq (by ac_rfl)
theorem ap_back {X Y B C : Asn} (H : Sat (X * (Y * (B * (C * F)))) w) : Sat (B * (C * (X * F))) w := (H.of_eq (show _ = Y * (B * (C * (X * F))) from by ac_rfl)).right
theorem ap_cells {bx : Nat} {x1 x2 x3 x4 : Value} {t1 : TypeId} (H : Sat (pts bx (.cells #[x1, x2, x3, x4] t1 (0, 0)) * F) w) : w.cell? ⟨bx, 1, none⟩ = some x2 ∧ w.cell? ⟨bx, 2, none⟩ = some x3 := ⟨(nd4 H).2.1, (nd4 H).2.2.1⟩
theorem ap_cells3 {bx : Nat} {x1 x2 x3 x4 : Value} {t1 : TypeId} (H : Sat (pts bx (.cells #[x1, x2, x3, x4] t1 (0, 0)) * F) w) : w.cell? ⟨bx, 1, none⟩ = some x2 ∧ w.cell? ⟨bx, 2, none⟩ = some x3 ∧ w.cell? ⟨bx, 3, none⟩ = some x4 := ⟨(nd4 H).2.1, (nd4 H).2.2.1, (nd4 H).2.2.2⟩
theorem ap_mono {b k q1 g1 q2 g2 : Nat} {d : Cq} {A T : List Pr} {M : List Ky.En} (H : Sat (AjM a c A T M q1 g1 * (AjM b d A T [] q2 g2 * F)) w) (h1 : q1 ≤ 630 + 24 * (k + 1) := by omega) (h2 : g1 ≤ 30 + 2 * (k + 1) := by omega) (h3 : q2 ≤ 60 + 24 * (k + 1) := by omega) (h4 : g2 ≤ 2 * (k + 1) := by omega) :
    Sat (AjM a c A T M (630 + 24 * (k + 1)) (30 + 2 * (k + 1)) * (AjM b d A T [] (60 + 24 * (k + 1)) (2 * (k + 1)) * F)) w := AjM.mono h1 h2 (swap3 (AjM.mono h3 h4 (swap3 H)))
theorem ap_len {A : List Pr} {p : Pr} {k : Nat} (h : A.length ≤ k) (e : Int) : (if e = 0 then Eg.without A p else A).length ≤ k + 1 := by
  have := Eg.without_len A p
  split <;> omega
theorem ap1 {vp : Value} {A : List Pr} {X Y Z : Asn} (H : Sat (RowP vp A * (X * (Y * (Z * F)))) w) : Sat (Y * (X * (RowP vp A * (Z * F)))) w := H.of_eq (by unfold RowP; ac_rfl)
theorem ap2 {vp vq : Value} {A : List Pr} {X Y Z : Asn} (H : Sat (RowP vq A * (Y * (X * (RowP vp A * Z)))) w) : Sat (RowP vp A * (RowP vq A * (Y * (X * Z)))) w := H.of_eq (by unfold RowP; ac_rfl)
theorem ap5 {v1 v2 y : Value} {S1 S2 M : List Ky.En} {X Y : Asn} (H : Sat (RowE v2 S2 * (X * (RowE v1 S1 * (Y * (RowE y M * F))))) w) : Sat (RowE y M * (RowE v1 S1 * (RowE v2 S2 * F))) w :=
  (H.of_eq (show _ = (X * Y) * (RowE y M * (RowE v1 S1 * (RowE v2 S2 * F))) from by unfold RowE; ac_rfl)).right
theorem ap6 {v1 v3 y : Value} {S1 S3 M : List Ky.En} {X : Asn} (H : Sat (RowE v3 S3 * (RowE y M * (RowE v1 S1 * X))) w) : Sat (RowE v1 S1 * (RowE v3 S3 * (RowE y M * X))) w := H.of_eq (by unfold RowE; ac_rfl)
theorem ap8 {v2 v4 y : Value} {S2 S4 M : List Ky.En} {X : Asn} (H : Sat (RowE v4 S4 * (RowE y M * (RowE v2 S2 * X))) w) : Sat (RowE v2 S2 * (RowE v4 S4 * (RowE y M * X))) w := H.of_eq (by unfold RowE; ac_rfl)
theorem ap_same {R : Ending → World → Prop} {v1 v3 : Value} {S : List Ky.En} {X : Asn} (hS : S.length ≤ 1000) (H : Sat (RowE v1 S * (RowE v3 S * X)) w) (h : ∀ w', Sat (RowE v1 S * (RowE v3 S * X)) w' → Io w w' → R (.returned (.bool true)) w') :
    Calls Tryz.prog 27 #[v1, v3] w R :=
  rsame11_yes (Reads.of_row H (by omega)) ((Reads.of_row (swap3 H) (by omega)).imp fun _ h => swap3 h) H h
end
section
variable {F : Asn} {w : World} {R : Ending → World → Prop}
set_option maxRecDepth 100000 in
set_option maxHeartbeats 16000000 in
theorem adjApart_walk {l : List Act17} {ks : List ByteArray} {v u : Value} (hv : Reads encA17 F v l) (hu : ReadsTx F u ks) (hks : ∀ s ∈ ks, s.size ≤ 9223372036854775807) (H : Sat F w) (h : ∀ w', Sat F w' → Io w w' → R (.returned (.bool true)) w') :
    Calls Tryz.prog 5 #[v, u] w R := by
  have HH := Lib.hid h
  obtain ⟨a0, c0, rfl, hm⟩ := readsA17_len hv
  obtain ⟨a1, c1, rfl, hm1⟩ := reads_shape hu
  have HVG := Lib.hid (fun k hk => readsA17_get hv k hk)
  have HUG := Lib.hid (fun k hk => readsTx_get hu k hk)
  have HKS := Lib.hid hks
  clear h hv hu hks
  go_enter Tryz.func5, Tryz.ntmps5
  by_cases hl : (80 : Int) < (l.length : Int)
  · go_wp2_with (go_at_call 7; (with_reducible refine works17_any H ?_); intro w1 H1 I1)
    exact HH.out _ H1 I1
  · by_cases hl2 : (30 : Int) < (ks.length : Int)
    · go_wp2_with (go_at_call 7; (with_reducible refine works17_any H ?_); intro w1 H1 I1)
      exact HH.out _ H1 I1
    · have HL : Hid (l.length ≤ 80) := Lib.hid (by omega)
      have HL2 : Hid (ks.length ≤ 30) := Lib.hid (by omega)
      go_wp2_with (first
        | (go_at_call 7; (with_reducible refine works17_any H ?_); intro w1 H1 I1)
        | (go_at_call 8; (refine ladj_any (n := 2000) (by decide) H1 ?_); intro a c w2 hn H2 I2; have HC := Lib.hid hn; clear hn; have K0 := AjM.first H2)
        | (go_at_call 8; (refine ladj_any (n := 2000) (by decide) K0 ?_); intro b d w3 hn H3 I3; have HD := Lib.hid hn; clear hn; have K1 := swap3 (AjM.first H3))
        | fail)
      have J1 := (I1.trans I2).trans I3
      have K2 : Sat (AjM a c [] [] [] (60 + 19 * 0) 0 * (AjM b d [] [] [] 60 0 * (RowE (.slice none 0 0) [] * F))) w3 := ap_new (rowOf_nil (enc := encE) (sz := 2) (e := 49) K1)
      clear I1 I2 I3 H1 H2 H3 H K0 K1
      go_loopw [10, 11] (fun y x wr => ∃ (k : Nat) (M : List Ky.En), k ≤ ks.length ∧ x = .int .i64 (k : Int) ∧ Hid (M.length ≤ k) ∧ Sat (AjM a c [] [] M (60 + 19 * k) k * (AjM b d [] [] [] 60 0 * (RowE y M * F))) wr ∧ Io w wr) (fun _ x _ => ks.length - (RowKit.intOf x).toNat)
      case atStart => exact ⟨0, [], by omega, rfl, Lib.hid (by simp), K2, J1⟩
      case round =>
        obtain ⟨k, M, hk, rfl, hM, Hk, Ik⟩ := hrel
        clear K2 J1
        by_cases hlt : k < ks.length
        · have hlti : (k : Int) < (ks.length : Int) := by omega
          have hk0 : (0 : Int) ≤ (k : Int) := by omega
          obtain ⟨b1, o1, s, rfl, hx, hc⟩ := HUG.out k hlt
          have HS : Hid (s.size ≤ 9223372036854775807) := Lib.hid (HKS.out s (hx ▸ List.getElem_mem hlt))
          have H1s : Hid ((⟨#[120]⟩ : ByteArray).size ≤ 40) := Lib.hid (by decide)
          obtain ⟨m, hmay⟩ : ∃ m, m = Ky.may s ⟨#[120]⟩ := ⟨_, rfl⟩
          have HMY := Lib.hid hmay
          have g0 := hc _ Hk.right.right.right
          have HC2 := Lib.hid hc
          clear hc hx hmay
          cases m with
          | false =>
            go_wp2_with (go_at_call 23; (with_reducible refine rmay11_any s ⟨#[120]⟩ HS H1s HMY ?_))
            go_roundw
            case rel => exact ⟨k + 1, M, by omega, by go_num, Lib.hid (by have := hM.out; omega), AjM.mono (by omega) (by omega) Hk, Ik⟩
            case measure => simp [RowKit.intOf]; omega
          | true =>
            obtain ⟨hchk, hs1, hs2, hone⟩ := may_ok HMY.out.symm
            obtain ⟨ch, r, hr⟩ := head_bytes hs1
            have hix := fun W => idx_any (by omega) hr W
            have hisA := Aj.isA_first hr
            have HCK := Lib.hid hchk
            have HON := Lib.hid hone
            have n16 : (s.size : Int) ≤ 16 := by omega
            have n17 : (1 : Int) ≤ (s.size : Int) := by omega
            clear hchk hs1 hs2 hone hr
            by_cases h65 : ch = 65
            · subst h65
              clear hisA
              have hix2 : ∀ W, (Instr.index 9 (.string s) (.int .i64 0)).run Tryz.prog W = .ok (.int .u8 65) W := hix
              clear hix
              go_wp2_with (go_at_call 23; (with_reducible refine rmay11_any s ⟨#[120]⟩ HS H1s HMY ?_))
              go_roundw
              case rel => exact ⟨k + 1, M, by omega, by go_num, Lib.hid (by have := hM.out; omega), AjM.mono (by omega) (by omega) Hk, Ik⟩
              case measure => simp [RowKit.intOf]; omega
            · have hne := byte_65 h65
              have HIA : Hid (Aj.isA s = false) := Lib.hid (by rw [hisA]; exact decide_eq_false h65)
              have HRM := room_keys (k := k) HC (by have := HL2.out; omega)
              have HRI := Lib.hid (AjM.rightM Hk)
              have HML : Hid (M.length ≤ 500) := Lib.hid (by have := hM.out; have := HL2.out; omega)
              clear hisA h65
              go_wp2_with (first
                | (go_at_call 23; (with_reducible refine rmay11_any s ⟨#[120]⟩ HS H1s HMY ?_))
                | (go_at_call 24; (refine ajm_more HCK.out HIA.out (by have := HC.out; omega) (by have := HL2.out; omega) (by omega) HRM Hk ?_); intro w4 H4 I4; have g1 := HC2.out _ H4.right.right.right; have K5 := ap_row H4)
                | (go_at_call 25; (refine rput11_any HRI.out (Reads.of_row K5 (by have := HML.out; omega)) HML.out s ⟨#[120]⟩ K5 ?_); intro y2 w5 H5 I5)
                | fail)
              go_roundw
              case rel => exact ⟨k + 1, _, by omega, by go_num, Lib.hid (by have := hM.out; have := put_entries M s ⟨#[120]⟩; omega), AjM.mono (by have := HON.out; omega) (by omega) (ap_back H5), (Ik.trans I4).trans I5⟩
              case measure => simp [RowKit.intOf]; omega
        · obtain rfl : k = ks.length := by omega
          have hge : ¬ (ks.length : Int) < (ks.length : Int) := by omega
          have HML : Hid (M.length ≤ 500) := Lib.hid (by have := hM.out; have := HL2.out; omega)
          have HRI := Lib.hid (AjM.rightM Hk)
          obtain ⟨ay, cy, rfl⟩ := rowOf_shl (ap_row Hk)
          have K1 : Sat (AjM a c [] [] M (630 + 24 * 0) (30 + 2 * 0) * (AjM b d [] [] [] (60 + 24 * 0) (2 * 0) * (RowE (.slice ay M.length cy) M * F))) wr := AjM.mono (by have := HL2.out; omega) (by have := HL2.out; omega) Hk
          clear Hk HUG HKS hM
          go_wp2_with fail
          go_loopw [13] (fun x wr => ∃ (k : Nat) (A T : List Pr), k ≤ l.length ∧ x = .int .i64 (k : Int) ∧ Hid (A.length ≤ k) ∧ Sat (AjM a c A T M (630 + 24 * k) (30 + 2 * k) * (AjM b d A T [] (60 + 24 * k) (2 * k) * (RowE (.slice ay M.length cy) M * F))) wr ∧ Io w wr) (fun x _ => l.length - (RowKit.intOf x).toNat)
          case atStart => exact ⟨0, [], [], by omega, rfl, Lib.hid (by simp), K1, Ik⟩
          case round =>
            obtain ⟨k, A, T, hk, rfl, hA, Hk, Jk⟩ := hrel
            clear K1 Ik
            by_cases hlt : k < l.length
            · have hlti : (k : Int) < (l.length : Int) := by omega
              have hk0 : (0 : Int) ≤ (k : Int) := by omega
              obtain ⟨b1, o1, x1, x2, x3, x4, rfl, hx, hc⟩ := HVG.out k hlt
              obtain ⟨g0, g1, g2, g3⟩ := hc _ Hk.right.right.right
              have HB := ap_new (Hk.new (.cells #[.int .i64 x1, .int .i64 x2, .int .i64 x3, .bool x4] 33))
              have JB := Jk.alloc (.cells #[.int .i64 x1, .int .i64 x2, .int .i64 x3, .bool x4] 33)
              have HR1 := room_apart (k := k) HC (by have := HL.out; omega)
              have HR2 := room_apart2 (k := k) HC (by have := HL.out; omega)
              have HR3 := room_counts (k := k) HD (by have := HL.out; omega)
              have HR4 := room_counts2 (k := k) HD (by have := HL.out; omega)
              have HCN : Hid (c.k.n ≤ 3000) := Lib.hid (by have := HC.out; omega)
              have HDN : Hid (d.k.n ≤ 3000) := Lib.hid (by have := HD.out; omega)
              have HG1 : Hid (30 + 2 * k ≤ 238) := Lib.hid (by have := HL.out; omega)
              have HG1b : Hid (30 + 2 * k ≤ 240) := Lib.hid (by have := HL.out; omega)
              have HG2 : Hid (2 * k ≤ 238) := Lib.hid (by have := HL.out; omega)
              have HG2b : Hid (2 * k ≤ 240) := Lib.hid (by have := HL.out; omega)
              have HQ1 : Hid (60 ≤ 630 + 24 * k) := Lib.hid (by omega)
              have HQ2 : Hid (60 ≤ 60 + 24 * k) := Lib.hid (by omega)
              clear hc hx Hk Jk
              by_cases r2 : x1.tmod 4 = 2
              · obtain ⟨e, he⟩ : ∃ e, e = if Md.wrong x2 x3 = 0 then (if Md.pair x2 x3 ∈ A then 0 else 181) else Md.wrong x2 x3 := ⟨_, rfl⟩
                have HE := Lib.hid he
                clear he
                go_upto_region 22 with fail
                generalize wr.heap.size = bx at *
                generalize wr.alloc (.cells #[.int .i64 x1, .int .i64 x2, .int .i64 x3, .bool x4] 33) = w6 at *
                have Kd := HB.drew
                have Jd := JB.drew
                clear g0 g1 g2 g3 HB JB
                have S0 := ap_cells Kd.right.right
                go_region_held3 (fun W => W.cell? ⟨bx, 1, none⟩ = some (.int .i64 x2) ∧ W.cell? ⟨bx, 2, none⟩ = some (.int .i64 x3)) (with_reducible (first | exact S0 | exact S1 | exact S2)) (first
                  | (go_at_call 14; (with_reducible refine ajm_clear x2 x3 HCN.out HG1b.out HQ1.out HR2 HE Kd ?_); intro w7 H7 I7; have S1 := ap_cells H7.right.right)
                  | (go_at_call 14; (with_reducible refine ajm_clear x2 x3 HDN.out HG2b.out HQ2.out HR4 HE (swap3 H7) ?_); intro w8 H8 I8; have S2 := ap_cells H8.right.right; have K9 := swap3 H8; have J9 := (Jd.trans I7).trans I8)
                  | (go_at_call 14; (with_reducible refine ajm_clear x2 x3 HDN.out HG2b.out HQ2.out HR4 HE (swap3 Kd) ?_); intro w7 H7b I7; have S1 := ap_cells H7b.right.right)
                  | (go_at_call 14; (with_reducible refine ajm_clear x2 x3 HCN.out HG1b.out HQ1.out HR2 HE (swap3 H7b) ?_); intro w8 H8 I8; have S2 := ap_cells H8.right.right; have K9 := H8; have J9 := (Jd.trans I7).trans I8))
                all_goals
                  go_wp2_with fail
                  go_roundw
                  case rel => exact ⟨k + 1, _, _, by omega, by go_num, Lib.hid (ap_len hA.out e), ap_mono (ap_drop K9), J9⟩
                  case measure => simp [RowKit.intOf]; omega
              · obtain ⟨e, he⟩ : ∃ e, e = Md.wrong x2 x3 := ⟨_, rfl⟩
                have HE := Lib.hid he
                clear he
                go_upto_region 24 with fail
                generalize wr.heap.size = bx at *
                generalize wr.alloc (.cells #[.int .i64 x1, .int .i64 x2, .int .i64 x3, .bool x4] 33) = w6 at *
                have Kd := HB.drew
                have Jd := JB.drew
                clear g0 g1 g2 g3 HB JB
                have S0 := ap_cells3 Kd.right.right
                go_region_held3 (fun W => W.cell? ⟨bx, 1, none⟩ = some (.int .i64 x2) ∧ W.cell? ⟨bx, 2, none⟩ = some (.int .i64 x3) ∧ W.cell? ⟨bx, 3, none⟩ = some (.bool x4)) (with_reducible (first | exact S0 | exact S1 | exact S2)) (first
                  | (go_at_call 11; (with_reducible refine ajm_set x2 x3 x4 HCN.out HG1.out HQ1.out HR1 HE Kd ?_); intro w7 H7 I7; have S1 := ap_cells3 H7.right.right)
                  | (go_at_call 11; (with_reducible refine ajm_set x2 x3 x4 HDN.out HG2.out HQ2.out HR3 HE (swap3 H7) ?_); intro w8 H8 I8; have S2 := ap_cells3 H8.right.right; have K9 := swap3 H8; have J9 := (Jd.trans I7).trans I8)
                  | (go_at_call 11; (with_reducible refine ajm_set x2 x3 x4 HDN.out HG2.out HQ2.out HR3 HE (swap3 Kd) ?_); intro w7 H7b I7; have S1 := ap_cells3 H7b.right.right)
                  | (go_at_call 11; (with_reducible refine ajm_set x2 x3 x4 HCN.out HG1.out HQ1.out HR1 HE (swap3 H7b) ?_); intro w8 H8 I8; have S2 := ap_cells3 H8.right.right; have K9 := H8; have J9 := (Jd.trans I7).trans I8))
                all_goals
                  go_wp2_with fail
                  go_roundw
                  case rel => exact ⟨k + 1, _, _, by omega, by go_num, Lib.hid (put_le hA.out e), ap_mono (ap_drop K9), J9⟩
                  case measure => simp [RowKit.intOf]; omega
            · obtain rfl : k = l.length := by omega
              have hge : ¬ (l.length : Int) < (l.length : Int) := by omega
              have HAL : Hid (A.length ≤ 1000) := Lib.hid (by have := hA.out; have := HL.out; omega)
              have HML2 : Hid (M.length ≤ 1000) := Lib.hid (by have := HML.out; omega)
              have HML3 : Hid (([] : List Ky.En).length ≤ 1000) := Lib.hid (by simp)
              have HG1 : Hid (30 + 2 * l.length ≤ 240) := Lib.hid (by have := HL.out; omega)
              have HG2 : Hid (2 * l.length ≤ 240) := Lib.hid (by have := HL.out; omega)
              have HS1 : Hid (Tb.scan ⟨#[]⟩ ⟨#[65]⟩ M = M.filter fun x => !Md.nlt x.1 ⟨#[]⟩ && Tb.under ⟨#[65]⟩ x) := Lib.hid (Ky.scan_filter HRI.out)
              have HS2 : Hid (Tb.scan ⟨#[66]⟩ ⟨#[]⟩ M = M.filter fun x => !Md.nlt x.1 ⟨#[66]⟩ && Tb.under ⟨#[]⟩ x) := Lib.hid (Ky.scan_filter HRI.out)
              have HN1 : Hid ((Tb.scan ⟨#[]⟩ ⟨#[65]⟩ M).length ≤ 1000) := Lib.hid (by have := scan_len (es := M) ⟨#[]⟩ ⟨#[65]⟩; have := HML.out; omega)
              have HN2 : Hid ((Tb.scan ⟨#[66]⟩ ⟨#[]⟩ M).length ≤ 1000) := Lib.hid (by have := scan_len (es := M) ⟨#[66]⟩ ⟨#[]⟩; have := HML.out; omega)
              clear HVG hA
              go_wp2_with (first
                | (go_at_call 17; (with_reducible refine ajm_edges HG1.out HAL.out HML2.out Hk ?_); intro vp w6 H6 I6; have K6 := ap1 H6)
                | (go_at_call 17; (with_reducible refine ajm_edges HG2.out HAL.out HML3.out K6 ?_); intro vq w7 H7 I7; have K7 := ap2 H7)
                | (go_at_call 18; (with_reducible refine does_same HAL.out K7 ?_); intro w8 H8 I8; have K8 := swap3 H8.right.right)
                | (go_at_call 26; (with_reducible refine ajm_low HG1.out HAL.out HML2.out K8 ?_); intro v1 w9 H9 I9; have K9 := swap3 H9)
                | (go_at_call 26; (with_reducible refine ajm_high HG1.out HAL.out HML2.out K9 ?_); intro v2 w10 H10 I10; have K10 := ap5 H10)
                | (go_at_call 28; (with_reducible refine rscan13_any (Reads.of_row K10 (by have := HML.out; omega)) HML2.out ⟨#[]⟩ ⟨#[65]⟩ HS1 K10 ?_); intro v3 w11 H11 I11; have K11 := ap6 H11)
                | (go_at_call 27; (with_reducible refine ap_same HN1.out K11 ?_); intro w12 H12 I12; have K12 := H12.right.right)
                | (go_at_call 28; (with_reducible refine rscan13_any (Reads.of_row K12 (by have := HML.out; omega)) HML2.out ⟨#[66]⟩ ⟨#[]⟩ HS2 K12 ?_); intro v4 w13 H13 I13; have K13 := ap8 H13)
                | (go_at_call 27; (with_reducible refine ap_same HN2.out K13 ?_); intro w14 H14 I14)
                | fail)
              exact HH.out _ H14.right.right.right (((((((((Jk.trans I6).trans I7).trans I8).trans I9).trans I10).trans I11).trans I12).trans I13).trans I14)
end
end Go.Proofs.YthbbdicdcmjpiaaGreatDoor
