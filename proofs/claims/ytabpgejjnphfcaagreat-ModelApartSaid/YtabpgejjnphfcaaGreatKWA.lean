/-
  ModelApart, by its walk. It proves no statement by itself.
-/
import Derived.Test.YtabpgejjnphfcaaGreatKWO
namespace Go.Proofs.YtabpgejjnphfcaaGreat
open Go.RowKit Go.Lib Go.MapKept
open Md (Nm St)
set_option linter.unusedSimpArgs false
set_option linter.unusedVariables false
set_option linter.unusedSectionVars false
theorem mson_perm {p : Pl} {l m : List (Mh × St)} (h : l.Perm m) : MsOn p l = MsOn p m := by
  induction h with
  | nil => rfl
  | cons x _ ih => show MdAt x.1 p x.2 * MsOn p _ = MdAt x.1 p x.2 * MsOn p _; rw [ih]
  | swap x y l => show MdAt y.1 p y.2 * (MdAt x.1 p x.2 * MsOn p l) = MdAt x.1 p x.2 * (MdAt y.1 p y.2 * MsOn p l); ac_rfl
  | trans _ _ h1 h2 => exact h1.trans h2
theorem ms_perm {l m : List (Mh × St)} {F : Asn} {w : World} (h : l.Perm m) (H : Sat (Ms l * F) w) : Sat (Ms m * F) w := by
  refine H.of_eq ?_
  have : Ms l = Ms m := by unfold Ms; congr 1; funext p; rw [mson_perm h]
  rw [this]
theorem ms_rev3 {x y z : Mh × St} {F : Asn} {w : World} (H : Sat (Ms [x, y, z] * F) w) : Sat (Ms [z, y, x] * F) w := ms_perm (List.reverse_perm [x, y, z]).symm H
theorem Md.same_hid (T : St) : Hid (true = true ↔ Md.Same T T) := Lib.hid ⟨fun _ => Md.Same.refl _, fun _ => rfl⟩
/-- A row, whatever stands in it. -/
def RowX (e : TypeId) (sz : Nat) (v : Value) (n : Nat) : Asn := ex fun xs => Row e sz v n xs
theorem rowX_of {e : TypeId} {sz : Nat} {v : Value} {n : Nat} {xs : List Value} {F : Asn} {w : World} (H : Sat (Row e sz v n xs * F) w) : Sat (RowX e sz v n * F) w := by
  unfold RowX
  rw [sat_ex]
  exact ⟨xs, H⟩
theorem rowX_cell {e : TypeId} {sz : Nat} {a : Option Addr} {n c : Nat} {F : Asn} {w : World} (H : Sat (RowX e sz (.slice a n c) n * F) w) (j : Nat) (hj : j < n * sz) : ∃ g u, a = some ⟨g, 0, none⟩ ∧ w.cell? ⟨g, j, none⟩ = some u ∧ w.frozen? ⟨g, j, none⟩ = false := by
  unfold RowX at H
  rw [sat_ex] at H
  obtain ⟨xs, H⟩ := H
  obtain ⟨hx, ⟨_, h0, _⟩ | ⟨g, cap, cur, e1, _⟩⟩ := sat_row.1 H
  · rw [h0, Nat.zero_mul] at hj; omega
  · cases e1
    have hl : j < xs.length := by rw [hx]; exact hj
    exact ⟨g, xs[j], rfl, row_read H j _ (List.getElem?_eq_getElem hl), row_free H j⟩
theorem rowX_store {e : TypeId} {sz g n c : Nat} {F : Asn} {w : World} (H : Sat (RowX e sz (.slice (some ⟨g, 0, none⟩) n c) n * F) w) (j : Nat) (v : Value) : Sat (RowX e sz (.slice (some ⟨g, 0, none⟩) n c) n * F) (w.setCell ⟨g, j, none⟩ v) := by
  unfold RowX at H ⊢
  rw [sat_ex] at H ⊢
  obtain ⟨xs, H⟩ := H
  exact ⟨_, row_store H j v⟩
theorem sat_sw1 {A B C : Asn} {w : World} (H : Sat (A * (B * C)) w) : Sat (B * (C * A)) w := H.of_eq (by ac_rfl)
theorem sat_sw2 {A B C X : Asn} {w : World} (H : Sat (A * ((B * C) * X)) w) : Sat (B * (C * (X * A))) w := H.of_eq (by ac_rfl)
theorem row_small {e : TypeId} {sz : Nat} {v : Value} {n : Nat} {xs : List Value} {F : Asn} {w : World} (H : Sat (Row e sz v n xs * F) w) : n ≤ 9223372036854775807 := by
  obtain ⟨_, ⟨_, h0, _⟩ | ⟨g, cap, cur, _, h1, h2, _⟩⟩ := sat_row.1 H
  · omega
  · unfold maxLen at h2; omega
theorem rows_small {A : Md.An} {s : Sl4} {F : Asn} {w : World} (H : Sat (AnsAt A s * F) w) : A.pairs.length ≤ 9223372036854775807 ∧ A.versions.length ≤ 9223372036854775807 ∧ A.branches.length ≤ 9223372036854775807 := by
  have K := ansAt_rows H
  exact ⟨row_small K.right, row_small K.right.right, row_small K.right.right.right⟩
theorem rows_free {A : Md.An} {s : Sl4} {M F : Asn} {w : World} (H : Sat (AnsAt A s * (M * F)) w) :
    Sat (M * (ansA w.heap.size A s * (RowX 49 2 s.p A.pairs.length * (RowX 44 4 s.v A.versions.length * (RowX 55 2 s.b A.branches.length * F))))) (w.alloc (.cells #[.int .i64 A.err, .int .i64 A.version, .bool A.yes, .int .i64 A.count, s.c, s.p, s.v, s.b] 37)) := by
  have K := (ansAt_rows H).right
  have K1 := rowX_of K
  have K2 := rowX_of (sat_sw1 K1)
  have K3 := rowX_of (sat_sw2 K2)
  exact (K3.new _).of_eq (by show pts _ _ * _ = _ * (pts _ _ * _); ac_rfl)
section
variable {F : Asn} {w : World} {R : Ending → World → Prop}
set_option maxRecDepth 100000 in
set_option maxHeartbeats 16000000 in
theorem apart_any {l m : List OpX} {vl vm : Value} (hl : ReadsO F vl l) (hm : ReadsO F vm m) (H : Sat F w) (hh : ∀ w', Sat F w' → Io w w' → R (.returned (.bool true)) w') : Calls Tryz.prog 6 #[vl, vm] w R := by
  have HH := Lib.hid hh
  clear hh
  obtain ⟨a, c, rfl, hlm⟩ := reads_len hl
  obtain ⟨a', c', rfl, hlm'⟩ := reads_len hm
  obtain ⟨d, hd⟩ : ∃ d, d = much l := ⟨_, rfl⟩
  obtain ⟨d', hd'⟩ : ∃ d, d = much m := ⟨_, rfl⟩
  have HD := Lib.hid hd
  have HD' := Lib.hid hd'
  have RL := Lib.hid hl
  have RM := Lib.hid hm
  clear hd hd'
  by_cases hdd : d = false ∧ d' = false
  · obtain ⟨rfl, rfl⟩ := hdd
    have hl120 := (much_not HD.out.symm).1
    have hm120 := (much_not HD'.out.symm).1
    have HN := Lib.hid (much_not HD.out.symm).2
    have HN' := Lib.hid (much_not HD'.out.symm).2
    have HV := Lib.hid (fun k hk => readsO_get hl k hk)
    have HV' := Lib.hid (fun k hk => readsO_get hm k hk)
    clear hl hm
    go_enter Tryz.func6, Tryz.ntmps6
    go_wp2_with (first
      | (go_at_call 10; with_reducible refine works20_any H ?_; intro w1 H1 I1)
      | (go_at_call 15; first
        | (with_reducible refine over_any RL.out HD H1 ?_; intro w2 H2 I2)
        | (with_reducible refine over_any RM.out HD' H2 ?_; intro w3 H3 I3))
      | (go_at_call 16; first
        | (with_reducible refine newms_any (ms_none H3) ?_; intro h w4 H4 I4)
        | (with_reducible refine newms_any H4 ?_; intro g w5 H5 I5)))
    have K3 : Sat (Ms [(h, Md.run Md.init ((opsOf l).take 0)), (g, Md.run Md.init ((opsOf l).take 0))] * F) w5 := ms_swap H5
    have J3 := (((I1.trans I2).trans I3).trans I4).trans I5
    clear H1 H2 H3 H4 H5 I1 I2 I3 I4 I5 H
    go_loopw [10] (fun x wr => ∃ k : Nat, k ≤ l.length ∧ x = .int .i64 (k : Int) ∧ Sat (Ms [(h, Md.run Md.init ((opsOf l).take k)), (g, Md.run Md.init ((opsOf l).take k))] * F) wr ∧ Io w wr) (fun x _ => l.length - (intOf x).toNat)
    case atStart => exact ⟨0, by omega, rfl, K3, J3⟩
    case round =>
      obtain ⟨k, hk, rfl, Hk, Ik⟩ := hrel
      clear K3 J3
      by_cases hlt : k < l.length
      · have hlti : (k : Int) < (l.length : Int) := by omega
        have hk0 : (0 : Int) ≤ (k : Int) := by omega
        obtain ⟨b, off, rfl, kind, name, u, v, A, B, ka, kl, kc, torn, cut, text, hx, hc⟩ := HV.out k hlt
        have hsz : name.size ≤ 1000000 := by have := HN.out l[k] (List.getElem_mem hlt); rw [hx] at this; simp only at this; omega
        have HSZ := Lib.hid hsz
        have HM := Lib.hid (run_step Md.init l k hlt hx)
        have hI := Lib.hid (inv_ops l k hl120)
        obtain ⟨c0, c1, c2, c3, c4, c5, c6, c7, c8, c9⟩ := hc wr Hk.right
        have HC := Lib.hid hc
        clear hc hx hsz
        go_wp2_with (go_at_call 17; first
          | (with_reducible refine do_ms HSZ.out (by omega) hI.out HM Hk ?_; intro ca cl cc pa pl pc va vl vc ba bl bc w5 H5 I5; have K5 := ms_swap H5.right; obtain ⟨s0, s1, s2, s3, s4, s5, s6, s7, s8, s9⟩ := HC.out w5 K5.right)
          | (with_reducible refine do_ms HSZ.out (by omega) hI.out HM K5 ?_; intro ca cl cc pa pl pc va vl vc ba bl bc w6 H6 I6; have K6 := ms_swap H6.right))
        go_roundw
        case rel => exact ⟨k + 1, by omega, by go_num, K6, (Ik.trans I5).trans I6⟩
        case measure => simp [intOf]; omega
      · obtain rfl : k = l.length := by omega
        have hge : ¬ (l.length : Int) < (l.length : Int) := by omega
        rw [run_all] at Hk
        have hI : Md.Inv 120 (Md.run Md.init (opsOf l)) := by rw [← run_all]; exact inv_ops l _ hl120
        generalize Md.run Md.init (opsOf l) = T at *
        have HI := Lib.hid hI
        clear hI HV HN RL HD
        go_wp2_with (first
          | (go_at_call 18; with_reducible refine clonems_any Hk ?_; intro n w4 H4 I4; have P4 := ms_swap H4)
          | (go_at_call 19; first
            | (with_reducible refine samems_any (by omega) HI.out HI.out H4 (Md.same_hid T) ?_; intro w5 H5 I5; have P5 := ms_swap H5)
            | (with_reducible refine samems_any (by omega) HI.out HI.out P5 (Md.same_hid T) ?_; intro w6 H6 I6; have P6 := ms_rev3 H6)
            | (with_reducible refine samems_any (by omega) HI.out HI.out P6 (Md.same_hid T) ?_; intro w7 H7 I7)))
        have KK : Sat (Ms [(h, Md.run T ((opsOf m).take 0)), (n, T), (g, T)] * F) w7 := (ms_rev3 H7).of_eq rfl
        have JJ := (((Ik.trans I4).trans I5).trans I6).trans I7
        clear H4 P4 H5 P5 H6 P6 H7 I4 I5 I6 I7 Hk Ik
        go_loopw [12] (fun x wr => ∃ k : Nat, k ≤ m.length ∧ x = .int .i64 (k : Int) ∧ Sat (Ms [(h, Md.run T ((opsOf m).take k)), (n, T), (g, T)] * F) wr ∧ Io w wr) (fun x _ => m.length - (intOf x).toNat)
        case atStart => exact ⟨0, by omega, rfl, KK, JJ⟩
        case round =>
          obtain ⟨k, hk, rfl, Hk, Ik⟩ := hrel
          clear KK JJ
          by_cases hlt : k < m.length
          · have hlti : (k : Int) < (m.length : Int) := by omega
            have hk0 : (0 : Int) ≤ (k : Int) := by omega
            obtain ⟨b, off, rfl, kind, name, u, v, A, B, ka, kl, kc, torn, cut, text, hx, hc⟩ := HV'.out k hlt
            have hsz : name.size ≤ 1000000 := by have := HN'.out m[k] (List.getElem_mem hlt); rw [hx] at this; simp only at this; omega
            have HSZ := Lib.hid hsz
            obtain ⟨AA, hAA⟩ : ∃ AA, AA = (Md.mdo (Md.run T ((opsOf m).take k)) ⟨kind, name, u, v, A, B⟩).2 := ⟨_, rfl⟩
            have hrs := run_step T m k hlt hx
            simp only at hrs
            rw [← hAA] at hrs
            have HM := Lib.hid hrs
            have hI2 := Lib.hid (inv_ops2 HI.out m k hm120)
            obtain ⟨c0, c1, c2, c3, c4, c5, c6, c7, c8, c9⟩ := hc wr Hk.right
            clear hc hx hsz hAA hrs
            go_wp2_with (go_at_call 17; first
              | (with_reducible refine do_ms HSZ.out (by omega) hI2.out HM Hk ?_; intro c1a c1l c1c p1a p1l p1c v1a v1l v1c b1a b1l b1c w8 H8 I8; obtain ⟨rfl, rfl, rfl, rfl⟩ := ansAt_len H8))
            have hlim : AA.pairs.length ≤ 9223372036854775807 ∧ AA.versions.length ≤ 9223372036854775807 ∧ AA.branches.length ≤ 9223372036854775807 := rows_small H8
            have X8 : Sat (Ms [(h, Md.run T ((opsOf m).take (k + 1))), (n, T), (g, T)] * (ansA w8.heap.size AA ⟨.slice c1a AA.changes.length c1c, .slice p1a AA.pairs.length p1c, .slice v1a AA.versions.length v1c, .slice b1a AA.branches.length b1c⟩ * (RowX 49 2 (.slice p1a AA.pairs.length p1c) AA.pairs.length * (RowX 44 4 (.slice v1a AA.versions.length v1c) AA.versions.length * (RowX 55 2 (.slice b1a AA.branches.length b1c) AA.branches.length * F))))) (w8.alloc (.cells #[.int .i64 AA.err, .int .i64 AA.version, .bool AA.yes, .int .i64 AA.count, .slice c1a AA.changes.length c1c, .slice p1a AA.pairs.length p1c, .slice v1a AA.versions.length v1c, .slice b1a AA.branches.length b1c] 37)) := rows_free H8
            have I9 := (Ik.trans I8).alloc (.cells #[.int .i64 AA.err, .int .i64 AA.version, .bool AA.yes, .int .i64 AA.count, .slice c1a AA.changes.length c1c, .slice p1a AA.pairs.length p1c, .slice v1a AA.versions.length v1c, .slice b1a AA.branches.length b1c] 37)
            clear H8 I8 Hk Ik c0 c1 c2 c3 c4 c5 c6 c7 c8 c9 HM
            generalize w8.alloc (.cells #[.int .i64 AA.err, .int .i64 AA.version, .bool AA.yes, .int .i64 AA.count, .slice c1a AA.changes.length c1c, .slice p1a AA.pairs.length p1c, .slice v1a AA.versions.length v1c, .slice b1a AA.branches.length b1c] 37) = w9 at *
            generalize w8.heap.size = q at *
            obtain ⟨l1, l2, l3⟩ := hlim
            generalize AA.pairs.length = np at *
            generalize AA.versions.length = nv at *
            generalize AA.branches.length = nb at *
            obtain ⟨X, hX⟩ : ∃ X, X = Ms [(h, Md.run T ((opsOf m).take (k + 1))), (n, T), (g, T)] * (ansA q AA ⟨.slice c1a AA.changes.length c1c, .slice p1a np p1c, .slice v1a nv v1c, .slice b1a nb b1c⟩ * (RowX 49 2 (.slice p1a np p1c) np * (RowX 44 4 (.slice v1a nv v1c) nv * (RowX 55 2 (.slice b1a nb b1c) nb * F)))) := ⟨_, rfl⟩
            rw [← hX] at X8
            have HQ := Lib.hid (fun W (hW : Sat X W) => (by rw [hX] at hW; exact (ansA_reads hW.right).2.2.2.2.2 : W.cell? ⟨q, 5, none⟩ = some (.slice p1a np p1c) ∧ W.cell? ⟨q, 6, none⟩ = some (.slice v1a nv v1c) ∧ W.cell? ⟨q, 7, none⟩ = some (.slice b1a nb b1c)))
            have HXP := Lib.hid (fun W => (by rw [hX]; exact ⟨fun hW => hW.of_eq (by ac_rfl), fun hW => hW.of_eq (by ac_rfl)⟩ : Sat X W ↔ Sat (RowX 49 2 (.slice p1a np p1c) np * (Ms [(h, Md.run T ((opsOf m).take (k + 1))), (n, T), (g, T)] * (ansA q AA ⟨.slice c1a AA.changes.length c1c, .slice p1a np p1c, .slice v1a nv v1c, .slice b1a nb b1c⟩ * (RowX 44 4 (.slice v1a nv v1c) nv * (RowX 55 2 (.slice b1a nb b1c) nb * F))))) W))
            have HXV := Lib.hid (fun W => (by rw [hX]; exact ⟨fun hW => hW.of_eq (by ac_rfl), fun hW => hW.of_eq (by ac_rfl)⟩ : Sat X W ↔ Sat (RowX 44 4 (.slice v1a nv v1c) nv * (Ms [(h, Md.run T ((opsOf m).take (k + 1))), (n, T), (g, T)] * (ansA q AA ⟨.slice c1a AA.changes.length c1c, .slice p1a np p1c, .slice v1a nv v1c, .slice b1a nb b1c⟩ * (RowX 49 2 (.slice p1a np p1c) np * (RowX 55 2 (.slice b1a nb b1c) nb * F))))) W))
            have HXB := Lib.hid (fun W => (by rw [hX]; exact ⟨fun hW => hW.of_eq (by ac_rfl), fun hW => hW.of_eq (by ac_rfl)⟩ : Sat X W ↔ Sat (RowX 55 2 (.slice b1a nb b1c) nb * (Ms [(h, Md.run T ((opsOf m).take (k + 1))), (n, T), (g, T)] * (ansA q AA ⟨.slice c1a AA.changes.length c1c, .slice p1a np p1c, .slice v1a nv v1c, .slice b1a nb b1c⟩ * (RowX 49 2 (.slice p1a np p1c) np * (RowX 44 4 (.slice v1a nv v1c) nv * F))))) W))
            have HXM := Lib.hid (fun W (hW : Sat X W) => (by rw [hX] at hW; exact (hW.of_eq (show _ = (ansA q AA ⟨.slice c1a AA.changes.length c1c, .slice p1a np p1c, .slice v1a nv v1c, .slice b1a nb b1c⟩ * (RowX 49 2 (.slice p1a np p1c) np * (RowX 44 4 (.slice v1a nv v1c) nv * RowX 55 2 (.slice b1a nb b1c) nb))) * (Ms [(h, Md.run T ((opsOf m).take (k + 1))), (n, T), (g, T)] * F) from by ac_rfl)).right : Sat (Ms [(h, Md.run T ((opsOf m).take (k + 1))), (n, T), (g, T)] * F) W))
            clear hX
            go_wp2_with fail
            go_loopw [14] (fun x wr => ∃ kk : Nat, kk ≤ np ∧ x = .int .i64 (kk : Int) ∧ Sat X wr ∧ Io w wr) (fun x _ => np - (intOf x).toNat)
            case atStart => exact ⟨0, by omega, rfl, X8, I9⟩
            case round =>
              obtain ⟨kk, hkk, rfl, X3, J3⟩ := hrel
              clear X8 I9
              obtain ⟨q5, q6, q7⟩ := HQ.out _ X3
              by_cases hlk : kk < np
              · have hlki : (kk : Int) < (np : Int) := by omega
                have hkk0 : (0 : Int) ≤ (kk : Int) := by omega
                have Y0 := (HXP.out _).1 X3
                obtain ⟨gb0, gu0, hg0, hu0, hf0⟩ := rowX_cell Y0 (kk * 2) (by omega)
                subst hg0
                obtain ⟨gb1, gu1, hg1, hu1, hf1⟩ := rowX_cell Y0 (kk * 2 + 1) (by omega)
                cases hg1
                have Y1 := rowX_store Y0 (kk * 2) (.int .i64 (-1))
                have Y2 := rowX_store Y1 (kk * 2 + 1) (.int .i64 0)
                have Z0 := (HXP.out _).2 Y2
                have ZI := ((J3.setCell ⟨gb0, kk * 2, none⟩ (.int .i64 (-1))).setCell ⟨gb0, kk * 2 + 1, none⟩ (.int .i64 0))
                go_wp2_with fail
                go_roundw
                case rel => exact ⟨kk + 1, by omega, by go_num, Z0, ZI⟩
                case measure => simp [intOf]; omega
              · have hke : kk = np := by omega
                have hgk : ¬ (kk : Int) < (np : Int) := by omega
                clear hke
                go_wp2_with fail
                go_loopw [15] (fun x wr => ∃ kk : Nat, kk ≤ nv ∧ x = .int .i64 (kk : Int) ∧ Sat X wr ∧ Io w wr) (fun x _ => nv - (intOf x).toNat)
                case atStart => exact ⟨0, by omega, rfl, X3, J3⟩
                case round =>
                  obtain ⟨kk, hkk, rfl, X4, J4⟩ := hrel
                  clear X3 J3
                  obtain ⟨q5, q6, q7⟩ := HQ.out _ X4
                  by_cases hlk : kk < nv
                  · have hlki : (kk : Int) < (nv : Int) := by omega
                    have hkk0 : (0 : Int) ≤ (kk : Int) := by omega
                    have Y0 := (HXV.out _).1 X4
                    obtain ⟨gb0, gu0, hg0, hu0, hf0⟩ := rowX_cell Y0 (kk * 4) (by omega)
                    subst hg0
                    have Y1 := rowX_store Y0 (kk * 4) (.int .i64 (-1))
                    have Z0 := (HXV.out _).2 Y1
                    have ZI := (J4.setCell ⟨gb0, kk * 4, none⟩ (.int .i64 (-1)))
                    go_wp2_with fail
                    go_roundw
                    case rel => exact ⟨kk + 1, by omega, by go_num, Z0, ZI⟩
                    case measure => simp [intOf]; omega
                  · have hke : kk = nv := by omega
                    have hgk : ¬ (kk : Int) < (nv : Int) := by omega
                    clear hke
                    go_wp2_with fail
                    go_loopw [16] (fun x wr => ∃ kk : Nat, kk ≤ nb ∧ x = .int .i64 (kk : Int) ∧ Sat X wr ∧ Io w wr) (fun x _ => nb - (intOf x).toNat)
                    case atStart => exact ⟨0, by omega, rfl, X4, J4⟩
                    case round =>
                      obtain ⟨kk, hkk, rfl, X5, J5⟩ := hrel
                      clear X4 J4
                      obtain ⟨q5, q6, q7⟩ := HQ.out _ X5
                      by_cases hlk : kk < nb
                      · have hlki : (kk : Int) < (nb : Int) := by omega
                        have hkk0 : (0 : Int) ≤ (kk : Int) := by omega
                        have Y0 := (HXB.out _).1 X5
                        obtain ⟨gb0, gu0, hg0, hu0, hf0⟩ := rowX_cell Y0 (kk * 2 + 1) (by omega)
                        subst hg0
                        have Y1 := rowX_store Y0 (kk * 2 + 1) (.int .i64 (-1))
                        have Z0 := (HXB.out _).2 Y1
                        have ZI := (J5.setCell ⟨gb0, kk * 2 + 1, none⟩ (.int .i64 (-1)))
                        go_wp2_with fail
                        go_roundw
                        case rel => exact ⟨kk + 1, by omega, by go_num, Z0, ZI⟩
                        case measure => simp [intOf]; omega
                      · have hke : kk = nb := by omega
                        have hgk : ¬ (kk : Int) < (nb : Int) := by omega
                        clear hke
                        go_wp2_with fail
                        have KM := HXM.out _ X5
                        go_roundw
                        case rel => exact ⟨k + 1, by omega, by go_num, KM, J5⟩
                        case measure => simp [intOf]; omega
          · obtain rfl : k = m.length := by omega
            have hge : ¬ (m.length : Int) < (m.length : Int) := by omega
            rw [run_all] at Hk
            have hI2 : Md.Inv 240 (Md.run T (opsOf m)) := by rw [← run_all]; exact inv_ops2 HI.out m _ hm120
            have HI2 := Lib.hid hI2
            generalize hT2 : Md.run T (opsOf m) = T2 at *
            have HT2 := Lib.hid hT2
            clear hT2 hI2
            have P1 : Sat (Ms [(n, T), (g, T), (h, T2)] * F) wr := ms_rev3 (ms_swap (ms_rev3 (ms_swap Hk)))
            go_wp2_with (go_at_call 19; with_reducible refine samems_any (by omega) HI.out HI.out P1 (Md.same_hid T) ?_; intro w8 H8 I8)
            have KL : Sat (Ms [(n, Md.run T ((opsOf m).take 0)), (g, T), (h, T2)] * F) w8 := H8
            have JL := Ik.trans I8
            clear P1 H8 I8 Hk Ik
            go_loopw [17] (fun x wr => ∃ k : Nat, k ≤ m.length ∧ x = .int .i64 (k : Int) ∧ Sat (Ms [(n, Md.run T ((opsOf m).take k)), (g, T), (h, T2)] * F) wr ∧ Io w wr) (fun x _ => m.length - (intOf x).toNat)
            case atStart => exact ⟨0, by omega, rfl, KL, JL⟩
            case round =>
              obtain ⟨k, hk, rfl, Hk, Ik⟩ := hrel
              clear KL JL
              by_cases hlt : k < m.length
              · have hlti : (k : Int) < (m.length : Int) := by omega
                have hk0 : (0 : Int) ≤ (k : Int) := by omega
                obtain ⟨b, off, rfl, kind, name, u, v, A, B, ka, kl, kc, torn, cut, text, hx, hc⟩ := HV'.out k hlt
                have hsz : name.size ≤ 1000000 := by have := HN'.out m[k] (List.getElem_mem hlt); rw [hx] at this; simp only at this; omega
                have HSZ := Lib.hid hsz
                have HM := Lib.hid (run_step T m k hlt hx)
                have hI2 := Lib.hid (inv_ops2 HI.out m k hm120)
                obtain ⟨c0, c1, c2, c3, c4, c5, c6, c7, c8, c9⟩ := hc wr Hk.right
                clear hc hx hsz
                go_wp2_with (go_at_call 17; with_reducible refine do_ms HSZ.out (by omega) hI2.out HM Hk ?_; intro c3a c3l c3c p3a p3l p3c v3a v3l v3c b3a b3l b3c w9 H9 I9)
                go_roundw
                case rel => exact ⟨k + 1, by omega, by go_num, H9.right, Ik.trans I9⟩
                case measure => simp [intOf]; omega
              · obtain rfl : k = m.length := by omega
                have hge : ¬ (m.length : Int) < (m.length : Int) := by omega
                rw [run_all, HT2.out] at Hk
                have P2 : Sat (Ms [(n, T2), (h, T2), (g, T)] * F) wr := ms_swap (ms_rev3 (ms_swap Hk))
                go_wp2_with (go_at_call 19; with_reducible refine samems_any (by omega) HI2.out HI2.out P2 (Md.same_hid T2) ?_; intro w9 H9 I9)
                exact HH.out _ H9.right (Ik.trans I9)
  · have fin : d = true ∨ d' = true := by
      cases d <;> cases d' <;> simp_all
    cases d with
    | true =>
      go_enter Tryz.func6, Tryz.ntmps6
      go_wp2_with (first
        | (go_at_call 10; with_reducible refine works20_any H ?_; intro w1 H1 I1)
        | (go_at_call 15; first
          | (with_reducible refine over_any RL.out HD H1 ?_; intro w2 H2 I2)
          | (with_reducible refine over_any RM.out HD' H2 ?_; intro w3 H3 I3)))
      exact HH.out _ H3 ((I1.trans I2).trans I3)
    | false =>
      obtain rfl : d' = true := by rcases fin with h | h; cases h; exact h
      clear fin hdd
      go_enter Tryz.func6, Tryz.ntmps6
      go_wp2_with (first
        | (go_at_call 10; with_reducible refine works20_any H ?_; intro w1 H1 I1)
        | (go_at_call 15; first
          | (with_reducible refine over_any RL.out HD H1 ?_; intro w2 H2 I2)
          | (with_reducible refine over_any RM.out HD' H2 ?_; intro w3 H3 I3)))
      exact HH.out _ H3 ((I1.trans I2).trans I3)
end
end Go.Proofs.YtabpgejjnphfcaaGreat
