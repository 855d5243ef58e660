/-
  ModelDiffs, by its walk. It proves no statement by itself.
-/
import Derived.Test.YtabpgejjnphfcaaGreatKMd3
import Derived.Test.YtabpgejjnphfcaaGreatKWB
namespace Go.Proofs.YtabpgejjnphfcaaGreat
open Go.RowKit Go.Lib Go.MapKept
open Md (Nm St newN)
set_option linter.unusedSimpArgs false
set_option linter.unusedVariables false
set_option linter.unusedSectionVars false
theorem pairs_reads {E : List Pr} {X G : Asn} {w : World} {ca pa va ba : Option Addr} {cc pc vc bc : Nat} (H : Sat X w) (hE : E.length ≤ 1000000) (hX : ∀ W, Sat X W → Sat (AnsAt { pairs := E } ⟨.slice ca 0 cc, .slice pa E.length pc, .slice va 0 vc, .slice ba 0 bc⟩ * G) W) : Hid (ReadsP X (.slice pa E.length pc) E) :=
  Lib.hid (readsP_imp (ans_reads (A := { pairs := E }) (Nat.zero_le _) hE (Nat.zero_le _) (Nat.zero_le _) (hX w H)).2.1 hX)
section
variable {F : Asn} {w : World} {R : Ending → World → Prop}
set_option maxRecDepth 100000 in
set_option maxHeartbeats 16000000 in
theorem diffs_any {l : List OpX} {vl : Value} (hl : ReadsO F vl l) (a b : Int) (H : Sat F w) (hh : ∀ w', Sat F w' → Io w w' → R (.returned (.bool true)) w') : Calls Tryz.prog 5 #[vl, .int .i64 a, .int .i64 b] w R := by
  have HH := Lib.hid hh
  clear hh
  obtain ⟨av, cv, rfl, hlm⟩ := reads_len hl
  obtain ⟨d, hd⟩ : ∃ d, d = much l := ⟨_, rfl⟩
  have HD := Lib.hid hd
  have RL := Lib.hid hl
  clear hd
  cases d with
  | true =>
    go_enter Tryz.func5, Tryz.ntmps5
    go_wp2_with (first
      | (go_at_call 10; with_reducible refine works20_any H ?_; intro w1 H1 I1)
      | (go_at_call 15; with_reducible refine over_any RL.out HD H1 ?_; intro w2 H2 I2)
      | (go_at_call 16; with_reducible refine newms_any (ms_none H2) ?_; intro h w3 H3 I3))
    exact HH.out _ H2 (I1.trans I2)
  | false =>
    have hl120 := (much_not HD.out.symm).1
    have HN := Lib.hid (much_not HD.out.symm).2
    have HV := Lib.hid (fun k hk => readsO_get hl k hk)
    clear hl
    go_enter Tryz.func5, Tryz.ntmps5
    go_wp2_with (first
      | (go_at_call 10; with_reducible refine works20_any H ?_; intro w1 H1 I1)
      | (go_at_call 15; with_reducible refine over_any RL.out HD H1 ?_; intro w2 H2 I2)
      | (go_at_call 16; with_reducible refine newms_any (ms_none H2) ?_; intro h w3 H3 I3))
    have K3 : Sat (Ms [(h, Md.run Md.init ((opsOf l).take 0))] * F) w3 := H3
    have J3 := (I1.trans I2).trans I3
    clear H1 H2 H3 I1 I2 I3 H
    go_loopw [10] (fun x wr => ∃ k : Nat, k ≤ l.length ∧ x = .int .i64 (k : Int) ∧ Sat (Ms [(h, Md.run Md.init ((opsOf l).take k))] * F) wr ∧ Io w wr) (fun x _ => l.length - (intOf x).toNat)
    case atStart => exact ⟨0, by omega, rfl, K3, J3⟩
    case round =>
      obtain ⟨k, hk, rfl, Hk, Ik⟩ := hrel
      clear K3 J3
      by_cases hlt : k < l.length
      · have hlti : (k : Int) < (l.length : Int) := by omega
        have hk0 : (0 : Int) ≤ (k : Int) := by omega
        obtain ⟨b', off, rfl, kind, name, u, v, A, B, ka, kl, kc, torn, cut, text, hx, hc⟩ := HV.out k hlt
        have hsz : name.size ≤ 1000000 := by have := HN.out l[k] (List.getElem_mem hlt); rw [hx] at this; simp only at this; omega
        have HSZ := Lib.hid hsz
        have HM := Lib.hid (run_step Md.init l k hlt hx)
        have hI := Lib.hid (inv_ops l k hl120)
        obtain ⟨c0, c1, c2, c3, c4, c5, c6, c7, c8, c9⟩ := hc wr Hk.right
        clear hc hx hsz
        go_wp2_with (go_at_call 17; with_reducible refine do_ms HSZ.out (by omega) hI.out HM Hk ?_; intro c1a c1l c1c p1a p1l p1c v1a v1l v1c b1a b1l b1c w5 H5 I5)
        go_roundw
        case rel => exact ⟨k + 1, by omega, by go_num, H5.right, Ik.trans I5⟩
        case measure => simp [intOf]; omega
      · obtain rfl : k = l.length := by omega
        have hge : ¬ (l.length : Int) < (l.length : Int) := by omega
        rw [run_all] at Hk
        have hI : Md.Inv 120 (Md.run Md.init (opsOf l)) := by rw [← run_all]; exact inv_ops l _ hl120
        generalize Md.run Md.init (opsOf l) = T at *
        have HI := Lib.hid hI
        clear hI HV HN RL HD
        by_cases hab : aget T.vers a = none ∨ aget T.vers b = none
        · have HM1 := Lib.hid (Md.diff_no hab)
          clear hab
          go_wp2_with (go_at_call 17; (with_reducible refine do_ms (by decide) (by omega) HI.out HM1 Hk ?_; intro c7a c7l c7c p7a p7l p7c v7a v7l v7c b7a b7l b7c w7 H7 I7; obtain ⟨e7a, e7b, e7d, e7e⟩ := ansAt_len H7; simp only [List.length_nil] at e7a e7b e7d e7e; subst e7a; subst e7b; subst e7d; subst e7e))
          exact HH.out _ (H7.right.right.alloc _) ((Ik.trans I7).alloc _)
        · have hx1 : (aget T.vers a).isSome = true := by cases e : aget T.vers a with
            | none => exact absurd (.inl e) hab
            | some _ => rfl
          have hy1 : (aget T.vers b).isSome = true := by cases e : aget T.vers b with
            | none => exact absurd (.inr e) hab
            | some _ => rfl
          obtain ⟨x, hx⟩ := Option.isSome_iff_exists.1 hx1
          obtain ⟨y, hy⟩ := Option.isSome_iff_exists.1 hy1
          clear hab hx1 hy1
          have hla := Lib.hid (HI.out.goodV a x.1 x.2 hx)
          have hlb := Lib.hid (HI.out.goodV b y.1 y.2 hy)
          have hDl := Md.diff_le x.2 y.2
          have hDless := Lib.hid (fun i hi => Md.diff_less (a := x.2) (b := y.2) (i := i) hi)
          have hml := Md.diff_some hx hy
          have hbr := Md.branch_new y.2 HI.out hx
          have HY := Lib.hid hy
          obtain ⟨D, hDe⟩ : ∃ D, D = Eg.diff x.2 y.2 := ⟨_, rfl⟩
          have hDle : D.length ≤ 240 := by rw [hDe]; have := hla.out.2; have := hlb.out.2; omega
          rw [← hDe] at hml
          have hD := Lib.hid hDe
          have HM1 := Lib.hid hml
          clear hx hy hDl hDe hml
          rcases hbr with hbr | hbr | ⟨U0, hbr, hat⟩
          · have HM2 := Lib.hid hbr
            clear hbr
            go_wp2_with (go_at_call 17; first
              | (with_reducible refine do_ms (by decide) (by omega) HI.out HM1 Hk ?_; intro c7a c7l c7c p7a p7l p7c v7a v7l v7c b7a b7l b7c w7 H7 I7; obtain ⟨e7a, e7b, e7d, e7e⟩ := ansAt_len H7; simp only [List.length_nil] at e7a e7b e7d e7e; subst e7a; subst e7b; subst e7d; subst e7e; have K7 : Sat (Ms [(h, T)] * (ansA w7.heap.size { changes := D } ⟨.slice c7a D.length c7c, .slice p7a 0 p7c, .slice v7a 0 v7c, .slice b7a 0 b7c⟩ * (AnsAt { changes := D } ⟨.slice c7a D.length c7c, .slice p7a 0 p7c, .slice v7a 0 v7c, .slice b7a 0 b7c⟩ * F))) (w7.alloc (.cells #[.int .i64 0, .int .i64 0, .bool false, .int .i64 0, .slice c7a D.length c7c, .slice p7a 0 p7c, .slice v7a 0 v7c, .slice b7a 0 b7c] 37)) := ans_new2 H7)
              | (with_reducible refine do_ms (by decide) (by omega) HI.out HM2 K7 ?_; intro c8a c8l c8c p8a p8l p8c v8a v8l v8c b8a b8l b8c w8 H8 I8; obtain ⟨e8a, e8b, e8d, e8e⟩ := ansAt_len H8; simp only [List.length_nil] at e8a e8b e8d e8e; subst e8a; subst e8b; subst e8d; subst e8e))
            exact HH.out _ (H8.right.right.right.right.alloc _) ((((Ik.trans I7).alloc _).trans I8).alloc _)
          · have HM2 := Lib.hid hbr
            clear hbr
            go_wp2_with (go_at_call 17; first
              | (with_reducible refine do_ms (by decide) (by omega) HI.out HM1 Hk ?_; intro c7a c7l c7c p7a p7l p7c v7a v7l v7c b7a b7l b7c w7 H7 I7; obtain ⟨e7a, e7b, e7d, e7e⟩ := ansAt_len H7; simp only [List.length_nil] at e7a e7b e7d e7e; subst e7a; subst e7b; subst e7d; subst e7e; have K7 : Sat (Ms [(h, T)] * (ansA w7.heap.size { changes := D } ⟨.slice c7a D.length c7c, .slice p7a 0 p7c, .slice v7a 0 v7c, .slice b7a 0 b7c⟩ * (AnsAt { changes := D } ⟨.slice c7a D.length c7c, .slice p7a 0 p7c, .slice v7a 0 v7c, .slice b7a 0 b7c⟩ * F))) (w7.alloc (.cells #[.int .i64 0, .int .i64 0, .bool false, .int .i64 0, .slice c7a D.length c7c, .slice p7a 0 p7c, .slice v7a 0 v7c, .slice b7a 0 b7c] 37)) := ans_new2 H7)
              | (with_reducible refine do_ms (by decide) (by omega) HI.out HM2 K7 ?_; intro c8a c8l c8c p8a p8l p8c v8a v8l v8c b8a b8l b8c w8 H8 I8; obtain ⟨e8a, e8b, e8d, e8e⟩ := ansAt_len H8; simp only [List.length_nil] at e8a e8b e8d e8e; subst e8a; subst e8b; subst e8d; subst e8e))
            exact HH.out _ (H8.right.right.right.right.alloc _) ((((Ik.trans I7).alloc _).trans I8).alloc _)
          · have HM2 := Lib.hid hbr
            have HA0 : Hid (Md.At T U0 a x.2 y.2 0 ∧ Md.Inv (121 + 0) U0) := Lib.hid ⟨hat, by have := Md.inv_mdo HI.out ⟨5, newN, 0, 0, a, 0⟩; rw [HM2.out] at this; exact this⟩
            clear hbr hat
            go_wp2_with (go_at_call 17; first
              | (with_reducible refine do_ms (by decide) (by omega) HI.out HM1 Hk ?_; intro c7a c7l c7c p7a p7l p7c v7a v7l v7c b7a b7l b7c w7 H7 I7; obtain ⟨e7a, e7b, e7d, e7e⟩ := ansAt_len H7; simp only [List.length_nil] at e7a e7b e7d e7e; subst e7a; subst e7b; subst e7d; subst e7e; have K7 : Sat (Ms [(h, T)] * (ansA w7.heap.size { changes := D } ⟨.slice c7a D.length c7c, .slice p7a 0 p7c, .slice v7a 0 v7c, .slice b7a 0 b7c⟩ * (AnsAt { changes := D } ⟨.slice c7a D.length c7c, .slice p7a 0 p7c, .slice v7a 0 v7c, .slice b7a 0 b7c⟩ * F))) (w7.alloc (.cells #[.int .i64 0, .int .i64 0, .bool false, .int .i64 0, .slice c7a D.length c7c, .slice p7a 0 p7c, .slice v7a 0 v7c, .slice b7a 0 b7c] 37)) := ans_new2 H7)
              | (with_reducible refine do_ms (by decide) (by omega) HI.out HM2 K7 ?_; intro c8a c8l c8c p8a p8l p8c v8a v8l v8c b8a b8l b8c w8 H8 I8; obtain ⟨e8a, e8b, e8d, e8e⟩ := ansAt_len H8; simp only [List.length_nil] at e8a e8b e8d e8e; subst e8a; subst e8b; subst e8d; subst e8e; have y4 := (ansA_reads H8.right.right).2.2.2.2.1))
            have K8 : Sat (Ms [(h, U0)] * (ansA w7.heap.size { changes := D } ⟨.slice c7a D.length c7c, .slice p7a 0 p7c, .slice v7a 0 v7c, .slice b7a 0 b7c⟩ * (AnsAt { changes := D } ⟨.slice c7a D.length c7c, .slice p7a 0 p7c, .slice v7a 0 v7c, .slice b7a 0 b7c⟩ * F))) (w8.alloc (.cells #[.int .i64 0, .int .i64 0, .bool false, .int .i64 0, .slice c8a 0 c8c, .slice p8a 0 p8c, .slice v8a 0 v8c, .slice b8a 0 b8c] 37)) := H8.right.alloc _
            have J8 := ((((Ik.trans I7).alloc (.cells #[.int .i64 0, .int .i64 0, .bool false, .int .i64 0, .slice c7a D.length c7c, .slice p7a 0 p7c, .slice v7a 0 v7c, .slice b7a 0 b7c] 37)).trans I8).alloc (.cells #[.int .i64 0, .int .i64 0, .bool false, .int .i64 0, .slice c8a 0 c8c, .slice p8a 0 p8c, .slice v8a 0 v8c, .slice b8a 0 b8c] 37))
            have HYC : Hid (ReadsC (ansA w7.heap.size { changes := D } ⟨.slice c7a D.length c7c, .slice p7a 0 p7c, .slice v7a 0 v7c, .slice b7a 0 b7c⟩ * (AnsAt { changes := D } ⟨.slice c7a D.length c7c, .slice p7a 0 p7c, .slice v7a 0 v7c, .slice b7a 0 b7c⟩ * F)) (.slice c7a D.length c7c) D) := Lib.hid ((ans_reads (A := { changes := D }) (by show D.length ≤ _; omega) (Nat.zero_le _) (Nat.zero_le _) (Nat.zero_le _) K7.right.right).1.imp fun _ h => h.right)
            have HYr := Lib.hid (fun W (hW : Sat (ansA w7.heap.size { changes := D } ⟨.slice c7a D.length c7c, .slice p7a 0 p7c, .slice v7a 0 v7c, .slice b7a 0 b7c⟩ * (AnsAt { changes := D } ⟨.slice c7a D.length c7c, .slice p7a 0 p7c, .slice v7a 0 v7c, .slice b7a 0 b7c⟩ * F)) W) => (ansA_reads hW).2.2.2.2.1)
            have HYF := Lib.hid (fun W (hW : Sat (ansA w7.heap.size { changes := D } ⟨.slice c7a D.length c7c, .slice p7a 0 p7c, .slice v7a 0 v7c, .slice b7a 0 b7c⟩ * (AnsAt { changes := D } ⟨.slice c7a D.length c7c, .slice p7a 0 p7c, .slice v7a 0 v7c, .slice b7a 0 b7c⟩ * F)) W) => hW.right.right)
            clear H7 K7 H8 I7 I8 Hk Ik HM1 HM2 y4
            generalize ansA w7.heap.size { changes := D } ⟨.slice c7a D.length c7c, .slice p7a 0 p7c, .slice v7a 0 v7c, .slice b7a 0 b7c⟩ * (AnsAt { changes := D } ⟨.slice c7a D.length c7c, .slice p7a 0 p7c, .slice v7a 0 v7c, .slice b7a 0 b7c⟩ * F) = Y at *
            generalize w7.heap.size = q at *
            go_loopw [13] (fun x' wr => ∃ (k : Nat) (U : St), k ≤ D.length ∧ x' = .int .i64 (k : Int) ∧ Hid (Md.At T U a x.2 y.2 k ∧ Md.Inv (121 + k) U) ∧ Sat (Ms [(h, U)] * Y) wr ∧ Io w wr) (fun x' _ => D.length - (intOf x').toNat)
            case atStart => exact ⟨0, U0, by omega, rfl, HA0, K8, J8⟩
            case round =>
              obtain ⟨k, U, hk, rfl, hu, Hk, Ik⟩ := hrel
              clear K8 J8 HA0
              have y4 := HYr.out wr Hk.right
              by_cases hlt : k < D.length
              · have hlti : (k : Int) < (D.length : Int) := by omega
                have hk0 : (0 : Int) ≤ (k : Int) := by omega
                have HI1 := Lib.hid hu.out.2
                obtain ⟨vb, vo, x1, x2, yy, hva, hx', hc⟩ := readsC_get HYC.out k hlt
                subst hva
                obtain ⟨g0, g1, g2⟩ := hc wr Hk.right
                by_cases hkz : k = 0
                · subst hkz
                  have hDn : D ≠ [] := by intro e; rw [e] at hlt; exact absurd hlt (by simp)
                  simp only [Nat.zero_mul, Nat.add_zero, Nat.zero_add] at g0 g1 g2
                  cases yy with
                  | true =>
                    obtain ⟨U', hm, hat⟩ := hu.out.1.step hla.out.1 hlb.out.1 (by rw [← hD.out]; exact hlt)
                    have hDk : (Eg.diff x.2 y.2)[0]'(by rw [← hD.out]; exact hlt) = ((x1, x2), true) := by rw [← hx']; congr 1; exact hD.out.symm
                    rw [hDk] at hm
                    have HM : Hid (Md.mdo U ⟨1, newN, x2, x1, 0, 0⟩ = (U', {})) := Lib.hid hm
                    have HU : Hid (Md.At T U' a x.2 y.2 (0 + 1) ∧ Md.Inv (121 + (0 + 1)) U') := Lib.hid ⟨hat, by have := Md.inv_mdo hu.out.2 ⟨1, newN, x2, x1, 0, 0⟩; rw [HM.out] at this; exact this⟩
                    clear hm hat hDk
                    clear hx' hu hc
                    have N5 : Sat (Ms [(h, U)] * (pts wr.heap.size (.cells #[.int .i64 x1, .int .i64 x2, .bool true] 51 (0, 0)) * Y)) (wr.alloc (.cells #[.int .i64 x1, .int .i64 x2, .bool true] 51)) := (Hk.new (.cells #[.int .i64 x1, .int .i64 x2, .bool true] 51)).of_eq (by ac_rfl)
                    have NI := Ik.alloc (.cells #[.int .i64 x1, .int .i64 x2, .bool true] 51)
                    have HP := Lib.hid (fun (W : World) (hW : Sat Y W) => True.intro)
                    go_wp2_with (go_at_call 17; (with_reducible refine do_ms (by decide) (by omega) HI1.out HM N5 ?_; intro c5a c5l c5c p5a p5l p5c v5a v5l v5c b5a b5l b5c w5 H5 I5; obtain ⟨e5a, e5b, e5d, e5e⟩ := ansAt_len H5; simp only [List.length_nil] at e5a e5b e5d e5e; subst e5a; subst e5b; subst e5d; subst e5e; have K6 : Sat (Ms [(h, U')] * (ansA w5.heap.size {} ⟨.slice c5a 0 c5c, .slice p5a 0 p5c, .slice v5a 0 v5c, .slice b5a 0 b5c⟩ * (pts wr.heap.size (.cells #[.int .i64 x1, .int .i64 x2, .bool true] 51 (0, 0)) * Y))) (w5.alloc (.cells #[.int .i64 0, .int .i64 0, .bool false, .int .i64 0, .slice c5a 0 c5c, .slice p5a 0 p5c, .slice v5a 0 v5c, .slice b5a 0 b5c] 37)) := ans_new H5; obtain ⟨m0, _⟩ := ansA_reads K6.right))
                    go_quiet (fail)
                    go_wp2_with fail
                    go_roundw
                    case rel => exact ⟨0 + 1, U', by omega, by go_num, HU, drop2 (K6.drewN nq), ((NI.trans I5).alloc _).drewN nq⟩
                    case measure => simp [intOf]; omega
                  | false =>
                    obtain ⟨U', hm, hat⟩ := hu.out.1.step hla.out.1 hlb.out.1 (by rw [← hD.out]; exact hlt)
                    have hDk : (Eg.diff x.2 y.2)[0]'(by rw [← hD.out]; exact hlt) = ((x1, x2), false) := by rw [← hx']; congr 1; exact hD.out.symm
                    rw [hDk] at hm
                    have HM : Hid (Md.mdo U ⟨2, newN, x2, x1, 0, 0⟩ = (U', {})) := Lib.hid hm
                    have HU : Hid (Md.At T U' a x.2 y.2 (0 + 1) ∧ Md.Inv (121 + (0 + 1)) U') := Lib.hid ⟨hat, by have := Md.inv_mdo hu.out.2 ⟨2, newN, x2, x1, 0, 0⟩; rw [HM.out] at this; exact this⟩
                    clear hm hat hDk
                    clear hx' hu hc
                    have N5 : Sat (Ms [(h, U)] * (pts wr.heap.size (.cells #[.int .i64 x1, .int .i64 x2, .bool false] 51 (0, 0)) * Y)) (wr.alloc (.cells #[.int .i64 x1, .int .i64 x2, .bool false] 51)) := (Hk.new (.cells #[.int .i64 x1, .int .i64 x2, .bool false] 51)).of_eq (by ac_rfl)
                    have NI := Ik.alloc (.cells #[.int .i64 x1, .int .i64 x2, .bool false] 51)
                    have HP := Lib.hid (fun (W : World) (hW : Sat Y W) => True.intro)
                    go_wp2_with (go_at_call 17; (with_reducible refine do_ms (by decide) (by omega) HI1.out HM N5 ?_; intro c5a c5l c5c p5a p5l p5c v5a v5l v5c b5a b5l b5c w5 H5 I5; obtain ⟨e5a, e5b, e5d, e5e⟩ := ansAt_len H5; simp only [List.length_nil] at e5a e5b e5d e5e; subst e5a; subst e5b; subst e5d; subst e5e; have K6 : Sat (Ms [(h, U')] * (ansA w5.heap.size {} ⟨.slice c5a 0 c5c, .slice p5a 0 p5c, .slice v5a 0 v5c, .slice b5a 0 b5c⟩ * (pts wr.heap.size (.cells #[.int .i64 x1, .int .i64 x2, .bool false] 51 (0, 0)) * Y))) (w5.alloc (.cells #[.int .i64 0, .int .i64 0, .bool false, .int .i64 0, .slice c5a 0 c5c, .slice p5a 0 p5c, .slice v5a 0 v5c, .slice b5a 0 b5c] 37)) := ans_new H5; obtain ⟨m0, _⟩ := ansA_reads K6.right))
                    go_quiet (fail)
                    go_wp2_with fail
                    go_roundw
                    case rel => exact ⟨0 + 1, U', by omega, by go_num, HU, drop2 (K6.drewN nq), ((NI.trans I5).alloc _).drewN nq⟩
                    case measure => simp [intOf]; omega
                · have hkp : (0 : Int) < (k : Int) := by omega
                  have hkp' : 0 < k := by omega
                  obtain ⟨jj, hjj⟩ : ∃ jj, k = jj + 1 := ⟨k - 1, by omega⟩
                  have hsub : (k : Int) - 1 = (jj : Int) := by omega
                  have hwr : IntKind.i64.wrap ((k : Int) - 1) = (jj : Int) := by rw [IntKind.wrap_i64]; omega
                  have hwj : IntKind.i64.wrap (jj : Int) = (jj : Int) := by rw [IntKind.wrap_i64]; omega
                  have hjn : (jj : Int) < (D.length : Int) := by omega
                  have hj0 : (0 : Int) ≤ (jj : Int) := by omega
                  obtain ⟨vb', vo', u1, u2, uy, hva', hu', hcj⟩ := readsC_get HYC.out jj (by omega)
                  cases hva'
                  obtain ⟨c, hc0⟩ : ∃ c, c = cmpP (u1, u2) (x1, x2) := ⟨_, rfl⟩
                  have hcl : c < 0 := by
                    rw [hc0, cmpP_lt]
                    have h1 := hDless.out jj (by rw [← hD.out]; omega)
                    have e1 : (Eg.diff x.2 y.2)[jj]'(by rw [← hD.out]; omega) = ((u1, u2), uy) := by rw [← hu']; congr 1; exact hD.out.symm
                    have e2 : (Eg.diff x.2 y.2)[jj + 1]'(by rw [← hD.out]; omega) = ((x1, x2), yy) := by rw [← hx']; simp only [hjj]; congr 1; exact hD.out.symm
                    rw [e1, e2] at h1
                    exact h1
                  have hcg : ¬ (0 : Int) ≤ c := by omega
                  have HC := Lib.hid hc0
                  have HX' := Lib.hid hx'
                  have HJJ := Lib.hid hjj
                  clear hc0 hu' hjj hx'
                  cases yy with
                  | true =>
                    have hx' := HX'.out
                    obtain ⟨U', hm, hat⟩ := hu.out.1.step hla.out.1 hlb.out.1 (by rw [← hD.out]; exact hlt)
                    have hDk : (Eg.diff x.2 y.2)[k]'(by rw [← hD.out]; exact hlt) = ((x1, x2), true) := by rw [← hx']; congr 1; exact hD.out.symm
                    rw [hDk] at hm
                    have HM : Hid (Md.mdo U ⟨1, newN, x2, x1, 0, 0⟩ = (U', {})) := Lib.hid hm
                    have HU : Hid (Md.At T U' a x.2 y.2 (k + 1) ∧ Md.Inv (121 + (k + 1)) U') := Lib.hid ⟨hat, by have := Md.inv_mdo hu.out.2 ⟨1, newN, x2, x1, 0, 0⟩; rw [HM.out] at this; exact this⟩
                    clear hm hat hDk
                    have HCc := Lib.hid hc
                    have HCj := Lib.hid hcj
                    clear hx' hu hc hcj
                    have N5 : Sat (Ms [(h, U)] * (pts wr.heap.size (.cells #[.int .i64 x1, .int .i64 x2, .bool true] 51 (0, 0)) * Y)) (wr.alloc (.cells #[.int .i64 x1, .int .i64 x2, .bool true] 51)) := (Hk.new (.cells #[.int .i64 x1, .int .i64 x2, .bool true] 51)).of_eq (by ac_rfl)
                    have NI := Ik.alloc (.cells #[.int .i64 x1, .int .i64 x2, .bool true] 51)
                    go_wp2_with (go_at_call 17; (with_reducible refine do_ms (by decide) (by omega) HI1.out HM N5 ?_; intro c5a c5l c5c p5a p5l p5c v5a v5l v5c b5a b5l b5c w5 H5 I5; obtain ⟨e5a, e5b, e5d, e5e⟩ := ansAt_len H5; simp only [List.length_nil] at e5a e5b e5d e5e; subst e5a; subst e5b; subst e5d; subst e5e; have K6 : Sat (Ms [(h, U')] * (ansA w5.heap.size {} ⟨.slice c5a 0 c5c, .slice p5a 0 p5c, .slice v5a 0 v5c, .slice b5a 0 b5c⟩ * (pts wr.heap.size (.cells #[.int .i64 x1, .int .i64 x2, .bool true] 51 (0, 0)) * Y))) (w5.alloc (.cells #[.int .i64 0, .int .i64 0, .bool false, .int .i64 0, .slice c5a 0 c5c, .slice p5a 0 p5c, .slice v5a 0 v5c, .slice b5a 0 b5c] 37)) := ans_new H5))
                    obtain ⟨X, hX⟩ : ∃ X, X = Ms [(h, U')] * (ansA w5.heap.size {} ⟨.slice c5a 0 c5c, .slice p5a 0 p5c, .slice v5a 0 v5c, .slice b5a 0 b5c⟩ * (pts wr.heap.size (.cells #[.int .i64 x1, .int .i64 x2, .bool true] 51 (0, 0)) * Y)) := ⟨_, rfl⟩
                    have HP : Hid (∀ W, Sat X W → W.cell? ⟨w5.heap.size, 0, none⟩ = some (.int .i64 0) ∧ W.cell? ⟨q, 4, none⟩ = some (.slice (some ⟨vb, vo, none⟩) D.length c7c) ∧ W.cell? ⟨vb, vo + jj * 3, none⟩ = some (.int .i64 u1) ∧ W.cell? ⟨vb, vo + jj * 3 + 1, none⟩ = some (.int .i64 u2) ∧ W.cell? ⟨wr.heap.size, 0, none⟩ = some (.int .i64 x1) ∧ W.cell? ⟨wr.heap.size, 1, none⟩ = some (.int .i64 x2)) := Lib.hid (fun W hW => by
                      rw [hX] at hW
                      obtain ⟨p0, p1, _⟩ := HCj.out W hW.right.right.right
                      have k := hW.right.right.left.at
                      exact ⟨(ansA_reads hW.right).1, HYr.out W hW.right.right.right, p0, p1, Sat.read k 0, Sat.read k 1⟩)
                    have HXM : Hid (∀ W, Sat X W → Sat (Ms [(h, U')] * Y) W) := Lib.hid (fun W hW => by rw [hX] at hW; exact drop2 hW)
                    rw [← hX] at K6
                    have J6 := (NI.trans I5).alloc (.cells #[.int .i64 0, .int .i64 0, .bool false, .int .i64 0, .slice c5a 0 c5c, .slice p5a 0 p5c, .slice v5a 0 v5c, .slice b5a 0 b5c] 37)
                    have P6 := HP.out _ K6.drew
                    obtain ⟨f0, f1, f2, f3, f4, f5⟩ := P6
                    clear hX H5 N5 I5 Ik NI
                    generalize w5.alloc (.cells #[.int .i64 0, .int .i64 0, .bool false, .int .i64 0, .slice c5a 0 c5c, .slice p5a 0 p5c, .slice v5a 0 v5c, .slice b5a 0 b5c] 37) = w6 at *
                    generalize w5.heap.size = r at *
                    generalize wr.heap.size = s at *
                    refine region_tail 16 (by kernel_rfl) (by kernel_rfl) ?_
                    simp only [List.take_succ_cons, List.take_zero, List.drop_succ_cons, List.drop_zero]
                    repeat still_step
                    refine wpStill_nil ?_
                    go_wp2_with (go_at_call 21; with_reducible refine cmp_d (u1, u2) (x1, x2) HC K6.drew ?_; intro w7 H7 I7)
                    go_roundw
                    case rel => exact ⟨k + 1, U', by omega, by go_num, HU, HXM.out _ H7, J6.drew.trans I7⟩
                    case measure => simp [intOf]; omega
                  | false =>
                    have hx' := HX'.out
                    obtain ⟨U', hm, hat⟩ := hu.out.1.step hla.out.1 hlb.out.1 (by rw [← hD.out]; exact hlt)
                    have hDk : (Eg.diff x.2 y.2)[k]'(by rw [← hD.out]; exact hlt) = ((x1, x2), false) := by rw [← hx']; congr 1; exact hD.out.symm
                    rw [hDk] at hm
                    have HM : Hid (Md.mdo U ⟨2, newN, x2, x1, 0, 0⟩ = (U', {})) := Lib.hid hm
                    have HU : Hid (Md.At T U' a x.2 y.2 (k + 1) ∧ Md.Inv (121 + (k + 1)) U') := Lib.hid ⟨hat, by have := Md.inv_mdo hu.out.2 ⟨2, newN, x2, x1, 0, 0⟩; rw [HM.out] at this; exact this⟩
                    clear hm hat hDk
                    have HCc := Lib.hid hc
                    have HCj := Lib.hid hcj
                    clear hx' hu hc hcj
                    have N5 : Sat (Ms [(h, U)] * (pts wr.heap.size (.cells #[.int .i64 x1, .int .i64 x2, .bool false] 51 (0, 0)) * Y)) (wr.alloc (.cells #[.int .i64 x1, .int .i64 x2, .bool false] 51)) := (Hk.new (.cells #[.int .i64 x1, .int .i64 x2, .bool false] 51)).of_eq (by ac_rfl)
                    have NI := Ik.alloc (.cells #[.int .i64 x1, .int .i64 x2, .bool false] 51)
                    go_wp2_with (go_at_call 17; (with_reducible refine do_ms (by decide) (by omega) HI1.out HM N5 ?_; intro c5a c5l c5c p5a p5l p5c v5a v5l v5c b5a b5l b5c w5 H5 I5; obtain ⟨e5a, e5b, e5d, e5e⟩ := ansAt_len H5; simp only [List.length_nil] at e5a e5b e5d e5e; subst e5a; subst e5b; subst e5d; subst e5e; have K6 : Sat (Ms [(h, U')] * (ansA w5.heap.size {} ⟨.slice c5a 0 c5c, .slice p5a 0 p5c, .slice v5a 0 v5c, .slice b5a 0 b5c⟩ * (pts wr.heap.size (.cells #[.int .i64 x1, .int .i64 x2, .bool false] 51 (0, 0)) * Y))) (w5.alloc (.cells #[.int .i64 0, .int .i64 0, .bool false, .int .i64 0, .slice c5a 0 c5c, .slice p5a 0 p5c, .slice v5a 0 v5c, .slice b5a 0 b5c] 37)) := ans_new H5))
                    obtain ⟨X, hX⟩ : ∃ X, X = Ms [(h, U')] * (ansA w5.heap.size {} ⟨.slice c5a 0 c5c, .slice p5a 0 p5c, .slice v5a 0 v5c, .slice b5a 0 b5c⟩ * (pts wr.heap.size (.cells #[.int .i64 x1, .int .i64 x2, .bool false] 51 (0, 0)) * Y)) := ⟨_, rfl⟩
                    have HP : Hid (∀ W, Sat X W → W.cell? ⟨w5.heap.size, 0, none⟩ = some (.int .i64 0) ∧ W.cell? ⟨q, 4, none⟩ = some (.slice (some ⟨vb, vo, none⟩) D.length c7c) ∧ W.cell? ⟨vb, vo + jj * 3, none⟩ = some (.int .i64 u1) ∧ W.cell? ⟨vb, vo + jj * 3 + 1, none⟩ = some (.int .i64 u2) ∧ W.cell? ⟨wr.heap.size, 0, none⟩ = some (.int .i64 x1) ∧ W.cell? ⟨wr.heap.size, 1, none⟩ = some (.int .i64 x2)) := Lib.hid (fun W hW => by
                      rw [hX] at hW
                      obtain ⟨p0, p1, _⟩ := HCj.out W hW.right.right.right
                      have k := hW.right.right.left.at
                      exact ⟨(ansA_reads hW.right).1, HYr.out W hW.right.right.right, p0, p1, Sat.read k 0, Sat.read k 1⟩)
                    have HXM : Hid (∀ W, Sat X W → Sat (Ms [(h, U')] * Y) W) := Lib.hid (fun W hW => by rw [hX] at hW; exact drop2 hW)
                    rw [← hX] at K6
                    have J6 := (NI.trans I5).alloc (.cells #[.int .i64 0, .int .i64 0, .bool false, .int .i64 0, .slice c5a 0 c5c, .slice p5a 0 p5c, .slice v5a 0 v5c, .slice b5a 0 b5c] 37)
                    have P6 := HP.out _ K6.drew
                    obtain ⟨f0, f1, f2, f3, f4, f5⟩ := P6
                    clear hX H5 N5 I5 Ik NI
                    generalize w5.alloc (.cells #[.int .i64 0, .int .i64 0, .bool false, .int .i64 0, .slice c5a 0 c5c, .slice p5a 0 p5c, .slice v5a 0 v5c, .slice b5a 0 b5c] 37) = w6 at *
                    generalize w5.heap.size = r at *
                    generalize wr.heap.size = s at *
                    refine region_tail 16 (by kernel_rfl) (by kernel_rfl) ?_
                    simp only [List.take_succ_cons, List.take_zero, List.drop_succ_cons, List.drop_zero]
                    repeat still_step
                    refine wpStill_nil ?_
                    go_wp2_with (go_at_call 21; with_reducible refine cmp_d (u1, u2) (x1, x2) HC K6.drew ?_; intro w7 H7 I7)
                    go_roundw
                    case rel => exact ⟨k + 1, U', by omega, by go_num, HU, HXM.out _ H7, J6.drew.trans I7⟩
                    case measure => simp [intOf]; omega
              · obtain rfl : k = D.length := by omega
                have hge : ¬ (D.length : Int) < (D.length : Int) := by omega
                obtain ⟨U', h1, h2, h3⟩ := Md.At.tail (j := 120) (by rw [← hD.out]; exact hu.out.1) hla.out.1.1 hlb.out.1.1 HI.out (by omega) HY.out
                have HT1 := Lib.hid h1
                have HT2 := Lib.hid h2
                have HT3 := Lib.hid h3
                have HIU := Lib.hid hu.out.2
                have HIV : Hid (Md.Inv (122 + D.length) U') := Lib.hid (by have := Md.inv_mdo hu.out.2 ⟨3, newN, 0, 0, 0, 0⟩; rw [h1] at this; exact this.mono (by omega))
                have hE : y.2.length ≤ 1000 := by have := hlb.out.2; omega
                clear h1 h2 h3
                generalize y.2 = E at *
                generalize T.next = nx at *
                go_wp2_with (first
                  | (go_at_call 17; first
                    | (with_reducible refine do_ms (by decide) (by omega) HIU.out HT1 Hk ?_; intro c9a c9l c9c p9a p9l p9c v9a v9l v9c b9a b9l b9c w9 H9 I9; obtain ⟨e9a, e9b, e9d, e9e⟩ := ansAt_len H9; simp only [List.length_nil] at e9a e9b e9d e9e; subst e9a; subst e9b; subst e9d; subst e9e; have K9 : Sat (Ms [(h, U')] * (ansA w9.heap.size { version := nx } ⟨.slice c9a 0 c9c, .slice p9a 0 p9c, .slice v9a 0 v9c, .slice b9a 0 b9c⟩ * Y)) (w9.alloc (.cells #[.int .i64 0, .int .i64 nx, .bool false, .int .i64 0, .slice c9a 0 c9c, .slice p9a 0 p9c, .slice v9a 0 v9c, .slice b9a 0 b9c] 37)) := ans_new H9)
                    | (with_reducible refine do_ms (by decide) (by omega) HIV.out HT2 K9 ?_; intro c10a c10l c10c p10a p10l p10c v10a v10l v10c b10a b10l b10c w10 H10 I10; obtain ⟨e10a, e10b, e10d, e10e⟩ := ansAt_len H10; simp only [List.length_nil] at e10a e10b e10d e10e; subst e10a; subst e10b; subst e10d; subst e10e; have K10 : Sat (Ms [(h, U')] * (ansA w10.heap.size { pairs := E } ⟨.slice c10a 0 c10c, .slice p10a E.length p10c, .slice v10a 0 v10c, .slice b10a 0 b10c⟩ * (AnsAt { pairs := E } ⟨.slice c10a 0 c10c, .slice p10a E.length p10c, .slice v10a 0 v10c, .slice b10a 0 b10c⟩ * (ansA w9.heap.size { version := nx } ⟨.slice c9a 0 c9c, .slice p9a 0 p9c, .slice v9a 0 v9c, .slice b9a 0 b9c⟩ * Y)))) (w10.alloc (.cells #[.int .i64 0, .int .i64 0, .bool false, .int .i64 0, .slice c10a 0 c10c, .slice p10a E.length p10c, .slice v10a 0 v10c, .slice b10a 0 b10c] 37)) := ans_new2 H10)
                    | (with_reducible refine do_ms (by decide) (by omega) HIV.out HT3 K10 ?_; intro c11a c11l c11c p11a p11l p11c v11a v11l v11c b11a b11l b11c w11 H11 I11; obtain ⟨e11a, e11b, e11d, e11e⟩ := ansAt_len H11; simp only [List.length_nil] at e11a e11b e11d e11e; subst e11a; subst e11b; subst e11d; subst e11e; have K11 : Sat (Ms [(h, U')] * (ansA w11.heap.size { pairs := E } ⟨.slice c11a 0 c11c, .slice p11a E.length p11c, .slice v11a 0 v11c, .slice b11a 0 b11c⟩ * (AnsAt { pairs := E } ⟨.slice c11a 0 c11c, .slice p11a E.length p11c, .slice v11a 0 v11c, .slice b11a 0 b11c⟩ * (ansA w10.heap.size { pairs := E } ⟨.slice c10a 0 c10c, .slice p10a E.length p10c, .slice v10a 0 v10c, .slice b10a 0 b10c⟩ * (AnsAt { pairs := E } ⟨.slice c10a 0 c10c, .slice p10a E.length p10c, .slice v10a 0 v10c, .slice b10a 0 b10c⟩ * (ansA w9.heap.size { version := nx } ⟨.slice c9a 0 c9c, .slice p9a 0 p9c, .slice v9a 0 v9c, .slice b9a 0 b9c⟩ * Y)))))) (w11.alloc (.cells #[.int .i64 0, .int .i64 0, .bool false, .int .i64 0, .slice c11a 0 c11c, .slice p11a E.length p11c, .slice v11a 0 v11c, .slice b11a 0 b11c] 37)) := ans_new2 H11; have rp := pairs_reads K11 (by omega) (fun W hW => hW.right.right.right.right); have rq := pairs_reads K11 (by omega) (fun W hW => hW.right.right); obtain ⟨j0, j1, j2, j3, j4, j5, _⟩ := ansA_reads K11.right; obtain ⟨l0, l1, l2, l3, l4, l5, _⟩ := ansA_reads K11.right.right.right; obtain ⟨n0, n1, n2, n3, n4, n5, _⟩ := ansA_reads K11.right.right.right.right.right))
                  | (go_at_call 20; with_reducible refine rsame_any rp.out rq.out (dec_self E) K11 ?_; intro w12 H12 I12; obtain ⟨j20, j21, j22, j23, j24, j25, _⟩ := ansA_reads H12.right; obtain ⟨l20, l21, l22, l23, l24, l25, _⟩ := ansA_reads H12.right.right.right; obtain ⟨n20, n21, n22, n23, n24, n25, _⟩ := ansA_reads H12.right.right.right.right.right))
                exact HH.out _ (HYF.out _ H12.right.right.right.right.right.right) ((((((Ik.trans I9).alloc _).trans I10).alloc _).trans I11).alloc _ |>.trans I12)
end
end Go.Proofs.YtabpgejjnphfcaaGreat
