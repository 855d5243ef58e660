/-
  ModelBranches, by its walk. It proves no statement by itself.
-/
import Derived.Test.YtabpgejjnphfcaaGreatKWS
namespace Go.Proofs.YtabpgejjnphfcaaGreat
open Go.RowKit Go.Lib Go.MapKept
open Md (Nm St)
set_option linter.unusedSimpArgs false
set_option linter.unusedVariables false
set_option linter.unusedSectionVars false
namespace Md
theorem But.vlist {n : Nm} {S T : St} (h : But n S T) : vlist T = vlist S := by unfold Md.vlist; rw [h.vers]
theorem But.blist {n : Nm} {S T : St} (h : But n S T) : blist T = blist S := by unfold Md.blist; rw [h.heads]
theorem But.step {n : Nm} {S T : St} (h : But n S T) (o : Op) (hn : o.name = n) (hk : o.kind = 1 ∨ o.kind = 2) : But n S (mdo T o).1 := h.trans (by have := but_change T o hk; rw [hn] at this; exact this)
theorem But.edges {n : Nm} {S T : St} (h : But n S T) {id : Int} {x : Int × List Pr} (hx : aget S.vers id = some x) : mdo T ⟨11, ⟨#[]⟩, 0, 0, id, 0⟩ = (T, { pairs := x.2 }) ∧ mdo S ⟨11, ⟨#[]⟩, 0, 0, id, 0⟩ = (S, { pairs := x.2 }) :=
  ⟨mdo_edges (o := ⟨11, ⟨#[]⟩, 0, 0, id, 0⟩) rfl (by show aget T.vers id = _; rw [h.vers]; exact hx), mdo_edges (o := ⟨11, ⟨#[]⟩, 0, 0, id, 0⟩) rfl hx⟩
end Md
theorem ans_reads {A : Md.An} {F : Asn} {w : World} {ca pa va ba : Option Addr} {cc pc vc bc : Nat} (hc : A.changes.length ≤ 1000000) (hp : A.pairs.length ≤ 1000000) (hv : A.versions.length ≤ 1000000) (hb : A.branches.length ≤ 1000000)
    (H : Sat (AnsAt A ⟨.slice ca A.changes.length cc, .slice pa A.pairs.length pc, .slice va A.versions.length vc, .slice ba A.branches.length bc⟩ * F) w) :
    ReadsC (AnsAt A ⟨.slice ca A.changes.length cc, .slice pa A.pairs.length pc, .slice va A.versions.length vc, .slice ba A.branches.length bc⟩ * F) (.slice ca A.changes.length cc) A.changes ∧
    ReadsP (AnsAt A ⟨.slice ca A.changes.length cc, .slice pa A.pairs.length pc, .slice va A.versions.length vc, .slice ba A.branches.length bc⟩ * F) (.slice pa A.pairs.length pc) A.pairs ∧
    ReadsV (AnsAt A ⟨.slice ca A.changes.length cc, .slice pa A.pairs.length pc, .slice va A.versions.length vc, .slice ba A.branches.length bc⟩ * F) (.slice va A.versions.length vc) A.versions ∧
    ReadsB (AnsAt A ⟨.slice ca A.changes.length cc, .slice pa A.pairs.length pc, .slice va A.versions.length vc, .slice ba A.branches.length bc⟩ * F) (.slice ba A.branches.length bc) A.branches := by
  have K := ansAt_rows H
  refine ⟨(Reads.of_row K hc).imp fun _ h => ansAt_rows h, readsP_imp (readsP_row K.right hp) fun _ h => (ansAt_rows h).right, (Reads.of_row K.right.right hv).imp fun _ h => (ansAt_rows h).right.right, (Reads.of_row K.right.right.right hb).imp fun _ h => (ansAt_rows h).right.right.right⟩
theorem same_of {S T : St} (h : Md.Same S T) : Hid (true = true ↔ Md.Same S T) := Lib.hid ⟨fun _ => h, fun _ => rfl⟩
theorem drop2 {M A B Y : Asn} {w : World} (H : Sat (M * (A * (B * Y))) w) : Sat (M * Y) w := (H.of_eq (show _ = (A * B) * (M * Y) from by ac_rfl)).right
theorem drop4 {M A B C D Y : Asn} {w : World} (H : Sat (M * (A * (B * (C * (D * Y))))) w) : Sat (M * Y) w := (H.of_eq (show _ = (A * (B * (C * D))) * (M * Y) from by ac_rfl)).right
section
variable {F : Asn} {w : World} {R : Ending → World → Prop}
theorem samean_any {A : Md.An} {ca pa va ba ca' pa' va' ba' : Option Addr} {cc pc vc bc cc' pc' vc' bc' : Nat} (kc : A.changes.length ≤ 1000000) (kp : A.pairs.length ≤ 1000000) (kv : A.versions.length ≤ 1000000) (kb : A.branches.length ≤ 1000000) {G1 G2 : Asn}
    (r1 : ∀ w, Sat F w → Sat (AnsAt A ⟨.slice ca A.changes.length cc, .slice pa A.pairs.length pc, .slice va A.versions.length vc, .slice ba A.branches.length bc⟩ * G1) w)
    (r2 : ∀ w, Sat F w → Sat (AnsAt A ⟨.slice ca' A.changes.length cc', .slice pa' A.pairs.length pc', .slice va' A.versions.length vc', .slice ba' A.branches.length bc'⟩ * G2) w)
    (H : Sat F w) (hh : ∀ w', Sat F w' → Io w w' → R (.returned (.bool true)) w') :
    Calls Tryz.prog 22 #[.agg #[.int .i64 A.err, .int .i64 A.version, .bool A.yes, .int .i64 A.count, .slice ca A.changes.length cc, .slice pa A.pairs.length pc, .slice va A.versions.length vc, .slice ba A.branches.length bc], .agg #[.int .i64 A.err, .int .i64 A.version, .bool A.yes, .int .i64 A.count, .slice ca' A.changes.length cc', .slice pa' A.pairs.length pc', .slice va' A.versions.length vc', .slice ba' A.branches.length bc']] w R := by
  obtain ⟨a1, a2, a3, a4⟩ := ans_reads kc kp kv kb (r1 w H)
  obtain ⟨b1, b2, b3, b4⟩ := ans_reads kc kp kv kb (r2 w H)
  exact sameans_any (a1.imp r1) (readsP_imp a2 r1) (a3.imp r1) (a4.imp r1) (b1.imp r2) (readsP_imp b2 r2) (b3.imp r2) (b4.imp r2) H hh
theorem samelist_any {V : List Md.Ver} {B : List Md.Br} {ca pa va ba ca' pa' va' ba' : Option Addr} {cc pc vc bc cc' pc' vc' bc' : Nat} (kv : V.length ≤ 1000000) (kb : B.length ≤ 1000000) {G1 G2 : Asn}
    (r1 : ∀ w, Sat F w → Sat (AnsAt { versions := V, branches := B } ⟨.slice ca 0 cc, .slice pa 0 pc, .slice va V.length vc, .slice ba B.length bc⟩ * G1) w)
    (r2 : ∀ w, Sat F w → Sat (AnsAt { versions := V, branches := B } ⟨.slice ca' 0 cc', .slice pa' 0 pc', .slice va' V.length vc', .slice ba' B.length bc'⟩ * G2) w)
    (H : Sat F w) (hh : ∀ w', Sat F w' → Io w w' → R (.returned (.bool true)) w') :
    Calls Tryz.prog 22 #[.agg #[.int .i64 0, .int .i64 0, .bool false, .int .i64 0, .slice ca 0 cc, .slice pa 0 pc, .slice va V.length vc, .slice ba B.length bc], .agg #[.int .i64 0, .int .i64 0, .bool false, .int .i64 0, .slice ca' 0 cc', .slice pa' 0 pc', .slice va' V.length vc', .slice ba' B.length bc']] w R :=
  samean_any (A := { versions := V, branches := B }) (Nat.zero_le _) (Nat.zero_le _) kv kb r1 r2 H hh
theorem sameedges_any {E : List Pr} {ca pa va ba ca' pa' va' ba' : Option Addr} {cc pc vc bc cc' pc' vc' bc' : Nat} (kv : E.length ≤ 1000000) {G1 G2 : Asn}
    (r1 : ∀ w, Sat F w → Sat (AnsAt { pairs := E } ⟨.slice ca 0 cc, .slice pa E.length pc, .slice va 0 vc, .slice ba 0 bc⟩ * G1) w)
    (r2 : ∀ w, Sat F w → Sat (AnsAt { pairs := E } ⟨.slice ca' 0 cc', .slice pa' E.length pc', .slice va' 0 vc', .slice ba' 0 bc'⟩ * G2) w)
    (H : Sat F w) (hh : ∀ w', Sat F w' → Io w w' → R (.returned (.bool true)) w') :
    Calls Tryz.prog 22 #[.agg #[.int .i64 0, .int .i64 0, .bool false, .int .i64 0, .slice ca 0 cc, .slice pa E.length pc, .slice va 0 vc, .slice ba 0 bc], .agg #[.int .i64 0, .int .i64 0, .bool false, .int .i64 0, .slice ca' 0 cc', .slice pa' E.length pc', .slice va' 0 vc', .slice ba' 0 bc']] w R :=
  samean_any (A := { pairs := E }) (Nat.zero_le _) kv (Nat.zero_le _) (Nat.zero_le _) r1 r2 H hh
end
section
variable {F : Asn} {w : World} {R : Ending → World → Prop}
set_option maxRecDepth 100000 in
set_option maxHeartbeats 16000000 in
theorem branches_any {l m : List OpX} {vl vm : Value} (hl : ReadsO F vl l) (hm : ReadsO F vm m) (n : Nm) (hnm : n.size ≤ 9223372036854775807) (H : Sat F w) (hh : ∀ w', Sat F w' → Io w w' → R (.returned (.bool true)) w') : Calls Tryz.prog 7 #[vl, vm, .string n] w R := by
  have HH := Lib.hid hh
  clear hh
  obtain ⟨a, c, rfl, hlm⟩ := reads_len hl
  obtain ⟨a', c', rfl, hlm'⟩ := reads_len hm
  obtain ⟨d, hd⟩ : ∃ d, d = much l := ⟨_, rfl⟩
  obtain ⟨d', hd'⟩ : ∃ d, d = much m := ⟨_, rfl⟩
  have HD := Lib.hid hd
  have HD' := Lib.hid hd'
  have RL := Lib.hid hl
  have RM := Lib.hid hm
  clear hd hd'
  cases d with
  | true =>
    go_enter Tryz.func7, Tryz.ntmps7
    go_wp2_with (first
      | (go_at_call 10; with_reducible refine works20_any H ?_; intro w1 H1 I1)
      | (go_at_call 15; first
        | (with_reducible refine over_any RL.out HD H1 ?_; intro w2 H2 I2)
        | (with_reducible refine over_any RM.out HD' H2 ?_; intro w3 H3 I3))
      | (go_at_call 16; with_reducible refine newms_any (ms_none H3) ?_; intro h w4 H4 I4))
    exact HH.out _ H3 ((I1.trans I2).trans I3)
  | false =>
    cases d' with
    | true =>
      go_enter Tryz.func7, Tryz.ntmps7
      go_wp2_with (first
        | (go_at_call 10; with_reducible refine works20_any H ?_; intro w1 H1 I1)
        | (go_at_call 15; first
          | (with_reducible refine over_any RL.out HD H1 ?_; intro w2 H2 I2)
          | (with_reducible refine over_any RM.out HD' H2 ?_; intro w3 H3 I3))
        | (go_at_call 16; with_reducible refine newms_any (ms_none H3) ?_; intro h w4 H4 I4))
      exact HH.out _ H3 ((I1.trans I2).trans I3)
    | false =>
      by_cases hn : n.size ≤ 60
      · have hni : ¬ (60 : Int) < (n.size : Int) := by omega
        have hl120 := (much_not HD.out.symm).1
        have hm120 := (much_not HD'.out.symm).1
        have HN := Lib.hid (much_not HD.out.symm).2
        have HN' := Lib.hid (much_not HD'.out.symm).2
        have HV := Lib.hid (fun k hk => readsO_get hl k hk)
        have HV' := Lib.hid (fun k hk => readsO_get hm k hk)
        have HSZn : Hid (n.size ≤ 1000000) := Lib.hid (by omega)
        clear hl hm
        go_enter Tryz.func7, Tryz.ntmps7
        go_wp2_with (first
          | (go_at_call 10; with_reducible refine works20_any H ?_; intro w1 H1 I1)
          | (go_at_call 15; first
            | (with_reducible refine over_any RL.out HD H1 ?_; intro w2 H2 I2)
            | (with_reducible refine over_any RM.out HD' H2 ?_; intro w3 H3 I3))
          | (go_at_call 16; with_reducible refine newms_any (ms_none H3) ?_; intro h w4 H4 I4))
        have K3 : Sat (Ms [(h, Md.run Md.init ((opsOf l).take 0))] * F) w4 := H4
        have J3 := ((I1.trans I2).trans I3).trans I4
        clear H1 H2 H3 H4 I1 I2 I3 I4 H
        go_loopw [11] (fun x wr => ∃ k : Nat, k ≤ l.length ∧ x = .int .i64 (k : Int) ∧ Sat (Ms [(h, Md.run Md.init ((opsOf l).take k))] * F) wr ∧ Io w wr) (fun x _ => l.length - (intOf x).toNat)
        case atStart => exact ⟨0, by omega, rfl, K3, J3⟩
        case round =>
          obtain ⟨k, hk, rfl, Hk, Ik⟩ := hrel
          clear K3 J3
          by_cases hlt : k < l.length
          · have hlti : (k : Int) < (l.length : Int) := by omega
            have hk0 : (0 : Int) ≤ (k : Int) := by omega
            obtain ⟨b, off, rfl, kind, name, u, v, A, B, ka, kl, kc, torn, cut, text, hx, hc⟩ := HV.out k hlt
            have hsz : name.size ≤ 1000000 := by have := HN.out l[k] (List.getElem_mem hlt); rw [hx] at this; simp only at this; omega
            have HSZ := Lib.hid hsz
            have HM := Lib.hid (run_step Md.init l k hlt hx)
            have hI := Lib.hid (inv_ops l k hl120)
            obtain ⟨c0, c1, c2, c3, c4, c5, c6, c7, c8, c9⟩ := hc wr Hk.right
            clear hc hx hsz
            go_wp2_with (go_at_call 17; with_reducible refine do_ms HSZ.out (by omega) hI.out HM Hk ?_; intro c1a c1l c1c p1a p1l p1c v1a v1l v1c b1a b1l b1c w5 H5 I5)
            go_roundw
            case rel => exact ⟨k + 1, by omega, by go_num, H5.right, Ik.trans I5⟩
            case measure => simp [intOf]; omega
          · obtain rfl : k = l.length := by omega
            have hge : ¬ (l.length : Int) < (l.length : Int) := by omega
            rw [run_all] at Hk
            have hI : Md.Inv 120 (Md.run Md.init (opsOf l)) := by rw [← run_all]; exact inv_ops l _ hl120
            generalize Md.run Md.init (opsOf l) = T at *
            have HI := Lib.hid hI
            clear hI HV HN RL HD
            cases hxx : aget T.heads n with
            | none =>
              have HM1 := Lib.hid (Md.head_none hxx)
              go_wp2_with (go_at_call 17; with_reducible refine do_ms HSZn.out (by omega) HI.out HM1 Hk ?_; intro c7a c7l c7c p7a p7l p7c v7a v7l v7c b7a b7l b7c w7 H7 I7)
              exact HH.out _ (H7.right.right.alloc _) ((Ik.trans I7).alloc _)
            | some x =>
              have HM1 := Lib.hid (Md.head_some hxx)
              have HM2 := Lib.hid (Md.abort_some hxx)
              have HI0 := Lib.hid (Md.inv_abort HI.out n)
              have HX0 : Hid (aget (Md.abort T n).heads n = some x) := Lib.hid hxx
              clear hxx
              go_wp2_with (first
                | (go_at_call 17; first
                  | (with_reducible refine do_ms HSZn.out (by omega) HI.out HM1 Hk ?_; intro c7a c7l c7c p7a p7l p7c v7a v7l v7c b7a b7l b7c w7 H7 I7; have K7 : Sat (Ms [(h, T)] * F) (w7.alloc (.cells #[.int .i64 0, .int .i64 x, .bool false, .int .i64 0, .slice c7a c7l c7c, .slice p7a p7l p7c, .slice v7a v7l v7c, .slice b7a b7l b7c] 37)) := H7.right.alloc _)
                  | (with_reducible refine do_ms HSZn.out (by omega) HI.out HM2 K7 ?_; intro c8a c8l c8c p8a p8l p8c v8a v8l v8c b8a b8l b8c w8 H8 I8))
                | (go_at_call 18; with_reducible refine clonems_any H8.right ?_; intro g w9 H9 I9))
              have K9 : Sat (Ms [(h, Md.abort T n), (g, Md.abort T n)] * F) w9 := ms_swap H9
              have J9 := ((((Ik.trans I7).alloc (.cells #[.int .i64 0, .int .i64 x, .bool false, .int .i64 0, .slice c7a c7l c7c, .slice p7a p7l p7c, .slice v7a v7l v7c, .slice b7a b7l b7c] 37)).trans I8).trans I9)
              clear H7 K7 H8 H9 I7 I8 I9 Hk Ik HM1 HM2
              generalize hT0 : Md.abort T n = T0 at *
              have HT0 := Lib.hid hT0
              clear hT0
              go_loopw [14] (fun x wr => ∃ (k : Nat) (U : St), k ≤ m.length ∧ x = .int .i64 (k : Int) ∧ Hid (Md.But n T0 U ∧ Md.Inv (120 + k) U) ∧ Sat (Ms [(h, U), (g, T0)] * F) wr ∧ Io w wr) (fun x _ => m.length - (intOf x).toNat)
              case atStart => exact ⟨0, T0, by omega, rfl, Lib.hid ⟨Md.But.refl _ _, HI0.out⟩, K9, J9⟩
              case round =>
                obtain ⟨k, U, hk, rfl, hu, Hk, Ik⟩ := hrel
                clear K9 J9
                by_cases hlt : k < m.length
                · have hlti : (k : Int) < (m.length : Int) := by omega
                  have hk0 : (0 : Int) ≤ (k : Int) := by omega
                  obtain ⟨b, off, rfl, kind, name, u, v, A, B, ka, kl, kc, torn, cut, text, hx, hc⟩ := HV'.out k hlt
                  obtain ⟨c0, c1, c2, c3, c4, c5, c6, c7, c8, c9⟩ := hc wr Hk.right
                  have M2 := Hk.alloc (.cells #[.int .i64 kind, .string n, .int .i64 u, .int .i64 v, .int .i64 A, .int .i64 B, .slice ka kl kc, .int .i64 torn, .int .i64 cut, .string text] 41)
                  have J2 := Ik.alloc (.cells #[.int .i64 kind, .string n, .int .i64 u, .int .i64 v, .int .i64 A, .int .i64 B, .slice ka kl kc, .int .i64 torn, .int .i64 cut, .string text] 41)
                  have HI1 := Lib.hid hu.out.2
                  clear hc hx Hk Ik
                  by_cases hkk : kind = 1 ∨ kind = 2
                  · obtain ⟨T', A', hTA⟩ : ∃ T' A', Md.mdo U ⟨kind, n, u, v, A, B⟩ = (T', A') := ⟨_, _, rfl⟩
                    have HM := Lib.hid hTA
                    have HU : Hid (Md.But n T0 T' ∧ Md.Inv (120 + (k + 1)) T') := Lib.hid ⟨by have := hu.out.1.step ⟨kind, n, u, v, A, B⟩ rfl hkk; rw [hTA] at this; exact this, by have := Md.inv_mdo hu.out.2 ⟨kind, n, u, v, A, B⟩; rw [hTA] at this; exact this⟩
                    clear hTA hu
                    rcases hkk with hk1 | hk1
                    · have hb : (kind == 1) = true := by simp [hk1]
                      clear hk1
                      go_wp2_with (go_at_call 17; with_reducible refine do_ms HSZn.out (by omega) HI1.out HM M2 ?_; intro c2a c2l c2c p2a p2l p2c v2a v2l v2c b2a b2l b2c w5 H5 I5)
                      go_roundw
                      case rel => exact ⟨k + 1, T', by omega, by go_num, HU, H5.right, J2.trans I5⟩
                      case measure => simp [intOf]; omega
                    · have hb0 : ¬ kind = 1 := by omega
                      have hb : (kind == 2) = true := by simp [hk1]
                      clear hk1
                      go_wp2_with (go_at_call 17; with_reducible refine do_ms HSZn.out (by omega) HI1.out HM M2 ?_; intro c2a c2l c2c p2a p2l p2c v2a v2l v2c b2a b2l b2c w5 H5 I5)
                      go_roundw
                      case rel => exact ⟨k + 1, T', by omega, by go_num, HU, H5.right, J2.trans I5⟩
                      case measure => simp [intOf]; omega
                  · have hb1 : (kind == 1) = false := by simpa using fun h => hkk (.inl h)
                    have hb2 : (kind == 2) = false := by simpa using fun h => hkk (.inr h)
                    have HU : Hid (Md.But n T0 U ∧ Md.Inv (120 + (k + 1)) U) := Lib.hid ⟨hu.out.1, hu.out.2.mono (by omega)⟩
                    clear hkk
                    go_wp2_with fail
                    go_roundw
                    case rel => exact ⟨k + 1, U, by omega, by go_num, HU, M2, J2⟩
                    case measure => simp [intOf]; omega
                · obtain rfl : k = m.length := by omega
                  have hge : ¬ (m.length : Int) < (m.length : Int) := by omega
                  have HIU := Lib.hid hu.out.2
                  obtain ⟨V, hV⟩ : ∃ V, V = Md.vlist T0 := ⟨_, rfl⟩
                  obtain ⟨B, hB⟩ : ∃ B, B = Md.blist T0 := ⟨_, rfl⟩
                  have HMU : Hid (Md.mdo U ⟨13, ⟨#[]⟩, 0, 0, 0, 0⟩ = (U, { versions := V, branches := B })) := Lib.hid (by rw [hV, hB, ← hu.out.1.vlist, ← hu.out.1.blist]; exact Md.mdo_list U _ rfl)
                  have HMT : Hid (Md.mdo T0 ⟨13, ⟨#[]⟩, 0, 0, 0, 0⟩ = (T0, { versions := V, branches := B })) := Lib.hid (by rw [hV, hB]; exact Md.mdo_list T0 _ rfl)
                  have hlv : V.length ≤ 1000 := by rw [hV, Md.vlist_len]; have := HI0.out.nv; omega
                  have hlb : B.length ≤ 1000 := by rw [hB, Md.blist_len]; have := HI0.out.nh; omega
                  have HVE : Hid (∀ v, v ∈ V → ∃ E : List Pr, E.length ≤ 1000 ∧ Md.mdo U ⟨11, ⟨#[]⟩, 0, 0, v.id, 0⟩ = (U, { pairs := E }) ∧ Md.mdo T0 ⟨11, ⟨#[]⟩, 0, 0, v.id, 0⟩ = (T0, { pairs := E })) := Lib.hid (fun v hv => by
                    rw [hV] at hv
                    obtain ⟨x, hx, _⟩ := (Md.mem_vlist HI0.out v).1 hv
                    have := (HI0.out.goodV v.id x.1 x.2 hx).2
                    exact ⟨x.2, by omega, hu.out.1.edges hx⟩)
                  have HAB : Hid (Md.mdo U ⟨4, n, 0, 0, 0, 0⟩ = (Md.abort U n, {})) := Lib.hid (Md.abort_some (x := x) (by rw [hu.out.1.heads]; exact HX0.out))
                  have HSM : Hid (Md.Same (Md.abort U n) T0) := Lib.hid (by have := hu.out.1; rw [← HT0.out] at this ⊢; exact this.same)
                  have HIA := Lib.hid (Md.inv_abort HIU.out n)
                  have HIT := Lib.hid (HI0.out.mono (show 120 ≤ 120 + m.length by omega))
                  generalize Md.abort U n = U2 at *
                  clear hV hB hu HV' HN' HD' RM HI0 HT0 HX0 HI
                  generalize hmj : 120 + m.length = j at *
                  have hj : j ≤ 240 := by omega
                  clear hmj
                  go_wp2_with (first
                    | (go_at_call 17; first
                      | (with_reducible refine do_ms (by decide) (by omega) HIU.out HMU Hk ?_; intro c5a c5l c5c p5a p5l p5c v5a v5l v5c b5a b5l b5c w5 H5 I5; obtain ⟨e5a, e5b, e5d, e5e⟩ := ansAt_len H5; simp only [List.length_nil] at e5a e5b e5d e5e; subst e5a; subst e5b; subst e5d; subst e5e; have K5 : Sat (Ms [(g, T0), (h, U)] * (ansA w5.heap.size { versions := V, branches := B } ⟨.slice c5a 0 c5c, .slice p5a 0 p5c, .slice v5a V.length v5c, .slice b5a B.length b5c⟩ * (AnsAt { versions := V, branches := B } ⟨.slice c5a 0 c5c, .slice p5a 0 p5c, .slice v5a V.length v5c, .slice b5a B.length b5c⟩ * F))) (w5.alloc (.cells #[.int .i64 0, .int .i64 0, .bool false, .int .i64 0, .slice c5a 0 c5c, .slice p5a 0 p5c, .slice v5a V.length v5c, .slice b5a B.length b5c] 37)) := ms_swap (ans_new2 H5))
                      | (with_reducible refine do_ms (by decide) (by omega) HIT.out HMT K5 ?_; intro c6a c6l c6c p6a p6l p6c v6a v6l v6c b6a b6l b6c w6 H6 I6; obtain ⟨e6a, e6b, e6d, e6e⟩ := ansAt_len H6; simp only [List.length_nil] at e6a e6b e6d e6e; subst e6a; subst e6b; subst e6d; subst e6e; have K6 : Sat (Ms [(h, U), (g, T0)] * (ansA w6.heap.size { versions := V, branches := B } ⟨.slice c6a 0 c6c, .slice p6a 0 p6c, .slice v6a V.length v6c, .slice b6a B.length b6c⟩ * (AnsAt { versions := V, branches := B } ⟨.slice c6a 0 c6c, .slice p6a 0 p6c, .slice v6a V.length v6c, .slice b6a B.length b6c⟩ * (ansA w5.heap.size { versions := V, branches := B } ⟨.slice c5a 0 c5c, .slice p5a 0 p5c, .slice v5a V.length v5c, .slice b5a B.length b5c⟩ * (AnsAt { versions := V, branches := B } ⟨.slice c5a 0 c5c, .slice p5a 0 p5c, .slice v5a V.length v5c, .slice b5a B.length b5c⟩ * F))))) (w6.alloc (.cells #[.int .i64 0, .int .i64 0, .bool false, .int .i64 0, .slice c6a 0 c6c, .slice p6a 0 p6c, .slice v6a V.length v6c, .slice b6a B.length b6c] 37)) := ms_swap (ans_new2 H6); obtain ⟨j0, j1, j2, j3, j4, j5, j6, j7⟩ := ansA_reads K6.right.right.right; obtain ⟨l0, l1, l2, l3, l4, l5, l6, l7⟩ := ansA_reads K6.right))
                    | (go_at_call 22; with_reducible refine samelist_any (by omega) (by omega) (fun _ h => h.right.right.right.right) (fun _ h => h.right.right) K6 ?_; intro w7 H7 I7))
                  have K7 : Sat (Ms [(h, U), (g, T0)] * (ansA w5.heap.size { versions := V, branches := B } ⟨.slice c5a 0 c5c, .slice p5a 0 p5c, .slice v5a V.length v5c, .slice b5a B.length b5c⟩ * (AnsAt { versions := V, branches := B } ⟨.slice c5a 0 c5c, .slice p5a 0 p5c, .slice v5a V.length v5c, .slice b5a B.length b5c⟩ * F))) w7 := drop2 H7
                  have J7 := ((((Ik.trans I5).alloc (.cells #[.int .i64 0, .int .i64 0, .bool false, .int .i64 0, .slice c5a 0 c5c, .slice p5a 0 p5c, .slice v5a V.length v5c, .slice b5a B.length b5c] 37)).trans I6).alloc (.cells #[.int .i64 0, .int .i64 0, .bool false, .int .i64 0, .slice c6a 0 c6c, .slice p6a 0 p6c, .slice v6a V.length v6c, .slice b6a B.length b6c] 37)).trans I7
                  clear H5 K5 H6 K6 H7 I5 I6 I7 Hk Ik HMU HMT j0 j1 j2 j3 j4 j5 j6 j7 l0 l1 l2 l3 l4 l5 l6 l7
                  generalize w5.heap.size = q at *
                  have HYV : Hid (ReadsV (ansA q { versions := V, branches := B } ⟨.slice c5a 0 c5c, .slice p5a 0 p5c, .slice v5a V.length v5c, .slice b5a B.length b5c⟩ * (AnsAt { versions := V, branches := B } ⟨.slice c5a 0 c5c, .slice p5a 0 p5c, .slice v5a V.length v5c, .slice b5a B.length b5c⟩ * F)) (.slice v5a V.length v5c) V) := Lib.hid ((ans_reads (A := { versions := V, branches := B }) (Nat.zero_le _) (Nat.zero_le _) (by show V.length ≤ _; omega) (by show B.length ≤ _; omega) K7.right.right).2.2.1.imp fun _ h => h.right)
                  have HYr := Lib.hid (fun W (hW : Sat (ansA q { versions := V, branches := B } ⟨.slice c5a 0 c5c, .slice p5a 0 p5c, .slice v5a V.length v5c, .slice b5a B.length b5c⟩ * (AnsAt { versions := V, branches := B } ⟨.slice c5a 0 c5c, .slice p5a 0 p5c, .slice v5a V.length v5c, .slice b5a B.length b5c⟩ * F)) W) => (ansA_reads hW).2.2.2.2.2.2.1)
                  have HYF := Lib.hid (fun W (hW : Sat (ansA q { versions := V, branches := B } ⟨.slice c5a 0 c5c, .slice p5a 0 p5c, .slice v5a V.length v5c, .slice b5a B.length b5c⟩ * (AnsAt { versions := V, branches := B } ⟨.slice c5a 0 c5c, .slice p5a 0 p5c, .slice v5a V.length v5c, .slice b5a B.length b5c⟩ * F)) W) => hW.right.right)
                  generalize ansA q { versions := V, branches := B } ⟨.slice c5a 0 c5c, .slice p5a 0 p5c, .slice v5a V.length v5c, .slice b5a B.length b5c⟩ * (AnsAt { versions := V, branches := B } ⟨.slice c5a 0 c5c, .slice p5a 0 p5c, .slice v5a V.length v5c, .slice b5a B.length b5c⟩ * F) = Y at *
                  go_loopw [19] (fun x wr => ∃ k : Nat, k ≤ V.length ∧ x = .int .i64 (k : Int) ∧ Sat (Ms [(h, U), (g, T0)] * Y) wr ∧ Io w wr) (fun x _ => V.length - (intOf x).toNat)
                  case atStart => exact ⟨0, by omega, rfl, K7, J7⟩
                  case round =>
                    obtain ⟨k, hk, rfl, Hk, Ik⟩ := hrel
                    clear K7 J7
                    have y6 := HYr.out wr Hk.right
                    by_cases hlt : k < V.length
                    · have hlti : (k : Int) < (V.length : Int) := by omega
                      have hk0 : (0 : Int) ≤ (k : Int) := by omega
                      obtain ⟨vb, vo, i, p, r, e, hva, hx, hc⟩ := readsV_get2 HYV.out k hlt
                      subst hva
                      obtain ⟨E, hE, hM1, hM2⟩ := HVE.out V[k] (List.getElem_mem hlt)
                      rw [hx] at hM1 hM2
                      have HM1 := Lib.hid hM1
                      have HM2 := Lib.hid hM2
                      have HC := Lib.hid (fun W hW => (hc W hW).1)
                      have g0 := HC.out wr Hk.right
                      clear hc hx hM1 hM2
                      go_wp2_with (first
                        | (go_at_call 17; first
                          | (with_reducible refine do_ms (by decide) (by omega) HIU.out HM1 Hk ?_; intro c8a c8l c8c p8a p8l p8c v8a v8l v8c b8a b8l b8c w8 H8 I8; obtain ⟨e8a, e8b, e8d, e8e⟩ := ansAt_len H8; simp only [List.length_nil] at e8a e8b e8d e8e; subst e8a; subst e8b; subst e8d; subst e8e; have K8 : Sat (Ms [(g, T0), (h, U)] * (ansA w8.heap.size { pairs := E } ⟨.slice c8a 0 c8c, .slice p8a E.length p8c, .slice v8a 0 v8c, .slice b8a 0 b8c⟩ * (AnsAt { pairs := E } ⟨.slice c8a 0 c8c, .slice p8a E.length p8c, .slice v8a 0 v8c, .slice b8a 0 b8c⟩ * Y))) (w8.alloc (.cells #[.int .i64 0, .int .i64 0, .bool false, .int .i64 0, .slice c8a 0 c8c, .slice p8a E.length p8c, .slice v8a 0 v8c, .slice b8a 0 b8c] 37)) := ms_swap (ans_new2 H8); have y8 := HYr.out _ K8.right.right.right; have g8 := HC.out _ K8.right.right.right)
                          | (with_reducible refine do_ms (by decide) (by omega) HIT.out HM2 K8 ?_; intro c9a c9l c9c p9a p9l p9c v9a v9l v9c b9a b9l b9c w9 H9 I9; obtain ⟨e9a, e9b, e9d, e9e⟩ := ansAt_len H9; simp only [List.length_nil] at e9a e9b e9d e9e; subst e9a; subst e9b; subst e9d; subst e9e; have K9 : Sat (Ms [(h, U), (g, T0)] * (ansA w9.heap.size { pairs := E } ⟨.slice c9a 0 c9c, .slice p9a E.length p9c, .slice v9a 0 v9c, .slice b9a 0 b9c⟩ * (AnsAt { pairs := E } ⟨.slice c9a 0 c9c, .slice p9a E.length p9c, .slice v9a 0 v9c, .slice b9a 0 b9c⟩ * (ansA w8.heap.size { pairs := E } ⟨.slice c8a 0 c8c, .slice p8a E.length p8c, .slice v8a 0 v8c, .slice b8a 0 b8c⟩ * (AnsAt { pairs := E } ⟨.slice c8a 0 c8c, .slice p8a E.length p8c, .slice v8a 0 v8c, .slice b8a 0 b8c⟩ * Y))))) (w9.alloc (.cells #[.int .i64 0, .int .i64 0, .bool false, .int .i64 0, .slice c9a 0 c9c, .slice p9a E.length p9c, .slice v9a 0 v9c, .slice b9a 0 b9c] 37)) := ms_swap (ans_new2 H9); obtain ⟨j0, j1, j2, j3, j4, j5, j6, j7⟩ := ansA_reads K9.right.right.right; obtain ⟨l0, l1, l2, l3, l4, l5, l6, l7⟩ := ansA_reads K9.right))
                        | (go_at_call 22; with_reducible refine sameedges_any (by omega) (fun _ h => h.right.right.right.right) (fun _ h => h.right.right) K9 ?_; intro w10 H10 I10))
                      go_roundw
                      case rel => exact ⟨k + 1, by omega, by go_num, drop4 H10, ((((Ik.trans I8).alloc _).trans I9).alloc _).trans I10⟩
                      case measure => simp [intOf]; omega
                    · obtain rfl : k = V.length := by omega
                      have hge : ¬ (V.length : Int) < (V.length : Int) := by omega
                      go_wp2_with (first
                        | (go_at_call 17; with_reducible refine do_ms HSZn.out (by omega) HIU.out HAB Hk ?_; intro c11a c11l c11c p11a p11l p11c v11a v11l v11c b11a b11l b11c w11 H11 I11)
                        | (go_at_call 19; with_reducible refine samems_any (by omega) HIA.out HIT.out H11.right (same_of HSM.out) ?_; intro w12 H12 I12))
                      exact HH.out _ (HYF.out _ H12.right) ((Ik.trans I11).trans I12)
      · have hni : (60 : Int) < (n.size : Int) := by omega
        go_enter Tryz.func7, Tryz.ntmps7
        go_wp2_with (first
          | (go_at_call 10; with_reducible refine works20_any H ?_; intro w1 H1 I1)
          | (go_at_call 15; first
            | (with_reducible refine over_any RL.out HD H1 ?_; intro w2 H2 I2)
            | (with_reducible refine over_any RM.out HD' H2 ?_; intro w3 H3 I3))
          | (go_at_call 16; with_reducible refine newms_any (ms_none H3) ?_; intro h w4 H4 I4))
        exact HH.out _ H3 ((I1.trans I2).trans I3)
end
end Go.Proofs.YtabpgejjnphfcaaGreat
