/-
  ModelDoes, by its walk. It proves no statement by itself.
-/
import Derived.Test.YtabpgejjnphfcaaGreatKD13
import Derived.Test.YtabpgejjnphfcaaGreatQ46
import Derived.Test.YtabpgejjnphfcaaGreatKWB
namespace Go.Proofs.YtabpgejjnphfcaaGreat
open Go.RowKit Go.Lib Go.MapKept
open Md (Nm St)
set_option linter.unusedSimpArgs false
set_option linter.unusedVariables false
set_option linter.unusedSectionVars false
namespace Md
theorem vget_len {k : Nat} {S : St} (h : Inv k S) (id : Int) : (vget S id).2.length ≤ k := by
  unfold vget
  cases e : aget S.vers id with
  | none => simp
  | some x => obtain ⟨q1, q2⟩ := x; exact (h.goodV _ q1 q2 e).2
def Small (A : An) : Prop := A.changes.length ≤ 1000000 ∧ A.pairs.length ≤ 1000000 ∧ A.versions.length ≤ 1000000 ∧ A.branches.length ≤ 1000000
theorem small_nil {A : An} (h : A.changes = [] ∧ A.pairs = [] ∧ A.versions = [] ∧ A.branches = []) : Small A := by
  obtain ⟨h1, h2, h3, h4⟩ := h
  unfold Small
  rw [h1, h2, h3, h4]
  simp
theorem ask_small {k : Nat} {S : St} (h : Inv k S) (hk : k ≤ 300) (o : Op) : Small (ask S o) := by
  have h1 := vget_len h o.a
  have h2 := vget_len h o.b
  have h3 := diff_len1 (vget S o.a).2 (vget S o.b).2
  unfold ask
  repeat' split
  all_goals first
    | exact small_nil ⟨rfl, rfl, rfl, rfl⟩
    | (refine ⟨?_, ?_, ?_, ?_⟩ <;> simp only [List.length_nil] <;> omega)
theorem mdo_small {k : Nat} {S : St} (h : Inv k S) (hk : k ≤ 300) (o : Op) : Small (mdo S o).2 := by
  by_cases hb : 1 ≤ o.kind ∧ o.kind ≤ 13
  · obtain ⟨b1, b2⟩ := hb
    by_cases k12 : o.kind = 1 ∨ o.kind = 2
    · exact small_nil (mdo_chg_nil S k12)
    · by_cases k3 : o.kind = 3
      · exact small_nil (mdo_com_nil S k3)
      · by_cases k5 : o.kind = 5
        · rw [mdo_5 k5]; exact small_nil (branch_nil S o)
        · by_cases k6 : o.kind = 6
          · rw [mdo_6 k6]; exact small_nil (drop_nil S o.a)
          · by_cases k7 : o.kind = 7
            · rw [mdo_7 k7]; exact small_nil ⟨rfl, rfl, rfl, rfl⟩
            · by_cases k8 : o.kind = 8 ∨ o.kind = 9 ∨ o.kind = 10 ∨ o.kind = 11
              · rw [Md.mdo_q S o k8]; exact ask_small h hk o
              · by_cases k13 : o.kind = 13
                · rw [Md.mdo_list S o k13]
                  have e1 := vlist_len S
                  have e2 := blist_len S
                  have e3 := h.nv
                  have e4 := h.nh
                  refine ⟨by simp, by simp, ?_, ?_⟩
                  · show (vlist S).length ≤ _; omega
                  · show (blist S).length ≤ _; omega
                · by_cases hn : (aget S.heads o.name).isSome = true
                  · by_cases k4 : o.kind = 4
                    · rw [mdo_abo k4 hn]; exact small_nil ⟨rfl, rfl, rfl, rfl⟩
                    · rw [mdo_hea (by omega) hn]; exact small_nil ⟨rfl, rfl, rfl, rfl⟩
                  · rw [mdo_none (by omega) hn]; exact small_nil ⟨rfl, rfl, rfl, rfl⟩
  · rw [mdo_e hb]; exact small_nil ⟨rfl, rfl, rfl, rfl⟩
end Md
section
variable {F : Asn} {w : World} {R : Ending → World → Prop} {x : Dx} {S : St} {p : Pl} {j : Nat}
theorem DocOk.lose (h : DocOk j S p x) : DocOk j (Md.lose S) p { x with D := x.D.map fun _ => false } := ⟨Md.inv_lose h.inv, h.sim.lose, ⟨h.ok.e, h.ok.q⟩, h.ne⟩
theorem dreads_shape {X : Asn} {A : Md.An} {s : Sl4} (h : DReads X A s) : ∃ ca cc pa pc va vc ba bc, s = ⟨.slice ca A.changes.length cc, .slice pa A.pairs.length pc, .slice va A.versions.length vc, .slice ba A.branches.length bc⟩ := by
  obtain ⟨h1, h2, h3, h4⟩ := h
  obtain ⟨ca, cc, e1, _⟩ := h1
  obtain ⟨pa, pc, e2, _⟩ := h2
  obtain ⟨va, vc, e3, _⟩ := h3
  obtain ⟨ba, bc, e4, _⟩ := h4
  obtain ⟨s1, s2, s3, s4⟩ := s
  simp only at e1 e2 e3 e4
  subst e1 e2 e3 e4
  exact ⟨_, _, _, _, _, _, _, _, rfl⟩
theorem samed_any {A : Md.An} {ca pa va ba ca' pa' va' ba' : Option Addr} {cc pc vc bc cc' pc' vc' bc' : Nat} (hs : Md.Small A) {G1 Y : Asn}
    (r1 : ∀ w, Sat F w → Sat (AnsAt A ⟨.slice ca A.changes.length cc, .slice pa A.pairs.length pc, .slice va A.versions.length vc, .slice ba A.branches.length bc⟩ * G1) w)
    (hr : DReads Y A ⟨.slice ca' A.changes.length cc', .slice pa' A.pairs.length pc', .slice va' A.versions.length vc', .slice ba' A.branches.length bc'⟩) (r2 : ∀ w, Sat F w → Sat Y w)
    (H : Sat F w) (hh : ∀ w', Sat F w' → Io w w' → R (.returned (.bool true)) w') :
    Calls Tryz.prog 22 #[.agg #[.int .i64 A.err, .int .i64 A.version, .bool A.yes, .int .i64 A.count, .slice ca A.changes.length cc, .slice pa A.pairs.length pc, .slice va A.versions.length vc, .slice ba A.branches.length bc], .agg #[.int .i64 A.err, .int .i64 A.version, .bool A.yes, .int .i64 A.count, .slice ca' A.changes.length cc', .slice pa' A.pairs.length pc', .slice va' A.versions.length vc', .slice ba' A.branches.length bc']] w R := by
  obtain ⟨kc, kp, kv, kb⟩ := hs
  obtain ⟨a1, a2, a3, a4⟩ := ans_reads kc kp kv kb (r1 w H)
  obtain ⟨b1, b2, b3, b4⟩ := hr.imp r2
  exact sameans_any (a1.imp r1) (readsP_imp a2 r1) (a3.imp r1) (a4.imp r1) b1 b2 b3 b4 H hh
/-- The places of what SameAnswers looks at. -/
theorem does_swap {A B C D E G : Asn} {w : World} (H : Sat (A * (B * (C * (D * (E * G))))) w) : Sat (D * (E * (A * (B * (C * G))))) w := H.of_eq (by ac_rfl)
set_option maxRecDepth 100000 in
set_option maxHeartbeats 16000000 in
theorem does_any {l : List OpX} {m : List Bool} {vl vm : Value} (hl : ReadsO F vl l) (hm : Reads encBo F vm m) (H : Sat F w) (hh : ∀ w', Sat F w' → Io w w' → R (.returned (.bool true)) w') : Calls Tryz.prog 9 #[vl, vm] w R := by
  have HH := Lib.hid hh
  clear hh
  obtain ⟨a, c, rfl, hlm⟩ := reads_len hl
  obtain ⟨a', c', rfl, hlm'⟩ := reads_len hm
  obtain ⟨d, hd⟩ : ∃ d, d = much l := ⟨_, rfl⟩
  have HD := Lib.hid hd
  have RL := Lib.hid hl
  have RM := Lib.hid hm
  clear hd
  cases d with
  | true =>
    go_enter Tryz.func9, Tryz.ntmps9
    go_wp2_with (first
      | (go_at_call 10; with_reducible refine works20_any H ?_; intro w1 H1 I1)
      | (go_at_call 15; with_reducible refine over_any RL.out HD H1 ?_; intro w2 H2 I2))
    exact HH.out _ H2 (I1.trans I2)
  | false =>
    by_cases hn : m.length ≤ 120
    · have hni : ¬ (120 : Int) < (m.length : Int) := by omega
      have hl120 := (much_not HD.out.symm).1
      have HN := Lib.hid (much_not HD.out.symm).2
      have HV := Lib.hid (fun k hk => readsO_get hl k hk)
      have HB := Lib.hid (fun k hk => Reads.get encBo_ok hm k hk)
      clear hl hm
      go_enter Tryz.func9, Tryz.ntmps9
      go_wp2_with (first
        | (go_at_call 10; with_reducible refine works20_any H ?_; intro w1 H1 I1)
        | (go_at_call 15; with_reducible refine over_any RL.out HD H1 ?_; intro w2 H2 I2)
        | (go_at_call 16; with_reducible refine newms_any (ms_none H2) ?_; intro h w3 H3 I3)
        | (go_at_call 23; with_reducible refine rnew_any H3 ?_; intro x0 w4 okk H4 I4))
      have K4 : Sat (Ms [(h, Md.init)] * (DAt x0 * (Pool [] * F))) w4 := H4.of_eq (by ac_rfl)
      have J4 := ((I1.trans I2).trans I3).trans I4
      have OK0 := Lib.hid okk
      obtain ⟨b0, hb0⟩ : ∃ b, x0.b = b := ⟨_, rfl⟩
      have HB0 := Lib.hid hb0
      simp only [Dx.ptr]
      rw [hb0]
      clear H1 H2 H3 H4 I1 I2 I3 I4 okk H hb0
      go_loopw [9] (fun z wr => ∃ (k : Nat) (T : St) (p : Pl) (x : Dx), k ≤ l.length ∧ z = .int .i64 (k : Int) ∧ Hid (DocOk k T p x ∧ x.b = b0) ∧ Sat (Ms [(h, T)] * (DAt x * (Pool p * F))) wr ∧ Io w wr) (fun z _ => l.length - (RowKit.intOf z).toNat)
      case atStart => exact ⟨0, Md.init, [], x0, by omega, rfl, Lib.hid ⟨OK0.out, HB0.out⟩, K4, J4⟩
      case round =>
        obtain ⟨k, T, p, x, hk, rfl, HOK, Hk, Ik⟩ := hrel
        clear K4 J4 OK0 HB0
        obtain ⟨ok, hxb⟩ := HOK.out
        have OK := Lib.hid ok
        subst hxb
        clear ok HOK
        by_cases hlt : k < l.length
        · have hlti : (k : Int) < (l.length : Int) := by omega
          have hk0 : (0 : Int) ≤ (k : Int) := by omega
          obtain ⟨b, off, rfl, kind, name, u, v, A0, B0, ka, kl, kc, torn, cut, text, hx, hc⟩ := HV.out k hlt
          have hsz : name.size ≤ 1000000 := by have := HN.out l[k] (List.getElem_mem hlt); rw [hx] at this; simp only at this; omega
          have HSZ := Lib.hid hsz
          have HC := Lib.hid hc
          clear hc hx hsz HV HN
          by_cases hkm : k < m.length
          · have hkmi : (k : Int) < (m.length : Int) := by omega
            obtain ⟨bm, om, rfl, hcm⟩ := HB.out k hkm
            have cm := hcm wr Hk.right.right.right 0 (.bool m[k]) (by omega) rfl
            simp only [Nat.mul_one, Nat.add_zero] at cm
            generalize m[k] = lo at *
            clear hcm HB
            cases lo with
            | true =>
              go_upto_region 15 with (first
                | (go_at_call 24; with_reducible refine losems_any Hk ?_; intro w3 H3 I3; have K3 : Sat (DAt x * (Ms [(h, Md.lose T)] * (Pool p * F))) w3 := H3.of_eq (by ac_rfl))
                | (go_at_call 25; with_reducible refine rlose_any (by have f1 := (OK.out.fit (by omega)).d; have f2 := (OK.out.fit (by omega)).b; omega) K3 ?_; intro w4 H4 I4))
              have OK1 := Lib.hid OK.out.lose
              have K4 : Sat (Ms [(h, Md.lose T)] * (DAt { x with D := x.D.map fun _ => false } * (Pool p * F))) w4 := H4.of_eq (by ac_rfl)
              have I4' := (Ik.trans I3).trans I4
              clear H3 H4 K3 Hk
              obtain ⟨T', A, hM⟩ : ∃ T' A, Md.mdo (Md.lose T) (⟨⟨kind, name, u, v, A0, B0⟩, ka, kl, kc, torn, cut, text⟩ : OpX).op = (T', A) := ⟨_, _, rfl⟩
              have HM := Lib.hid hM
              have HSM : Hid (Md.Small A) := Lib.hid (by have := Md.mdo_small OK1.out.inv (by omega) (⟨⟨kind, name, u, v, A0, B0⟩, ka, kl, kc, torn, cut, text⟩ : OpX).op; rw [hM] at this; exact this)
              clear hM
              obtain ⟨x0, x1, x2, x3, x4, x5, x6, x7, x8, x9⟩ := HC.out _ K4.right.right.right
              go_wp2_with (first
                | (go_at_call 17; with_reducible refine do_ms HSZ.out (by omega) OK1.out.inv HM K4 ?_; intro c1a c1l c1c p1a p1l p1c v1a v1l v1c b1a b1l b1c w5 H5 I5; obtain ⟨e1a, e1b, e1d, e1e⟩ := ansAt_len H5; subst e1a; subst e1b; subst e1d; subst e1e
                   have K5 : Sat (Ms [(h, T')] * (ansA w5.heap.size A ⟨.slice c1a A.changes.length c1c, .slice p1a A.pairs.length p1c, .slice v1a A.versions.length v1c, .slice b1a A.branches.length b1c⟩ * (AnsAt A ⟨.slice c1a A.changes.length c1c, .slice p1a A.pairs.length p1c, .slice v1a A.versions.length v1c, .slice b1a A.branches.length b1c⟩ * (DAt { x with D := x.D.map fun _ => false } * (Pool p * F))))) (w5.alloc (.cells #[.int .i64 A.err, .int .i64 A.version, .bool A.yes, .int .i64 A.count, .slice c1a A.changes.length c1c, .slice p1a A.pairs.length p1c, .slice v1a A.versions.length v1c, .slice b1a A.branches.length b1c] 37)) := ans_new2 H5
                   have I6 := (I4'.trans I5).alloc (.cells #[.int .i64 A.err, .int .i64 A.version, .bool A.yes, .int .i64 A.count, .slice c1a A.changes.length c1c, .slice p1a A.pairs.length p1c, .slice v1a A.versions.length v1c, .slice b1a A.branches.length b1c] 37)
                   have K6 := does_swap K5
                   obtain ⟨y0, y1, y2, y3, y4, y5, y6, y7, y8, y9⟩ := HC.out _ K5.right.right.right.right.right)
                | (go_at_call 26; with_reducible refine rdo_any (x := { x with D := x.D.map fun _ => false }) ⟨⟨kind, name, u, v, A0, B0⟩, ka, kl, kc, torn, cut, text⟩ HSZ.out (by omega) OK1.out HM K6 ?_; intro x' p' G s w7 hb' okk H7 hr I7; obtain ⟨c2a, c2c, p2a, p2c, v2a, v2c, b2a, b2c, e2⟩ := dreads_shape hr; subst e2
                   have HR := Lib.hid hr
                   have OKK := Lib.hid okk
                   have HBB := Lib.hid hb'
                   have H8 : Sat (ansA w7.heap.size A ⟨.slice c2a A.changes.length c2c, .slice p2a A.pairs.length p2c, .slice v2a A.versions.length v2c, .slice b2a A.branches.length b2c⟩ * _) (w7.alloc (.cells #[.int .i64 A.err, .int .i64 A.version, .bool A.yes, .int .i64 A.count, .slice c2a A.changes.length c2c, .slice p2a A.pairs.length p2c, .slice v2a A.versions.length v2c, .slice b2a A.branches.length b2c] 37)) := H7.new _
                   have I8 := (I6.trans I7).alloc (.cells #[.int .i64 A.err, .int .i64 A.version, .bool A.yes, .int .i64 A.count, .slice c2a A.changes.length c2c, .slice p2a A.pairs.length p2c, .slice v2a A.versions.length v2c, .slice b2a A.branches.length b2c] 37)
                   clear hr okk hb'
                   obtain ⟨d0, d1, d2, d3, d4, d5, d6, d7⟩ := ansA_reads H8
                   have H9 := H8.of_eq (show _ = ansA w5.heap.size A ⟨.slice c1a A.changes.length c1c, .slice p1a A.pairs.length p1c, .slice v1a A.versions.length v1c, .slice b1a A.branches.length b1c⟩ * ((G * (DAt x' * Pool p')) * (AnsAt A ⟨.slice c1a A.changes.length c1c, .slice p1a A.pairs.length p1c, .slice v1a A.versions.length v1c, .slice b1a A.branches.length b1c⟩ * (ansA w7.heap.size A ⟨.slice c2a A.changes.length c2c, .slice p2a A.pairs.length p2c, .slice v2a A.versions.length v2c, .slice b2a A.branches.length b2c⟩ * (Ms [(h, T')] * F)))) from by ac_rfl)
                   obtain ⟨g0, g1, g2, g3, g4, g5, g6, g7⟩ := ansA_reads H9)
                | (go_at_call 22; with_reducible refine samed_any HSM.out (fun W hW => hW.of_eq (show _ = AnsAt A ⟨.slice c1a A.changes.length c1c, .slice p1a A.pairs.length p1c, .slice v1a A.versions.length v1c, .slice b1a A.branches.length b1c⟩ * (ansA w5.heap.size A ⟨.slice c1a A.changes.length c1c, .slice p1a A.pairs.length p1c, .slice v1a A.versions.length v1c, .slice b1a A.branches.length b1c⟩ * ((G * (DAt x' * Pool p')) * (ansA w7.heap.size A ⟨.slice c2a A.changes.length c2c, .slice p2a A.pairs.length p2c, .slice v2a A.versions.length v2c, .slice b2a A.branches.length b2c⟩ * (Ms [(h, T')] * F)))) from by ac_rfl)) HR.out (fun W hW => hW.right.left) H9 ?_; intro w10 H10 I10))
              have K11 : Sat (Ms [(h, T')] * (DAt x' * (Pool p' * F))) w10 := (H10.of_eq (show _ = (ansA w5.heap.size A ⟨.slice c1a A.changes.length c1c, .slice p1a A.pairs.length p1c, .slice v1a A.versions.length v1c, .slice b1a A.branches.length b1c⟩ * (G * (AnsAt A ⟨.slice c1a A.changes.length c1c, .slice p1a A.pairs.length p1c, .slice v1a A.versions.length v1c, .slice b1a A.branches.length b1c⟩ * ansA w7.heap.size A ⟨.slice c2a A.changes.length c2c, .slice p2a A.pairs.length p2c, .slice v2a A.versions.length v2c, .slice b2a A.branches.length b2c⟩))) * (Ms [(h, T')] * (DAt x' * (Pool p' * F))) from by ac_rfl)).right
              go_roundw
              case rel => exact ⟨k + 1, T', p', x', by omega, by go_num, Lib.hid ⟨OKK.out, HBB.out⟩, K11, I8.trans I10⟩
              case measure => simp [RowKit.intOf]; omega
            | false =>
              obtain ⟨T', A, hM⟩ : ∃ T' A, Md.mdo T (⟨⟨kind, name, u, v, A0, B0⟩, ka, kl, kc, torn, cut, text⟩ : OpX).op = (T', A) := ⟨_, _, rfl⟩
              have HM := Lib.hid hM
              have HSM : Hid (Md.Small A) := Lib.hid (by have := Md.mdo_small OK.out.inv (by omega) (⟨⟨kind, name, u, v, A0, B0⟩, ka, kl, kc, torn, cut, text⟩ : OpX).op; rw [hM] at this; exact this)
              clear hM
              obtain ⟨x0, x1, x2, x3, x4, x5, x6, x7, x8, x9⟩ := HC.out _ Hk.right.right.right
              go_wp2_with (first
                | (go_at_call 17; with_reducible refine do_ms HSZ.out (by omega) OK.out.inv HM Hk ?_; intro c1a c1l c1c p1a p1l p1c v1a v1l v1c b1a b1l b1c w5 H5 I5; obtain ⟨e1a, e1b, e1d, e1e⟩ := ansAt_len H5; subst e1a; subst e1b; subst e1d; subst e1e
                   have K5 : Sat (Ms [(h, T')] * (ansA w5.heap.size A ⟨.slice c1a A.changes.length c1c, .slice p1a A.pairs.length p1c, .slice v1a A.versions.length v1c, .slice b1a A.branches.length b1c⟩ * (AnsAt A ⟨.slice c1a A.changes.length c1c, .slice p1a A.pairs.length p1c, .slice v1a A.versions.length v1c, .slice b1a A.branches.length b1c⟩ * (DAt x * (Pool p * F))))) (w5.alloc (.cells #[.int .i64 A.err, .int .i64 A.version, .bool A.yes, .int .i64 A.count, .slice c1a A.changes.length c1c, .slice p1a A.pairs.length p1c, .slice v1a A.versions.length v1c, .slice b1a A.branches.length b1c] 37)) := ans_new2 H5
                   have I6 := (Ik.trans I5).alloc (.cells #[.int .i64 A.err, .int .i64 A.version, .bool A.yes, .int .i64 A.count, .slice c1a A.changes.length c1c, .slice p1a A.pairs.length p1c, .slice v1a A.versions.length v1c, .slice b1a A.branches.length b1c] 37)
                   have K6 := does_swap K5
                   obtain ⟨y0, y1, y2, y3, y4, y5, y6, y7, y8, y9⟩ := HC.out _ K5.right.right.right.right.right)
                | (go_at_call 26; with_reducible refine rdo_any (x := x) ⟨⟨kind, name, u, v, A0, B0⟩, ka, kl, kc, torn, cut, text⟩ HSZ.out (by omega) OK.out HM K6 ?_; intro x' p' G s w7 hb' okk H7 hr I7; obtain ⟨c2a, c2c, p2a, p2c, v2a, v2c, b2a, b2c, e2⟩ := dreads_shape hr; subst e2
                   have HR := Lib.hid hr
                   have OKK := Lib.hid okk
                   have HBB := Lib.hid hb'
                   have H8 : Sat (ansA w7.heap.size A ⟨.slice c2a A.changes.length c2c, .slice p2a A.pairs.length p2c, .slice v2a A.versions.length v2c, .slice b2a A.branches.length b2c⟩ * _) (w7.alloc (.cells #[.int .i64 A.err, .int .i64 A.version, .bool A.yes, .int .i64 A.count, .slice c2a A.changes.length c2c, .slice p2a A.pairs.length p2c, .slice v2a A.versions.length v2c, .slice b2a A.branches.length b2c] 37)) := H7.new _
                   have I8 := (I6.trans I7).alloc (.cells #[.int .i64 A.err, .int .i64 A.version, .bool A.yes, .int .i64 A.count, .slice c2a A.changes.length c2c, .slice p2a A.pairs.length p2c, .slice v2a A.versions.length v2c, .slice b2a A.branches.length b2c] 37)
                   clear hr okk hb'
                   obtain ⟨d0, d1, d2, d3, d4, d5, d6, d7⟩ := ansA_reads H8
                   have H9 := H8.of_eq (show _ = ansA w5.heap.size A ⟨.slice c1a A.changes.length c1c, .slice p1a A.pairs.length p1c, .slice v1a A.versions.length v1c, .slice b1a A.branches.length b1c⟩ * ((G * (DAt x' * Pool p')) * (AnsAt A ⟨.slice c1a A.changes.length c1c, .slice p1a A.pairs.length p1c, .slice v1a A.versions.length v1c, .slice b1a A.branches.length b1c⟩ * (ansA w7.heap.size A ⟨.slice c2a A.changes.length c2c, .slice p2a A.pairs.length p2c, .slice v2a A.versions.length v2c, .slice b2a A.branches.length b2c⟩ * (Ms [(h, T')] * F)))) from by ac_rfl)
                   obtain ⟨g0, g1, g2, g3, g4, g5, g6, g7⟩ := ansA_reads H9)
                | (go_at_call 22; with_reducible refine samed_any HSM.out (fun W hW => hW.of_eq (show _ = AnsAt A ⟨.slice c1a A.changes.length c1c, .slice p1a A.pairs.length p1c, .slice v1a A.versions.length v1c, .slice b1a A.branches.length b1c⟩ * (ansA w5.heap.size A ⟨.slice c1a A.changes.length c1c, .slice p1a A.pairs.length p1c, .slice v1a A.versions.length v1c, .slice b1a A.branches.length b1c⟩ * ((G * (DAt x' * Pool p')) * (ansA w7.heap.size A ⟨.slice c2a A.changes.length c2c, .slice p2a A.pairs.length p2c, .slice v2a A.versions.length v2c, .slice b2a A.branches.length b2c⟩ * (Ms [(h, T')] * F)))) from by ac_rfl)) HR.out (fun W hW => hW.right.left) H9 ?_; intro w10 H10 I10))
              have K11 : Sat (Ms [(h, T')] * (DAt x' * (Pool p' * F))) w10 := (H10.of_eq (show _ = (ansA w5.heap.size A ⟨.slice c1a A.changes.length c1c, .slice p1a A.pairs.length p1c, .slice v1a A.versions.length v1c, .slice b1a A.branches.length b1c⟩ * (G * (AnsAt A ⟨.slice c1a A.changes.length c1c, .slice p1a A.pairs.length p1c, .slice v1a A.versions.length v1c, .slice b1a A.branches.length b1c⟩ * ansA w7.heap.size A ⟨.slice c2a A.changes.length c2c, .slice p2a A.pairs.length p2c, .slice v2a A.versions.length v2c, .slice b2a A.branches.length b2c⟩))) * (Ms [(h, T')] * (DAt x' * (Pool p' * F))) from by ac_rfl)).right
              go_roundw
              case rel => exact ⟨k + 1, T', p', x', by omega, by go_num, Lib.hid ⟨OKK.out, HBB.out⟩, K11, I8.trans I10⟩
              case measure => simp [RowKit.intOf]; omega
          · have hkmi : ¬ (k : Int) < (m.length : Int) := by omega
            clear HB
            obtain ⟨T', A, hM⟩ : ∃ T' A, Md.mdo T (⟨⟨kind, name, u, v, A0, B0⟩, ka, kl, kc, torn, cut, text⟩ : OpX).op = (T', A) := ⟨_, _, rfl⟩
            have HM := Lib.hid hM
            have HSM : Hid (Md.Small A) := Lib.hid (by have := Md.mdo_small OK.out.inv (by omega) (⟨⟨kind, name, u, v, A0, B0⟩, ka, kl, kc, torn, cut, text⟩ : OpX).op; rw [hM] at this; exact this)
            clear hM
            obtain ⟨x0, x1, x2, x3, x4, x5, x6, x7, x8, x9⟩ := HC.out _ Hk.right.right.right
            go_wp2_with (first
              | (go_at_call 17; with_reducible refine do_ms HSZ.out (by omega) OK.out.inv HM Hk ?_; intro c1a c1l c1c p1a p1l p1c v1a v1l v1c b1a b1l b1c w5 H5 I5; obtain ⟨e1a, e1b, e1d, e1e⟩ := ansAt_len H5; subst e1a; subst e1b; subst e1d; subst e1e
                 have K5 : Sat (Ms [(h, T')] * (ansA w5.heap.size A ⟨.slice c1a A.changes.length c1c, .slice p1a A.pairs.length p1c, .slice v1a A.versions.length v1c, .slice b1a A.branches.length b1c⟩ * (AnsAt A ⟨.slice c1a A.changes.length c1c, .slice p1a A.pairs.length p1c, .slice v1a A.versions.length v1c, .slice b1a A.branches.length b1c⟩ * (DAt x * (Pool p * F))))) (w5.alloc (.cells #[.int .i64 A.err, .int .i64 A.version, .bool A.yes, .int .i64 A.count, .slice c1a A.changes.length c1c, .slice p1a A.pairs.length p1c, .slice v1a A.versions.length v1c, .slice b1a A.branches.length b1c] 37)) := ans_new2 H5
                 have I6 := (Ik.trans I5).alloc (.cells #[.int .i64 A.err, .int .i64 A.version, .bool A.yes, .int .i64 A.count, .slice c1a A.changes.length c1c, .slice p1a A.pairs.length p1c, .slice v1a A.versions.length v1c, .slice b1a A.branches.length b1c] 37)
                 have K6 := does_swap K5
                 obtain ⟨y0, y1, y2, y3, y4, y5, y6, y7, y8, y9⟩ := HC.out _ K5.right.right.right.right.right)
              | (go_at_call 26; with_reducible refine rdo_any (x := x) ⟨⟨kind, name, u, v, A0, B0⟩, ka, kl, kc, torn, cut, text⟩ HSZ.out (by omega) OK.out HM K6 ?_; intro x' p' G s w7 hb' okk H7 hr I7; obtain ⟨c2a, c2c, p2a, p2c, v2a, v2c, b2a, b2c, e2⟩ := dreads_shape hr; subst e2
                 have HR := Lib.hid hr
                 have OKK := Lib.hid okk
                 have HBB := Lib.hid hb'
                 have H8 : Sat (ansA w7.heap.size A ⟨.slice c2a A.changes.length c2c, .slice p2a A.pairs.length p2c, .slice v2a A.versions.length v2c, .slice b2a A.branches.length b2c⟩ * _) (w7.alloc (.cells #[.int .i64 A.err, .int .i64 A.version, .bool A.yes, .int .i64 A.count, .slice c2a A.changes.length c2c, .slice p2a A.pairs.length p2c, .slice v2a A.versions.length v2c, .slice b2a A.branches.length b2c] 37)) := H7.new _
                 have I8 := (I6.trans I7).alloc (.cells #[.int .i64 A.err, .int .i64 A.version, .bool A.yes, .int .i64 A.count, .slice c2a A.changes.length c2c, .slice p2a A.pairs.length p2c, .slice v2a A.versions.length v2c, .slice b2a A.branches.length b2c] 37)
                 clear hr okk hb'
                 obtain ⟨d0, d1, d2, d3, d4, d5, d6, d7⟩ := ansA_reads H8
                 have H9 := H8.of_eq (show _ = ansA w5.heap.size A ⟨.slice c1a A.changes.length c1c, .slice p1a A.pairs.length p1c, .slice v1a A.versions.length v1c, .slice b1a A.branches.length b1c⟩ * ((G * (DAt x' * Pool p')) * (AnsAt A ⟨.slice c1a A.changes.length c1c, .slice p1a A.pairs.length p1c, .slice v1a A.versions.length v1c, .slice b1a A.branches.length b1c⟩ * (ansA w7.heap.size A ⟨.slice c2a A.changes.length c2c, .slice p2a A.pairs.length p2c, .slice v2a A.versions.length v2c, .slice b2a A.branches.length b2c⟩ * (Ms [(h, T')] * F)))) from by ac_rfl)
                 obtain ⟨g0, g1, g2, g3, g4, g5, g6, g7⟩ := ansA_reads H9)
              | (go_at_call 22; with_reducible refine samed_any HSM.out (fun W hW => hW.of_eq (show _ = AnsAt A ⟨.slice c1a A.changes.length c1c, .slice p1a A.pairs.length p1c, .slice v1a A.versions.length v1c, .slice b1a A.branches.length b1c⟩ * (ansA w5.heap.size A ⟨.slice c1a A.changes.length c1c, .slice p1a A.pairs.length p1c, .slice v1a A.versions.length v1c, .slice b1a A.branches.length b1c⟩ * ((G * (DAt x' * Pool p')) * (ansA w7.heap.size A ⟨.slice c2a A.changes.length c2c, .slice p2a A.pairs.length p2c, .slice v2a A.versions.length v2c, .slice b2a A.branches.length b2c⟩ * (Ms [(h, T')] * F)))) from by ac_rfl)) HR.out (fun W hW => hW.right.left) H9 ?_; intro w10 H10 I10))
            have K11 : Sat (Ms [(h, T')] * (DAt x' * (Pool p' * F))) w10 := (H10.of_eq (show _ = (ansA w5.heap.size A ⟨.slice c1a A.changes.length c1c, .slice p1a A.pairs.length p1c, .slice v1a A.versions.length v1c, .slice b1a A.branches.length b1c⟩ * (G * (AnsAt A ⟨.slice c1a A.changes.length c1c, .slice p1a A.pairs.length p1c, .slice v1a A.versions.length v1c, .slice b1a A.branches.length b1c⟩ * ansA w7.heap.size A ⟨.slice c2a A.changes.length c2c, .slice p2a A.pairs.length p2c, .slice v2a A.versions.length v2c, .slice b2a A.branches.length b2c⟩))) * (Ms [(h, T')] * (DAt x' * (Pool p' * F))) from by ac_rfl)).right
            go_roundw
            case rel => exact ⟨k + 1, T', p', x', by omega, by go_num, Lib.hid ⟨OKK.out, HBB.out⟩, K11, I8.trans I10⟩
            case measure => simp [RowKit.intOf]; omega
        · obtain rfl : k = l.length := by omega
          have hge : ¬ (l.length : Int) < (l.length : Int) := by omega
          clear HV HN HB
          obtain ⟨T', A, hM⟩ : ∃ T' A, Md.mdo T (⟨⟨13, ⟨#[]⟩, 0, 0, 0, 0⟩, none, 0, 0, 0, 0, ⟨#[]⟩⟩ : OpX).op = (T', A) := ⟨_, _, rfl⟩
          have HM := Lib.hid hM
          have HSM : Hid (Md.Small A) := Lib.hid (by have := Md.mdo_small OK.out.inv (by omega) (⟨⟨13, ⟨#[]⟩, 0, 0, 0, 0⟩, none, 0, 0, 0, 0, ⟨#[]⟩⟩ : OpX).op; rw [hM] at this; exact this)
          clear hM
          go_wp2_with (first
            | (go_at_call 17; with_reducible refine do_ms (by decide) (by omega) OK.out.inv HM Hk ?_; intro c1a c1l c1c p1a p1l p1c v1a v1l v1c b1a b1l b1c w5 H5 I5; obtain ⟨e1a, e1b, e1d, e1e⟩ := ansAt_len H5; subst e1a; subst e1b; subst e1d; subst e1e
               have K5 : Sat (Ms [(h, T')] * (ansA w5.heap.size A ⟨.slice c1a A.changes.length c1c, .slice p1a A.pairs.length p1c, .slice v1a A.versions.length v1c, .slice b1a A.branches.length b1c⟩ * (AnsAt A ⟨.slice c1a A.changes.length c1c, .slice p1a A.pairs.length p1c, .slice v1a A.versions.length v1c, .slice b1a A.branches.length b1c⟩ * (DAt x * (Pool p * F))))) (w5.alloc (.cells #[.int .i64 A.err, .int .i64 A.version, .bool A.yes, .int .i64 A.count, .slice c1a A.changes.length c1c, .slice p1a A.pairs.length p1c, .slice v1a A.versions.length v1c, .slice b1a A.branches.length b1c] 37)) := ans_new2 H5
               have I6 := (Ik.trans I5).alloc (.cells #[.int .i64 A.err, .int .i64 A.version, .bool A.yes, .int .i64 A.count, .slice c1a A.changes.length c1c, .slice p1a A.pairs.length p1c, .slice v1a A.versions.length v1c, .slice b1a A.branches.length b1c] 37)
               have K6 := does_swap K5)
            | (go_at_call 26; with_reducible refine rdo_any (x := x) ⟨⟨13, ⟨#[]⟩, 0, 0, 0, 0⟩, none, 0, 0, 0, 0, ⟨#[]⟩⟩ (by decide) (by omega) OK.out HM K6 ?_; intro x' p' G s w7 hb' okk H7 hr I7; obtain ⟨c2a, c2c, p2a, p2c, v2a, v2c, b2a, b2c, e2⟩ := dreads_shape hr; subst e2
               have HR := Lib.hid hr
               have OKK := Lib.hid okk
               have HBB := Lib.hid hb'
               have H8 : Sat (ansA w7.heap.size A ⟨.slice c2a A.changes.length c2c, .slice p2a A.pairs.length p2c, .slice v2a A.versions.length v2c, .slice b2a A.branches.length b2c⟩ * _) (w7.alloc (.cells #[.int .i64 A.err, .int .i64 A.version, .bool A.yes, .int .i64 A.count, .slice c2a A.changes.length c2c, .slice p2a A.pairs.length p2c, .slice v2a A.versions.length v2c, .slice b2a A.branches.length b2c] 37)) := H7.new _
               have I8 := (I6.trans I7).alloc (.cells #[.int .i64 A.err, .int .i64 A.version, .bool A.yes, .int .i64 A.count, .slice c2a A.changes.length c2c, .slice p2a A.pairs.length p2c, .slice v2a A.versions.length v2c, .slice b2a A.branches.length b2c] 37)
               clear hr okk hb'
               obtain ⟨d0, d1, d2, d3, d4, d5, d6, d7⟩ := ansA_reads H8
               have H9 := H8.of_eq (show _ = ansA w5.heap.size A ⟨.slice c1a A.changes.length c1c, .slice p1a A.pairs.length p1c, .slice v1a A.versions.length v1c, .slice b1a A.branches.length b1c⟩ * ((G * (DAt x' * Pool p')) * (AnsAt A ⟨.slice c1a A.changes.length c1c, .slice p1a A.pairs.length p1c, .slice v1a A.versions.length v1c, .slice b1a A.branches.length b1c⟩ * (ansA w7.heap.size A ⟨.slice c2a A.changes.length c2c, .slice p2a A.pairs.length p2c, .slice v2a A.versions.length v2c, .slice b2a A.branches.length b2c⟩ * (Ms [(h, T')] * F)))) from by ac_rfl)
               obtain ⟨g0, g1, g2, g3, g4, g5, g6, g7⟩ := ansA_reads H9)
            | (go_at_call 22; with_reducible refine samed_any HSM.out (fun W hW => hW.of_eq (show _ = AnsAt A ⟨.slice c1a A.changes.length c1c, .slice p1a A.pairs.length p1c, .slice v1a A.versions.length v1c, .slice b1a A.branches.length b1c⟩ * (ansA w5.heap.size A ⟨.slice c1a A.changes.length c1c, .slice p1a A.pairs.length p1c, .slice v1a A.versions.length v1c, .slice b1a A.branches.length b1c⟩ * ((G * (DAt x' * Pool p')) * (ansA w7.heap.size A ⟨.slice c2a A.changes.length c2c, .slice p2a A.pairs.length p2c, .slice v2a A.versions.length v2c, .slice b2a A.branches.length b2c⟩ * (Ms [(h, T')] * F)))) from by ac_rfl)) HR.out (fun W hW => hW.right.left) H9 ?_; intro w10 H10 I10))
          exact HH.out _ H10.right.right.right.right.right (I8.trans I10)
    · have hni : (120 : Int) < (m.length : Int) := by omega
      clear hn
      go_enter Tryz.func9, Tryz.ntmps9
      go_wp2_with (first
        | (go_at_call 10; with_reducible refine works20_any H ?_; intro w1 H1 I1)
        | (go_at_call 15; with_reducible refine over_any RL.out HD H1 ?_; intro w2 H2 I2))
      exact HH.out _ H2 (I1.trans I2)
end
end Go.Proofs.YtabpgejjnphfcaaGreat
