/-
  ModelStays, by its walk. It proves no statement by itself.
-/
import Derived.Test.YtabpgejjnphfcaaGreatKWU
namespace Go.Proofs.YtabpgejjnphfcaaGreat
open Go.RowKit Go.Lib Go.MapKept
open Md (Nm St)
set_option linter.unusedSimpArgs false
set_option linter.unusedVariables false
set_option linter.unusedSectionVars false
theorem pairs_rd {E : List Pr} {X G : Asn} {w : World} {ca pa va ba : Option Addr} {cc pc vc bc : Nat} (H : Sat X w) (hE : E.length ≤ 1000000) (hX : ∀ W, Sat X W → Sat (AnsAt { pairs := E } ⟨.slice ca 0 cc, .slice pa E.length pc, .slice va 0 vc, .slice ba 0 bc⟩ * G) W) : Hid (ReadsP X (.slice pa E.length pc) E) :=
  Lib.hid (readsP_imp (ans_reads (A := { pairs := E }) (Nat.zero_le _) hE (Nat.zero_le _) (Nat.zero_le _) (hX w H)).2.1 hX)
theorem none_rd {X G : Asn} {w : World} {ca pa va ba : Option Addr} {cc pc vc bc : Nat} (H : Sat X w) (hX : ∀ W, Sat X W → Sat (AnsAt { err := 190 } ⟨.slice ca 0 cc, .slice pa 0 pc, .slice va 0 vc, .slice ba 0 bc⟩ * G) W) : Hid (ReadsP X (.slice pa 0 pc) []) :=
  Lib.hid (readsP_imp (ans_reads (A := { err := 190 }) (Nat.zero_le _) (Nat.zero_le _) (Nat.zero_le _) (Nat.zero_le _) (hX w H)).2.1 hX)
theorem Md.same_hid2 (T : St) : Hid (true = true ↔ Md.Same T T) := same_of (Md.Same.refl T)
theorem drop_g {x y : Mh × St} {A Z : Asn} {w : World} (H : Sat (Ms [x, y] * (A * Z)) w) : Sat (Ms [x] * Z) w := by
  obtain ⟨G, hG⟩ := ms_tail (ms_swap H)
  exact drop2 hG
/-- The rows that were kept are the versions' edges. -/
def PL (V : List Md.Ver) (T : St) (L : List (Sl3 × List Pr)) : Prop := ∀ (i : Nat) (hi : i < L.length) (hv : i < V.length), L[i].2.length ≤ 1000 ∧ ∃ p, aget T.vers V[i].id = some (p, L[i].2)
theorem PL.nil (V : List Md.Ver) (T : St) : PL V T [] := fun i hi _ => absurd hi (by simp)
theorem PL.snoc {V : List Md.Ver} {T : St} {L : List (Sl3 × List Pr)} (h : PL V T L) {s : Sl3} {E : List Pr} (hv : L.length < V.length) (hE : E.length ≤ 1000) {p : Int} (hx : aget T.vers V[L.length].id = some (p, E)) : PL V T (L ++ [(s, E)]) := by
  intro i hi hv'
  rw [List.length_append, List.length_singleton] at hi
  by_cases e : i < L.length
  · rw [List.getElem_append_left e]; exact h i e hv'
  · have e2 : i = L.length := by omega
    subst e2
    rw [List.getElem_append_right (Nat.le_refl _)]
    simp only [Nat.sub_self, List.getElem_singleton]
    exact ⟨hE, p, hx⟩
theorem keep_row {E : List Pr} {c v b : Value} {a : Option Addr} {n cc : Nat} {L : List (Sl3 × List Pr)} {A M D Y : Asn} {w : World} (H : Sat (A * (M * (D * (AnsAt { pairs := E } ⟨c, .slice a n cc, v, b⟩ * (Own L * Y))))) w) : Sat (A * (M * (Own (L ++ [((a, n, cc), E)]) * Y))) w := by
  have H1 : Sat (AnsAt { pairs := E } ⟨c, .slice a n cc, v, b⟩ * (D * (Own L * (A * (M * Y))))) w := H.of_eq (by ac_rfl)
  have H2 := (ansAt_rows H1).right
  have H3 : Sat (RowV v [] * (RowB b [] * (D * (RowP (.slice a n cc) E * (Own L * (A * (M * Y))))))) w := H2.of_eq (by show RowP (.slice a n cc) E * (RowV v [] * (RowB b [] * _)) = _; ac_rfl)
  exact (own_snoc H3.right.right.right).of_eq (by ac_rfl)
section
variable {F : Asn} {w : World} {R : Ending → World → Prop}
set_option maxRecDepth 100000 in
set_option maxHeartbeats 16000000 in
theorem stays_any {l m : List OpX} {vl vm : Value} (hl : ReadsO F vl l) (hm : ReadsO F vm m) (H : Sat F w) (hh : ∀ w', Sat F w' → Io w w' → R (.returned (.bool true)) w') : Calls Tryz.prog 4 #[vl, vm] w R := by
  have HH := Lib.hid hh
  clear hh
  obtain ⟨a, c, rfl, hlm⟩ := reads_len hl
  obtain ⟨a', c', rfl, hlm'⟩ := reads_len hm
  obtain ⟨d, hd⟩ : ∃ d, d = much l := ⟨_, rfl⟩
  obtain ⟨d', hd'⟩ : ∃ d, d = much m := ⟨_, rfl⟩
  have HD := Lib.hid hd
  have HD' := Lib.hid hd'
  have RL := Lib.hid hl
  have RM := Lib.hid hm
  clear hd hd'
  cases d with
  | true =>
    go_enter Tryz.func4, Tryz.ntmps4
    go_wp2_with (first
      | (go_at_call 10; with_reducible refine works20_any H ?_; intro w1 H1 I1)
      | (go_at_call 15; first
        | (with_reducible refine over_any RL.out HD H1 ?_; intro w2 H2 I2)
        | (with_reducible refine over_any RM.out HD' H2 ?_; intro w3 H3 I3))
      | (go_at_call 16; with_reducible refine newms_any (ms_none H3) ?_; intro h w4 H4 I4))
    exact HH.out _ H3 ((I1.trans I2).trans I3)
  | false =>
    cases d' with
    | true =>
      go_enter Tryz.func4, Tryz.ntmps4
      go_wp2_with (first
        | (go_at_call 10; with_reducible refine works20_any H ?_; intro w1 H1 I1)
        | (go_at_call 15; first
          | (with_reducible refine over_any RL.out HD H1 ?_; intro w2 H2 I2)
          | (with_reducible refine over_any RM.out HD' H2 ?_; intro w3 H3 I3))
        | (go_at_call 16; with_reducible refine newms_any (ms_none H3) ?_; intro h w4 H4 I4))
      exact HH.out _ H3 ((I1.trans I2).trans I3)
    | false =>
      have hl120 := (much_not HD.out.symm).1
      have hm120 := (much_not HD'.out.symm).1
      have HN := Lib.hid (much_not HD.out.symm).2
      have HN' := Lib.hid (much_not HD'.out.symm).2
      have HV := Lib.hid (fun k hk => readsO_get hl k hk)
      have HV' := Lib.hid (fun k hk => readsO_get hm k hk)
      clear hl hm
      go_enter Tryz.func4, Tryz.ntmps4
      go_wp2_with (first
        | (go_at_call 10; with_reducible refine works20_any H ?_; intro w1 H1 I1)
        | (go_at_call 15; first
          | (with_reducible refine over_any RL.out HD H1 ?_; intro w2 H2 I2)
          | (with_reducible refine over_any RM.out HD' H2 ?_; intro w3 H3 I3))
        | (go_at_call 16; with_reducible refine newms_any (ms_none H3) ?_; intro h w4 H4 I4))
      have K3 : Sat (Ms [(h, Md.run Md.init ((opsOf l).take 0))] * F) w4 := H4
      have J3 := ((I1.trans I2).trans I3).trans I4
      clear H1 H2 H3 H4 I1 I2 I3 I4 H
      go_loopw [9] (fun x wr => ∃ k : Nat, k ≤ l.length ∧ x = .int .i64 (k : Int) ∧ Sat (Ms [(h, Md.run Md.init ((opsOf l).take k))] * F) wr ∧ Io w wr) (fun x _ => l.length - (intOf x).toNat)
      case atStart => exact ⟨0, by omega, rfl, K3, J3⟩
      case round =>
        obtain ⟨k, hk, rfl, Hk, Ik⟩ := hrel
        clear K3 J3
        by_cases hlt : k < l.length
        · have hlti : (k : Int) < (l.length : Int) := by omega
          have hk0 : (0 : Int) ≤ (k : Int) := by omega
          obtain ⟨b, off, rfl, kind, name, u, v, A, B, ka, kl, kc, torn, cut, text, hx, hc⟩ := HV.out k hlt
          have hsz : name.size ≤ 1000000 := by have := HN.out l[k] (List.getElem_mem hlt); rw [hx] at this; simp only at this; omega
          have HSZ := Lib.hid hsz
          have HM := Lib.hid (run_step Md.init l k hlt hx)
          have hI := Lib.hid (inv_ops l k hl120)
          obtain ⟨c0, c1, c2, c3, c4, c5, c6, c7, c8, c9⟩ := hc wr Hk.right
          clear hc hx hsz
          go_wp2_with (go_at_call 17; (with_reducible refine do_ms HSZ.out (by omega) hI.out HM Hk ?_; intro c1a c1l c1c p1a p1l p1c v1a v1l v1c b1a b1l b1c w5 H5 I5))
          go_roundw
          case rel => exact ⟨k + 1, by omega, by go_num, H5.right, Ik.trans I5⟩
          case measure => simp [intOf]; omega
        · obtain rfl : k = l.length := by omega
          have hge : ¬ (l.length : Int) < (l.length : Int) := by omega
          rw [run_all] at Hk
          have hI : Md.Inv 120 (Md.run Md.init (opsOf l)) := by rw [← run_all]; exact inv_ops l _ hl120
          generalize Md.run Md.init (opsOf l) = T at *
          have HI := Lib.hid hI
          clear hI HV HN RL HD
          obtain ⟨V, hV⟩ : ∃ V, V = Md.vlist T := ⟨_, rfl⟩
          obtain ⟨B, hB⟩ : ∃ B, B = Md.blist T := ⟨_, rfl⟩
          have HMT : Hid (Md.mdo T ⟨13, ⟨#[]⟩, 0, 0, 0, 0⟩ = (T, { versions := V, branches := B })) := Lib.hid (by rw [hV, hB]; exact Md.mdo_list T _ rfl)
          have hlv : V.length ≤ 1000 := by rw [hV, Md.vlist_len]; have := HI.out.nv; omega
          have hlb : B.length ≤ 1000 := by rw [hB, Md.blist_len]; have := HI.out.nh; omega
          have HVN : Hid (∀ v, v ∈ V → v.id < T.next ∧ 1 ≤ v.id) := Lib.hid (fun v hv => by rw [hV] at hv; obtain ⟨x, hx, _⟩ := (Md.mem_vlist HI.out v).1 hv; have := HI.out.ids v.id (by rw [hx]; rfl); exact ⟨this.2, this.1⟩)
          have HVE : Hid (∀ v, v ∈ V → ∃ E : List Pr, E.length ≤ 120 ∧ v.edges = (E.length : Int) ∧ (∃ p, aget T.vers v.id = some (p, E)) ∧ Md.mdo T ⟨11, ⟨#[]⟩, 0, 0, v.id, 0⟩ = (T, { pairs := E })) := Lib.hid (fun v hv => by rw [hV] at hv; exact Md.vlist_edges HI.out hv)
          have hnx := HI.out.next
          clear hV hB
          go_wp2_with (go_at_call 17; (with_reducible refine do_ms (by decide) (by omega) HI.out HMT Hk ?_; intro c5a c5l c5c p5a p5l p5c v5a v5l v5c b5a b5l b5c w5 H5 I5; obtain ⟨e5a, e5b, e5d, e5e⟩ := ansAt_len H5; simp only [List.length_nil] at e5a e5b e5d e5e; subst e5a; subst e5b; subst e5d; subst e5e; have K5 : Sat (Ms [(h, T)] * (ansA w5.heap.size { versions := V, branches := B } ⟨.slice c5a 0 c5c, .slice p5a 0 p5c, .slice v5a V.length v5c, .slice b5a B.length b5c⟩ * (AnsAt { versions := V, branches := B } ⟨.slice c5a 0 c5c, .slice p5a 0 p5c, .slice v5a V.length v5c, .slice b5a B.length b5c⟩ * F))) (w5.alloc (.cells #[.int .i64 0, .int .i64 0, .bool false, .int .i64 0, .slice c5a 0 c5c, .slice p5a 0 p5c, .slice v5a V.length v5c, .slice b5a B.length b5c] 37)) := ans_new2 H5))
          have J5 := (Ik.trans I5).alloc (.cells #[.int .i64 0, .int .i64 0, .bool false, .int .i64 0, .slice c5a 0 c5c, .slice p5a 0 p5c, .slice v5a V.length v5c, .slice b5a B.length b5c] 37)
          have HYV : Hid (ReadsV (ansA w5.heap.size { versions := V, branches := B } ⟨.slice c5a 0 c5c, .slice p5a 0 p5c, .slice v5a V.length v5c, .slice b5a B.length b5c⟩ * (AnsAt { versions := V, branches := B } ⟨.slice c5a 0 c5c, .slice p5a 0 p5c, .slice v5a V.length v5c, .slice b5a B.length b5c⟩ * F)) (.slice v5a V.length v5c) V) := Lib.hid ((ans_reads (A := { versions := V, branches := B }) (Nat.zero_le _) (Nat.zero_le _) (by show V.length ≤ _; omega) (by show B.length ≤ _; omega) K5.right.right).2.2.1.imp fun _ h => h.right)
          have HYr := Lib.hid (fun W (hW : Sat (ansA w5.heap.size { versions := V, branches := B } ⟨.slice c5a 0 c5c, .slice p5a 0 p5c, .slice v5a V.length v5c, .slice b5a B.length b5c⟩ * (AnsAt { versions := V, branches := B } ⟨.slice c5a 0 c5c, .slice p5a 0 p5c, .slice v5a V.length v5c, .slice b5a B.length b5c⟩ * F)) W) => (ansA_reads hW).2.2.2.2.2.2.1)
          have HYF := Lib.hid (fun W (hW : Sat (ansA w5.heap.size { versions := V, branches := B } ⟨.slice c5a 0 c5c, .slice p5a 0 p5c, .slice v5a V.length v5c, .slice b5a B.length b5c⟩ * (AnsAt { versions := V, branches := B } ⟨.slice c5a 0 c5c, .slice p5a 0 p5c, .slice v5a V.length v5c, .slice b5a B.length b5c⟩ * F)) W) => hW.right.right)
          clear H5 I5 Hk Ik HMT
          generalize ansA w5.heap.size { versions := V, branches := B } ⟨.slice c5a 0 c5c, .slice p5a 0 p5c, .slice v5a V.length v5c, .slice b5a B.length b5c⟩ * (AnsAt { versions := V, branches := B } ⟨.slice c5a 0 c5c, .slice p5a 0 p5c, .slice v5a V.length v5c, .slice b5a B.length b5c⟩ * F) = Y at *
          generalize w5.alloc (.cells #[.int .i64 0, .int .i64 0, .bool false, .int .i64 0, .slice c5a 0 c5c, .slice p5a 0 p5c, .slice v5a V.length v5c, .slice b5a B.length b5c] 37) = w6 at *
          generalize w5.heap.size = q at *
          have K6 : Sat (RowSl (.slice none 0 0) (([] : List (Sl3 × List Pr)).map (·.1)) * (Ms [(h, T)] * (Own [] * Y))) w6 := rowOf_nil (K5.of_eq (by show _ = Ms [(h, T)] * (emp * Y); rw [star_emp]))
          clear K5
          go_loopw [11, 12, 13] (fun ev tv x wr => ∃ (k : Nat) (L : List (Sl3 × List Pr)) (top : Int), k ≤ V.length ∧ x = .int .i64 (k : Int) ∧ tv = .int .i64 top ∧ L.length = k ∧ Hid (PL V T L ∧ 0 ≤ top ∧ top < T.next) ∧ Sat (RowSl ev (L.map (·.1)) * (Ms [(h, T)] * (Own L * Y))) wr ∧ Io w wr) (fun _ _ x _ => V.length - (intOf x).toNat)
          case atStart => exact ⟨0, [], 0, by omega, rfl, rfl, rfl, Lib.hid ⟨PL.nil _ _, by omega, by omega⟩, K6, J5⟩
          case round =>
            obtain ⟨k, L, top, hk, rfl, rfl, hLk, hu, Hk, Ik⟩ := hrel
            clear K6 J5
            have y6 := HYr.out _ Hk.right.right.right
            by_cases hlt : k < V.length
            · have hlti : (k : Int) < (V.length : Int) := by omega
              have hk0 : (0 : Int) ≤ (k : Int) := by omega
              obtain ⟨vb, vo, i, p, r, e, hva, hx, hc⟩ := readsV_get2 HYV.out k hlt
              subst hva
              obtain ⟨E, hE, hee, ⟨pp, hpp⟩, hM⟩ := HVE.out V[k] (List.getElem_mem hlt)
              have hvn := HVN.out V[k] (List.getElem_mem hlt)
              have HPL : Hid (∀ s : Sl3, PL V T (L ++ [(s, E)])) := Lib.hid (fun s => hu.out.1.snoc (by rw [hLk]; exact hlt) (by omega) (p := pp) (by simp only [hLk]; exact hpp))
              rw [hx] at hee hM hvn
              simp only at hee hM hvn
              subst hee
              have HM := Lib.hid hM
              have HC := Lib.hid hc
              obtain ⟨g0, g1, g2, g3⟩ := hc _ Hk.right.right.right
              obtain ⟨htop0, htop1⟩ := hu.out.2
              have P : Sat (Ms [(h, T)] * (RowSl _ (L.map (·.1)) * (Own L * Y))) wr := Hk.of_eq (by ac_rfl)
              have hL1 : (L.map (·.1)).length ≤ 1000000 := by rw [List.length_map]; omega
              clear hc hx hM hpp hu
              go_wp2_with (go_at_call 17; (with_reducible refine do_ms (by decide) (by omega) HI.out HM P ?_; intro c8a c8l c8c p8a p8l p8c v8a v8l v8c b8a b8l b8c w8 H8 I8; obtain ⟨e8a, e8b, e8d, e8e⟩ := ansAt_len H8; simp only [List.length_nil] at e8a e8b e8d e8e; subst e8a; subst e8b; subst e8d; subst e8e; have K8 : Sat (Ms [(h, T)] * (ansA w8.heap.size { pairs := E } ⟨.slice c8a 0 c8c, .slice p8a E.length p8c, .slice v8a 0 v8c, .slice b8a 0 b8c⟩ * (AnsAt { pairs := E } ⟨.slice c8a 0 c8c, .slice p8a E.length p8c, .slice v8a 0 v8c, .slice b8a 0 b8c⟩ * (RowSl _ (L.map (·.1)) * (Own L * Y))))) (w8.alloc (.cells #[.int .i64 0, .int .i64 0, .bool false, .int .i64 0, .slice c8a 0 c8c, .slice p8a E.length p8c, .slice v8a 0 v8c, .slice b8a 0 b8c] 37)) := ans_new2 H8; have y8 := HYr.out _ K8.right.right.right.right.right; obtain ⟨d0, d1, d2, d3⟩ := HC.out _ K8.right.right.right.right.right; obtain ⟨m0, m1, m2, m3, m4, m5, m6, m7⟩ := ansA_reads K8.right))
              have IQ := (Ik.trans I8).alloc (.cells #[.int .i64 0, .int .i64 0, .bool false, .int .i64 0, .slice c8a 0 c8c, .slice p8a E.length p8c, .slice v8a 0 v8c, .slice b8a 0 b8c] 37)
              go_quiet (fail)
              have HQ : Sat (RowSl _ (L.map (·.1)) * (Ms [(h, T)] * (ansA w8.heap.size { pairs := E } ⟨.slice c8a 0 c8c, .slice p8a E.length p8c, .slice v8a 0 v8c, .slice b8a 0 b8c⟩ * (AnsAt { pairs := E } ⟨.slice c8a 0 c8c, .slice p8a E.length p8c, .slice v8a 0 v8c, .slice b8a 0 b8c⟩ * (Own L * Y))))) ((w8.alloc (.cells #[.int .i64 0, .int .i64 0, .bool false, .int .i64 0, .slice c8a 0 c8c, .slice p8a E.length p8c, .slice v8a 0 v8c, .slice b8a 0 b8c] 37)).drewN nq) := (K8.drewN nq).of_eq (by ac_rfl)
              obtain ⟨z0, z1, z2, z3, z4, z5, z6, z7⟩ := ansA_reads HQ.right.right
              have IQ2 := IQ.drewN nq
              clear K8 H8 I8 IQ P Hk Ik m0 m1 m2 m3 m4 m5 m6 m7 y8 y6 d0 d1 d2 d3 g0 g1 g2 g3
              go_wp2_with (at_builtin; refine wpList_append_rec Tryz.rowSl encSl_ok rfl (.tmp 80) (.tmp 83) rfl rfl HQ hL1 (p8a, E.length, p8c) rfl (by simp) ?_; intro v3 w3 H3 I3; have y3 := HYr.out _ H3.right.right.right.right.right; obtain ⟨d0, d1, d2, d3⟩ := HC.out _ H3.right.right.right.right.right)
              go_roundw
              case rel => exact ⟨k + 1, L ++ [((p8a, E.length, p8c), E)], max top i, by omega, by go_num, by simp, by simp [hLk], Lib.hid ⟨HPL.out _, by omega, by omega⟩, by rw [List.map_append]; exact keep_row H3, IQ2.trans I3⟩
              case measure => simp [intOf]; omega
            · obtain rfl : k = V.length := by omega
              have hge : ¬ (V.length : Int) < (V.length : Int) := by omega
              obtain ⟨ea, el, ec, rfl⟩ := row_slice Hk
              have hel := row_len Hk
              rw [List.length_map, hLk] at hel
              subst hel
              obtain ⟨Z, hZ⟩ : ∃ Z, Z = RowSl (.slice ea V.length ec) (L.map (·.1)) * (Own L * Y) := ⟨_, rfl⟩
              have KZ : Sat (Ms [(h, T)] * Z) wr := by rw [hZ]; exact Hk.of_eq (by ac_rfl)
              have HZY : Hid (∀ W, Sat Z W → Sat Y W) := Lib.hid (fun W hW => by rw [hZ] at hW; exact hW.right.right)
              have HZR : Hid (Reads encSl Z (.slice ea V.length ec) (L.map (·.1))) := Lib.hid (by have := KZ.right; rw [hZ] at this ⊢; exact Reads.of_row this (by rw [List.length_map, hLk]; omega))
              have HZO : Hid (∀ (k : Nat) (hk : k < L.length), k < V.length → ReadsP Z (.slice L[k].1.1 L[k].1.2.1 L[k].1.2.2) L[k].2) := Lib.hid (fun k hk hv => by
                have h1 : Sat (Own L * (RowSl (.slice ea V.length ec) (L.map (·.1)) * Y)) wr := by have := KZ.right; rw [hZ] at this; exact this.of_eq (by ac_rfl)
                have := own_reads L _ _ (fun x hx => by obtain ⟨j, hj, rfl⟩ := List.mem_iff_getElem.1 hx; have := (hu.out.1 j hj (by omega)).1; omega) h1 k hk
                exact readsP_imp this fun W hW => by rw [hZ] at hW; exact hW.of_eq (by ac_rfl))
              have HU0 : Hid (Md.Later T T ∧ Md.Inv (120 + 0) T ∧ top < T.next) := Lib.hid ⟨Md.Later.refl T, HI.out, hu.out.2.2⟩
              have HPLL := Lib.hid hu.out.1
              clear hZ hu Hk
              go_wp2_with fail
              go_loopw [12, 15] (fun tv x wr => ∃ (k : Nat) (U : St) (top : Int), k ≤ m.length ∧ x = .int .i64 (k : Int) ∧ tv = .int .i64 top ∧ Hid (Md.Later T U ∧ Md.Inv (120 + k) U ∧ top < U.next) ∧ Sat (Ms [(h, U)] * Z) wr ∧ Io w wr) (fun _ x _ => m.length - (intOf x).toNat)
              case atStart => exact ⟨0, T, top, by omega, rfl, rfl, HU0, KZ, Ik⟩
              case round =>
                clear HU0 KZ Ik y6
                obtain ⟨k, U, top, hk, rfl, rfl, hu, Hk, Ik⟩ := hrel
                by_cases hlt : k < m.length
                · have hlti : (k : Int) < (m.length : Int) := by omega
                  have hk0 : (0 : Int) ≤ (k : Int) := by omega
                  obtain ⟨b, off, rfl, kind, name, u, v, A, B', ka, kl, kc, torn, cut, text, hx, hc⟩ := HV'.out k hlt
                  have hsz : name.size ≤ 1000000 := by have := HN'.out m[k] (List.getElem_mem hlt); rw [hx] at this; simp only at this; omega
                  have HSZ := Lib.hid hsz
                  have HCC := Lib.hid (fun W hW => hc W (HYF.out _ (HZY.out W hW)))
                  obtain ⟨U', ⟨err, ver, yes, cnt, ch, pr, vs, bs⟩, hm⟩ : ∃ U' A', Md.mdo U ⟨kind, name, u, v, A, B'⟩ = (U', A') := ⟨_, _, rfl⟩
                  have hi' : Md.Inv (120 + (k + 1)) U' := by have := Md.inv_mdo hu.out.2.1 ⟨kind, name, u, v, A, B'⟩; rw [hm] at this; exact this
                  have hl' : Md.Later T U' := hu.out.1.trans (by have := Md.later_mdo U ⟨kind, name, u, v, A, B'⟩; rw [hm] at this; exact this)
                  have hnn : U.next ≤ U'.next := by have := (Md.later_mdo U ⟨kind, name, u, v, A, B'⟩).next; rw [hm] at this; exact this
                  have hco : kind = 3 → err = 0 → ver = U.next ∧ U'.next = U.next + 1 := fun h1 h2 => by have := Md.commit_ok (S := U) (o := ⟨kind, name, u, v, A, B'⟩) h1 (by rw [hm]; exact h2); rw [hm] at this; exact this
                  have hee : err ≠ 0 → U' = U := fun h1 => by have := Md.mdo_err (S := U) (o := ⟨kind, name, u, v, A, B'⟩) (by rw [hm]; exact h1); rw [hm] at this; exact this
                  have htn := hu.out.2.2
                  have HIU := Lib.hid hu.out.2.1
                  have HIU2 := Lib.hid (hu.out.2.1.mono (show 120 + k ≤ 120 + (k + 1) by omega))
                  have HM := Lib.hid hm
                  obtain ⟨c0, c1, c2, c3, c4, c5, c6, c7, c8, c9⟩ := HCC.out wr Hk.right
                  clear hc hx hsz hm hu
                  by_cases he : err = 0
                  · subst he
                    by_cases hk3 : kind = 3
                    · obtain ⟨hv1, hv2⟩ := hco hk3 rfl
                      have hver : ¬ ver ≤ top := by omega
                      have hkb : (kind == 3) = true := by simp [hk3]
                      have HU' : Hid (Md.Later T U' ∧ Md.Inv (120 + (k + 1)) U' ∧ ver < U'.next) := Lib.hid ⟨hl', hi', by omega⟩
                      clear hk3 hv1 hv2 hco hee hl' hi' hnn htn
                      go_wp2_with (first
                        | (go_at_call 18; with_reducible refine clonems_any Hk ?_; intro g w4 H4 I4; have P4 := ms_swap H4; obtain ⟨s0, s1, s2, s3, s4, s5, s6, s7, s8, s9⟩ := HCC.out w4 P4.right)
                        | (go_at_call 17; with_reducible refine do_ms HSZ.out (by omega) HIU.out HM P4 ?_; intro c7a c7l c7c p7a p7l p7c v7a v7l v7c b7a b7l b7c w5 H5 I5; have K5 : Sat (Ms [(h, U'), (g, U)] * (ansA w5.heap.size ⟨0, ver, yes, cnt, ch, pr, vs, bs⟩ ⟨.slice c7a c7l c7c, .slice p7a p7l p7c, .slice v7a v7l v7c, .slice b7a b7l b7c⟩ * Z)) (w5.alloc (.cells #[.int .i64 0, .int .i64 ver, .bool yes, .int .i64 cnt, .slice c7a c7l c7c, .slice p7a p7l p7c, .slice v7a v7l v7c, .slice b7a b7l b7c] 37)) := ans_new H5; have J5' := ((Ik.trans I4).trans I5).alloc (.cells #[.int .i64 0, .int .i64 ver, .bool yes, .int .i64 cnt, .slice c7a c7l c7c, .slice p7a p7l p7c, .slice v7a v7l v7c, .slice b7a b7l b7c] 37); obtain ⟨t0, t1, t2, t3, t4, t5, t6, t7, t8, t9⟩ := HCC.out _ K5.right.right)
                        | (go_at_call 19; with_reducible refine samems_any (by omega) HIU2.out HIU2.out K5 (Md.same_hid2 _) ?_; intro w6 H6 I6; obtain ⟨m0, m1, _⟩ := ansA_reads H6.right; obtain ⟨t60, t61, t62, t63, t64, t65, t66, t67, t68, t69⟩ := HCC.out _ H6.right.right))
                      go_roundw
                      case rel => exact ⟨k + 1, U', ver, by omega, by go_num, rfl, HU', drop_g K5, J5'⟩
                      case measure => simp [intOf]; omega
                    · have hkb : (kind == 3) = false := by simp [hk3]
                      have HU' : Hid (Md.Later T U' ∧ Md.Inv (120 + (k + 1)) U' ∧ top < U'.next) := Lib.hid ⟨hl', hi', by omega⟩
                      clear hk3 hco hee hl' hi' hnn htn
                      go_wp2_with (first
                        | (go_at_call 18; with_reducible refine clonems_any Hk ?_; intro g w4 H4 I4; have P4 := ms_swap H4; obtain ⟨s0, s1, s2, s3, s4, s5, s6, s7, s8, s9⟩ := HCC.out w4 P4.right)
                        | (go_at_call 17; with_reducible refine do_ms HSZ.out (by omega) HIU.out HM P4 ?_; intro c7a c7l c7c p7a p7l p7c v7a v7l v7c b7a b7l b7c w5 H5 I5; have K5 : Sat (Ms [(h, U'), (g, U)] * (ansA w5.heap.size ⟨0, ver, yes, cnt, ch, pr, vs, bs⟩ ⟨.slice c7a c7l c7c, .slice p7a p7l p7c, .slice v7a v7l v7c, .slice b7a b7l b7c⟩ * Z)) (w5.alloc (.cells #[.int .i64 0, .int .i64 ver, .bool yes, .int .i64 cnt, .slice c7a c7l c7c, .slice p7a p7l p7c, .slice v7a v7l v7c, .slice b7a b7l b7c] 37)) := ans_new H5; have J5' := ((Ik.trans I4).trans I5).alloc (.cells #[.int .i64 0, .int .i64 ver, .bool yes, .int .i64 cnt, .slice c7a c7l c7c, .slice p7a p7l p7c, .slice v7a v7l v7c, .slice b7a b7l b7c] 37); obtain ⟨t0, t1, t2, t3, t4, t5, t6, t7, t8, t9⟩ := HCC.out _ K5.right.right)
                        | (go_at_call 19; with_reducible refine samems_any (by omega) HIU2.out HIU2.out K5 (Md.same_hid2 _) ?_; intro w6 H6 I6; obtain ⟨m0, m1, _⟩ := ansA_reads H6.right; obtain ⟨t60, t61, t62, t63, t64, t65, t66, t67, t68, t69⟩ := HCC.out _ H6.right.right))
                      go_roundw
                      case rel => exact ⟨k + 1, U', top, by omega, by go_num, rfl, HU', drop_g K5, J5'⟩
                      case measure => simp [intOf]; omega
                  · obtain rfl := hee he
                    have hne : (err != 0) = true := by simp [he]
                    have hnf : (err == 0) = false := by simp [he]
                    have HU' : Hid (Md.Later T U' ∧ Md.Inv (120 + (k + 1)) U' ∧ top < U'.next) := Lib.hid ⟨hl', hi', htn⟩
                    clear hco hee hl' hi' hnn htn he
                    by_cases hk3 : kind = 3
                    · have hkb : (kind == 3) = true := by simp [hk3]
                      clear hk3
                      go_wp2_with (first
                        | (go_at_call 18; with_reducible refine clonems_any Hk ?_; intro g w4 H4 I4; have P4 := ms_swap H4; obtain ⟨s0, s1, s2, s3, s4, s5, s6, s7, s8, s9⟩ := HCC.out w4 P4.right)
                        | (go_at_call 17; with_reducible refine do_ms HSZ.out (by omega) HIU.out HM P4 ?_; intro c7a c7l c7c p7a p7l p7c v7a v7l v7c b7a b7l b7c w5 H5 I5; have K5 : Sat (Ms [(h, _), (g, _)] * (ansA w5.heap.size ⟨err, ver, yes, cnt, ch, pr, vs, bs⟩ ⟨.slice c7a c7l c7c, .slice p7a p7l p7c, .slice v7a v7l v7c, .slice b7a b7l b7c⟩ * Z)) (w5.alloc (.cells #[.int .i64 err, .int .i64 ver, .bool yes, .int .i64 cnt, .slice c7a c7l c7c, .slice p7a p7l p7c, .slice v7a v7l v7c, .slice b7a b7l b7c] 37)) := ans_new H5; have J5' := ((Ik.trans I4).trans I5).alloc (.cells #[.int .i64 err, .int .i64 ver, .bool yes, .int .i64 cnt, .slice c7a c7l c7c, .slice p7a p7l p7c, .slice v7a v7l v7c, .slice b7a b7l b7c] 37); obtain ⟨t0, t1, t2, t3, t4, t5, t6, t7, t8, t9⟩ := HCC.out _ K5.right.right)
                        | (go_at_call 19; with_reducible refine samems_any (by omega) HIU2.out HIU2.out K5 (Md.same_hid2 _) ?_; intro w6 H6 I6; obtain ⟨m0, m1, _⟩ := ansA_reads H6.right; obtain ⟨t60, t61, t62, t63, t64, t65, t66, t67, t68, t69⟩ := HCC.out _ H6.right.right))
                      go_roundw
                      case rel => exact ⟨k + 1, _, top, by omega, by go_num, rfl, HU', drop_g H6, J5'.trans I6⟩
                      case measure => simp [intOf]; omega
                    · have hkb : (kind == 3) = false := by simp [hk3]
                      clear hk3
                      go_wp2_with (first
                        | (go_at_call 18; with_reducible refine clonems_any Hk ?_; intro g w4 H4 I4; have P4 := ms_swap H4; obtain ⟨s0, s1, s2, s3, s4, s5, s6, s7, s8, s9⟩ := HCC.out w4 P4.right)
                        | (go_at_call 17; with_reducible refine do_ms HSZ.out (by omega) HIU.out HM P4 ?_; intro c7a c7l c7c p7a p7l p7c v7a v7l v7c b7a b7l b7c w5 H5 I5; have K5 : Sat (Ms [(h, _), (g, _)] * (ansA w5.heap.size ⟨err, ver, yes, cnt, ch, pr, vs, bs⟩ ⟨.slice c7a c7l c7c, .slice p7a p7l p7c, .slice v7a v7l v7c, .slice b7a b7l b7c⟩ * Z)) (w5.alloc (.cells #[.int .i64 err, .int .i64 ver, .bool yes, .int .i64 cnt, .slice c7a c7l c7c, .slice p7a p7l p7c, .slice v7a v7l v7c, .slice b7a b7l b7c] 37)) := ans_new H5; have J5' := ((Ik.trans I4).trans I5).alloc (.cells #[.int .i64 err, .int .i64 ver, .bool yes, .int .i64 cnt, .slice c7a c7l c7c, .slice p7a p7l p7c, .slice v7a v7l v7c, .slice b7a b7l b7c] 37); obtain ⟨t0, t1, t2, t3, t4, t5, t6, t7, t8, t9⟩ := HCC.out _ K5.right.right)
                        | (go_at_call 19; with_reducible refine samems_any (by omega) HIU2.out HIU2.out K5 (Md.same_hid2 _) ?_; intro w6 H6 I6; obtain ⟨m0, m1, _⟩ := ansA_reads H6.right; obtain ⟨t60, t61, t62, t63, t64, t65, t66, t67, t68, t69⟩ := HCC.out _ H6.right.right))
                      go_roundw
                      case rel => exact ⟨k + 1, _, top, by omega, by go_num, rfl, HU', drop_g H6, J5'.trans I6⟩
                      case measure => simp [intOf]; omega
                · obtain rfl : k = m.length := by omega
                  have hge : ¬ (m.length : Int) < (m.length : Int) := by omega
                  have HL := Lib.hid hu.out.1
                  have HIU := Lib.hid hu.out.2.1
                  have y6' := HYr.out _ (HZY.out _ Hk.right)
                  go_wp2_with fail
                  go_loopw [18] (fun x wr => ∃ k : Nat, k ≤ V.length ∧ x = .int .i64 (k : Int) ∧ Sat (Ms [(h, U)] * Z) wr ∧ Io w wr) (fun x _ => V.length - (intOf x).toNat)
                  case atStart => exact ⟨0, by omega, rfl, Hk, Ik⟩
                  case round =>
                    clear Hk Ik y6' hu
                    obtain ⟨k, hk, rfl, Hk, Ik⟩ := hrel
                    have y6 := HYr.out _ (HZY.out _ Hk.right)
                    by_cases hlt : k < V.length
                    · have hlti : (k : Int) < (V.length : Int) := by omega
                      have hk0 : (0 : Int) ≤ (k : Int) := by omega
                      obtain ⟨vb, vo, i, p, r, e, hva, hx, hc⟩ := readsV_get2 HYV.out k hlt
                      subst hva
                      obtain ⟨g0, g1, g2, g3⟩ := hc _ (HZY.out _ Hk.right)
                      obtain ⟨hE, pp, hpp⟩ := HPLL.out k (by omega) hlt
                      have hed := Md.later_edges HL.out (HVN.out V[k] (List.getElem_mem hlt)).1 hpp
                      have rz := HZO.out k (by omega) hlt
                      obtain ⟨sb, so, hsb, hsc⟩ := readsSl_get HZR.out k (by rw [List.length_map]; omega)
                      subst hsb
                      simp only [List.getElem_map] at hsc
                      obtain ⟨⟨⟨xa, xl, xc⟩, E⟩, hxL⟩ : ∃ x, L[k]'(by omega) = x := ⟨_, rfl⟩
                      rw [hxL] at hE hed rz
                      simp only [hxL] at hsc
                      rw [hx] at hed
                      simp only at hE hed rz
                      have HSC := Lib.hid hsc
                      clear hc hx hpp hxL hsc
                      rcases hed with hed | hed
                      · have HM := Lib.hid hed
                        clear hed
                        go_wp2_with (go_at_call 17; (with_reducible refine do_ms (by decide) (by omega) HIU.out HM Hk ?_; intro c8a c8l c8c p8a p8l p8c v8a v8l v8c b8a b8l b8c w8 H8 I8; obtain ⟨e8a, e8b, e8d, e8e⟩ := ansAt_len H8; simp only [List.length_nil] at e8a e8b e8d e8e; subst e8a; subst e8b; subst e8d; subst e8e; have K8 : Sat (Ms [(h, U)] * (ansA w8.heap.size { pairs := E } ⟨.slice c8a 0 c8c, .slice p8a E.length p8c, .slice v8a 0 v8c, .slice b8a 0 b8c⟩ * (AnsAt { pairs := E } ⟨.slice c8a 0 c8c, .slice p8a E.length p8c, .slice v8a 0 v8c, .slice b8a 0 b8c⟩ * Z))) (w8.alloc (.cells #[.int .i64 0, .int .i64 0, .bool false, .int .i64 0, .slice c8a 0 c8c, .slice p8a E.length p8c, .slice v8a 0 v8c, .slice b8a 0 b8c] 37)) := ans_new2 H8))
                        have J8 := (Ik.trans I8).alloc (.cells #[.int .i64 0, .int .i64 0, .bool false, .int .i64 0, .slice c8a 0 c8c, .slice p8a E.length p8c, .slice v8a 0 v8c, .slice b8a 0 b8c] 37)
                        have rp := pairs_rd K8 (by omega) (fun W hW => hW.right.right)
                        have rq : Hid (ReadsP (Ms [(h, U)] * (ansA w8.heap.size { pairs := E } ⟨.slice c8a 0 c8c, .slice p8a E.length p8c, .slice v8a 0 v8c, .slice b8a 0 b8c⟩ * (AnsAt { pairs := E } ⟨.slice c8a 0 c8c, .slice p8a E.length p8c, .slice v8a 0 v8c, .slice b8a 0 b8c⟩ * Z))) (.slice xa xl xc) E) := Lib.hid (readsP_imp rz fun W hW => hW.right.right.right)
                        have HP : Hid (∀ W, Sat (Ms [(h, U)] * (ansA w8.heap.size { pairs := E } ⟨.slice c8a 0 c8c, .slice p8a E.length p8c, .slice v8a 0 v8c, .slice b8a 0 b8c⟩ * (AnsAt { pairs := E } ⟨.slice c8a 0 c8c, .slice p8a E.length p8c, .slice v8a 0 v8c, .slice b8a 0 b8c⟩ * Z))) W → W.cell? ⟨w8.heap.size, 0, none⟩ = some (.int .i64 0) ∧ W.cell? ⟨w8.heap.size, 5, none⟩ = some (.slice p8a E.length p8c) ∧ W.cell? ⟨sb, so + k, none⟩ = some (.slice xa xl xc)) := Lib.hid (fun W hW => by
                          obtain ⟨m0, _, _, _, _, m5, _⟩ := ansA_reads hW.right
                          exact ⟨m0, m5, HSC.out W hW.right.right.right⟩)
                        have HXM : Hid (∀ W, Sat (Ms [(h, U)] * (ansA w8.heap.size { pairs := E } ⟨.slice c8a 0 c8c, .slice p8a E.length p8c, .slice v8a 0 v8c, .slice b8a 0 b8c⟩ * (AnsAt { pairs := E } ⟨.slice c8a 0 c8c, .slice p8a E.length p8c, .slice v8a 0 v8c, .slice b8a 0 b8c⟩ * Z))) W → Sat (Ms [(h, U)] * Z) W) := Lib.hid (fun W hW => drop2 hW)
                        clear H8 I8 Hk Ik
                        generalize Ms [(h, U)] * (ansA w8.heap.size { pairs := E } ⟨.slice c8a 0 c8c, .slice p8a E.length p8c, .slice v8a 0 v8c, .slice b8a 0 b8c⟩ * (AnsAt { pairs := E } ⟨.slice c8a 0 c8c, .slice p8a E.length p8c, .slice v8a 0 v8c, .slice b8a 0 b8c⟩ * Z)) = X at *
                        generalize w8.alloc (.cells #[.int .i64 0, .int .i64 0, .bool false, .int .i64 0, .slice c8a 0 c8c, .slice p8a E.length p8c, .slice v8a 0 v8c, .slice b8a 0 b8c] 37) = w9 at *
                        generalize w8.heap.size = q8 at *
                        obtain ⟨f0, f1, f2⟩ := HP.out _ K8
                        go_region_held3 (fun W => W.cell? ⟨q8, 0, none⟩ = some (.int .i64 0) ∧ W.cell? ⟨q8, 5, none⟩ = some (.slice p8a E.length p8c) ∧ W.cell? ⟨sb, so + k, none⟩ = some (.slice xa xl xc)) (first | exact ⟨f0, f1, f2⟩ | exact z6) ((go_at_call 20; with_reducible refine rsame_any rp.out rq.out (dec_self E) K8.drew ?_; intro w10 H10 I10; have z6 := HP.out w10 H10))
                        obtain ⟨n0, n1, n2⟩ := z6
                        go_wp2_with fail
                        go_roundw
                        case rel => exact ⟨k + 1, by omega, by go_num, HXM.out _ H10, J8.drew.trans I10⟩
                        case measure => simp [intOf]; omega
                      · have HM := Lib.hid hed
                        obtain ⟨d, hd⟩ : ∃ d, d = decide (([] : List Pr) = E) := ⟨_, rfl⟩
                        have HD0 := Lib.hid hd
                        clear hed hd
                        go_wp2_with (go_at_call 17; (with_reducible refine do_ms (by decide) (by omega) HIU.out HM Hk ?_; intro c8a c8l c8c p8a p8l p8c v8a v8l v8c b8a b8l b8c w8 H8 I8; obtain ⟨e8a, e8b, e8d, e8e⟩ := ansAt_len H8; simp only [List.length_nil] at e8a e8b e8d e8e; subst e8a; subst e8b; subst e8d; subst e8e; have K8 : Sat (Ms [(h, U)] * (ansA w8.heap.size { err := 190 } ⟨.slice c8a 0 c8c, .slice p8a 0 p8c, .slice v8a 0 v8c, .slice b8a 0 b8c⟩ * (AnsAt { err := 190 } ⟨.slice c8a 0 c8c, .slice p8a 0 p8c, .slice v8a 0 v8c, .slice b8a 0 b8c⟩ * Z))) (w8.alloc (.cells #[.int .i64 190, .int .i64 0, .bool false, .int .i64 0, .slice c8a 0 c8c, .slice p8a 0 p8c, .slice v8a 0 v8c, .slice b8a 0 b8c] 37)) := ans_new2 H8))
                        have J8 := (Ik.trans I8).alloc (.cells #[.int .i64 190, .int .i64 0, .bool false, .int .i64 0, .slice c8a 0 c8c, .slice p8a 0 p8c, .slice v8a 0 v8c, .slice b8a 0 b8c] 37)
                        have rp := none_rd K8 (fun W hW => hW.right.right)
                        have rq : Hid (ReadsP (Ms [(h, U)] * (ansA w8.heap.size { err := 190 } ⟨.slice c8a 0 c8c, .slice p8a 0 p8c, .slice v8a 0 v8c, .slice b8a 0 b8c⟩ * (AnsAt { err := 190 } ⟨.slice c8a 0 c8c, .slice p8a 0 p8c, .slice v8a 0 v8c, .slice b8a 0 b8c⟩ * Z))) (.slice xa xl xc) E) := Lib.hid (readsP_imp rz fun W hW => hW.right.right.right)
                        have HP : Hid (∀ W, Sat (Ms [(h, U)] * (ansA w8.heap.size { err := 190 } ⟨.slice c8a 0 c8c, .slice p8a 0 p8c, .slice v8a 0 v8c, .slice b8a 0 b8c⟩ * (AnsAt { err := 190 } ⟨.slice c8a 0 c8c, .slice p8a 0 p8c, .slice v8a 0 v8c, .slice b8a 0 b8c⟩ * Z))) W → W.cell? ⟨w8.heap.size, 0, none⟩ = some (.int .i64 190) ∧ W.cell? ⟨w8.heap.size, 5, none⟩ = some (.slice p8a 0 p8c) ∧ W.cell? ⟨sb, so + k, none⟩ = some (.slice xa xl xc)) := Lib.hid (fun W hW => by
                          obtain ⟨m0, _, _, _, _, m5, _⟩ := ansA_reads hW.right
                          exact ⟨m0, m5, HSC.out W hW.right.right.right⟩)
                        have HXM : Hid (∀ W, Sat (Ms [(h, U)] * (ansA w8.heap.size { err := 190 } ⟨.slice c8a 0 c8c, .slice p8a 0 p8c, .slice v8a 0 v8c, .slice b8a 0 b8c⟩ * (AnsAt { err := 190 } ⟨.slice c8a 0 c8c, .slice p8a 0 p8c, .slice v8a 0 v8c, .slice b8a 0 b8c⟩ * Z))) W → Sat (Ms [(h, U)] * Z) W) := Lib.hid (fun W hW => drop2 hW)
                        clear H8 I8 Hk Ik
                        generalize Ms [(h, U)] * (ansA w8.heap.size { err := 190 } ⟨.slice c8a 0 c8c, .slice p8a 0 p8c, .slice v8a 0 v8c, .slice b8a 0 b8c⟩ * (AnsAt { err := 190 } ⟨.slice c8a 0 c8c, .slice p8a 0 p8c, .slice v8a 0 v8c, .slice b8a 0 b8c⟩ * Z)) = X at *
                        generalize w8.alloc (.cells #[.int .i64 190, .int .i64 0, .bool false, .int .i64 0, .slice c8a 0 c8c, .slice p8a 0 p8c, .slice v8a 0 v8c, .slice b8a 0 b8c] 37) = w9 at *
                        generalize w8.heap.size = q8 at *
                        obtain ⟨f0, f1, f2⟩ := HP.out _ K8
                        go_region_held3 (fun W => W.cell? ⟨q8, 0, none⟩ = some (.int .i64 190) ∧ W.cell? ⟨q8, 5, none⟩ = some (.slice p8a 0 p8c) ∧ W.cell? ⟨sb, so + k, none⟩ = some (.slice xa xl xc)) (first | exact ⟨f0, f1, f2⟩ | exact z6) ((go_at_call 20; with_reducible refine rsame_any rp.out rq.out HD0 K8.drew ?_; intro w10 H10 I10; have z6 := HP.out w10 H10))
                        obtain ⟨n0, n1, n2⟩ := z6
                        go_wp2_with fail
                        go_roundw
                        case rel => exact ⟨k + 1, by omega, by go_num, HXM.out _ H10, J8.drew.trans I10⟩
                        case measure => simp [intOf]; omega
                    · obtain rfl : k = V.length := by omega
                      have hge : ¬ (V.length : Int) < (V.length : Int) := by omega
                      go_wp2_with fail
                      exact HH.out _ (HYF.out _ (HZY.out _ Hk.right)) Ik
end
end Go.Proofs.YtabpgejjnphfcaaGreat
