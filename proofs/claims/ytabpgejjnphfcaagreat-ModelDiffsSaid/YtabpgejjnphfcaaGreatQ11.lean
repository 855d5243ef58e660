/-
  Who is joined with whom: members, Joined, Size, by their walks. It proves no statement by itself.
-/
import Derived.Test.YtabpgejjnphfcaaGreatQ10
import Derived.Deep.RegionHeld3
import Derived.Deep.CutRange
import Derived.Deep.CutBlock
namespace Go.Proofs.YtabpgejjnphfcaaGreat
open Go.RowKit Go.Lib
set_option linter.unusedSimpArgs false
set_option linter.unusedVariables false

section
variable {κ ν : Type} [DecidableEq κ] {d : TypeDesc} {ek : κ → Value} {ev : ν → Value} {P : Program} {b : Nat} {l : List (κ × ν)} {F : Asn} {w : World} {T kt et : TypeId}
theorem step_update_sl (Kk : KeyEnc d ek) (hT : P.underlying T = some (.map kt et)) (hk : P.underlying kt = some d) {ops : Array Oper} {o : Oper} {a : Act} {K : Act → World → Prop} {Q : Exit → Act → World → Prop} {E : Prop} (hgd : o.guard = none)
    (m x v : Operand) (ho : o.op = .mapUpdate T m x v) (hm : a.eval m = .map (some b)) (k : κ) (hx : a.eval x = ek k) (u : ν) (hv : a.eval v = ev u) (H : Sat (MapAt ek ev b l * F) w)
    (h : ∀ w', Sat (MapAt ek ev b (aput l k u) * F) w' → Io w w' → K (a.put o.dst undef) w') :
    if Region.wanted o (yielded ops a.tmps) = true then Oper.wp P o a w K Q else E := by
  have hw : Region.wanted o (yielded ops a.tmps) = true := by simp [Region.wanted, hgd]
  rw [if_pos hw]
  obtain ⟨w', h1, h2, h3⟩ := run_update Kk hT hk H k u
  unfold Oper.wp
  simp [execOp, ho, hm, hx, hv, h1, Result.andThen]
  exact h w' h2 h3
theorem step_delete_sl (Kk : KeyEnc d ek) (hT : P.underlying T = some (.map kt et)) (hk : P.underlying kt = some d) {ops : Array Oper} {o : Oper} {a : Act} {K : Act → World → Prop} {Q : Exit → Act → World → Prop} {E : Prop} (hgd : o.guard = none)
    (m x : Operand) (kt' : TypeId) (ho : o.op = .call { callee := .builtin .delete, args := #[m, x], argTypes := #[T, kt'] }) (hm : a.eval m = .map (some b)) (k : κ) (hx : a.eval x = ek k) (H : Sat (MapAt ek ev b l * F) w)
    (h : ∀ w', Sat (MapAt ek ev b (adel l k) * F) w' → Io w w' → K (a.put o.dst (.tuple #[])) w') :
    if Region.wanted o (yielded ops a.tmps) = true then Oper.wp P o a w K Q else E := by
  have hw : Region.wanted o (yielded ops a.tmps) = true := by simp [Region.wanted, hgd]
  rw [if_pos hw]
  obtain ⟨w', h1, h2, h3⟩ := run_delete Kk hT hk H k o.type kt'
  unfold Oper.wp execOp
  simp only [ho, resolve, invoke, builtin, Sem.run_bind, Sem.run_pure, Result.andThen_ok, List.map_toArray, List.map_cons, List.map_nil, hm, hx, h1]
  exact h w' h2 h3
end
theorem nget_put (N : List (Int × Nbr)) (a b : Int) (s : Value) (x : Int) : nget (aput N a (s, nget N a ++ [b])) x = nget N x ++ (if a = x then [b] else []) := by
  by_cases e : a = x
  · subst e
    simp [nget, aget_put_same]
  · unfold nget
    rw [aget_put_other _ _ e, if_neg e, List.append_nil]
theorem Gr.adj_len (l : List (Int × Int)) (x : Int) : (Gr.adj l x).length ≤ 2 * l.length := by
  induction l with
  | nil => simp [Gr.adj]
  | cons p l ih =>
    have h1 : (Gr.adj1 x p).length ≤ 2 := by unfold Gr.adj1; split <;> split <;> simp
    have h2 : Gr.adj (p :: l) x = Gr.adj1 x p ++ Gr.adj l x := by simp [Gr.adj]
    rw [h2, List.length_append, List.length_cons]
    omega
theorem near_open {nb : Nat} {N : List (Int × Nbr)} {F : Asn} {w : World} (x : Int) (H : Sat (NearAt nb N * (Rows N * F)) w) :
    ∃ s G0, Sat (RowI s (nget N x) * (NearAt nb N * (G0 * F))) w ∧ (∀ K W, Sat (NearAt nb N * K) W → (Instr.lookup 99 (.map (some nb)) (.int .i64 x) false).run Tryz.prog W = .ok s W) ∧
      (∀ s' xs', Rows (aput N x (s', xs')) = RowI s' xs' * G0) := by
  cases hg : aget N x with
  | none =>
    have e : nget N x = [] := by unfold nget; rw [hg]
    rw [e]
    exact ⟨.slice none 0 0, Rows N, row_nilI H, fun K W HW => by rw [look_near HW x, hg]; rfl, fun s' xs' => rows_new hg⟩
  | some p =>
    obtain ⟨s, xs⟩ := p
    have e : nget N x = xs := by unfold nget; rw [hg]
    rw [e]
    obtain ⟨G, h1, h2⟩ := rows_split hg
    exact ⟨s, G, H.of_eq (by rw [h1]; ac_rfl), fun K W HW => by rw [look_near HW x, hg]; rfl, h2⟩
section
variable {F : Asn} {w : World} {R : Ending → World → Prop} {l : List Pr} {v : Value}
set_option maxRecDepth 100000 in
set_option maxHeartbeats 8000000 in
theorem members_any (hv : ReadsP F v l) (hl : l.length ≤ 10000) (n : Int) (H : Sat F w) (h : ∀ mb M w', Gr.Post l [] n M → Sat (MetAt mb M * F) w' → Io w w' → R (.returned (.map (some mb))) w') : Calls Tryz.prog 28 #[v, .int .i64 n] w R := by
  obtain ⟨a, c, rfl, hm⟩ := readsP_len hv
  have HV := Lib.hid (fun k hk => readsP_get hv k hk)
  have HH := Lib.hid h
  have H0 : Sat (NearAt w.heap.size [] * (Rows [] * F)) (w.alloc (.map #[] 0)) := by
    unfold Rows
    rw [star_emp]
    exact map_new H
  have I0 := (Io.refl w).alloc (.map #[] 0)
  have hmm := @run_makeMap Tryz.prog
  clear h hv
  go_enter Tryz.func28, Tryz.ntmps28
  go_wp2_with fail
  generalize w.heap.size = nb at *
  go_loopw [12] (fun x wr => ∃ (k : Nat) (N : List (Int × Nbr)), k ≤ l.length ∧ x = .int .i64 (k : Int) ∧ Hid (∀ x, nget N x = Gr.adj (l.take k) x) ∧ Sat (NearAt nb N * (Rows N * F)) wr ∧ Io w wr) (fun x _ => l.length - (intOf x).toNat)
  case atStart => exact ⟨0, [], by omega, rfl, Lib.hid (fun x => by simp [nget, aget, Gr.adj]), H0, I0⟩
  case round =>
    obtain ⟨k, N, hk, rfl, hs, Hk, Ik⟩ := hrel
    clear H0 I0
    by_cases hlt : k < l.length
    · have hlti : (k : Int) < (l.length : Int) := by omega
      have hk0 : (0 : Int) ≤ (k : Int) := by omega
      obtain ⟨b, off, x1, x2, rfl, hx, hc⟩ := HV.out k hlt
      obtain ⟨c0, c1⟩ := hc _ Hk.right.right
      have hbig : ∀ x, (nget N x).length ≤ 20000 := fun x => by
        rw [hs.out]
        have := Gr.adj_len (l.take k) x
        rw [List.length_take] at this
        omega
      have HB := Lib.hid hbig
      have HS : Hid (∀ x, (Gr.adj (l.take (k + 1)) x) = nget N x ++ Gr.adj1 x (x1, x2)) := Lib.hid (fun x => by rw [Gr.adj_take l x k hlt, hs.out, hx])
      have HP := Hk.new (.cells #[.int .i64 x1, .int .i64 x2] 49)
      have IP := Ik.alloc (.cells #[.int .i64 x1, .int .i64 x2] 49)
      clear hc hx hs hbig
      go_wp2_with fail
      generalize wr.heap.size = pb at *
      generalize wr.alloc (.cells #[.int .i64 x1, .int .i64 x2] 49) = wq at *
      obtain ⟨s1, G1, HA1, hlook1, hput1⟩ := near_open x1 (HP.of_eq (show _ = NearAt nb N * (Rows N * ((pts pb (.cells #[.int .i64 x1, .int .i64 x2] 49 (0, 0))) * F)) from by ac_rfl))
      have HC1 := Lib.hid (fun (A : Asn) W (hW : Sat (A * (NearAt nb N * (G1 * ((pts pb (.cells #[.int .i64 x1, .int .i64 x2] 49 (0, 0))) * F)))) W) => (⟨Sat.read hW.right.right.right.left.at 0, Sat.read hW.right.right.right.left.at 1⟩ : W.cell? ⟨pb, 0, none⟩ = some (.int .i64 x1) ∧ W.cell? ⟨pb, 1, none⟩ = some (.int .i64 x2)))
      have Z1a := HC1.out _ _ HA1.drew
      have Z1b := HC1.out _ _ (HA1.drew.alloc (.cells #[.int .i64 x2] 3))
      have L1a : (Instr.lookup 99 (.map (some nb)) (.int .i64 x1) false).run Tryz.prog wq.drew = .ok s1 wq.drew := hlook1 _ _ HA1.drew.right
      have L1b : (Instr.lookup 99 (.map (some nb)) (.int .i64 x1) false).run Tryz.prog (wq.alloc (.cells #[.int .i64 x2] 3)).drew = .ok s1 (wq.alloc (.cells #[.int .i64 x2] 3)).drew := hlook1 _ _ (HA1.alloc (.cells #[.int .i64 x2] 3)).drew.right
      obtain ⟨xs1, HX1⟩ : ∃ q, Hid (q = nget N x1 ++ [x2]) := ⟨_, Lib.hid rfl⟩
      have HL1 := Lib.hid hput1
      clear hlook1 hput1
      go_cut [12] from 12 to 38 (fun x wc => x = .int .i64 (k : Int) ∧ ∃ N1, Hid (∀ x, nget N1 x = nget N x ++ (if x1 = x then [x2] else [])) ∧ Sat (NearAt nb N1 * (Rows N1 * ((pts pb (.cells #[.int .i64 x1, .int .i64 x2] 49 (0, 0))) * F))) wc ∧ Io w wc)
      case first =>
        go_region_held3 (fun W => W.cell? ⟨pb, 0, none⟩ = some (.int .i64 x1) ∧ W.cell? ⟨pb, 1, none⟩ = some (.int .i64 x2)) (first | exact Z1a | exact Z1b | exact Z1c | exact Z1d) (first
          | (rw [show (wq.alloc (.cells #[.int .i64 x2] 3)).drew = wq.drew.alloc (.cells #[.int .i64 x2] 3) from rfl]; refine step_append_rec Tryz.rowI encI_ok rfl (.tmp 22) (.tmp 25) rfl rfl HA1.drew (by have := HB.out x1; omega) x2 rfl rfl ?_; intro v1 w1 H1 I1; have Z1c := HC1.out _ _ H1; rw [← HX1.out] at H1; obtain ⟨g1, k1, rfl⟩ := row_shape H1 (by rw [HX1.out]; simp); have H1b : Sat (RowI (.slice (some ⟨g1, 0, none⟩) xs1.length k1) xs1 * (NearAt nb N * (G1 * ((pts pb (.cells #[.int .i64 x1, .int .i64 x2] 49 (0, 0))) * F)))) w1 := H1; obtain ⟨z1, E1, K1, J1⟩ := run_update (P := Tryz.prog) (T := 99) intKey Tryz.underlying99 Tryz.underlying3 (H1b.of_eq (show _ = NearAt nb N * (RowI (.slice (some ⟨g1, 0, none⟩) xs1.length k1) xs1 * (G1 * ((pts pb (.cells #[.int .i64 x1, .int .i64 x2] 49 (0, 0))) * F))) from by ac_rfl)) x1 (.slice (some ⟨g1, 0, none⟩) xs1.length k1, xs1); have e1 : (Instr.mapUpdate 99 (.map (some nb)) (.int .i64 x1) (.slice (some ⟨g1, 0, none⟩) xs1.length k1)).run Tryz.prog w1 = .ok () z1 := E1; have K1b : Sat (NearAt nb (aput N x1 (.slice (some ⟨g1, 0, none⟩) xs1.length k1, xs1)) * (RowI (.slice (some ⟨g1, 0, none⟩) xs1.length k1) xs1 * (G1 * ((pts pb (.cells #[.int .i64 x1, .int .i64 x2] 49 (0, 0))) * F)))) z1 := K1; have Z1d : z1.cell? ⟨pb, 0, none⟩ = some (.int .i64 x1) ∧ z1.cell? ⟨pb, 1, none⟩ = some (.int .i64 x2) := ⟨Sat.read K1.right.right.right.left.at 0, Sat.read K1.right.right.right.left.at 1⟩))
        all_goals
          go_wp2_with fail
          go_meet
          refine ⟨rfl, aput N x1 ((.slice (some ⟨g1, 0, none⟩) xs1.length k1), xs1), ?_, ?_, (IP.drew.trans I1).trans J1⟩
          · exact Lib.hid (fun x => by rw [HX1.out]; exact nget_put N x1 x2 _ x)
          · rw [HL1.out]
            exact K1b.of_eq (by ac_rfl)
      case rest =>
      obtain ⟨rfl, N1, N1f, Q1, J01⟩ := hcut
      have HB1 : Hid ((nget N1 x2).length ≤ 30000) := Lib.hid (by
        rw [N1f.out, List.length_append]
        have := HB.out x2
        split <;> simp <;> omega)
      clear Z1a Z1b L1a L1b HC1 HA1 HP IP HX1 HL1
      go_wp2_with fail
      obtain ⟨s2, G2, HA2, hlook2, hput2⟩ := near_open x2 Q1
      have HC2 := Lib.hid (fun (A : Asn) W (hW : Sat (A * (NearAt nb N1 * (G2 * ((pts pb (.cells #[.int .i64 x1, .int .i64 x2] 49 (0, 0))) * F)))) W) => (⟨Sat.read hW.right.right.right.left.at 0, Sat.read hW.right.right.right.left.at 1⟩ : W.cell? ⟨pb, 0, none⟩ = some (.int .i64 x1) ∧ W.cell? ⟨pb, 1, none⟩ = some (.int .i64 x2)))
      have Z2a := HC2.out _ _ HA2.drew
      have Z2b := HC2.out _ _ (HA2.drew.alloc (.cells #[.int .i64 x1] 3))
      have L2a : (Instr.lookup 99 (.map (some nb)) (.int .i64 x2) false).run Tryz.prog wc.drew = .ok s2 wc.drew := hlook2 _ _ HA2.drew.right
      have L2b : (Instr.lookup 99 (.map (some nb)) (.int .i64 x2) false).run Tryz.prog (wc.alloc (.cells #[.int .i64 x1] 3)).drew = .ok s2 (wc.alloc (.cells #[.int .i64 x1] 3)).drew := hlook2 _ _ (HA2.alloc (.cells #[.int .i64 x1] 3)).drew.right
      obtain ⟨xs2, HX2⟩ : ∃ q, Hid (q = nget N1 x2 ++ [x1]) := ⟨_, Lib.hid rfl⟩
      have HL2 := Lib.hid hput2
      clear hlook2 hput2
      go_region_held3 (fun W => W.cell? ⟨pb, 0, none⟩ = some (.int .i64 x1) ∧ W.cell? ⟨pb, 1, none⟩ = some (.int .i64 x2)) (first | exact Z2a | exact Z2b | exact Z2c | exact Z2d) (first
        | (rw [show (wc.alloc (.cells #[.int .i64 x1] 3)).drew = wc.drew.alloc (.cells #[.int .i64 x1] 3) from rfl]; refine step_append_rec Tryz.rowI encI_ok rfl (.tmp 33) (.tmp 36) rfl rfl HA2.drew (by have := HB1.out; omega) x1 rfl rfl ?_; intro v2 w2 H2 I2; have Z2c := HC2.out _ _ H2; rw [← HX2.out] at H2; obtain ⟨g2, k2, rfl⟩ := row_shape H2 (by rw [HX2.out]; simp); have H2b : Sat (RowI (.slice (some ⟨g2, 0, none⟩) xs2.length k2) xs2 * (NearAt nb N1 * (G2 * ((pts pb (.cells #[.int .i64 x1, .int .i64 x2] 49 (0, 0))) * F)))) w2 := H2; obtain ⟨z2, E2, K2, J2⟩ := run_update (P := Tryz.prog) (T := 99) intKey Tryz.underlying99 Tryz.underlying3 (H2b.of_eq (show _ = NearAt nb N1 * (RowI (.slice (some ⟨g2, 0, none⟩) xs2.length k2) xs2 * (G2 * ((pts pb (.cells #[.int .i64 x1, .int .i64 x2] 49 (0, 0))) * F))) from by ac_rfl)) x2 (.slice (some ⟨g2, 0, none⟩) xs2.length k2, xs2); have e2 : (Instr.mapUpdate 99 (.map (some nb)) (.int .i64 x2) (.slice (some ⟨g2, 0, none⟩) xs2.length k2)).run Tryz.prog w2 = .ok () z2 := E2; have K2b : Sat (NearAt nb (aput N1 x2 (.slice (some ⟨g2, 0, none⟩) xs2.length k2, xs2)) * (RowI (.slice (some ⟨g2, 0, none⟩) xs2.length k2) xs2 * (G2 * ((pts pb (.cells #[.int .i64 x1, .int .i64 x2] 49 (0, 0))) * F)))) z2 := K2; have Z2d : z2.cell? ⟨pb, 0, none⟩ = some (.int .i64 x1) ∧ z2.cell? ⟨pb, 1, none⟩ = some (.int .i64 x2) := ⟨Sat.read K2.right.right.right.left.at 0, Sat.read K2.right.right.right.left.at 1⟩))
      all_goals
        have N2f : Hid (∀ x, nget (aput N1 x2 (.slice (some ⟨g2, 0, none⟩) xs2.length k2, xs2)) x = Gr.adj (l.take (k + 1)) x) := Lib.hid (fun x => by
          rw [HX2.out, nget_put N1 x2 x1 _ x, N1f.out, HS.out, List.append_assoc]
          rfl)
        have Q2 : Sat (NearAt nb (aput N1 x2 (.slice (some ⟨g2, 0, none⟩) xs2.length k2, xs2)) * (Rows (aput N1 x2 (.slice (some ⟨g2, 0, none⟩) xs2.length k2, xs2)) * F)) z2 := by
          rw [HL2.out]
          exact (K2b.of_eq (show _ = (pts pb (.cells #[.int .i64 x1, .int .i64 x2] 49 (0, 0))) * (NearAt nb (aput N1 x2 (.slice (some ⟨g2, 0, none⟩) xs2.length k2, xs2)) * ((RowI (.slice (some ⟨g2, 0, none⟩) xs2.length k2) xs2 * G2) * F)) from by ac_rfl)).right
        have J02 := (J01.drew.trans I2).trans J2
        go_wp2_with fail
        go_roundw
        case rel => exact ⟨k + 1, _, by omega, by go_num, N2f, Q2, J02⟩
        case measure => simp [intOf]; omega
    · obtain rfl : k = l.length := by omega
      have hge : ¬ (l.length : Int) < (l.length : Int) := by omega
      have hN : ∀ x, nget N x = Gr.adj l x := fun x => by rw [hs.out, List.take_length]
      have hNl : ∀ x, (Gr.adj l x).length ≤ 1000000 := fun x => by have := Gr.adj_len l x; omega
      have HW := Lib.hid (walk_any l (Gr.verts l n) (fun x y hy => Gr.verts_adj hy) nb wr.heap.size N hN hNl F (Gr.unmet (Gr.verts l n) []) [] n (wr.alloc (.map #[] 0)))
      have HM : Sat (MetAt wr.heap.size [] * (NearAt nb N * (Rows N * F))) (wr.alloc (.map #[] 0)) := map_new Hk
      have IM := Ik.alloc (.map #[] 0)
      clear HV hs hN hNl
      go_wp2_with (go_at_call 59; refine HW.out _ List.nodup_nil (.head _) (Nat.le_refl _) HM ?_; intro M2 w2 hp2 H2 I2; replace hp2 := Lib.hid hp2)
      exact HH.out _ _ _ hp2.out (H2.of_eq (show _ = NearAt nb N * (Rows N * (MetAt wr.heap.size M2 * F)) from by ac_rfl)).right.right (IM.trans I2)
set_option maxRecDepth 100000 in
theorem joined_any (hv : ReadsP F v l) (hl : l.length ≤ 10000) (n m : Int) {d : Bool} (hd : Hid (d = true ↔ Gr.Reach l n m)) (H : Sat F w) (h : ∀ w', Sat F w' → Io w w' → R (.returned (.bool d)) w') : Calls Tryz.prog 11 #[v, .int .i64 n, .int .i64 m] w R := by
  obtain ⟨a, c, rfl, hm⟩ := readsP_len hv
  have HH := Lib.hid h
  clear h
  go_enter Tryz.func11, Tryz.ntmps11
  go_wp2_with (go_at_call 28; refine members_any hv hl n H ?_; intro mb M w1 hp H1 I1; have e := look_met H1 m (d := d) (by have h1 := Gr.post_reach hp m; rw [← hd.out] at h1; cases d <;> simp_all); replace hp := Lib.hid hp)
  exact HH.out _ H1.right I1
set_option maxRecDepth 100000 in
theorem size_any (hv : ReadsP F v l) (hl : l.length ≤ 10000) (n : Int) {k : Int} (hk : Hid (k = ((Gr.members l n).length : Int))) (H : Sat F w) (h : ∀ w', Sat F w' → Io w w' → R (.returned (.int .i64 k)) w') : Calls Tryz.prog 13 #[v, .int .i64 n] w R := by
  obtain ⟨a, c, rfl, hm⟩ := readsP_len hv
  have HH := Lib.hid h
  clear h
  go_enter Tryz.func13, Tryz.ntmps13
  go_wp2_with (go_at_call 28; refine members_any hv hl n H ?_; intro mb M w1 hp H1 I1; have e := run_len_map (P := Tryz.prog) Tryz.underlying64 H1 3; have hlen : ((M.map fun x => (x, true)).length : Int) = k := (by rw [hk.out, List.length_map, Gr.same_len hp.2.2.2.2 (Gr.members_nodup l n) fun x => by rw [Gr.post_reach hp, Gr.mem_members]]); rw [hlen] at e; clear hp)
  exact HH.out _ H1.right I1
end
end Go.Proofs.YtabpgejjnphfcaaGreat
